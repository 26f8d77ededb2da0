/- The walks, written by a program of ours (wip/gx/gx.py, syngen.py). -/
import Derived.Test.YtinilkomfggjiaaRows
import Derived.Test.YtinilkomfggjiaaGs
import Derived.Test.YtinilkomfggjiaaSynPlain
import Derived.Test.YtinilkomfggjiaaLexWalks2
import Derived.Test.YtinilkomfggjiaaSynWalks4
set_option linter.unusedVariables false
set_option linter.unusedSimpArgs false
namespace Go.Proofs.Ytinilkomfggjiaa
open Go.RowKit Go.Lex Go.Syn
attribute [local irreducible] Go.wpOps Go.Code.wp Go.wpOp Go.wpAnyH Go.Calls
namespace Doc
set_option maxHeartbeats 1000000 in
set_option maxRecDepth 10000 in
theorem square_c (k : Nat) (b : Nat) (S : ByteArray) (q : Rs) (at_ : Nat) (w : World) (K : Ending → World → Prop) (ih : ∀ j, j ≤ k → Spec j) (hb : Gx.Has w b (rdO S q)) (hok : Ok S q) (hmu : 16 * M S q + 13 ≤ k + 1) (hK : ∀ w' t A c q', run S (k + 1) (.square at_) q = (t, q') → Gx.G w w' (some b) → Gx.Has w' b (rdO S q') → KV (In w.heap.size w'.heap.size []) w' t.ks A c → K (.returned (.agg #[Z.n t.k, Z.n t.a, .string t.nm, .int .i64 t.n, .slice A t.ks.length c])) w') :
    Calls Try.prog 81 #[Z.P b 0, Z.n at_] w K := by
  refine Gx.enter 45 Try.func81 rfl rfl (Nat.le_of_ble_eq_true rfl) ?_
  have tbb := hb.lt
  refine Z.r [0] ?_
  refine Z.N (.cells #[.int .i64 0, .int .i64 0, .string Z.E, .int .i64 0, .slice none 0 0] 24) (fun k1 w1 l1 x1 b1 zw1 tb1 => ?_)
  refine Z.e (Z.r [0, 1, 2, 3] ?_)
  refine Z.p [0] [1, 2, 3] [(9, Z.n at_)] ?_
  refine Z.k (fun R hR => Node_c (15 : Int) ((at_ : Nat) : Int) none 0 0 _ R (fun w2 x2 => hR _ _ ?_))
  have zw2 := x2.size
  refine Z.N (.cells #[.int .i64 0, .int .i64 0, .string Z.E, .int .i64 0, .slice none 0 0] 24) (fun k2 w3 l2 x3 b2 zw3 tb2 => ?_)
  refine Z.Sa #[.int .i64 15, Z.n at_, .string Z.E, .int .i64 0, .slice none 0 0] b2 (fun w4 u1 b3 zw4 => ?_)
  refine Z.e (wp_seq (Z.r [0, 1] ?_))
  refine Z.p [0] [1] [(11, Z.P b 0)] ?_
  refine Z.k (fun R hR => has_c b S q (Z.B [93]) _ R ((((hb.ext x1).ext x2).ext x3).upd1 u1) hok (fun w5 q1 e1 x4 b4 => hR _ _ ?_))
  have zw5 := x4.size
  have tb4 := b4.lt
  obtain ⟨ok1, m1, tr1x, tr1y⟩ : Tr S q q1 := e1 ▸ has_tr hok
  refine Z.e (Z.c (isB q (Z.B [93])) (fun h_c12 => ?_) (fun h_c12 => ?_))
  · skip
    refine Z.r [0, 1] ?_
    have lt1 := (by have := has_lt hok h_c12; rw [e1] at this; exact this : M S q1 < M S q)
    refine Z.L 0 (.agg #[.int .i64 15, Z.n at_, .string Z.E, .int .i64 0, .slice none 0 0]) (b3.upd1 x4) ?_
    refine Z.Sa #[.int .i64 15, Z.n at_, .string Z.E, .int .i64 0, .slice none 0 0] ((((b1.ext x2).ext x3).upd1 u1).upd1 x4) (fun w6 u2 b5 zw6 => ?_)
    refine Z.e (wp_ret (Gx.then_ret (Gx.ret (Gx.res_c (u := .agg #[.int .i64 15, Z.n at_, .string Z.E, .int .i64 0, .slice none 0 0]) rfl (by kernel_rfl) b5 (by kernel_rfl)) ?_)))
    exact hK _ (Nd.mk 15 at_ Z.E (0 : Int) []) none 0 q1 (by rw [run_succ]; simp only [stepN, squareS, Nd.ks, nds_app, nds_cons, nds_nil, nds_len, e1, h_c12, Z.ifs, reduceIte]) (gb_new (gb_upd (gb_new (gb_ext (gb_ext (gb_ext (gb_refl w b) x1) x2) x3) u1) x4) u2) (b4.upd1 u2) KV.nil
  refine wp_skip (Z.x (Z.s [(6, .slice none 0 0)] ?_))
  refine wp_seq (wp_block (Gx.loop (n' := 45) (d' := []) (fun mz l' w' => ∃ (j : Nat) (p : Rs) (v : Value) (L : List (Nd × Option Addr × Nat)), l' = [(0, Z.P b 0), (4, Z.P k1 0), (5, Z.P k2 0), (6, v)] ∧ mz = M S p ∧ Gx.G w w' (some b) ∧ Gx.Has w' b (.cells #[.string S, Z.n p.k, Z.n p.a, .string p.t, Z.n p.n, Z.n p.e, Z.n p.fk, Z.n p.fa, Z.n p.x, Z.n p.y] 41) ∧ Gx.Has w' k1 (.cells #[.int .i64 0, .int .i64 0, .string Z.E, .int .i64 0, .slice none 0 0] 24) ∧ Gx.Has w' k2 (.cells #[.int .i64 15, Z.n at_, .string Z.E, .int .i64 0, .slice none 0 0] 24) ∧ (j ≤ k) ∧ (16 * M S p + 12 ≤ j) ∧ (run S j (.squareL (nds L)) p = run S k (.squareL []) q1) ∧ (Ok S p) ∧ (w'.ownsRow (k2 + 1) 24 5 v L.length (flat L)) ∧ (∀ p' ∈ L, KV (InV w.heap.size w'.heap.size [k1, k2] v) w' p'.1.ks p'.2.1 p'.2.2) ∧ (L.length + M S p ≤ 4000) ∧ (M S p ≤ M S q1) ∧ (p.x = q1.x ∧ p.y = q1.y) ∧ ((k2 + 1) ≤ w'.heap.size)) _ _ [(0, Z.P b 0), (4, Z.P k1 0), (5, Z.P k2 0), (6, .slice none 0 0)] (Gx.forget [(0, Z.P b 0), (4, Z.P k1 0), (5, Z.P k2 0), (6, .slice none 0 0)] (by kernel_rfl)) ⟨k, q1, .slice none 0 0, [], rfl, rfl, (gb_upd (gb_new (gb_ext (gb_ext (gb_ext (gb_refl w b) x1) x2) x3) u1) x4), b4, ((((b1.ext x2).ext x3).upd1 u1).upd1 x4), (b3.upd1 x4), (Nat.le_refl _), (by omega), rfl, ok1, ⟨by simp [flat], .inl ⟨rfl, rfl⟩⟩, (fun p' hp' => by cases hp'), (by have := M_le ok1; show 0 + _ ≤ _; omega), (Nat.le_refl _), ⟨rfl, rfl⟩, (by omega)⟩ (fun bb1 m2 ll1 w7 hI1 K1 hK1 => ?_)))
  obtain ⟨j, p, v, L, rfl, rfl, x5, b6, b7, b8, hj, hm, hr, ho, how, hks, hlen, hM, hxy, hbs⟩ := hI1
  have zw7 := x5.size
  have tb6 := b6.lt
  have tb7 := b7.lt
  have tb8 := b8.lt
  obtain ⟨i, rfl⟩ : ∃ i, j = i + 1 := ⟨j - 1, by omega⟩
  refine wp_block (Z.r [0, 1, 2, 3] ?_)
  refine Z.p [0] [1, 2, 3] [(14, Z.P b 0)] ?_
  refine Z.k (fun R hR => (ih i (by omega)).f_expr b S p _ R b6 ho (by omega) (fun w8 t1 A1 c1 q2 e2 x6 b9 kv1 => hR _ _ ?_))
  have zw8 := x6.size
  have tb9 := b9.lt
  obtain ⟨ok2, m3, tr2x, tr2y⟩ : Tr S p q2 := run_facts ho e2
  refine Z.N (.cells #[.int .i64 0, .int .i64 0, .string Z.E, .int .i64 0, .slice none 0 0] 24) (fun k3 w9 l3 x7 b10 zw9 tb10 => ?_)
  refine Z.Sa #[Z.n t1.k, Z.n t1.a, .string t1.nm, .int .i64 t1.n, .slice A1 t1.ks.length c1] b10 (fun w10 u3 b11 zw10 => ?_)
  refine Z.e (Z.r [0, 1, 2, 3, 4] ?_)
  refine Z.p [0] [1, 2, 3, 4] [(16, v)] ?_
  refine Z.L 0 (.agg #[Z.n t1.k, Z.n t1.a, .string t1.nm, .int .i64 t1.n, .slice A1 t1.ks.length c1]) b11 ?_
  refine Z.R (.cells #[Z.n t1.k, Z.n t1.a, .string t1.nm, .int .i64 t1.n, .slice A1 t1.ks.length c1] 24) 1 1 (fun k4 w11 l4 x8 b12 zw11 tb12 => ?_)
  refine Gx.cons (Gx.op_appendAt rfl (by kernel_rfl) rfl 24 5 64 (by kernel_rfl) (by kernel_rfl) (by kernel_rfl) ((k2 + 1)) (by kernel_rfl) (Gx.own_ext (Gx.own_upd1 (Gx.own_ext (Gx.own_upd1 how x6 (fun q e => by have := how.lt q e; omega)) x7) u3 (fun q e => by have := how.lt q e; omega)) x8) 0 1 1 (by kernel_rfl) b12 [Z.n t1.k, Z.n t1.a, .string t1.nm, .int .i64 t1.n, .slice A1 t1.ks.length c1] rfl rfl (List.all_eq_true.1 rfl) (by unfold maxLen; omega) (by omega) (by omega) (fun v1 w12 ow1 g1 nl1 => ?_))
  have zw12 := g1.size
  have hbx1 : ∀ j, v1.ownBlock = some j → (j < w7.heap.size ∧ (k2 + 1) ≤ j) ∨ j = w11.heap.size := fun j e => by rcases nl1 with q | q; (rw [q] at e; have := (how).lt j e; exact .inl ⟨by omega, by omega⟩); (rw [q] at e; cases e; exact .inr rfl)
  have owx1 : w12.ownsRow (k2 + 1) 24 5 v1 (L ++ [(t1, A1, c1)]).length (flat (L ++ [(t1, A1, c1)])) := by rw [flat_snoc, List.length_append]; exact ow1
  have hkx1 : ∀ p' ∈ (L ++ [(t1, A1, c1)]), KV (InV w.heap.size w12.heap.size [k1, k2] v1) w12 p'.1.ks p'.2.1 p'.2.2 := by intro p' hp'; simp only [List.mem_append, List.mem_cons, List.not_mem_nil, or_false] at hp'; rcases hp' with h0 | rfl; exact (KV.topV ((((((((hks p' h0).updV x6).extV x7).updV u3).extV x8)).appV g1).toV nl1 (by omega)) (by omega) (by intro j hj; simp only [List.mem_cons, List.not_mem_nil, or_false] at hj ⊢; omega)); exact (KV.topV (KV.ofIn ((((kv1.ext x7).upd u3).ext x8).app g1 (fun j e => by have := ((Gx.own_ext (Gx.own_upd1 (Gx.own_ext (Gx.own_upd1 how x6 (fun q e => by have := how.lt q e; omega)) x7) u3 (fun q e => by have := how.lt q e; omega)) x8)).lt j e; have := (how).lt j e; first | (left; omega) | (right; left; omega))) (fun j e => by rcases hbx1 j e with q | q <;> omega)) (by omega) (by intro j hj; simp only [List.mem_cons, List.not_mem_nil, or_false] at hj ⊢; omega))
  refine Z.p [4] [] [(6, v1)] ?_
  refine Z.e (Z.r [0, 1, 2] ?_)
  refine Z.p [0] [1, 2] [(20, Z.P b 0)] ?_
  refine Z.k (fun R hR => has_c b S q2 (Z.B [44]) _ R ((((b9.ext x7).upd1 u3).ext x8).upd g1 (fun e => by have := (how).lt _ e.symm; omega)) ok2 (fun w13 q3 e3 x9 b13 => hR _ _ ?_))
  have zw13 := x9.size
  have tb13 := b13.lt
  obtain ⟨ok3, m4, tr3x, tr3y⟩ : Tr S q2 q3 := e3 ▸ has_tr ok2
  refine Z.p [2] [] [(22, .bool (!(isB q2 (Z.B [44]))))] ?_
  refine Z.e (Z.c (!(isB q2 (Z.B [44]))) (fun h_c22 => ?_) (fun h_c22 => ?_))
  · skip
    refine wp_exit (Gx.block_other (by kernel_rfl) ?_)
    refine Gx.then_exit (Gx.block_exit (Z.x ?_))
    have n_c22 : isB q2 (Z.B [44]) = false := by simpa using h_c22
    have e4 : run S k (.squareL []) q1 = ((Nd.mk 0 0 Z.E 0 (nds (L ++ [(t1, A1, c1)]))), q3) := by rw [← hr, run_succ]; simp only [stepN, squareLS, e2, e3, h_c12, h_c22, n_c22, Z.ifs, reduceIte, nds_app, nds_cons, nds_nil, nds_len]
    obtain ⟨A2, c2, rfl, kv2⟩ := KV.of_own (Q := In w.heap.size w13.heap.size [k1, k2]) (L ++ [(t1, A1, c1)]) (Gx.own_upd1 owx1 x9 (fun q e => by have := owx1.lt q e; omega)) (fun j e => by have := ((Gx.own_upd1 owx1 x9 (fun q e => by have := owx1.lt q e; omega))).lt j e; exact ⟨by omega, by omega, (by simp only [List.mem_cons, List.not_mem_nil, or_false, not_or]; omega)⟩) (fun p' h0 => ((fun p' h0 => KV.topV ((hkx1 p' h0).updV x9) (by omega) (by intro j hj; simp only [List.mem_cons, List.not_mem_nil, or_false] at hj ⊢; omega)) p' h0).noV)
    have hnl : (nds (L ++ [(t1, A1, c1)])).length = L.length + 1 := by rw [nds_len, List.length_append]; rfl
    refine Z.r [0, 1] ?_
    refine Z.p [0] [1] [(23, Z.P b 0)] ?_
    refine Z.k (fun R hR => must_c b S q3 (Z.B [93]) _ R b13 ok3 (fun w14 q4 e5 x10 b14 => hR _ _ ?_))
    have zw14 := x10.size
    have tb14 := b14.lt
    obtain ⟨ok4, m5, tr4x, tr4y⟩ : Tr S q3 q4 := e5 ▸ must_tr ok3
    refine Z.e (wp_seq (Z.r [0, 1, 2, 3] ?_))
    refine Z.p [0, 1] [2, 3] [(26, .int .i64 (((nds (L ++ [(t1, A1, c1)])).length : Nat) : Int)), (25, .slice A2 ((nds (L ++ [(t1, A1, c1)])).length) c2)] ?_
    refine Gx.pure_eq [2] [3] [(27, .int .i64 (IntKind.i64.wrap ((((nds (L ++ [(t1, A1, c1)])).length : Nat) : Int) - (1 : Int))))] [(27, .int .i64 ((((nds (L ++ [(t1, A1, c1)])).length : Nat) : Int) - (1 : Int)))] rfl (by kernel_rfl) (Gx.eqI (IntWalk.i64_in _ (by omega))) ?_
    refine Z.p [3] [] [(8, .int .i64 ((((nds (L ++ [(t1, A1, c1)])).length : Nat) : Int) - (1 : Int)))] ?_
    refine Z.e (wp_block (Gx.loop (n' := 45) (d' := []) (fun mz l' w' => ∃ (m : Nat) (ez : Nd) (Az : Option Addr) (cz : Nat), l' = [(4, Z.P k1 0), (5, Z.P k2 0), (6, .slice A2 ((nds (L ++ [(t1, A1, c1)])).length) c2), (8, .int .i64 (((m : Nat) : Int) - (1 : Int)))] ∧ mz = 0 + m ∧ Gx.G w w' (some b) ∧ Gx.Has w' b (.cells #[.string S, Z.n q4.k, Z.n q4.a, .string q4.t, Z.n q4.n, Z.n q4.e, Z.n q4.fk, Z.n q4.fa, Z.n q4.x, Z.n q4.y] 41) ∧ Gx.Has w' k1 (.cells #[.int .i64 0, .int .i64 0, .string Z.E, .int .i64 0, .slice none 0 0] 24) ∧ Gx.Has w' k2 (.cells #[Z.n ez.k, Z.n ez.a, .string ez.nm, .int .i64 ez.n, .slice Az ez.ks.length cz] 24) ∧ Gx.Has w' k3 (.cells #[Z.n t1.k, Z.n t1.a, .string t1.nm, .int .i64 t1.n, .slice A1 t1.ks.length c1] 24) ∧ Gx.Has w' k4 (.cells #[Z.n t1.k, Z.n t1.a, .string t1.nm, .int .i64 t1.n, .slice A1 t1.ks.length c1] 24) ∧ (m ≤ (nds (L ++ [(t1, A1, c1)])).length) ∧ (((nds (L ++ [(t1, A1, c1)])).drop m).foldr consF (Nd.mk 15 at_ Z.E 0 []) = ez) ∧ (KV (In w.heap.size w'.heap.size [k1, k2]) w' ez.ks Az cz) ∧ (KV (In w.heap.size w'.heap.size [k1, k2]) w' (nds (L ++ [(t1, A1, c1)])) A2 c2) ∧ (0 ≤ m)) _ _ [(4, Z.P k1 0), (5, Z.P k2 0), (6, .slice A2 ((nds (L ++ [(t1, A1, c1)])).length) c2), (8, .int .i64 ((((nds (L ++ [(t1, A1, c1)])).length : Nat) : Int) - (1 : Int)))] (Gx.forget [(4, Z.P k1 0), (5, Z.P k2 0), (6, .slice A2 ((nds (L ++ [(t1, A1, c1)])).length) c2), (8, .int .i64 ((((nds (L ++ [(t1, A1, c1)])).length : Nat) : Int) - (1 : Int)))] (by kernel_rfl)) ⟨(nds (L ++ [(t1, A1, c1)])).length, (Nd.mk 15 at_ Z.E 0 []), none, 0, rfl, rfl, (gb_upd (gb_upd (gb_app (gb_ext (gb_new (gb_ext (gb_upd (gb_upd (gb_refl w b) x5) x6) x7) u3) x8) g1 (fun j e => by have := ((Gx.own_ext (Gx.own_upd1 (Gx.own_ext (Gx.own_upd1 how x6 (fun q e => by have := how.lt q e; omega)) x7) u3 (fun q e => by have := how.lt q e; omega)) x8)).lt j e; omega)) x9) x10), b14, (((((((b7.upd1 x6).ext x7).upd1 u3).ext x8).upd g1 (fun e => by have := (how).lt _ e.symm; omega)).upd1 x9).upd1 x10), (((((((b8.upd1 x6).ext x7).upd1 u3).ext x8).upd g1 (fun e => by have := (how).lt _ e.symm; omega)).upd1 x9).upd1 x10), ((((b11.ext x8).upd g1 (fun e => by have := (how).lt _ e.symm; omega)).upd1 x9).upd1 x10), (((b12.upd g1 (fun e => by have := (how).lt _ e.symm; omega)).upd1 x9).upd1 x10), (Nat.le_refl _), (by rw [List.drop_length]; rfl), KV.nil, (KV.top (kv2.upd x10) (by omega) (by intro j hj; simp only [List.mem_cons, List.not_mem_nil, or_false] at hj ⊢; omega)), (Nat.zero_le _)⟩ (fun bb2 m6 ll2 w15 hI2 K2 hK2 => ?_)))
    obtain ⟨m, ez, Az, cz, rfl, rfl, x11, b15, b16, b17, b18, b19, hmle, hce, hkz, hkl, hm0⟩ := hI2
    have zw15 := x11.size
    have tb15 := b15.lt
    have tb16 := b16.lt
    have tb17 := b17.lt
    have tb18 := b18.lt
    have tb19 := b19.lt
    obtain ⟨As, cs, hrd, hch⟩ := KV.at_ hkl
    have hAs : KV (In w.heap.size w15.heap.size [k1, k2]) w15 ez.ks Az cz := hkz
    refine wp_seq (Z.s [(29, .bool (decide ((((m : Nat) : Int) - (1 : Int)) ≥ (0 : Int)))), (28, .int .i64 (((m : Nat) : Int) - (1 : Int)))] ?_)
    refine Z.c (decide ((((m : Nat) : Int) - (1 : Int)) ≥ (0 : Int))) (fun h_c29 => ?_) (fun h_c29 => ?_)
    · skip
      refine wp_skip (Z.x (wp_seq (wp_block ?_)))
      have p_c29 := of_decide_eq_true h_c29
      obtain ⟨i, rfl⟩ : ∃ i, m = i + 1 := ⟨m - 1, by omega⟩
      rw [show ((((i + 1 : Nat) : Nat) : Int) - (1 : Int)) = ((i : Nat) : Int) by omega]
      refine Gx.drawE (S := fun w' => Gx.Has w' k2 (.cells #[Z.n ez.k, Z.n ez.a, .string ez.nm, .int .i64 ez.n, .slice Az ez.ks.length cz] 24) ∧ Gx.Ext w15 w') [12] (by kernel_rfl) (fun w16 x12 => ?_)
      have zw16 := x12.size
      refine Z.eh ⟨(b17.ext x12), ((Gx.Ext.refl w15).trans x12)⟩ (fun hS1 => ?_)
      refine Z.et 0 (.slice A2 ((nds (L ++ [(t1, A1, c1)])).length) c2) (fun _ => hS1) ?_
      refine Z.et 1 (Z.n i) (fun _ => hS1) ?_
      obtain ⟨a1, ha1, hc1⟩ := hrd i (by omega)
      refine Z.ew 2 rfl (.pointer (some (a1.add (i * 5)))) (fun _ => hS1) (fun _ => Gx.run_indexAddrO rfl 24 5 (by kernel_rfl) (by kernel_rfl) a1 ha1 ((nds (L ++ [(t1, A1, c1)])).length) c2 (by kernel_rfl) .i64 i (by kernel_rfl) (by omega)) ?_
      refine Z.ew 3 rfl (.pointer (some ((a1.add (i * 5)).add 1))) (fun _ => hS1) (fun _ => Gx.run_fieldAddrO rfl (a1.add (i * 5)) (by kernel_rfl) 1 (by kernel_rfl)) ?_
      refine Z.ev 4 [11, 12] rfl (.int .i64 ((((nds (L ++ [(t1, A1, c1)])).getD i nd0).a : Nat) : Int)) (fun _ hs => Gx.run_loadO rfl [.int .i64 ((((nds (L ++ [(t1, A1, c1)])).getD i nd0).a : Nat) : Int)] (.int .i64 ((((nds (L ++ [(t1, A1, c1)])).getD i nd0).a : Nat) : Int)) (by kernel_rfl) 1 (Gx.cells_ext (Gx.cells_sub hc1 1 1 rfl) (by decide) hs.2) (by kernel_rfl) (by kernel_rfl)) hS1 ?_
      refine Z.et 5 (.slice A2 ((nds (L ++ [(t1, A1, c1)])).length) c2) (fun _ => hS1) ?_
      refine Z.et 6 (Z.n i) (fun _ => hS1) ?_
      obtain ⟨a2, ha2, hc2⟩ := hrd i (by omega)
      refine Z.ew 7 rfl (.pointer (some (a2.add (i * 5)))) (fun _ => hS1) (fun _ => Gx.run_indexAddrO rfl 24 5 (by kernel_rfl) (by kernel_rfl) a2 ha2 ((nds (L ++ [(t1, A1, c1)])).length) c2 (by kernel_rfl) .i64 i (by kernel_rfl) (by omega)) ?_
      refine Z.ev 8 [10, 11, 12] rfl (.agg #[.int .i64 ((((nds (L ++ [(t1, A1, c1)])).getD i nd0).k : Nat) : Int), .int .i64 ((((nds (L ++ [(t1, A1, c1)])).getD i nd0).a : Nat) : Int), .string (((nds (L ++ [(t1, A1, c1)])).getD i nd0).nm), .int .i64 (((nds (L ++ [(t1, A1, c1)])).getD i nd0).n), .slice (As i) (((nds (L ++ [(t1, A1, c1)])).getD i nd0).ks.length) (cs i)]) (fun _ hs => Gx.run_loadO rfl [.int .i64 ((((nds (L ++ [(t1, A1, c1)])).getD i nd0).k : Nat) : Int), .int .i64 ((((nds (L ++ [(t1, A1, c1)])).getD i nd0).a : Nat) : Int), .string (((nds (L ++ [(t1, A1, c1)])).getD i nd0).nm), .int .i64 (((nds (L ++ [(t1, A1, c1)])).getD i nd0).n), .slice (As i) (((nds (L ++ [(t1, A1, c1)])).getD i nd0).ks.length) (cs i)] (.agg #[.int .i64 ((((nds (L ++ [(t1, A1, c1)])).getD i nd0).k : Nat) : Int), .int .i64 ((((nds (L ++ [(t1, A1, c1)])).getD i nd0).a : Nat) : Int), .string (((nds (L ++ [(t1, A1, c1)])).getD i nd0).nm), .int .i64 (((nds (L ++ [(t1, A1, c1)])).getD i nd0).n), .slice (As i) (((nds (L ++ [(t1, A1, c1)])).getD i nd0).ks.length) (cs i)]) (by kernel_rfl) 5 (Gx.cells_ext hc2 (by decide) hs.2) (by kernel_rfl) (by kernel_rfl)) hS1 ?_
      refine Z.es 9 [10, 11, 12] 0 (.agg #[Z.n ez.k, Z.n ez.a, .string ez.nm, .int .i64 ez.n, .slice Az ez.ks.length cz]) (fun _ hs => hs.1) hS1 ?_
      refine Z.eR 10 (.cells #[.int .i64 ((((nds (L ++ [(t1, A1, c1)])).getD i nd0).k : Nat) : Int), .int .i64 ((((nds (L ++ [(t1, A1, c1)])).getD i nd0).a : Nat) : Int), .string (((nds (L ++ [(t1, A1, c1)])).getD i nd0).nm), .int .i64 (((nds (L ++ [(t1, A1, c1)])).getD i nd0).n), .slice (As i) (((nds (L ++ [(t1, A1, c1)])).getD i nd0).ks.length) (cs i), Z.n ez.k, Z.n ez.a, .string ez.nm, .int .i64 ez.n, .slice Az ez.ks.length cz] 24) 2 2 (fun k5 w17 l5 x13 b20 => ⟨(fun _ => ⟨((b17.ext x12).ext x13), (((Gx.Ext.refl w15).trans x12).trans x13)⟩), ?_⟩)
      have zw17 := x13.size
      have tb20 := b20.lt
      refine Z.eK 11 (fun R hR => Node_c (16 : Int) ((((nds (L ++ [(t1, A1, c1)])).getD i nd0).a : Nat) : Int) (some (⟨k5, 0, none⟩ : Addr)) 2 2 _ R (fun w18 x14 => hR _ _ ⟨(fun _ => ⟨(((b17.ext x12).ext x13).ext x14), ((((Gx.Ext.refl w15).trans x12).trans x13).trans x14)⟩), ?_⟩))
      have zw18 := x14.size
      refine Z.eSa 12 #[.int .i64 16, .int .i64 ((((nds (L ++ [(t1, A1, c1)])).getD i nd0).a : Nat) : Int), .string Z.E, .int .i64 0, .slice (some ⟨k5, 0, none⟩) 2 2] (((b17.ext x12).ext x13).ext x14) (fun w19 u4 b21 => ⟨(Gx.not_clear (by kernel_rfl)), ?_⟩)
      have zw19 := u4.size
      refine Gx.anyE_done (by kernel_rfl) ?_ _
      refine Gx.block_normal (Z.x (Z.g [0, 1, 2] ?_))
      refine Z.p [0] [1, 2] [(30, Z.n i)] ?_
      refine Gx.pure_eq [1] [2] [(31, .int .i64 (IntKind.i64.wrap (((i : Nat) : Int) - (1 : Int))))] [(31, .int .i64 (((i : Nat) : Int) - (1 : Int)))] rfl (by kernel_rfl) (Gx.eqI (IntWalk.i64_in _ (by omega))) ?_
      refine Z.p [2] [] [(8, .int .i64 (((i : Nat) : Int) - (1 : Int)))] ?_
      refine Gx.ops_nil (Z.x ?_)
      rw [Gx.forget [(4, Z.P k1 0), (5, Z.P k2 0), (6, .slice A2 ((nds (L ++ [(t1, A1, c1)])).length) c2), (8, .int .i64 (((i : Nat) : Int) - (1 : Int)))] (by kernel_rfl)]
      exact hK2 _ _ _ _ (by omega) ⟨i, (Nd.mk 16 (((nds (L ++ [(t1, A1, c1)])).getD i nd0).a) Z.E (0 : Int) [((nds (L ++ [(t1, A1, c1)])).getD i nd0), ez]), (some (⟨k5, 0, none⟩ : Addr)), 2, rfl, rfl, (gb_new (gb_ext (gb_ext (gb_ext (gb_upd (gb_refl w b) x11) x12) x13) x14) u4), ((((b15.ext x12).ext x13).ext x14).upd1 u4), ((((b16.ext x12).ext x13).ext x14).upd1 u4), b21, ((((b18.ext x12).ext x13).ext x14).upd1 u4), ((((b19.ext x12).ext x13).ext x14).upd1 u4), (by omega), (by rw [consF_drop _ (by omega), hce]; rfl), (KV.of_row [(((nds (L ++ [(t1, A1, c1)])).getD i nd0), (As i), (cs i)), (ez, Az, cz)] (n := 10) ((b20.ext x14).upd1 u4) rfl ⟨by omega, by omega, (by simp only [List.mem_cons, List.not_mem_nil, or_false, not_or]; omega)⟩ (by intro p hp; simp only [List.mem_cons, List.not_mem_nil, or_false] at hp; rcases hp with rfl | rfl; exact (KV.top (((((hch i (by omega)).ext x12).ext x13).ext x14).upd u4) (by omega) (by intro j hj; simp only [List.mem_cons, List.not_mem_nil, or_false] at hj ⊢; omega)); exact (KV.top ((((hkz.ext x12).ext x13).ext x14).upd u4) (by omega) (by intro j hj; simp only [List.mem_cons, List.not_mem_nil, or_false] at hj ⊢; omega)))), (KV.top ((((hkl.ext x12).ext x13).ext x14).upd u4) (by omega) (by intro j hj; simp only [List.mem_cons, List.not_mem_nil, or_false] at hj ⊢; omega)), (by omega)⟩
    refine wp_exit (Gx.then_exit (Gx.then_exit (Gx.block_exit (Z.x ?_))))
    have p_c29 := of_decide_eq_false h_c29
    obtain rfl : m = 0 := by omega
    have hcz : consAll at_ (nds (L ++ [(t1, A1, c1)])) = ez := hce
    simp only [nds_app, nds_cons, nds_nil, nds_len] at hcz
    refine Z.r [0, 1] ?_
    refine Z.L 0 (.agg #[Z.n ez.k, Z.n ez.a, .string ez.nm, .int .i64 ez.n, .slice Az ez.ks.length cz]) b17 ?_
    refine Z.Sa #[Z.n ez.k, Z.n ez.a, .string ez.nm, .int .i64 ez.n, .slice Az ez.ks.length cz] b16 (fun w20 u5 b22 zw20 => ?_)
    refine Z.e (wp_ret (Gx.ret (Gx.res_c (u := .agg #[Z.n ez.k, Z.n ez.a, .string ez.nm, .int .i64 ez.n, .slice Az ez.ks.length cz]) rfl (by kernel_rfl) b22 (by kernel_rfl)) ?_))
    exact hK _ ez Az cz q4 (by rw [run_succ]; simp only [stepN, squareS, Nd.ks, nds_app, nds_cons, nds_nil, nds_len, e1, e4, e5, hcz, h_c12, h_c22, h_c29, n_c22, Z.ifs, reduceIte]) (gb_new (gb_upd (gb_refl w b) x11) u5) (b15.upd1 u5) (KV.top (hkz.upd u5))
  refine wp_skip (Gx.block_normal (Z.x ?_))
  have n_c22 : isB q2 (Z.B [44]) = true := by simpa using h_c22
  have lt2 := (by have := has_lt ok2 n_c22; rw [e3] at this; exact this : M S q3 < M S q2)
  rw [Gx.forget [(0, Z.P b 0), (4, Z.P k1 0), (5, Z.P k2 0), (6, v1)] (by kernel_rfl)]
  exact hK1 _ _ _ _ (by omega) ⟨i, q3, v1, (L ++ [(t1, A1, c1)]), rfl, rfl, (gb_upd (gb_app (gb_ext (gb_new (gb_ext (gb_upd (gb_upd (gb_refl w b) x5) x6) x7) u3) x8) g1 (fun j e => by have := ((Gx.own_ext (Gx.own_upd1 (Gx.own_ext (Gx.own_upd1 how x6 (fun q e => by have := how.lt q e; omega)) x7) u3 (fun q e => by have := how.lt q e; omega)) x8)).lt j e; omega)) x9), b13, ((((((b7.upd1 x6).ext x7).upd1 u3).ext x8).upd g1 (fun e => by have := (how).lt _ e.symm; omega)).upd1 x9), ((((((b8.upd1 x6).ext x7).upd1 u3).ext x8).upd g1 (fun e => by have := (how).lt _ e.symm; omega)).upd1 x9), (by omega), (by omega), (by rw [← hr, run_succ]; simp only [stepN, squareLS, e2, e3, h_c12, h_c22, n_c22, Z.ifs, reduceIte, nds_app, nds_cons, nds_nil, nds_len]), ok3, (Gx.own_upd1 owx1 x9 (fun q e => by have := owx1.lt q e; omega)), (fun p' h0 => KV.topV ((hkx1 p' h0).updV x9) (by omega) (by intro j hj; simp only [List.mem_cons, List.not_mem_nil, or_false] at hj ⊢; omega)), (by rw [List.length_append]; show L.length + 1 + _ ≤ _; omega), (by omega), ⟨by omega, by omega⟩, (by omega)⟩
set_option maxHeartbeats 1000000 in
set_option maxRecDepth 10000 in
theorem prog_c (k : Nat) (b : Nat) (S : ByteArray) (q : Rs) (w : World) (K : Ending → World → Prop) (ih : ∀ j, j ≤ k → Spec j) (hb : Gx.Has w b (rdO S q)) (hok : Ok S q) (hmu : 16 * M S q + 14 ≤ k + 1) (hK : ∀ w' t A c q', run S (k + 1) .prog q = (t, q') → Gx.G w w' (some b) → Gx.Has w' b (rdO S q') → KV (In w.heap.size w'.heap.size []) w' t.ks A c → K (.returned (.agg #[Z.n t.k, Z.n t.a, .string t.nm, .int .i64 t.n, .slice A t.ks.length c])) w') :
    Calls Try.prog 12 #[Z.P b 0] w K := by
  refine Gx.enter 115 Try.func12 rfl rfl (Nat.le_of_ble_eq_true rfl) ?_
  have tbb := hb.lt
  refine Z.r [0] ?_
  refine Z.N (.cells #[.int .i64 0, .int .i64 0, .string Z.E, .int .i64 0, .slice none 0 0] 24) (fun k1 w1 l1 x1 b1 zw1 tb1 => ?_)
  refine Z.e (Z.r [0, 1, 2] ?_)
  refine Z.k (fun R hR => Node_c (0 : Int) (0 : Int) none 0 0 _ R (fun w2 x2 => hR _ _ ?_))
  have zw2 := x2.size
  refine Z.N (.cells #[.int .i64 0, .int .i64 0, .string Z.E, .int .i64 0, .slice none 0 0] 24) (fun k2 w3 l2 x3 b2 zw3 tb2 => ?_)
  refine Z.Sa #[.int .i64 0, .int .i64 0, .string Z.E, .int .i64 0, .slice none 0 0] b2 (fun w4 u1 b3 zw4 => ?_)
  refine Z.e (wp_seq (wp_block (Gx.loop (n' := 115) (d' := []) (fun mz l' w' => ∃ (j : Nat) (p : Rs) (v : Value) (L : List (Nd × Option Addr × Nat)), l' = [(0, Z.P b 0), (2, Z.P k1 0), (3, Z.P k2 0)] ∧ mz = M S p ∧ Gx.G w w' (some b) ∧ Gx.Has w' b (.cells #[.string S, Z.n p.k, Z.n p.a, .string p.t, Z.n p.n, Z.n p.e, Z.n p.fk, Z.n p.fa, Z.n p.x, Z.n p.y] 41) ∧ Gx.Has w' k1 (.cells #[.int .i64 0, .int .i64 0, .string Z.E, .int .i64 0, .slice none 0 0] 24) ∧ Gx.Has w' k2 (.cells #[.int .i64 0, .int .i64 0, .string Z.E, Z.n L.length, v] 24) ∧ (j ≤ k) ∧ (16 * M S p + 3 ≤ j) ∧ (run S j (.opsL (nds L)) p = run S k (.opsL []) q) ∧ (Ok S p) ∧ (w'.ownsRow (k2 + 1) 24 5 v L.length (flat L)) ∧ (∀ p' ∈ L, KV (InV w.heap.size w'.heap.size [k1, k2] v) w' p'.1.ks p'.2.1 p'.2.2) ∧ (L.length + M S p ≤ 4000) ∧ (M S p ≤ M S q) ∧ (p.x = q.x ∧ p.y = q.y) ∧ ((k2 + 1) ≤ w'.heap.size)) _ _ [(0, Z.P b 0), (2, Z.P k1 0), (3, Z.P k2 0)] (Gx.forget [(0, Z.P b 0), (2, Z.P k1 0), (3, Z.P k2 0)] (by kernel_rfl)) ⟨k, q, .slice none 0 0, [], rfl, rfl, (gb_new (gb_ext (gb_ext (gb_ext (gb_refl w b) x1) x2) x3) u1), ((((hb.ext x1).ext x2).ext x3).upd1 u1), (((b1.ext x2).ext x3).upd1 u1), b3, (Nat.le_refl _), (by omega), rfl, hok, ⟨by simp [flat], .inl ⟨rfl, rfl⟩⟩, (fun p' hp' => by cases hp'), (by have := M_le hok; show 0 + _ ≤ _; omega), (Nat.le_refl _), ⟨rfl, rfl⟩, (by omega)⟩ (fun bb1 m1 ll1 w5 hI1 K1 hK1 => ?_))))
  obtain ⟨j, p, v, L, rfl, rfl, x4, b4, b5, b6, hj, hm, hr, ho, how, hks, hlen, hM, hxy, hbs⟩ := hI1
  have zw5 := x4.size
  have tb4 := b4.lt
  have tb5 := b5.lt
  have tb6 := b6.lt
  obtain ⟨i, rfl⟩ : ∃ i, j = i + 1 := ⟨j - 1, by omega⟩
  refine wp_seq (Z.r [0, 1] ?_)
  refine Z.p [0] [1] [(19, Z.P b 0)] ?_
  refine Z.k (fun R hR => is_c b S p (Z.B [111, 112]) _ R b4 (hR _ _ ?_))
  refine Z.e (Z.c (isB p (Z.B [111, 112])) (fun h_c20 => ?_) (fun h_c20 => ?_))
  · skip
    refine wp_skip (Z.x (wp_block (Z.r [0, 1, 2, 3, 4, 5] ?_)))
    refine Z.p [0, 1, 2, 3] [4, 5] [(24, Z.P b 2), (23, Z.P b 1), (22, Z.P b 0), (21, Z.P b 0)] ?_
    refine Z.L 2 (Z.n p.a) b4 ?_
    refine Z.p [5] [] [(4, Z.n p.a)] ?_
    refine Z.e (Z.r [0, 1] ?_)
    refine Z.p [0] [1] [(26, Z.P b 0)] ?_
    refine Z.k (fun R hR => next_c b S p _ R b4 ho (fun w6 q1 e1 x5 b7 => hR _ _ ?_))
    have zw6 := x5.size
    have tb7 := b7.lt
    have tr1 : Tr S p q1 := by rw [← e1]; exact next_tr ho
    have lt1 : M S q1 < M S p := by have := is_lt ho h_c20; rw [e1] at this; exact this
    have ok1 := tr1.ok; have m2 := tr1.m; have tr1x := tr1.x; have tr1y := tr1.y
    refine Z.e (Z.s [(5, .int .i64 0)] ?_)
    refine wp_seq (Z.r [0, 1] ?_)
    refine Z.p [0] [1] [(28, Z.P b 0)] ?_
    refine Z.k (fun R hR => is_c b S q1 (Z.B [111, 110, 99, 101]) _ R b7 (hR _ _ ?_))
    refine Z.e (Z.c (isB q1 (Z.B [111, 110, 99, 101])) (fun h_c29 => ?_) (fun h_c29 => ?_))
    · skip
      refine Z.u [(5, .int .i64 1)] ?_
      refine Z.x (wp_seq (Z.st [(35, .bool true), (34, undef), (33, undef), (32, .bool true), (31, .bool true), (30, .int .i64 1)] ?_))
      refine Z.g [0, 1] ?_
      refine Z.p [0] [1] [(36, Z.P b 0)] ?_
      refine Z.k (fun R hR => next_c b S q1 _ R b7 ok1 (fun w7 q2 e2 x6 b8 => hR _ _ ?_))
      have zw7 := x6.size
      have tb8 := b8.lt
      have tr2 : Tr S q1 q2 := by rw [← e2]; exact next_tr ok1
      have lt2 : M S q2 < M S q1 := by have := is_lt ok1 h_c29; rw [e2] at this; exact this
      have ok2 := tr2.ok; have m3 := tr2.m; have tr2x := tr2.x; have tr2y := tr2.y
      refine Gx.ops_nil (Z.x (Z.r [0, 1, 2, 3, 4, 5, 6] ?_))
      refine Z.p [0] [1, 2, 3, 4, 5, 6] [(41, Z.P b 0)] ?_
      refine Z.k (fun R hR => name_c b S q2 _ R b8 ok2 (fun w8 nm1 na1 q3 e3 x7 b9 => hR _ _ ?_))
      have zw8 := x7.size
      have tb9 := b9.lt
      obtain ⟨ok3, m4, tr3x, tr3y⟩ : Tr S q2 q3 := by have := name_tr ok2; rw [e3] at this; exact this
      refine Z.p [2, 3, 4, 5, 6] [] [(7, Z.n na1), (6, .string nm1), (44, Z.n na1), (43, .string nm1), (40, .tuple #[.string nm1, Z.n na1])] ?_
      refine Z.e (Z.r [0, 1] ?_)
      refine Z.p [0] [1] [(45, Z.P b 0)] ?_
      refine Z.k (fun R hR => must_c b S q3 (Z.B [58]) _ R b9 ok3 (fun w9 q4 e4 x8 b10 => hR _ _ ?_))
      have zw9 := x8.size
      have tb10 := b10.lt
      obtain ⟨ok4, m5, tr4x, tr4y⟩ : Tr S q3 q4 := e4 ▸ must_tr ok3
      refine Z.e (Z.r [0, 1, 2, 3] ?_)
      refine Z.p [0] [1, 2, 3] [(47, Z.P b 0)] ?_
      refine Z.k (fun R hR => (ih i (by omega)).f_typ b S q4 _ R b10 ok4 (by omega) (fun w10 t1 A1 c1 q5 e5 x9 b11 kv1 => hR _ _ ?_))
      have zw10 := x9.size
      have tb11 := b11.lt
      obtain ⟨ok5, m6, tr5x, tr5y⟩ : Tr S q4 q5 := run_facts ok4 e5
      refine Z.N (.cells #[.int .i64 0, .int .i64 0, .string Z.E, .int .i64 0, .slice none 0 0] 24) (fun k3 w11 l3 x10 b12 zw11 tb12 => ?_)
      refine Z.Sa #[Z.n t1.k, Z.n t1.a, .string t1.nm, .int .i64 t1.n, .slice A1 t1.ks.length c1] b12 (fun w12 u2 b13 zw12 => ?_)
      refine Z.e (Z.r [0, 1] ?_)
      refine Z.p [0] [1] [(49, Z.P b 0)] ?_
      refine Z.k (fun R hR => must_c b S q5 (Z.B [61, 62]) _ R ((b11.ext x10).upd1 u2) ok5 (fun w13 q6 e6 x11 b14 => hR _ _ ?_))
      have zw13 := x11.size
      have tb14 := b14.lt
      obtain ⟨ok6, m7, tr6x, tr6y⟩ : Tr S q5 q6 := e6 ▸ must_tr ok5
      refine Z.e (Z.r [0, 1, 2, 3] ?_)
      refine Z.p [0] [1, 2, 3] [(51, Z.P b 0)] ?_
      refine Z.k (fun R hR => (ih i (by omega)).f_typ b S q6 _ R b14 ok6 (by omega) (fun w14 t2 A2 c2 q7 e7 x12 b15 kv2 => hR _ _ ?_))
      have zw14 := x12.size
      have tb15 := b15.lt
      obtain ⟨ok7, m8, tr7x, tr7y⟩ : Tr S q6 q7 := run_facts ok6 e7
      refine Z.N (.cells #[.int .i64 0, .int .i64 0, .string Z.E, .int .i64 0, .slice none 0 0] 24) (fun k4 w15 l4 x13 b16 zw15 tb16 => ?_)
      refine Z.Sa #[Z.n t2.k, Z.n t2.a, .string t2.nm, .int .i64 t2.n, .slice A2 t2.ks.length c2] b16 (fun w16 u3 b17 zw16 => ?_)
      refine Z.e (Z.r [0, 1, 2, 3, 4, 5, 6, 7] ?_)
      refine Z.p [0, 1] [2, 3, 4, 5, 6, 7] [(54, .string nm1), (53, Z.n p.a)] ?_
      refine Z.L 0 (.agg #[Z.n t1.k, Z.n t1.a, .string t1.nm, .int .i64 t1.n, .slice A1 t1.ks.length c1]) ((((b13.upd1 x11).upd1 x12).ext x13).upd1 u3) ?_
      refine Z.L 0 (.agg #[Z.n t2.k, Z.n t2.a, .string t2.nm, .int .i64 t2.n, .slice A2 t2.ks.length c2]) b17 ?_
      refine Z.R (.cells #[Z.n t1.k, Z.n t1.a, .string t1.nm, .int .i64 t1.n, .slice A1 t1.ks.length c1, Z.n t2.k, Z.n t2.a, .string t2.nm, .int .i64 t2.n, .slice A2 t2.ks.length c2] 24) 2 2 (fun k5 w17 l5 x14 b18 zw17 tb18 => ?_)
      refine Z.k (fun R hR => named_c (1 : Int) ((p.a : Nat) : Int) nm1 (some (⟨k5, 0, none⟩ : Addr)) 2 2 _ R (fun w18 x15 => hR _ _ ?_))
      have zw18 := x15.size
      refine Z.N (.cells #[.int .i64 0, .int .i64 0, .string Z.E, .int .i64 0, .slice none 0 0] 24) (fun k6 w19 l6 x16 b19 zw19 tb19 => ?_)
      refine Z.Sa #[.int .i64 1, Z.n p.a, .string nm1, .int .i64 0, .slice (some ⟨k5, 0, none⟩) 2 2] b19 (fun w20 u4 b20 zw20 => ?_)
      refine Z.e (Z.r [0, 1, 2] ?_)
      refine Z.p [0, 1] [2] [(60, Z.P k6 3), (59, .int .i64 1)] ?_
      refine Z.S 3 (.int .i64 1) b20 #[.int .i64 1, Z.n p.a, .string nm1, .int .i64 1, .slice (some ⟨k5, 0, none⟩) 2 2] (fun w21 u5 b21 zw21 => ?_)
      refine Z.e (Z.r [0, 1, 2, 3, 4, 5, 6] ?_)
      refine Z.p [0] [1, 2, 3, 4, 5, 6] [(61, Z.P k2 4)] ?_
      refine Z.L 4 (v) ((((((((((((((((b6.upd1 x5).upd1 x6).upd1 x7).upd1 x8).upd1 x9).ext x10).upd1 u2).upd1 x11).upd1 x12).ext x13).upd1 u3).ext x14).ext x15).ext x16).upd1 u4).upd1 u5) ?_
      refine Z.L 0 (.agg #[.int .i64 1, Z.n p.a, .string nm1, .int .i64 1, .slice (some ⟨k5, 0, none⟩) 2 2]) b21 ?_
      refine Z.R (.cells #[.int .i64 1, Z.n p.a, .string nm1, .int .i64 1, .slice (some ⟨k5, 0, none⟩) 2 2] 24) 1 1 (fun k7 w22 l7 x17 b22 zw22 tb22 => ?_)
      refine Gx.cons (Gx.op_appendAt rfl (by kernel_rfl) rfl 24 5 64 (by kernel_rfl) (by kernel_rfl) (by kernel_rfl) ((k2 + 1)) (by kernel_rfl) (Gx.own_ext (Gx.own_upd1 (Gx.own_upd1 (Gx.own_ext (Gx.own_ext (Gx.own_ext (Gx.own_upd1 (Gx.own_ext (Gx.own_upd1 (Gx.own_upd1 (Gx.own_upd1 (Gx.own_ext (Gx.own_upd1 (Gx.own_upd1 (Gx.own_upd1 (Gx.own_upd1 (Gx.own_upd1 how x5 (fun q e => by have := how.lt q e; omega)) x6 (fun q e => by have := how.lt q e; omega)) x7 (fun q e => by have := how.lt q e; omega)) x8 (fun q e => by have := how.lt q e; omega)) x9 (fun q e => by have := how.lt q e; omega)) x10) u2 (fun q e => by have := how.lt q e; omega)) x11 (fun q e => by have := how.lt q e; omega)) x12 (fun q e => by have := how.lt q e; omega)) x13) u3 (fun q e => by have := how.lt q e; omega)) x14) x15) x16) u4 (fun q e => by have := how.lt q e; omega)) u5 (fun q e => by have := how.lt q e; omega)) x17) 0 1 1 (by kernel_rfl) b22 [.int .i64 1, Z.n p.a, .string nm1, .int .i64 1, .slice (some ⟨k5, 0, none⟩) 2 2] rfl rfl (List.all_eq_true.1 rfl) (by unfold maxLen; omega) (by omega) (by omega) (fun v1 w23 ow1 g1 nl1 => ?_))
      have zw23 := g1.size
      have hbx1 : ∀ j, v1.ownBlock = some j → (j < w5.heap.size ∧ (k2 + 1) ≤ j) ∨ j = w22.heap.size := fun j e => by rcases nl1 with q | q; (rw [q] at e; have := (how).lt j e; exact .inl ⟨by omega, by omega⟩); (rw [q] at e; cases e; exact .inr rfl)
      have owx1 : w23.ownsRow (k2 + 1) 24 5 v1 (L ++ [((Nd.mk 1 p.a nm1 (1 : Int) [t1, t2]), (some (⟨k5, 0, none⟩ : Addr)), 2)]).length (flat (L ++ [((Nd.mk 1 p.a nm1 (1 : Int) [t1, t2]), (some (⟨k5, 0, none⟩ : Addr)), 2)])) := by rw [flat_snoc, List.length_append]; exact ow1
      have hkx1 : ∀ p' ∈ (L ++ [((Nd.mk 1 p.a nm1 (1 : Int) [t1, t2]), (some (⟨k5, 0, none⟩ : Addr)), 2)]), KV (InV w.heap.size w23.heap.size [k1, k2] v1) w23 p'.1.ks p'.2.1 p'.2.2 := by intro p' hp'; simp only [List.mem_append, List.mem_cons, List.not_mem_nil, or_false] at hp'; rcases hp' with h0 | rfl; exact (KV.topV (((((((((((((((((((((hks p' h0).updV x5).updV x6).updV x7).updV x8).updV x9).extV x10).updV u2).updV x11).updV x12).extV x13).updV u3).extV x14).extV x15).extV x16).updV u4).updV u5).extV x17)).appV g1).toV nl1 (by omega)) (by omega) (by intro j hj; simp only [List.mem_cons, List.not_mem_nil, or_false] at hj ⊢; omega)); exact (KV.of_row [(t1, A1, c1), (t2, A2, c2)] (n := 10) ((((((b18.ext x15).ext x16).upd1 u4).upd1 u5).ext x17).upd g1 (fun e => by have := (how).lt _ e.symm; omega)) rfl ⟨⟨by omega, by omega, (by simp only [List.mem_cons, List.not_mem_nil, or_false, not_or]; omega)⟩, fun e => by rcases hbx1 _ e with q | q <;> omega⟩ (by intro p hp; simp only [List.mem_cons, List.not_mem_nil, or_false] at hp; rcases hp with rfl | rfl; exact (KV.topV (KV.ofIn (((((((((((((kv1.ext x10).upd u2).upd x11).upd x12).ext x13).upd u3).ext x14).ext x15).ext x16).upd u4).upd u5).ext x17).app g1 (fun j e => by have := ((Gx.own_ext (Gx.own_upd1 (Gx.own_upd1 (Gx.own_ext (Gx.own_ext (Gx.own_ext (Gx.own_upd1 (Gx.own_ext (Gx.own_upd1 (Gx.own_upd1 (Gx.own_upd1 (Gx.own_ext (Gx.own_upd1 (Gx.own_upd1 (Gx.own_upd1 (Gx.own_upd1 (Gx.own_upd1 how x5 (fun q e => by have := how.lt q e; omega)) x6 (fun q e => by have := how.lt q e; omega)) x7 (fun q e => by have := how.lt q e; omega)) x8 (fun q e => by have := how.lt q e; omega)) x9 (fun q e => by have := how.lt q e; omega)) x10) u2 (fun q e => by have := how.lt q e; omega)) x11 (fun q e => by have := how.lt q e; omega)) x12 (fun q e => by have := how.lt q e; omega)) x13) u3 (fun q e => by have := how.lt q e; omega)) x14) x15) x16) u4 (fun q e => by have := how.lt q e; omega)) u5 (fun q e => by have := how.lt q e; omega)) x17)).lt j e; have := (how).lt j e; first | (left; omega) | (right; left; omega))) (fun j e => by rcases hbx1 j e with q | q <;> omega)) (by omega) (by intro j hj; simp only [List.mem_cons, List.not_mem_nil, or_false] at hj ⊢; omega)); exact (KV.topV (KV.ofIn (((((((((kv2.ext x13).upd u3).ext x14).ext x15).ext x16).upd u4).upd u5).ext x17).app g1 (fun j e => by have := ((Gx.own_ext (Gx.own_upd1 (Gx.own_upd1 (Gx.own_ext (Gx.own_ext (Gx.own_ext (Gx.own_upd1 (Gx.own_ext (Gx.own_upd1 (Gx.own_upd1 (Gx.own_upd1 (Gx.own_ext (Gx.own_upd1 (Gx.own_upd1 (Gx.own_upd1 (Gx.own_upd1 (Gx.own_upd1 how x5 (fun q e => by have := how.lt q e; omega)) x6 (fun q e => by have := how.lt q e; omega)) x7 (fun q e => by have := how.lt q e; omega)) x8 (fun q e => by have := how.lt q e; omega)) x9 (fun q e => by have := how.lt q e; omega)) x10) u2 (fun q e => by have := how.lt q e; omega)) x11 (fun q e => by have := how.lt q e; omega)) x12 (fun q e => by have := how.lt q e; omega)) x13) u3 (fun q e => by have := how.lt q e; omega)) x14) x15) x16) u4 (fun q e => by have := how.lt q e; omega)) u5 (fun q e => by have := how.lt q e; omega)) x17)).lt j e; have := (how).lt j e; first | (left; omega) | (right; left; omega))) (fun j e => by rcases hbx1 j e with q | q <;> omega)) (by omega) (by intro j hj; simp only [List.mem_cons, List.not_mem_nil, or_false] at hj ⊢; omega))))
      refine Z.p [5] [6] [(66, Z.P k2 4)] ?_
      refine Gx.cons (Gx.op_storeO rfl (by kernel_rfl) rfl 4 (v1) (by kernel_rfl) (by kernel_rfl) ((((((((((((((((((b6.upd1 x5).upd1 x6).upd1 x7).upd1 x8).upd1 x9).ext x10).upd1 u2).upd1 x11).upd1 x12).ext x13).upd1 u3).ext x14).ext x15).ext x16).upd1 u4).upd1 u5).ext x17).upd g1 (fun e => by have := (how).lt _ e.symm; omega)) (by kernel_rfl) (Gx.own_cells' owx1) (by kernel_rfl) #[.int .i64 0, .int .i64 0, .string Z.E, Z.n L.length, v1] (by kernel_rfl) (fun w24 u6 b23 => ?_))
      have zw24 := u6.size
      refine Z.e (Z.g [0, 1, 2, 3, 4] ?_)
      refine Z.p [0] [1, 2, 3, 4] [(67, Z.P k2 3)] ?_
      refine Z.L 3 (Z.n L.length) b23 ?_
      refine Gx.pure_eq [2] [3, 4] [(69, .int .i64 (IntKind.i64.wrap (((L.length : Nat) : Int) + (1 : Int))))] [(69, .int .i64 ((L.length + 1 : Nat) : Int))] rfl (by kernel_rfl) (Gx.eqI (Gx.i64n (by omega) (by omega))) ?_
      refine Z.p [3] [4] [(70, Z.P k2 3)] ?_
      refine Z.S 3 (.int .i64 ((L.length + 1 : Nat) : Int)) b23 #[.int .i64 0, .int .i64 0, .string Z.E, .int .i64 ((L.length + 1 : Nat) : Int), v1] (fun w25 u7 b24 zw25 => ?_)
      refine Gx.ops_nil (Gx.block_normal (Z.x ?_))
      rw [Gx.forget [(0, Z.P b 0), (2, Z.P k1 0), (3, Z.P k2 0)] (by kernel_rfl)]
      exact hK1 _ _ _ _ (by omega) ⟨i, q7, v1, (L ++ [((Nd.mk 1 p.a nm1 (1 : Int) [t1, t2]), (some (⟨k5, 0, none⟩ : Addr)), 2)]), rfl, rfl, (gb_new (gb_new (gb_app (gb_ext (gb_new (gb_new (gb_ext (gb_ext (gb_ext (gb_new (gb_ext (gb_upd (gb_upd (gb_new (gb_ext (gb_upd (gb_upd (gb_upd (gb_upd (gb_upd (gb_upd (gb_refl w b) x4) x5) x6) x7) x8) x9) x10) u2) x11) x12) x13) u3) x14) x15) x16) u4) u5) x17) g1 (fun j e => by have := ((Gx.own_ext (Gx.own_upd1 (Gx.own_upd1 (Gx.own_ext (Gx.own_ext (Gx.own_ext (Gx.own_upd1 (Gx.own_ext (Gx.own_upd1 (Gx.own_upd1 (Gx.own_upd1 (Gx.own_ext (Gx.own_upd1 (Gx.own_upd1 (Gx.own_upd1 (Gx.own_upd1 (Gx.own_upd1 how x5 (fun q e => by have := how.lt q e; omega)) x6 (fun q e => by have := how.lt q e; omega)) x7 (fun q e => by have := how.lt q e; omega)) x8 (fun q e => by have := how.lt q e; omega)) x9 (fun q e => by have := how.lt q e; omega)) x10) u2 (fun q e => by have := how.lt q e; omega)) x11 (fun q e => by have := how.lt q e; omega)) x12 (fun q e => by have := how.lt q e; omega)) x13) u3 (fun q e => by have := how.lt q e; omega)) x14) x15) x16) u4 (fun q e => by have := how.lt q e; omega)) u5 (fun q e => by have := how.lt q e; omega)) x17)).lt j e; omega)) u6) u7), (((((((((((b15.ext x13).upd1 u3).ext x14).ext x15).ext x16).upd1 u4).upd1 u5).ext x17).upd g1 (fun e => by have := (how).lt _ e.symm; omega)).upd1 u6).upd1 u7), ((((((((((((((((((((b5.upd1 x5).upd1 x6).upd1 x7).upd1 x8).upd1 x9).ext x10).upd1 u2).upd1 x11).upd1 x12).ext x13).upd1 u3).ext x14).ext x15).ext x16).upd1 u4).upd1 u5).ext x17).upd g1 (fun e => by have := (how).lt _ e.symm; omega)).upd1 u6).upd1 u7), (by rw [List.length_append]; exact b24), (by omega), (by omega), (by rw [← hr, run_succ]; simp only [stepN, opsLS, opsT, e1, e2, e3, e4, e5, e6, e7, h_c20, h_c29, Z.ifs, reduceIte, nds_app, nds_cons, nds_nil, nds_len]), ok7, (Gx.own_upd1 (Gx.own_upd1 owx1 u6 (fun q e => by have := owx1.lt q e; omega)) u7 (fun q e => by have := owx1.lt q e; omega)), (fun p' h0 => KV.topV (((hkx1 p' h0).updV u6).updV u7) (by omega) (by intro j hj; simp only [List.mem_cons, List.not_mem_nil, or_false] at hj ⊢; omega)), (by rw [List.length_append]; show L.length + 1 + _ ≤ _; omega), (by omega), ⟨by omega, by omega⟩, (by omega)⟩
    refine wp_skip (Z.x (wp_seq (Z.r [0, 1, 2, 3, 4, 5] ?_)))
    refine Z.p [0, 1, 2, 3] [4, 5] [(33, Z.P b 0), (32, .bool false), (31, .bool false), (30, .int .i64 0)] ?_
    refine Z.k (fun R hR => is_c b S q1 (Z.B [109, 97, 110, 121]) _ R b7 (hR _ _ ?_))
    refine Z.p [5] [] [(35, .bool (isB q1 (Z.B [109, 97, 110, 121])))] ?_
    refine Z.e (Z.c (isB q1 (Z.B [109, 97, 110, 121])) (fun h_c35 => ?_) (fun h_c35 => ?_))
    · skip
      refine Z.g [0, 1] ?_
      refine Z.p [0] [1] [(36, Z.P b 0)] ?_
      refine Z.k (fun R hR => next_c b S q1 _ R b7 ok1 (fun w26 q8 e8 x18 b25 => hR _ _ ?_))
      have zw26 := x18.size
      have tb25 := b25.lt
      have tr8 : Tr S q1 q8 := by rw [← e8]; exact next_tr ok1
      have lt3 : M S q8 < M S q1 := by have := is_lt ok1 h_c35; rw [e8] at this; exact this
      have ok8 := tr8.ok; have m9 := tr8.m; have tr8x := tr8.x; have tr8y := tr8.y
      refine Gx.ops_nil (Z.x (Z.r [0, 1, 2, 3, 4, 5, 6] ?_))
      refine Z.p [0] [1, 2, 3, 4, 5, 6] [(41, Z.P b 0)] ?_
      refine Z.k (fun R hR => name_c b S q8 _ R b25 ok8 (fun w27 nm2 na2 q9 e9 x19 b26 => hR _ _ ?_))
      have zw27 := x19.size
      have tb26 := b26.lt
      obtain ⟨ok9, m10, tr9x, tr9y⟩ : Tr S q8 q9 := by have := name_tr ok8; rw [e9] at this; exact this
      refine Z.p [2, 3, 4, 5, 6] [] [(7, Z.n na2), (6, .string nm2), (44, Z.n na2), (43, .string nm2), (40, .tuple #[.string nm2, Z.n na2])] ?_
      refine Z.e (Z.r [0, 1] ?_)
      refine Z.p [0] [1] [(45, Z.P b 0)] ?_
      refine Z.k (fun R hR => must_c b S q9 (Z.B [58]) _ R b26 ok9 (fun w28 q10 e10 x20 b27 => hR _ _ ?_))
      have zw28 := x20.size
      have tb27 := b27.lt
      obtain ⟨ok10, m11, tr10x, tr10y⟩ : Tr S q9 q10 := e10 ▸ must_tr ok9
      refine Z.e (Z.r [0, 1, 2, 3] ?_)
      refine Z.p [0] [1, 2, 3] [(47, Z.P b 0)] ?_
      refine Z.k (fun R hR => (ih i (by omega)).f_typ b S q10 _ R b27 ok10 (by omega) (fun w29 t3 A3 c3 q11 e11 x21 b28 kv3 => hR _ _ ?_))
      have zw29 := x21.size
      have tb28 := b28.lt
      obtain ⟨ok11, m12, tr11x, tr11y⟩ : Tr S q10 q11 := run_facts ok10 e11
      refine Z.N (.cells #[.int .i64 0, .int .i64 0, .string Z.E, .int .i64 0, .slice none 0 0] 24) (fun k8 w30 l8 x22 b29 zw30 tb29 => ?_)
      refine Z.Sa #[Z.n t3.k, Z.n t3.a, .string t3.nm, .int .i64 t3.n, .slice A3 t3.ks.length c3] b29 (fun w31 u8 b30 zw31 => ?_)
      refine Z.e (Z.r [0, 1] ?_)
      refine Z.p [0] [1] [(49, Z.P b 0)] ?_
      refine Z.k (fun R hR => must_c b S q11 (Z.B [61, 62]) _ R ((b28.ext x22).upd1 u8) ok11 (fun w32 q12 e12 x23 b31 => hR _ _ ?_))
      have zw32 := x23.size
      have tb31 := b31.lt
      obtain ⟨ok12, m13, tr12x, tr12y⟩ : Tr S q11 q12 := e12 ▸ must_tr ok11
      refine Z.e (Z.r [0, 1, 2, 3] ?_)
      refine Z.p [0] [1, 2, 3] [(51, Z.P b 0)] ?_
      refine Z.k (fun R hR => (ih i (by omega)).f_typ b S q12 _ R b31 ok12 (by omega) (fun w33 t4 A4 c4 q13 e13 x24 b32 kv4 => hR _ _ ?_))
      have zw33 := x24.size
      have tb32 := b32.lt
      obtain ⟨ok13, m14, tr13x, tr13y⟩ : Tr S q12 q13 := run_facts ok12 e13
      refine Z.N (.cells #[.int .i64 0, .int .i64 0, .string Z.E, .int .i64 0, .slice none 0 0] 24) (fun k9 w34 l9 x25 b33 zw34 tb33 => ?_)
      refine Z.Sa #[Z.n t4.k, Z.n t4.a, .string t4.nm, .int .i64 t4.n, .slice A4 t4.ks.length c4] b33 (fun w35 u9 b34 zw35 => ?_)
      refine Z.e (Z.r [0, 1, 2, 3, 4, 5, 6, 7] ?_)
      refine Z.p [0, 1] [2, 3, 4, 5, 6, 7] [(54, .string nm2), (53, Z.n p.a)] ?_
      refine Z.L 0 (.agg #[Z.n t3.k, Z.n t3.a, .string t3.nm, .int .i64 t3.n, .slice A3 t3.ks.length c3]) ((((b30.upd1 x23).upd1 x24).ext x25).upd1 u9) ?_
      refine Z.L 0 (.agg #[Z.n t4.k, Z.n t4.a, .string t4.nm, .int .i64 t4.n, .slice A4 t4.ks.length c4]) b34 ?_
      refine Z.R (.cells #[Z.n t3.k, Z.n t3.a, .string t3.nm, .int .i64 t3.n, .slice A3 t3.ks.length c3, Z.n t4.k, Z.n t4.a, .string t4.nm, .int .i64 t4.n, .slice A4 t4.ks.length c4] 24) 2 2 (fun k10 w36 l10 x26 b35 zw36 tb35 => ?_)
      refine Z.k (fun R hR => named_c (1 : Int) ((p.a : Nat) : Int) nm2 (some (⟨k10, 0, none⟩ : Addr)) 2 2 _ R (fun w37 x27 => hR _ _ ?_))
      have zw37 := x27.size
      refine Z.N (.cells #[.int .i64 0, .int .i64 0, .string Z.E, .int .i64 0, .slice none 0 0] 24) (fun k11 w38 l11 x28 b36 zw38 tb36 => ?_)
      refine Z.Sa #[.int .i64 1, Z.n p.a, .string nm2, .int .i64 0, .slice (some ⟨k10, 0, none⟩) 2 2] b36 (fun w39 u10 b37 zw39 => ?_)
      refine Z.e (Z.r [0, 1, 2] ?_)
      refine Z.p [0, 1] [2] [(60, Z.P k11 3), (59, .int .i64 0)] ?_
      refine Z.S 3 (.int .i64 0) b37 #[.int .i64 1, Z.n p.a, .string nm2, .int .i64 0, .slice (some ⟨k10, 0, none⟩) 2 2] (fun w40 u11 b38 zw40 => ?_)
      refine Z.e (Z.r [0, 1, 2, 3, 4, 5, 6] ?_)
      refine Z.p [0] [1, 2, 3, 4, 5, 6] [(61, Z.P k2 4)] ?_
      refine Z.L 4 (v) ((((((((((((((((b6.upd1 x5).upd1 x18).upd1 x19).upd1 x20).upd1 x21).ext x22).upd1 u8).upd1 x23).upd1 x24).ext x25).upd1 u9).ext x26).ext x27).ext x28).upd1 u10).upd1 u11) ?_
      refine Z.L 0 (.agg #[.int .i64 1, Z.n p.a, .string nm2, .int .i64 0, .slice (some ⟨k10, 0, none⟩) 2 2]) b38 ?_
      refine Z.R (.cells #[.int .i64 1, Z.n p.a, .string nm2, .int .i64 0, .slice (some ⟨k10, 0, none⟩) 2 2] 24) 1 1 (fun k12 w41 l12 x29 b39 zw41 tb39 => ?_)
      refine Gx.cons (Gx.op_appendAt rfl (by kernel_rfl) rfl 24 5 64 (by kernel_rfl) (by kernel_rfl) (by kernel_rfl) ((k2 + 1)) (by kernel_rfl) (Gx.own_ext (Gx.own_upd1 (Gx.own_upd1 (Gx.own_ext (Gx.own_ext (Gx.own_ext (Gx.own_upd1 (Gx.own_ext (Gx.own_upd1 (Gx.own_upd1 (Gx.own_upd1 (Gx.own_ext (Gx.own_upd1 (Gx.own_upd1 (Gx.own_upd1 (Gx.own_upd1 (Gx.own_upd1 how x5 (fun q e => by have := how.lt q e; omega)) x18 (fun q e => by have := how.lt q e; omega)) x19 (fun q e => by have := how.lt q e; omega)) x20 (fun q e => by have := how.lt q e; omega)) x21 (fun q e => by have := how.lt q e; omega)) x22) u8 (fun q e => by have := how.lt q e; omega)) x23 (fun q e => by have := how.lt q e; omega)) x24 (fun q e => by have := how.lt q e; omega)) x25) u9 (fun q e => by have := how.lt q e; omega)) x26) x27) x28) u10 (fun q e => by have := how.lt q e; omega)) u11 (fun q e => by have := how.lt q e; omega)) x29) 0 1 1 (by kernel_rfl) b39 [.int .i64 1, Z.n p.a, .string nm2, .int .i64 0, .slice (some ⟨k10, 0, none⟩) 2 2] rfl rfl (List.all_eq_true.1 rfl) (by unfold maxLen; omega) (by omega) (by omega) (fun v2 w42 ow2 g2 nl2 => ?_))
      have zw42 := g2.size
      have hbx2 : ∀ j, v2.ownBlock = some j → (j < w5.heap.size ∧ (k2 + 1) ≤ j) ∨ j = w41.heap.size := fun j e => by rcases nl2 with q | q; (rw [q] at e; have := (how).lt j e; exact .inl ⟨by omega, by omega⟩); (rw [q] at e; cases e; exact .inr rfl)
      have owx2 : w42.ownsRow (k2 + 1) 24 5 v2 (L ++ [((Nd.mk 1 p.a nm2 (0 : Int) [t3, t4]), (some (⟨k10, 0, none⟩ : Addr)), 2)]).length (flat (L ++ [((Nd.mk 1 p.a nm2 (0 : Int) [t3, t4]), (some (⟨k10, 0, none⟩ : Addr)), 2)])) := by rw [flat_snoc, List.length_append]; exact ow2
      have hkx2 : ∀ p' ∈ (L ++ [((Nd.mk 1 p.a nm2 (0 : Int) [t3, t4]), (some (⟨k10, 0, none⟩ : Addr)), 2)]), KV (InV w.heap.size w42.heap.size [k1, k2] v2) w42 p'.1.ks p'.2.1 p'.2.2 := by intro p' hp'; simp only [List.mem_append, List.mem_cons, List.not_mem_nil, or_false] at hp'; rcases hp' with h0 | rfl; exact (KV.topV (((((((((((((((((((((hks p' h0).updV x5).updV x18).updV x19).updV x20).updV x21).extV x22).updV u8).updV x23).updV x24).extV x25).updV u9).extV x26).extV x27).extV x28).updV u10).updV u11).extV x29)).appV g2).toV nl2 (by omega)) (by omega) (by intro j hj; simp only [List.mem_cons, List.not_mem_nil, or_false] at hj ⊢; omega)); exact (KV.of_row [(t3, A3, c3), (t4, A4, c4)] (n := 10) ((((((b35.ext x27).ext x28).upd1 u10).upd1 u11).ext x29).upd g2 (fun e => by have := (how).lt _ e.symm; omega)) rfl ⟨⟨by omega, by omega, (by simp only [List.mem_cons, List.not_mem_nil, or_false, not_or]; omega)⟩, fun e => by rcases hbx2 _ e with q | q <;> omega⟩ (by intro p hp; simp only [List.mem_cons, List.not_mem_nil, or_false] at hp; rcases hp with rfl | rfl; exact (KV.topV (KV.ofIn (((((((((((((kv3.ext x22).upd u8).upd x23).upd x24).ext x25).upd u9).ext x26).ext x27).ext x28).upd u10).upd u11).ext x29).app g2 (fun j e => by have := ((Gx.own_ext (Gx.own_upd1 (Gx.own_upd1 (Gx.own_ext (Gx.own_ext (Gx.own_ext (Gx.own_upd1 (Gx.own_ext (Gx.own_upd1 (Gx.own_upd1 (Gx.own_upd1 (Gx.own_ext (Gx.own_upd1 (Gx.own_upd1 (Gx.own_upd1 (Gx.own_upd1 (Gx.own_upd1 how x5 (fun q e => by have := how.lt q e; omega)) x18 (fun q e => by have := how.lt q e; omega)) x19 (fun q e => by have := how.lt q e; omega)) x20 (fun q e => by have := how.lt q e; omega)) x21 (fun q e => by have := how.lt q e; omega)) x22) u8 (fun q e => by have := how.lt q e; omega)) x23 (fun q e => by have := how.lt q e; omega)) x24 (fun q e => by have := how.lt q e; omega)) x25) u9 (fun q e => by have := how.lt q e; omega)) x26) x27) x28) u10 (fun q e => by have := how.lt q e; omega)) u11 (fun q e => by have := how.lt q e; omega)) x29)).lt j e; have := (how).lt j e; first | (left; omega) | (right; left; omega))) (fun j e => by rcases hbx2 j e with q | q <;> omega)) (by omega) (by intro j hj; simp only [List.mem_cons, List.not_mem_nil, or_false] at hj ⊢; omega)); exact (KV.topV (KV.ofIn (((((((((kv4.ext x25).upd u9).ext x26).ext x27).ext x28).upd u10).upd u11).ext x29).app g2 (fun j e => by have := ((Gx.own_ext (Gx.own_upd1 (Gx.own_upd1 (Gx.own_ext (Gx.own_ext (Gx.own_ext (Gx.own_upd1 (Gx.own_ext (Gx.own_upd1 (Gx.own_upd1 (Gx.own_upd1 (Gx.own_ext (Gx.own_upd1 (Gx.own_upd1 (Gx.own_upd1 (Gx.own_upd1 (Gx.own_upd1 how x5 (fun q e => by have := how.lt q e; omega)) x18 (fun q e => by have := how.lt q e; omega)) x19 (fun q e => by have := how.lt q e; omega)) x20 (fun q e => by have := how.lt q e; omega)) x21 (fun q e => by have := how.lt q e; omega)) x22) u8 (fun q e => by have := how.lt q e; omega)) x23 (fun q e => by have := how.lt q e; omega)) x24 (fun q e => by have := how.lt q e; omega)) x25) u9 (fun q e => by have := how.lt q e; omega)) x26) x27) x28) u10 (fun q e => by have := how.lt q e; omega)) u11 (fun q e => by have := how.lt q e; omega)) x29)).lt j e; have := (how).lt j e; first | (left; omega) | (right; left; omega))) (fun j e => by rcases hbx2 j e with q | q <;> omega)) (by omega) (by intro j hj; simp only [List.mem_cons, List.not_mem_nil, or_false] at hj ⊢; omega))))
      refine Z.p [5] [6] [(66, Z.P k2 4)] ?_
      refine Gx.cons (Gx.op_storeO rfl (by kernel_rfl) rfl 4 (v2) (by kernel_rfl) (by kernel_rfl) ((((((((((((((((((b6.upd1 x5).upd1 x18).upd1 x19).upd1 x20).upd1 x21).ext x22).upd1 u8).upd1 x23).upd1 x24).ext x25).upd1 u9).ext x26).ext x27).ext x28).upd1 u10).upd1 u11).ext x29).upd g2 (fun e => by have := (how).lt _ e.symm; omega)) (by kernel_rfl) (Gx.own_cells' owx2) (by kernel_rfl) #[.int .i64 0, .int .i64 0, .string Z.E, Z.n L.length, v2] (by kernel_rfl) (fun w43 u12 b40 => ?_))
      have zw43 := u12.size
      refine Z.e (Z.g [0, 1, 2, 3, 4] ?_)
      refine Z.p [0] [1, 2, 3, 4] [(67, Z.P k2 3)] ?_
      refine Z.L 3 (Z.n L.length) b40 ?_
      refine Gx.pure_eq [2] [3, 4] [(69, .int .i64 (IntKind.i64.wrap (((L.length : Nat) : Int) + (1 : Int))))] [(69, .int .i64 ((L.length + 1 : Nat) : Int))] rfl (by kernel_rfl) (Gx.eqI (Gx.i64n (by omega) (by omega))) ?_
      refine Z.p [3] [4] [(70, Z.P k2 3)] ?_
      refine Z.S 3 (.int .i64 ((L.length + 1 : Nat) : Int)) b40 #[.int .i64 0, .int .i64 0, .string Z.E, .int .i64 ((L.length + 1 : Nat) : Int), v2] (fun w44 u13 b41 zw44 => ?_)
      refine Gx.ops_nil (Gx.block_normal (Z.x ?_))
      rw [Gx.forget [(0, Z.P b 0), (2, Z.P k1 0), (3, Z.P k2 0)] (by kernel_rfl)]
      exact hK1 _ _ _ _ (by omega) ⟨i, q13, v2, (L ++ [((Nd.mk 1 p.a nm2 (0 : Int) [t3, t4]), (some (⟨k10, 0, none⟩ : Addr)), 2)]), rfl, rfl, (gb_new (gb_new (gb_app (gb_ext (gb_new (gb_new (gb_ext (gb_ext (gb_ext (gb_new (gb_ext (gb_upd (gb_upd (gb_new (gb_ext (gb_upd (gb_upd (gb_upd (gb_upd (gb_upd (gb_upd (gb_refl w b) x4) x5) x18) x19) x20) x21) x22) u8) x23) x24) x25) u9) x26) x27) x28) u10) u11) x29) g2 (fun j e => by have := ((Gx.own_ext (Gx.own_upd1 (Gx.own_upd1 (Gx.own_ext (Gx.own_ext (Gx.own_ext (Gx.own_upd1 (Gx.own_ext (Gx.own_upd1 (Gx.own_upd1 (Gx.own_upd1 (Gx.own_ext (Gx.own_upd1 (Gx.own_upd1 (Gx.own_upd1 (Gx.own_upd1 (Gx.own_upd1 how x5 (fun q e => by have := how.lt q e; omega)) x18 (fun q e => by have := how.lt q e; omega)) x19 (fun q e => by have := how.lt q e; omega)) x20 (fun q e => by have := how.lt q e; omega)) x21 (fun q e => by have := how.lt q e; omega)) x22) u8 (fun q e => by have := how.lt q e; omega)) x23 (fun q e => by have := how.lt q e; omega)) x24 (fun q e => by have := how.lt q e; omega)) x25) u9 (fun q e => by have := how.lt q e; omega)) x26) x27) x28) u10 (fun q e => by have := how.lt q e; omega)) u11 (fun q e => by have := how.lt q e; omega)) x29)).lt j e; omega)) u12) u13), (((((((((((b32.ext x25).upd1 u9).ext x26).ext x27).ext x28).upd1 u10).upd1 u11).ext x29).upd g2 (fun e => by have := (how).lt _ e.symm; omega)).upd1 u12).upd1 u13), ((((((((((((((((((((b5.upd1 x5).upd1 x18).upd1 x19).upd1 x20).upd1 x21).ext x22).upd1 u8).upd1 x23).upd1 x24).ext x25).upd1 u9).ext x26).ext x27).ext x28).upd1 u10).upd1 u11).ext x29).upd g2 (fun e => by have := (how).lt _ e.symm; omega)).upd1 u12).upd1 u13), (by rw [List.length_append]; exact b41), (by omega), (by omega), (by rw [← hr, run_succ]; simp only [stepN, opsLS, opsT, e1, e8, e9, e10, e11, e12, e13, h_c20, h_c29, h_c35, Z.ifs, reduceIte, nds_app, nds_cons, nds_nil, nds_len]), ok13, (Gx.own_upd1 (Gx.own_upd1 owx2 u12 (fun q e => by have := owx2.lt q e; omega)) u13 (fun q e => by have := owx2.lt q e; omega)), (fun p' h0 => KV.topV (((hkx2 p' h0).updV u12).updV u13) (by omega) (by intro j hj; simp only [List.mem_cons, List.not_mem_nil, or_false] at hj ⊢; omega)), (by rw [List.length_append]; show L.length + 1 + _ ≤ _; omega), (by omega), ⟨by omega, by omega⟩, (by omega)⟩
    refine Z.g [0, 1] ?_
    refine Z.p [0] [1] [(38, Z.P b 0)] ?_
    refine Z.k (fun R hR => no_c b S q1 _ R b7 ok1 (fun w45 q14 e14 x30 b42 => hR _ _ ?_))
    have zw45 := x30.size
    have tb42 := b42.lt
    obtain ⟨ok14, m15, tr14x, tr14y⟩ : Tr S q1 q14 := e14 ▸ no_tr ok1
    refine Gx.ops_nil (Z.x (Z.r [0, 1, 2, 3, 4, 5, 6] ?_))
    refine Z.p [0] [1, 2, 3, 4, 5, 6] [(41, Z.P b 0)] ?_
    refine Z.k (fun R hR => name_c b S q14 _ R b42 ok14 (fun w46 nm3 na3 q15 e15 x31 b43 => hR _ _ ?_))
    have zw46 := x31.size
    have tb43 := b43.lt
    obtain ⟨ok15, m16, tr15x, tr15y⟩ : Tr S q14 q15 := by have := name_tr ok14; rw [e15] at this; exact this
    refine Z.p [2, 3, 4, 5, 6] [] [(7, Z.n na3), (6, .string nm3), (44, Z.n na3), (43, .string nm3), (40, .tuple #[.string nm3, Z.n na3])] ?_
    refine Z.e (Z.r [0, 1] ?_)
    refine Z.p [0] [1] [(45, Z.P b 0)] ?_
    refine Z.k (fun R hR => must_c b S q15 (Z.B [58]) _ R b43 ok15 (fun w47 q16 e16 x32 b44 => hR _ _ ?_))
    have zw47 := x32.size
    have tb44 := b44.lt
    obtain ⟨ok16, m17, tr16x, tr16y⟩ : Tr S q15 q16 := e16 ▸ must_tr ok15
    refine Z.e (Z.r [0, 1, 2, 3] ?_)
    refine Z.p [0] [1, 2, 3] [(47, Z.P b 0)] ?_
    refine Z.k (fun R hR => (ih i (by omega)).f_typ b S q16 _ R b44 ok16 (by omega) (fun w48 t5 A5 c5 q17 e17 x33 b45 kv5 => hR _ _ ?_))
    have zw48 := x33.size
    have tb45 := b45.lt
    obtain ⟨ok17, m18, tr17x, tr17y⟩ : Tr S q16 q17 := run_facts ok16 e17
    refine Z.N (.cells #[.int .i64 0, .int .i64 0, .string Z.E, .int .i64 0, .slice none 0 0] 24) (fun k13 w49 l13 x34 b46 zw49 tb46 => ?_)
    refine Z.Sa #[Z.n t5.k, Z.n t5.a, .string t5.nm, .int .i64 t5.n, .slice A5 t5.ks.length c5] b46 (fun w50 u14 b47 zw50 => ?_)
    refine Z.e (Z.r [0, 1] ?_)
    refine Z.p [0] [1] [(49, Z.P b 0)] ?_
    refine Z.k (fun R hR => must_c b S q17 (Z.B [61, 62]) _ R ((b45.ext x34).upd1 u14) ok17 (fun w51 q18 e18 x35 b48 => hR _ _ ?_))
    have zw51 := x35.size
    have tb48 := b48.lt
    obtain ⟨ok18, m19, tr18x, tr18y⟩ : Tr S q17 q18 := e18 ▸ must_tr ok17
    refine Z.e (Z.r [0, 1, 2, 3] ?_)
    refine Z.p [0] [1, 2, 3] [(51, Z.P b 0)] ?_
    refine Z.k (fun R hR => (ih i (by omega)).f_typ b S q18 _ R b48 ok18 (by omega) (fun w52 t6 A6 c6 q19 e19 x36 b49 kv6 => hR _ _ ?_))
    have zw52 := x36.size
    have tb49 := b49.lt
    obtain ⟨ok19, m20, tr19x, tr19y⟩ : Tr S q18 q19 := run_facts ok18 e19
    refine Z.N (.cells #[.int .i64 0, .int .i64 0, .string Z.E, .int .i64 0, .slice none 0 0] 24) (fun k14 w53 l14 x37 b50 zw53 tb50 => ?_)
    refine Z.Sa #[Z.n t6.k, Z.n t6.a, .string t6.nm, .int .i64 t6.n, .slice A6 t6.ks.length c6] b50 (fun w54 u15 b51 zw54 => ?_)
    refine Z.e (Z.r [0, 1, 2, 3, 4, 5, 6, 7] ?_)
    refine Z.p [0, 1] [2, 3, 4, 5, 6, 7] [(54, .string nm3), (53, Z.n p.a)] ?_
    refine Z.L 0 (.agg #[Z.n t5.k, Z.n t5.a, .string t5.nm, .int .i64 t5.n, .slice A5 t5.ks.length c5]) ((((b47.upd1 x35).upd1 x36).ext x37).upd1 u15) ?_
    refine Z.L 0 (.agg #[Z.n t6.k, Z.n t6.a, .string t6.nm, .int .i64 t6.n, .slice A6 t6.ks.length c6]) b51 ?_
    refine Z.R (.cells #[Z.n t5.k, Z.n t5.a, .string t5.nm, .int .i64 t5.n, .slice A5 t5.ks.length c5, Z.n t6.k, Z.n t6.a, .string t6.nm, .int .i64 t6.n, .slice A6 t6.ks.length c6] 24) 2 2 (fun k15 w55 l15 x38 b52 zw55 tb52 => ?_)
    refine Z.k (fun R hR => named_c (1 : Int) ((p.a : Nat) : Int) nm3 (some (⟨k15, 0, none⟩ : Addr)) 2 2 _ R (fun w56 x39 => hR _ _ ?_))
    have zw56 := x39.size
    refine Z.N (.cells #[.int .i64 0, .int .i64 0, .string Z.E, .int .i64 0, .slice none 0 0] 24) (fun k16 w57 l16 x40 b53 zw57 tb53 => ?_)
    refine Z.Sa #[.int .i64 1, Z.n p.a, .string nm3, .int .i64 0, .slice (some ⟨k15, 0, none⟩) 2 2] b53 (fun w58 u16 b54 zw58 => ?_)
    refine Z.e (Z.r [0, 1, 2] ?_)
    refine Z.p [0, 1] [2] [(60, Z.P k16 3), (59, .int .i64 0)] ?_
    refine Z.S 3 (.int .i64 0) b54 #[.int .i64 1, Z.n p.a, .string nm3, .int .i64 0, .slice (some ⟨k15, 0, none⟩) 2 2] (fun w59 u17 b55 zw59 => ?_)
    refine Z.e (Z.r [0, 1, 2, 3, 4, 5, 6] ?_)
    refine Z.p [0] [1, 2, 3, 4, 5, 6] [(61, Z.P k2 4)] ?_
    refine Z.L 4 (v) ((((((((((((((((b6.upd1 x5).upd1 x30).upd1 x31).upd1 x32).upd1 x33).ext x34).upd1 u14).upd1 x35).upd1 x36).ext x37).upd1 u15).ext x38).ext x39).ext x40).upd1 u16).upd1 u17) ?_
    refine Z.L 0 (.agg #[.int .i64 1, Z.n p.a, .string nm3, .int .i64 0, .slice (some ⟨k15, 0, none⟩) 2 2]) b55 ?_
    refine Z.R (.cells #[.int .i64 1, Z.n p.a, .string nm3, .int .i64 0, .slice (some ⟨k15, 0, none⟩) 2 2] 24) 1 1 (fun k17 w60 l17 x41 b56 zw60 tb56 => ?_)
    refine Gx.cons (Gx.op_appendAt rfl (by kernel_rfl) rfl 24 5 64 (by kernel_rfl) (by kernel_rfl) (by kernel_rfl) ((k2 + 1)) (by kernel_rfl) (Gx.own_ext (Gx.own_upd1 (Gx.own_upd1 (Gx.own_ext (Gx.own_ext (Gx.own_ext (Gx.own_upd1 (Gx.own_ext (Gx.own_upd1 (Gx.own_upd1 (Gx.own_upd1 (Gx.own_ext (Gx.own_upd1 (Gx.own_upd1 (Gx.own_upd1 (Gx.own_upd1 (Gx.own_upd1 how x5 (fun q e => by have := how.lt q e; omega)) x30 (fun q e => by have := how.lt q e; omega)) x31 (fun q e => by have := how.lt q e; omega)) x32 (fun q e => by have := how.lt q e; omega)) x33 (fun q e => by have := how.lt q e; omega)) x34) u14 (fun q e => by have := how.lt q e; omega)) x35 (fun q e => by have := how.lt q e; omega)) x36 (fun q e => by have := how.lt q e; omega)) x37) u15 (fun q e => by have := how.lt q e; omega)) x38) x39) x40) u16 (fun q e => by have := how.lt q e; omega)) u17 (fun q e => by have := how.lt q e; omega)) x41) 0 1 1 (by kernel_rfl) b56 [.int .i64 1, Z.n p.a, .string nm3, .int .i64 0, .slice (some ⟨k15, 0, none⟩) 2 2] rfl rfl (List.all_eq_true.1 rfl) (by unfold maxLen; omega) (by omega) (by omega) (fun v3 w61 ow3 g3 nl3 => ?_))
    have zw61 := g3.size
    have hbx3 : ∀ j, v3.ownBlock = some j → (j < w5.heap.size ∧ (k2 + 1) ≤ j) ∨ j = w60.heap.size := fun j e => by rcases nl3 with q | q; (rw [q] at e; have := (how).lt j e; exact .inl ⟨by omega, by omega⟩); (rw [q] at e; cases e; exact .inr rfl)
    have owx3 : w61.ownsRow (k2 + 1) 24 5 v3 (L ++ [((Nd.mk 1 p.a nm3 (0 : Int) [t5, t6]), (some (⟨k15, 0, none⟩ : Addr)), 2)]).length (flat (L ++ [((Nd.mk 1 p.a nm3 (0 : Int) [t5, t6]), (some (⟨k15, 0, none⟩ : Addr)), 2)])) := by rw [flat_snoc, List.length_append]; exact ow3
    have hkx3 : ∀ p' ∈ (L ++ [((Nd.mk 1 p.a nm3 (0 : Int) [t5, t6]), (some (⟨k15, 0, none⟩ : Addr)), 2)]), KV (InV w.heap.size w61.heap.size [k1, k2] v3) w61 p'.1.ks p'.2.1 p'.2.2 := by intro p' hp'; simp only [List.mem_append, List.mem_cons, List.not_mem_nil, or_false] at hp'; rcases hp' with h0 | rfl; exact (KV.topV (((((((((((((((((((((hks p' h0).updV x5).updV x30).updV x31).updV x32).updV x33).extV x34).updV u14).updV x35).updV x36).extV x37).updV u15).extV x38).extV x39).extV x40).updV u16).updV u17).extV x41)).appV g3).toV nl3 (by omega)) (by omega) (by intro j hj; simp only [List.mem_cons, List.not_mem_nil, or_false] at hj ⊢; omega)); exact (KV.of_row [(t5, A5, c5), (t6, A6, c6)] (n := 10) ((((((b52.ext x39).ext x40).upd1 u16).upd1 u17).ext x41).upd g3 (fun e => by have := (how).lt _ e.symm; omega)) rfl ⟨⟨by omega, by omega, (by simp only [List.mem_cons, List.not_mem_nil, or_false, not_or]; omega)⟩, fun e => by rcases hbx3 _ e with q | q <;> omega⟩ (by intro p hp; simp only [List.mem_cons, List.not_mem_nil, or_false] at hp; rcases hp with rfl | rfl; exact (KV.topV (KV.ofIn (((((((((((((kv5.ext x34).upd u14).upd x35).upd x36).ext x37).upd u15).ext x38).ext x39).ext x40).upd u16).upd u17).ext x41).app g3 (fun j e => by have := ((Gx.own_ext (Gx.own_upd1 (Gx.own_upd1 (Gx.own_ext (Gx.own_ext (Gx.own_ext (Gx.own_upd1 (Gx.own_ext (Gx.own_upd1 (Gx.own_upd1 (Gx.own_upd1 (Gx.own_ext (Gx.own_upd1 (Gx.own_upd1 (Gx.own_upd1 (Gx.own_upd1 (Gx.own_upd1 how x5 (fun q e => by have := how.lt q e; omega)) x30 (fun q e => by have := how.lt q e; omega)) x31 (fun q e => by have := how.lt q e; omega)) x32 (fun q e => by have := how.lt q e; omega)) x33 (fun q e => by have := how.lt q e; omega)) x34) u14 (fun q e => by have := how.lt q e; omega)) x35 (fun q e => by have := how.lt q e; omega)) x36 (fun q e => by have := how.lt q e; omega)) x37) u15 (fun q e => by have := how.lt q e; omega)) x38) x39) x40) u16 (fun q e => by have := how.lt q e; omega)) u17 (fun q e => by have := how.lt q e; omega)) x41)).lt j e; have := (how).lt j e; first | (left; omega) | (right; left; omega))) (fun j e => by rcases hbx3 j e with q | q <;> omega)) (by omega) (by intro j hj; simp only [List.mem_cons, List.not_mem_nil, or_false] at hj ⊢; omega)); exact (KV.topV (KV.ofIn (((((((((kv6.ext x37).upd u15).ext x38).ext x39).ext x40).upd u16).upd u17).ext x41).app g3 (fun j e => by have := ((Gx.own_ext (Gx.own_upd1 (Gx.own_upd1 (Gx.own_ext (Gx.own_ext (Gx.own_ext (Gx.own_upd1 (Gx.own_ext (Gx.own_upd1 (Gx.own_upd1 (Gx.own_upd1 (Gx.own_ext (Gx.own_upd1 (Gx.own_upd1 (Gx.own_upd1 (Gx.own_upd1 (Gx.own_upd1 how x5 (fun q e => by have := how.lt q e; omega)) x30 (fun q e => by have := how.lt q e; omega)) x31 (fun q e => by have := how.lt q e; omega)) x32 (fun q e => by have := how.lt q e; omega)) x33 (fun q e => by have := how.lt q e; omega)) x34) u14 (fun q e => by have := how.lt q e; omega)) x35 (fun q e => by have := how.lt q e; omega)) x36 (fun q e => by have := how.lt q e; omega)) x37) u15 (fun q e => by have := how.lt q e; omega)) x38) x39) x40) u16 (fun q e => by have := how.lt q e; omega)) u17 (fun q e => by have := how.lt q e; omega)) x41)).lt j e; have := (how).lt j e; first | (left; omega) | (right; left; omega))) (fun j e => by rcases hbx3 j e with q | q <;> omega)) (by omega) (by intro j hj; simp only [List.mem_cons, List.not_mem_nil, or_false] at hj ⊢; omega))))
    refine Z.p [5] [6] [(66, Z.P k2 4)] ?_
    refine Gx.cons (Gx.op_storeO rfl (by kernel_rfl) rfl 4 (v3) (by kernel_rfl) (by kernel_rfl) ((((((((((((((((((b6.upd1 x5).upd1 x30).upd1 x31).upd1 x32).upd1 x33).ext x34).upd1 u14).upd1 x35).upd1 x36).ext x37).upd1 u15).ext x38).ext x39).ext x40).upd1 u16).upd1 u17).ext x41).upd g3 (fun e => by have := (how).lt _ e.symm; omega)) (by kernel_rfl) (Gx.own_cells' owx3) (by kernel_rfl) #[.int .i64 0, .int .i64 0, .string Z.E, Z.n L.length, v3] (by kernel_rfl) (fun w62 u18 b57 => ?_))
    have zw62 := u18.size
    refine Z.e (Z.g [0, 1, 2, 3, 4] ?_)
    refine Z.p [0] [1, 2, 3, 4] [(67, Z.P k2 3)] ?_
    refine Z.L 3 (Z.n L.length) b57 ?_
    refine Gx.pure_eq [2] [3, 4] [(69, .int .i64 (IntKind.i64.wrap (((L.length : Nat) : Int) + (1 : Int))))] [(69, .int .i64 ((L.length + 1 : Nat) : Int))] rfl (by kernel_rfl) (Gx.eqI (Gx.i64n (by omega) (by omega))) ?_
    refine Z.p [3] [4] [(70, Z.P k2 3)] ?_
    refine Z.S 3 (.int .i64 ((L.length + 1 : Nat) : Int)) b57 #[.int .i64 0, .int .i64 0, .string Z.E, .int .i64 ((L.length + 1 : Nat) : Int), v3] (fun w63 u19 b58 zw63 => ?_)
    refine Gx.ops_nil (Gx.block_normal (Z.x ?_))
    rw [Gx.forget [(0, Z.P b 0), (2, Z.P k1 0), (3, Z.P k2 0)] (by kernel_rfl)]
    exact hK1 _ _ _ _ (by omega) ⟨i, q19, v3, (L ++ [((Nd.mk 1 p.a nm3 (0 : Int) [t5, t6]), (some (⟨k15, 0, none⟩ : Addr)), 2)]), rfl, rfl, (gb_new (gb_new (gb_app (gb_ext (gb_new (gb_new (gb_ext (gb_ext (gb_ext (gb_new (gb_ext (gb_upd (gb_upd (gb_new (gb_ext (gb_upd (gb_upd (gb_upd (gb_upd (gb_upd (gb_upd (gb_refl w b) x4) x5) x30) x31) x32) x33) x34) u14) x35) x36) x37) u15) x38) x39) x40) u16) u17) x41) g3 (fun j e => by have := ((Gx.own_ext (Gx.own_upd1 (Gx.own_upd1 (Gx.own_ext (Gx.own_ext (Gx.own_ext (Gx.own_upd1 (Gx.own_ext (Gx.own_upd1 (Gx.own_upd1 (Gx.own_upd1 (Gx.own_ext (Gx.own_upd1 (Gx.own_upd1 (Gx.own_upd1 (Gx.own_upd1 (Gx.own_upd1 how x5 (fun q e => by have := how.lt q e; omega)) x30 (fun q e => by have := how.lt q e; omega)) x31 (fun q e => by have := how.lt q e; omega)) x32 (fun q e => by have := how.lt q e; omega)) x33 (fun q e => by have := how.lt q e; omega)) x34) u14 (fun q e => by have := how.lt q e; omega)) x35 (fun q e => by have := how.lt q e; omega)) x36 (fun q e => by have := how.lt q e; omega)) x37) u15 (fun q e => by have := how.lt q e; omega)) x38) x39) x40) u16 (fun q e => by have := how.lt q e; omega)) u17 (fun q e => by have := how.lt q e; omega)) x41)).lt j e; omega)) u18) u19), (((((((((((b49.ext x37).upd1 u15).ext x38).ext x39).ext x40).upd1 u16).upd1 u17).ext x41).upd g3 (fun e => by have := (how).lt _ e.symm; omega)).upd1 u18).upd1 u19), ((((((((((((((((((((b5.upd1 x5).upd1 x30).upd1 x31).upd1 x32).upd1 x33).ext x34).upd1 u14).upd1 x35).upd1 x36).ext x37).upd1 u15).ext x38).ext x39).ext x40).upd1 u16).upd1 u17).ext x41).upd g3 (fun e => by have := (how).lt _ e.symm; omega)).upd1 u18).upd1 u19), (by rw [List.length_append]; exact b58), (by omega), (by omega), (by rw [← hr, run_succ]; simp only [stepN, opsLS, opsT, e1, e14, e15, e16, e17, e18, e19, h_c20, h_c29, h_c35, Z.ifs, reduceIte, nds_app, nds_cons, nds_nil, nds_len]), ok19, (Gx.own_upd1 (Gx.own_upd1 owx3 u18 (fun q e => by have := owx3.lt q e; omega)) u19 (fun q e => by have := owx3.lt q e; omega)), (fun p' h0 => KV.topV (((hkx3 p' h0).updV u18).updV u19) (by omega) (by intro j hj; simp only [List.mem_cons, List.not_mem_nil, or_false] at hj ⊢; omega)), (by rw [List.length_append]; show L.length + 1 + _ ≤ _; omega), (by omega), ⟨by omega, by omega⟩, (by omega)⟩
  refine wp_exit (Gx.then_exit (Gx.then_exit (Gx.block_exit (Z.x (wp_seq (wp_block ?_))))))
  have e20 : run S k (.opsL []) q = ((Nd.mk 0 0 Z.E ((L.length : Nat) : Int) (nds L)), p) := by rw [← hr, run_succ]; simp only [stepN, opsLS, opsT, h_c20, Z.ifs, reduceIte, nds_app, nds_cons, nds_nil, nds_len]
  refine Gx.loop (n' := 115) (d' := []) (fun mz l' w' => ∃ (jz : Nat) (pz : Rs) (vz : Value) (Lz : List (Nd × Option Addr × Nat)), l' = [(0, Z.P b 0), (2, Z.P k1 0), (3, Z.P k2 0)] ∧ mz = M S pz ∧ Gx.G w w' (some b) ∧ Gx.Has w' b (.cells #[.string S, Z.n pz.k, Z.n pz.a, .string pz.t, Z.n pz.n, Z.n pz.e, Z.n pz.fk, Z.n pz.fa, Z.n pz.x, Z.n pz.y] 41) ∧ Gx.Has w' k1 (.cells #[.int .i64 0, .int .i64 0, .string Z.E, .int .i64 0, .slice none 0 0] 24) ∧ Gx.Has w' k2 (.cells #[.int .i64 0, .int .i64 0, .string Z.E, Z.n L.length, vz] 24) ∧ (jz ≤ k) ∧ (16 * M S pz + 3 ≤ jz) ∧ (run S jz (.defsL L.length (nds Lz)) pz = run S k (.defsL L.length (nds L)) p) ∧ (Ok S pz) ∧ (w'.ownsRow (k2 + 1) 24 5 vz Lz.length (flat Lz)) ∧ (∀ p' ∈ Lz, KV (InV w.heap.size w'.heap.size [k1, k2] vz) w' p'.1.ks p'.2.1 p'.2.2) ∧ (Lz.length + M S pz ≤ 4000) ∧ (M S pz ≤ M S p) ∧ (pz.x = p.x ∧ pz.y = p.y) ∧ ((k2 + 1) ≤ w'.heap.size)) _ _ [(0, Z.P b 0), (2, Z.P k1 0), (3, Z.P k2 0)] (Gx.forget [(0, Z.P b 0), (2, Z.P k1 0), (3, Z.P k2 0)] (by kernel_rfl)) ⟨k, p, v, L, rfl, rfl, (gb_upd (gb_refl w b) x4), b4, b5, b6, (Nat.le_refl _), (by omega), rfl, ho, how, (fun p' h0 => KV.topV (hks p' h0) (by omega) (by intro j hj; simp only [List.mem_cons, List.not_mem_nil, or_false] at hj ⊢; omega)), (by omega), (Nat.le_refl _), ⟨rfl, rfl⟩, (by omega)⟩ (fun bb2 m21 ll2 w64 hI2 K2 hK2 => ?_)
  obtain ⟨jz, pz, vz, Lz, rfl, rfl, x42, b59, b60, b61, hjz, hmz, hrz, hoz, howz, hksz, hlenz, hMz, hxyz, hbsz⟩ := hI2
  have zw64 := x42.size
  have tb59 := b59.lt
  have tb60 := b60.lt
  have tb61 := b61.lt
  obtain ⟨iz, rfl⟩ : ∃ i, jz = i + 1 := ⟨jz - 1, by omega⟩
  refine wp_seq (Z.r [0, 1] ?_)
  refine Z.p [0] [1] [(71, Z.P b 0)] ?_
  refine Z.k (fun R hR => is_c b S pz (Z.B [100, 101, 102]) _ R b59 (hR _ _ ?_))
  refine Z.e (Z.c (isB pz (Z.B [100, 101, 102])) (fun h_c72 => ?_) (fun h_c72 => ?_))
  · skip
    refine wp_skip (Z.x (wp_block (Z.r [0, 1, 2, 3, 4, 5] ?_)))
    refine Z.p [0, 1, 2, 3] [4, 5] [(76, Z.P b 2), (75, Z.P b 1), (74, Z.P b 0), (73, Z.P b 0)] ?_
    refine Z.L 2 (Z.n pz.a) b59 ?_
    refine Z.p [5] [] [(11, Z.n pz.a)] ?_
    refine Z.e (Z.r [0, 1] ?_)
    refine Z.p [0] [1] [(78, Z.P b 0)] ?_
    refine Z.k (fun R hR => next_c b S pz _ R b59 hoz (fun w65 q20 e21 x43 b62 => hR _ _ ?_))
    have zw65 := x43.size
    have tb62 := b62.lt
    have tr20 : Tr S pz q20 := by rw [← e21]; exact next_tr hoz
    have lt4 : M S q20 < M S pz := by have := is_lt hoz h_c72; rw [e21] at this; exact this
    have ok20 := tr20.ok; have m22 := tr20.m; have tr20x := tr20.x; have tr20y := tr20.y
    refine Z.e (Z.s [(12, .int .i64 0)] ?_)
    refine wp_seq (Z.r [0, 1] ?_)
    refine Z.p [0] [1] [(80, Z.P b 0)] ?_
    refine Z.k (fun R hR => has_c b S q20 (Z.B [114, 101, 99]) _ R b62 ok20 (fun w66 q21 e22 x44 b63 => hR _ _ ?_))
    have zw66 := x44.size
    have tb63 := b63.lt
    obtain ⟨ok21, m23, tr21x, tr21y⟩ : Tr S q20 q21 := e22 ▸ has_tr ok20
    refine Z.e (Z.c (isB q20 (Z.B [114, 101, 99])) (fun h_c81 => ?_) (fun h_c81 => ?_))
    · skip
      refine Z.u [(12, .int .i64 1)] ?_
      refine Z.x (Z.r [0, 1, 2, 3, 4, 5, 6] ?_)
      refine Z.p [0] [1, 2, 3, 4, 5, 6] [(83, Z.P b 0)] ?_
      refine Z.k (fun R hR => name_c b S q21 _ R b63 ok21 (fun w67 nm4 na4 q22 e23 x45 b64 => hR _ _ ?_))
      have zw67 := x45.size
      have tb64 := b64.lt
      obtain ⟨ok22, m24, tr22x, tr22y⟩ : Tr S q21 q22 := by have := name_tr ok21; rw [e23] at this; exact this
      refine Z.p [2, 3, 4, 5, 6] [] [(14, Z.n na4), (13, .string nm4), (86, Z.n na4), (85, .string nm4), (82, .tuple #[.string nm4, Z.n na4])] ?_
      refine Z.e (Z.r [0, 1, 2, 3] ?_)
      refine Z.p [0] [1, 2, 3] [(87, Z.P b 0)] ?_
      have lt5 := (by have := has_lt ok20 h_c81; rw [e22] at this; exact this : M S q21 < M S q20)
      refine Z.k (fun R hR => (ih iz (by omega)).f_params b S q22 (Z.B [61]) true _ R b64 ok22 (by omega) (fun w68 t7 A7 c7 q23 e24 x46 b65 kv7 => hR _ _ ?_))
      have zw68 := x46.size
      have tb65 := b65.lt
      obtain ⟨ok23, m25, tr23x, tr23y⟩ : Tr S q22 q23 := run_facts ok22 e24
      refine Z.N (.cells #[.int .i64 0, .int .i64 0, .string Z.E, .int .i64 0, .slice none 0 0] 24) (fun k18 w69 l18 x47 b66 zw69 tb66 => ?_)
      refine Z.Sa #[Z.n t7.k, Z.n t7.a, .string t7.nm, .int .i64 t7.n, .slice A7 t7.ks.length c7] b66 (fun w70 u20 b67 zw70 => ?_)
      refine Z.e (Z.r [0, 1, 2, 3, 4, 5, 6] ?_)
      refine Z.p [0, 1] [2, 3, 4, 5, 6] [(90, .string nm4), (89, Z.n pz.a)] ?_
      refine Z.L 0 (.agg #[Z.n t7.k, Z.n t7.a, .string t7.nm, .int .i64 t7.n, .slice A7 t7.ks.length c7]) b67 ?_
      refine Z.R (.cells #[Z.n t7.k, Z.n t7.a, .string t7.nm, .int .i64 t7.n, .slice A7 t7.ks.length c7] 24) 1 1 (fun k19 w71 l19 x48 b68 zw71 tb68 => ?_)
      refine Z.k (fun R hR => named_c (2 : Int) ((pz.a : Nat) : Int) nm4 (some (⟨k19, 0, none⟩ : Addr)) 1 1 _ R (fun w72 x49 => hR _ _ ?_))
      have zw72 := x49.size
      refine Z.N (.cells #[.int .i64 0, .int .i64 0, .string Z.E, .int .i64 0, .slice none 0 0] 24) (fun k20 w73 l20 x50 b69 zw73 tb69 => ?_)
      refine Z.Sa #[.int .i64 2, Z.n pz.a, .string nm4, .int .i64 0, .slice (some ⟨k19, 0, none⟩) 1 1] b69 (fun w74 u21 b70 zw74 => ?_)
      refine Z.e (Z.r [0, 1, 2] ?_)
      refine Z.p [0, 1] [2] [(95, Z.P k20 3), (94, .int .i64 1)] ?_
      refine Z.S 3 (.int .i64 1) b70 #[.int .i64 2, Z.n pz.a, .string nm4, .int .i64 1, .slice (some ⟨k19, 0, none⟩) 1 1] (fun w75 u22 b71 zw75 => ?_)
      refine Z.e (Z.g [0, 1, 2, 3, 4, 5, 6] ?_)
      refine Z.p [0] [1, 2, 3, 4, 5, 6] [(96, Z.P k2 4)] ?_
      refine Z.L 4 (vz) (((((((((((b61.upd1 x43).upd1 x44).upd1 x45).upd1 x46).ext x47).upd1 u20).ext x48).ext x49).ext x50).upd1 u21).upd1 u22) ?_
      refine Z.L 0 (.agg #[.int .i64 2, Z.n pz.a, .string nm4, .int .i64 1, .slice (some ⟨k19, 0, none⟩) 1 1]) b71 ?_
      refine Z.R (.cells #[.int .i64 2, Z.n pz.a, .string nm4, .int .i64 1, .slice (some ⟨k19, 0, none⟩) 1 1] 24) 1 1 (fun k21 w76 l21 x51 b72 zw76 tb72 => ?_)
      refine Gx.cons (Gx.op_appendAt rfl (by kernel_rfl) rfl 24 5 64 (by kernel_rfl) (by kernel_rfl) (by kernel_rfl) ((k2 + 1)) (by kernel_rfl) (Gx.own_ext (Gx.own_upd1 (Gx.own_upd1 (Gx.own_ext (Gx.own_ext (Gx.own_ext (Gx.own_upd1 (Gx.own_ext (Gx.own_upd1 (Gx.own_upd1 (Gx.own_upd1 (Gx.own_upd1 howz x43 (fun q e => by have := howz.lt q e; omega)) x44 (fun q e => by have := howz.lt q e; omega)) x45 (fun q e => by have := howz.lt q e; omega)) x46 (fun q e => by have := howz.lt q e; omega)) x47) u20 (fun q e => by have := howz.lt q e; omega)) x48) x49) x50) u21 (fun q e => by have := howz.lt q e; omega)) u22 (fun q e => by have := howz.lt q e; omega)) x51) 0 1 1 (by kernel_rfl) b72 [.int .i64 2, Z.n pz.a, .string nm4, .int .i64 1, .slice (some ⟨k19, 0, none⟩) 1 1] rfl rfl (List.all_eq_true.1 rfl) (by unfold maxLen; omega) (by omega) (by omega) (fun v4 w77 ow4 g4 nl4 => ?_))
      have zw77 := g4.size
      have hbx4 : ∀ j, v4.ownBlock = some j → (j < w64.heap.size ∧ (k2 + 1) ≤ j) ∨ j = w76.heap.size := fun j e => by rcases nl4 with q | q; (rw [q] at e; have := (howz).lt j e; exact .inl ⟨by omega, by omega⟩); (rw [q] at e; cases e; exact .inr rfl)
      have owx4 : w77.ownsRow (k2 + 1) 24 5 v4 (Lz ++ [((Nd.mk 2 pz.a nm4 (1 : Int) [t7]), (some (⟨k19, 0, none⟩ : Addr)), 1)]).length (flat (Lz ++ [((Nd.mk 2 pz.a nm4 (1 : Int) [t7]), (some (⟨k19, 0, none⟩ : Addr)), 1)])) := by rw [flat_snoc, List.length_append]; exact ow4
      have hkx4 : ∀ p' ∈ (Lz ++ [((Nd.mk 2 pz.a nm4 (1 : Int) [t7]), (some (⟨k19, 0, none⟩ : Addr)), 1)]), KV (InV w.heap.size w77.heap.size [k1, k2] v4) w77 p'.1.ks p'.2.1 p'.2.2 := by intro p' hp'; simp only [List.mem_append, List.mem_cons, List.not_mem_nil, or_false] at hp'; rcases hp' with h0 | rfl; exact (KV.topV ((((((((((((((((hksz p' h0).updV x43).updV x44).updV x45).updV x46).extV x47).updV u20).extV x48).extV x49).extV x50).updV u21).updV u22).extV x51)).appV g4).toV nl4 (by omega)) (by omega) (by intro j hj; simp only [List.mem_cons, List.not_mem_nil, or_false] at hj ⊢; omega)); exact (KV.of_row [(t7, A7, c7)] (n := 5) ((((((b68.ext x49).ext x50).upd1 u21).upd1 u22).ext x51).upd g4 (fun e => by have := (howz).lt _ e.symm; omega)) rfl ⟨⟨by omega, by omega, (by simp only [List.mem_cons, List.not_mem_nil, or_false, not_or]; omega)⟩, fun e => by rcases hbx4 _ e with q | q <;> omega⟩ (by intro p hp; simp only [List.mem_cons, List.not_mem_nil, or_false] at hp; subst hp; exact (KV.topV (KV.ofIn (((((((((kv7.ext x47).upd u20).ext x48).ext x49).ext x50).upd u21).upd u22).ext x51).app g4 (fun j e => by have := ((Gx.own_ext (Gx.own_upd1 (Gx.own_upd1 (Gx.own_ext (Gx.own_ext (Gx.own_ext (Gx.own_upd1 (Gx.own_ext (Gx.own_upd1 (Gx.own_upd1 (Gx.own_upd1 (Gx.own_upd1 howz x43 (fun q e => by have := howz.lt q e; omega)) x44 (fun q e => by have := howz.lt q e; omega)) x45 (fun q e => by have := howz.lt q e; omega)) x46 (fun q e => by have := howz.lt q e; omega)) x47) u20 (fun q e => by have := howz.lt q e; omega)) x48) x49) x50) u21 (fun q e => by have := howz.lt q e; omega)) u22 (fun q e => by have := howz.lt q e; omega)) x51)).lt j e; have := (howz).lt j e; first | (left; omega) | (right; left; omega))) (fun j e => by rcases hbx4 j e with q | q <;> omega)) (by omega) (by intro j hj; simp only [List.mem_cons, List.not_mem_nil, or_false] at hj ⊢; omega))))
      refine Z.p [5] [6] [(101, Z.P k2 4)] ?_
      refine Gx.cons (Gx.op_storeO rfl (by kernel_rfl) rfl 4 (v4) (by kernel_rfl) (by kernel_rfl) (((((((((((((b61.upd1 x43).upd1 x44).upd1 x45).upd1 x46).ext x47).upd1 u20).ext x48).ext x49).ext x50).upd1 u21).upd1 u22).ext x51).upd g4 (fun e => by have := (howz).lt _ e.symm; omega)) (by kernel_rfl) (Gx.own_cells' owx4) (by kernel_rfl) #[.int .i64 0, .int .i64 0, .string Z.E, Z.n L.length, v4] (by kernel_rfl) (fun w78 u23 b73 => ?_))
      have zw78 := u23.size
      refine Gx.ops_nil (Gx.block_normal (Z.x ?_))
      rw [Gx.forget [(0, Z.P b 0), (2, Z.P k1 0), (3, Z.P k2 0)] (by kernel_rfl)]
      exact hK2 _ _ _ _ (by omega) ⟨iz, q23, v4, (Lz ++ [((Nd.mk 2 pz.a nm4 (1 : Int) [t7]), (some (⟨k19, 0, none⟩ : Addr)), 1)]), rfl, rfl, (gb_new (gb_app (gb_ext (gb_new (gb_new (gb_ext (gb_ext (gb_ext (gb_new (gb_ext (gb_upd (gb_upd (gb_upd (gb_upd (gb_upd (gb_refl w b) x42) x43) x44) x45) x46) x47) u20) x48) x49) x50) u21) u22) x51) g4 (fun j e => by have := ((Gx.own_ext (Gx.own_upd1 (Gx.own_upd1 (Gx.own_ext (Gx.own_ext (Gx.own_ext (Gx.own_upd1 (Gx.own_ext (Gx.own_upd1 (Gx.own_upd1 (Gx.own_upd1 (Gx.own_upd1 howz x43 (fun q e => by have := howz.lt q e; omega)) x44 (fun q e => by have := howz.lt q e; omega)) x45 (fun q e => by have := howz.lt q e; omega)) x46 (fun q e => by have := howz.lt q e; omega)) x47) u20 (fun q e => by have := howz.lt q e; omega)) x48) x49) x50) u21 (fun q e => by have := howz.lt q e; omega)) u22 (fun q e => by have := howz.lt q e; omega)) x51)).lt j e; omega)) u23), ((((((((((b65.ext x47).upd1 u20).ext x48).ext x49).ext x50).upd1 u21).upd1 u22).ext x51).upd g4 (fun e => by have := (howz).lt _ e.symm; omega)).upd1 u23), ((((((((((((((b60.upd1 x43).upd1 x44).upd1 x45).upd1 x46).ext x47).upd1 u20).ext x48).ext x49).ext x50).upd1 u21).upd1 u22).ext x51).upd g4 (fun e => by have := (howz).lt _ e.symm; omega)).upd1 u23), b73, (by omega), (by omega), (by rw [← hrz, run_succ]; simp only [stepN, defsLS, defsT, e21, e22, e23, e24, h_c20, h_c72, h_c81, Z.ifs, reduceIte, nds_app, nds_cons, nds_nil, nds_len]), ok23, (Gx.own_upd1 owx4 u23 (fun q e => by have := owx4.lt q e; omega)), (fun p' h0 => KV.topV ((hkx4 p' h0).updV u23) (by omega) (by intro j hj; simp only [List.mem_cons, List.not_mem_nil, or_false] at hj ⊢; omega)), (by rw [List.length_append]; show Lz.length + 1 + _ ≤ _; omega), (by omega), ⟨by omega, by omega⟩, (by omega)⟩
    refine wp_skip (Z.x (Z.r [0, 1, 2, 3, 4, 5, 6] ?_))
    refine Z.p [0] [1, 2, 3, 4, 5, 6] [(83, Z.P b 0)] ?_
    refine Z.k (fun R hR => name_c b S q21 _ R b63 ok21 (fun w79 nm5 na5 q24 e25 x52 b74 => hR _ _ ?_))
    have zw79 := x52.size
    have tb74 := b74.lt
    obtain ⟨ok24, m26, tr24x, tr24y⟩ : Tr S q21 q24 := by have := name_tr ok21; rw [e25] at this; exact this
    refine Z.p [2, 3, 4, 5, 6] [] [(14, Z.n na5), (13, .string nm5), (86, Z.n na5), (85, .string nm5), (82, .tuple #[.string nm5, Z.n na5])] ?_
    refine Z.e (Z.r [0, 1, 2, 3] ?_)
    refine Z.p [0] [1, 2, 3] [(87, Z.P b 0)] ?_
    refine Z.k (fun R hR => (ih iz (by omega)).f_params b S q24 (Z.B [61]) true _ R b74 ok24 (by omega) (fun w80 t8 A8 c8 q25 e26 x53 b75 kv8 => hR _ _ ?_))
    have zw80 := x53.size
    have tb75 := b75.lt
    obtain ⟨ok25, m27, tr25x, tr25y⟩ : Tr S q24 q25 := run_facts ok24 e26
    refine Z.N (.cells #[.int .i64 0, .int .i64 0, .string Z.E, .int .i64 0, .slice none 0 0] 24) (fun k22 w81 l22 x54 b76 zw81 tb76 => ?_)
    refine Z.Sa #[Z.n t8.k, Z.n t8.a, .string t8.nm, .int .i64 t8.n, .slice A8 t8.ks.length c8] b76 (fun w82 u24 b77 zw82 => ?_)
    refine Z.e (Z.r [0, 1, 2, 3, 4, 5, 6] ?_)
    refine Z.p [0, 1] [2, 3, 4, 5, 6] [(90, .string nm5), (89, Z.n pz.a)] ?_
    refine Z.L 0 (.agg #[Z.n t8.k, Z.n t8.a, .string t8.nm, .int .i64 t8.n, .slice A8 t8.ks.length c8]) b77 ?_
    refine Z.R (.cells #[Z.n t8.k, Z.n t8.a, .string t8.nm, .int .i64 t8.n, .slice A8 t8.ks.length c8] 24) 1 1 (fun k23 w83 l23 x55 b78 zw83 tb78 => ?_)
    refine Z.k (fun R hR => named_c (2 : Int) ((pz.a : Nat) : Int) nm5 (some (⟨k23, 0, none⟩ : Addr)) 1 1 _ R (fun w84 x56 => hR _ _ ?_))
    have zw84 := x56.size
    refine Z.N (.cells #[.int .i64 0, .int .i64 0, .string Z.E, .int .i64 0, .slice none 0 0] 24) (fun k24 w85 l24 x57 b79 zw85 tb79 => ?_)
    refine Z.Sa #[.int .i64 2, Z.n pz.a, .string nm5, .int .i64 0, .slice (some ⟨k23, 0, none⟩) 1 1] b79 (fun w86 u25 b80 zw86 => ?_)
    refine Z.e (Z.r [0, 1, 2] ?_)
    refine Z.p [0, 1] [2] [(95, Z.P k24 3), (94, .int .i64 0)] ?_
    refine Z.S 3 (.int .i64 0) b80 #[.int .i64 2, Z.n pz.a, .string nm5, .int .i64 0, .slice (some ⟨k23, 0, none⟩) 1 1] (fun w87 u26 b81 zw87 => ?_)
    refine Z.e (Z.g [0, 1, 2, 3, 4, 5, 6] ?_)
    refine Z.p [0] [1, 2, 3, 4, 5, 6] [(96, Z.P k2 4)] ?_
    refine Z.L 4 (vz) (((((((((((b61.upd1 x43).upd1 x44).upd1 x52).upd1 x53).ext x54).upd1 u24).ext x55).ext x56).ext x57).upd1 u25).upd1 u26) ?_
    refine Z.L 0 (.agg #[.int .i64 2, Z.n pz.a, .string nm5, .int .i64 0, .slice (some ⟨k23, 0, none⟩) 1 1]) b81 ?_
    refine Z.R (.cells #[.int .i64 2, Z.n pz.a, .string nm5, .int .i64 0, .slice (some ⟨k23, 0, none⟩) 1 1] 24) 1 1 (fun k25 w88 l25 x58 b82 zw88 tb82 => ?_)
    refine Gx.cons (Gx.op_appendAt rfl (by kernel_rfl) rfl 24 5 64 (by kernel_rfl) (by kernel_rfl) (by kernel_rfl) ((k2 + 1)) (by kernel_rfl) (Gx.own_ext (Gx.own_upd1 (Gx.own_upd1 (Gx.own_ext (Gx.own_ext (Gx.own_ext (Gx.own_upd1 (Gx.own_ext (Gx.own_upd1 (Gx.own_upd1 (Gx.own_upd1 (Gx.own_upd1 howz x43 (fun q e => by have := howz.lt q e; omega)) x44 (fun q e => by have := howz.lt q e; omega)) x52 (fun q e => by have := howz.lt q e; omega)) x53 (fun q e => by have := howz.lt q e; omega)) x54) u24 (fun q e => by have := howz.lt q e; omega)) x55) x56) x57) u25 (fun q e => by have := howz.lt q e; omega)) u26 (fun q e => by have := howz.lt q e; omega)) x58) 0 1 1 (by kernel_rfl) b82 [.int .i64 2, Z.n pz.a, .string nm5, .int .i64 0, .slice (some ⟨k23, 0, none⟩) 1 1] rfl rfl (List.all_eq_true.1 rfl) (by unfold maxLen; omega) (by omega) (by omega) (fun v5 w89 ow5 g5 nl5 => ?_))
    have zw89 := g5.size
    have hbx5 : ∀ j, v5.ownBlock = some j → (j < w64.heap.size ∧ (k2 + 1) ≤ j) ∨ j = w88.heap.size := fun j e => by rcases nl5 with q | q; (rw [q] at e; have := (howz).lt j e; exact .inl ⟨by omega, by omega⟩); (rw [q] at e; cases e; exact .inr rfl)
    have owx5 : w89.ownsRow (k2 + 1) 24 5 v5 (Lz ++ [((Nd.mk 2 pz.a nm5 (0 : Int) [t8]), (some (⟨k23, 0, none⟩ : Addr)), 1)]).length (flat (Lz ++ [((Nd.mk 2 pz.a nm5 (0 : Int) [t8]), (some (⟨k23, 0, none⟩ : Addr)), 1)])) := by rw [flat_snoc, List.length_append]; exact ow5
    have hkx5 : ∀ p' ∈ (Lz ++ [((Nd.mk 2 pz.a nm5 (0 : Int) [t8]), (some (⟨k23, 0, none⟩ : Addr)), 1)]), KV (InV w.heap.size w89.heap.size [k1, k2] v5) w89 p'.1.ks p'.2.1 p'.2.2 := by intro p' hp'; simp only [List.mem_append, List.mem_cons, List.not_mem_nil, or_false] at hp'; rcases hp' with h0 | rfl; exact (KV.topV ((((((((((((((((hksz p' h0).updV x43).updV x44).updV x52).updV x53).extV x54).updV u24).extV x55).extV x56).extV x57).updV u25).updV u26).extV x58)).appV g5).toV nl5 (by omega)) (by omega) (by intro j hj; simp only [List.mem_cons, List.not_mem_nil, or_false] at hj ⊢; omega)); exact (KV.of_row [(t8, A8, c8)] (n := 5) ((((((b78.ext x56).ext x57).upd1 u25).upd1 u26).ext x58).upd g5 (fun e => by have := (howz).lt _ e.symm; omega)) rfl ⟨⟨by omega, by omega, (by simp only [List.mem_cons, List.not_mem_nil, or_false, not_or]; omega)⟩, fun e => by rcases hbx5 _ e with q | q <;> omega⟩ (by intro p hp; simp only [List.mem_cons, List.not_mem_nil, or_false] at hp; subst hp; exact (KV.topV (KV.ofIn (((((((((kv8.ext x54).upd u24).ext x55).ext x56).ext x57).upd u25).upd u26).ext x58).app g5 (fun j e => by have := ((Gx.own_ext (Gx.own_upd1 (Gx.own_upd1 (Gx.own_ext (Gx.own_ext (Gx.own_ext (Gx.own_upd1 (Gx.own_ext (Gx.own_upd1 (Gx.own_upd1 (Gx.own_upd1 (Gx.own_upd1 howz x43 (fun q e => by have := howz.lt q e; omega)) x44 (fun q e => by have := howz.lt q e; omega)) x52 (fun q e => by have := howz.lt q e; omega)) x53 (fun q e => by have := howz.lt q e; omega)) x54) u24 (fun q e => by have := howz.lt q e; omega)) x55) x56) x57) u25 (fun q e => by have := howz.lt q e; omega)) u26 (fun q e => by have := howz.lt q e; omega)) x58)).lt j e; have := (howz).lt j e; first | (left; omega) | (right; left; omega))) (fun j e => by rcases hbx5 j e with q | q <;> omega)) (by omega) (by intro j hj; simp only [List.mem_cons, List.not_mem_nil, or_false] at hj ⊢; omega))))
    refine Z.p [5] [6] [(101, Z.P k2 4)] ?_
    refine Gx.cons (Gx.op_storeO rfl (by kernel_rfl) rfl 4 (v5) (by kernel_rfl) (by kernel_rfl) (((((((((((((b61.upd1 x43).upd1 x44).upd1 x52).upd1 x53).ext x54).upd1 u24).ext x55).ext x56).ext x57).upd1 u25).upd1 u26).ext x58).upd g5 (fun e => by have := (howz).lt _ e.symm; omega)) (by kernel_rfl) (Gx.own_cells' owx5) (by kernel_rfl) #[.int .i64 0, .int .i64 0, .string Z.E, Z.n L.length, v5] (by kernel_rfl) (fun w90 u27 b83 => ?_))
    have zw90 := u27.size
    refine Gx.ops_nil (Gx.block_normal (Z.x ?_))
    rw [Gx.forget [(0, Z.P b 0), (2, Z.P k1 0), (3, Z.P k2 0)] (by kernel_rfl)]
    exact hK2 _ _ _ _ (by omega) ⟨iz, q25, v5, (Lz ++ [((Nd.mk 2 pz.a nm5 (0 : Int) [t8]), (some (⟨k23, 0, none⟩ : Addr)), 1)]), rfl, rfl, (gb_new (gb_app (gb_ext (gb_new (gb_new (gb_ext (gb_ext (gb_ext (gb_new (gb_ext (gb_upd (gb_upd (gb_upd (gb_upd (gb_upd (gb_refl w b) x42) x43) x44) x52) x53) x54) u24) x55) x56) x57) u25) u26) x58) g5 (fun j e => by have := ((Gx.own_ext (Gx.own_upd1 (Gx.own_upd1 (Gx.own_ext (Gx.own_ext (Gx.own_ext (Gx.own_upd1 (Gx.own_ext (Gx.own_upd1 (Gx.own_upd1 (Gx.own_upd1 (Gx.own_upd1 howz x43 (fun q e => by have := howz.lt q e; omega)) x44 (fun q e => by have := howz.lt q e; omega)) x52 (fun q e => by have := howz.lt q e; omega)) x53 (fun q e => by have := howz.lt q e; omega)) x54) u24 (fun q e => by have := howz.lt q e; omega)) x55) x56) x57) u25 (fun q e => by have := howz.lt q e; omega)) u26 (fun q e => by have := howz.lt q e; omega)) x58)).lt j e; omega)) u27), ((((((((((b75.ext x54).upd1 u24).ext x55).ext x56).ext x57).upd1 u25).upd1 u26).ext x58).upd g5 (fun e => by have := (howz).lt _ e.symm; omega)).upd1 u27), ((((((((((((((b60.upd1 x43).upd1 x44).upd1 x52).upd1 x53).ext x54).upd1 u24).ext x55).ext x56).ext x57).upd1 u25).upd1 u26).ext x58).upd g5 (fun e => by have := (howz).lt _ e.symm; omega)).upd1 u27), b83, (by omega), (by omega), (by rw [← hrz, run_succ]; simp only [stepN, defsLS, defsT, e21, e22, e25, e26, h_c20, h_c72, h_c81, Z.ifs, reduceIte, nds_app, nds_cons, nds_nil, nds_len]), ok25, (Gx.own_upd1 owx5 u27 (fun q e => by have := owx5.lt q e; omega)), (fun p' h0 => KV.topV ((hkx5 p' h0).updV u27) (by omega) (by intro j hj; simp only [List.mem_cons, List.not_mem_nil, or_false] at hj ⊢; omega)), (by rw [List.length_append]; show Lz.length + 1 + _ ≤ _; omega), (by omega), ⟨by omega, by omega⟩, (by omega)⟩
  refine wp_exit (Gx.then_exit (Gx.then_exit (Gx.block_exit (Z.x ?_))))
  have e27 : run S k (.defsL L.length (nds L)) p = ((Nd.mk 0 0 Z.E ((L.length : Nat) : Int) (nds Lz)), pz) := by rw [← hrz, run_succ]; simp only [stepN, defsLS, defsT, h_c20, h_c72, Z.ifs, reduceIte, nds_app, nds_cons, nds_nil, nds_len]
  refine Z.r [0, 1] ?_
  refine Z.p [0] [1] [(102, Z.P b 0)] ?_
  refine Z.k (fun R hR => must_c b S pz (Z.B [109, 97, 105, 110]) _ R b59 hoz (fun w91 q26 e28 x59 b84 => hR _ _ ?_))
  have zw91 := x59.size
  have tb84 := b84.lt
  obtain ⟨ok26, m28, tr26x, tr26y⟩ : Tr S pz q26 := e28 ▸ must_tr hoz
  refine Z.e (Z.r [0, 1] ?_)
  refine Z.p [0] [1] [(104, Z.P b 0)] ?_
  refine Z.k (fun R hR => must_c b S q26 (Z.B [61]) _ R b84 ok26 (fun w92 q27 e29 x60 b85 => hR _ _ ?_))
  have zw92 := x60.size
  have tb85 := b85.lt
  obtain ⟨ok27, m29, tr27x, tr27y⟩ : Tr S q26 q27 := e29 ▸ must_tr ok26
  refine Z.e (Z.r [0, 1, 2, 3] ?_)
  refine Z.p [0] [1, 2, 3] [(106, Z.P b 0)] ?_
  refine Z.k (fun R hR => (ih k (Nat.le_refl k)).f_expr b S q27 _ R b85 ok27 (by omega) (fun w93 t9 A9 c9 q28 e30 x61 b86 kv9 => hR _ _ ?_))
  have zw93 := x61.size
  have tb86 := b86.lt
  obtain ⟨ok28, m30, tr28x, tr28y⟩ : Tr S q27 q28 := run_facts ok27 e30
  refine Z.N (.cells #[.int .i64 0, .int .i64 0, .string Z.E, .int .i64 0, .slice none 0 0] 24) (fun k26 w94 l26 x62 b87 zw94 tb87 => ?_)
  refine Z.Sa #[Z.n t9.k, Z.n t9.a, .string t9.nm, .int .i64 t9.n, .slice A9 t9.ks.length c9] b87 (fun w95 u28 b88 zw95 => ?_)
  refine Z.e (Z.r [0, 1, 2, 3, 4, 5, 6] ?_)
  refine Z.p [0] [1, 2, 3, 4, 5, 6] [(108, Z.P k2 4)] ?_
  refine Z.L 4 (vz) (((((b61.upd1 x59).upd1 x60).upd1 x61).ext x62).upd1 u28) ?_
  refine Z.L 0 (.agg #[Z.n t9.k, Z.n t9.a, .string t9.nm, .int .i64 t9.n, .slice A9 t9.ks.length c9]) b88 ?_
  refine Z.R (.cells #[Z.n t9.k, Z.n t9.a, .string t9.nm, .int .i64 t9.n, .slice A9 t9.ks.length c9] 24) 1 1 (fun k27 w96 l27 x63 b89 zw96 tb89 => ?_)
  refine Gx.cons (Gx.op_appendAt rfl (by kernel_rfl) rfl 24 5 64 (by kernel_rfl) (by kernel_rfl) (by kernel_rfl) ((k2 + 1)) (by kernel_rfl) (Gx.own_ext (Gx.own_upd1 (Gx.own_ext (Gx.own_upd1 (Gx.own_upd1 (Gx.own_upd1 howz x59 (fun q e => by have := howz.lt q e; omega)) x60 (fun q e => by have := howz.lt q e; omega)) x61 (fun q e => by have := howz.lt q e; omega)) x62) u28 (fun q e => by have := howz.lt q e; omega)) x63) 0 1 1 (by kernel_rfl) b89 [Z.n t9.k, Z.n t9.a, .string t9.nm, .int .i64 t9.n, .slice A9 t9.ks.length c9] rfl rfl (List.all_eq_true.1 rfl) (by unfold maxLen; omega) (by omega) (by omega) (fun v6 w97 ow6 g6 nl6 => ?_))
  have zw97 := g6.size
  have hbx6 : ∀ j, v6.ownBlock = some j → (j < w64.heap.size ∧ (k2 + 1) ≤ j) ∨ j = w96.heap.size := fun j e => by rcases nl6 with q | q; (rw [q] at e; have := (howz).lt j e; exact .inl ⟨by omega, by omega⟩); (rw [q] at e; cases e; exact .inr rfl)
  have owx6 : w97.ownsRow (k2 + 1) 24 5 v6 (Lz ++ [(t9, A9, c9)]).length (flat (Lz ++ [(t9, A9, c9)])) := by rw [flat_snoc, List.length_append]; exact ow6
  have hkx6 : ∀ p' ∈ (Lz ++ [(t9, A9, c9)]), KV (InV w.heap.size w97.heap.size [k1, k2] v6) w97 p'.1.ks p'.2.1 p'.2.2 := by intro p' hp'; simp only [List.mem_append, List.mem_cons, List.not_mem_nil, or_false] at hp'; rcases hp' with h0 | rfl; exact (KV.topV ((((((((((hksz p' h0).updV x59).updV x60).updV x61).extV x62).updV u28).extV x63)).appV g6).toV nl6 (by omega)) (by omega) (by intro j hj; simp only [List.mem_cons, List.not_mem_nil, or_false] at hj ⊢; omega)); exact (KV.topV (KV.ofIn ((((kv9.ext x62).upd u28).ext x63).app g6 (fun j e => by have := ((Gx.own_ext (Gx.own_upd1 (Gx.own_ext (Gx.own_upd1 (Gx.own_upd1 (Gx.own_upd1 howz x59 (fun q e => by have := howz.lt q e; omega)) x60 (fun q e => by have := howz.lt q e; omega)) x61 (fun q e => by have := howz.lt q e; omega)) x62) u28 (fun q e => by have := howz.lt q e; omega)) x63)).lt j e; have := (howz).lt j e; first | (left; omega) | (right; left; omega))) (fun j e => by rcases hbx6 j e with q | q <;> omega)) (by omega) (by intro j hj; simp only [List.mem_cons, List.not_mem_nil, or_false] at hj ⊢; omega))
  refine Z.p [5] [6] [(113, Z.P k2 4)] ?_
  refine Gx.cons (Gx.op_storeO rfl (by kernel_rfl) rfl 4 (v6) (by kernel_rfl) (by kernel_rfl) (((((((b61.upd1 x59).upd1 x60).upd1 x61).ext x62).upd1 u28).ext x63).upd g6 (fun e => by have := (howz).lt _ e.symm; omega)) (by kernel_rfl) (Gx.own_cells' owx6) (by kernel_rfl) #[.int .i64 0, .int .i64 0, .string Z.E, Z.n L.length, v6] (by kernel_rfl) (fun w98 u29 b90 => ?_))
  have zw98 := u29.size
  refine Z.e ?_
  obtain ⟨A10, c10, rfl, kv10⟩ := KV.of_own (Q := In w.heap.size w98.heap.size [k1, k2]) (Lz ++ [(t9, A9, c9)]) (Gx.own_upd1 owx6 u29 (fun q e => by have := owx6.lt q e; omega)) (fun j e => by have := ((Gx.own_upd1 owx6 u29 (fun q e => by have := owx6.lt q e; omega))).lt j e; exact ⟨by omega, by omega, (by simp only [List.mem_cons, List.not_mem_nil, or_false, not_or]; omega)⟩) (fun p' h0 => ((fun p' h0 => KV.topV ((hkx6 p' h0).updV u29) (by omega) (by intro j hj; simp only [List.mem_cons, List.not_mem_nil, or_false] at hj ⊢; omega)) p' h0).noV)
  refine Z.r [0, 1] ?_
  refine Z.L 0 (.agg #[.int .i64 0, .int .i64 0, .string Z.E, Z.n L.length, .slice A10 ((nds (Lz ++ [(t9, A9, c9)])).length) c10]) b90 ?_
  refine Z.Sa #[.int .i64 0, .int .i64 0, .string Z.E, Z.n L.length, .slice A10 ((nds (Lz ++ [(t9, A9, c9)])).length) c10] ((((((((b60.upd1 x59).upd1 x60).upd1 x61).ext x62).upd1 u28).ext x63).upd g6 (fun e => by have := (howz).lt _ e.symm; omega)).upd1 u29) (fun w99 u30 b91 zw99 => ?_)
  refine Z.e (wp_ret (Gx.ret (Gx.res_c (u := .agg #[.int .i64 0, .int .i64 0, .string Z.E, Z.n L.length, .slice A10 ((nds (Lz ++ [(t9, A9, c9)])).length) c10]) rfl (by kernel_rfl) b91 (by kernel_rfl)) ?_))
  exact hK _ (Nd.mk 0 0 Z.E ((L.length : Nat) : Int) (nds (Lz ++ [(t9, A9, c9)]))) A10 c10 q28 (by rw [run_succ]; simp only [stepN, progS, Nd.ks, nds_app, nds_cons, nds_nil, nds_len, e20, e27, e28, e29, e30, h_c20, h_c72, Z.ifs, reduceIte]) (gb_new (gb_new (gb_app (gb_ext (gb_new (gb_ext (gb_upd (gb_upd (gb_upd (gb_upd (gb_refl w b) x42) x59) x60) x61) x62) u28) x63) g6 (fun j e => by have := ((Gx.own_ext (Gx.own_upd1 (Gx.own_ext (Gx.own_upd1 (Gx.own_upd1 (Gx.own_upd1 howz x59 (fun q e => by have := howz.lt q e; omega)) x60 (fun q e => by have := howz.lt q e; omega)) x61 (fun q e => by have := howz.lt q e; omega)) x62) u28 (fun q e => by have := howz.lt q e; omega)) x63)).lt j e; omega)) u29) u30) ((((((b86.ext x62).upd1 u28).ext x63).upd g6 (fun e => by have := (howz).lt _ e.symm; omega)).upd1 u29).upd1 u30) (KV.top (kv10.upd u30))
end Doc
end Go.Proofs.Ytinilkomfggjiaa
