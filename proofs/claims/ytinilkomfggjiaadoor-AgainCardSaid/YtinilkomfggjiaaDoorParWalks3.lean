/- The walks, written by a program of ours (wip/gx/gx.py, parsegen.py). -/
import Derived.Test.YtinilkomfggjiaaDoorRows
import Derived.Test.YtinilkomfggjiaaDoorGs
import Derived.Test.YtinilkomfggjiaaDoorGp
import Derived.Test.YtinilkomfggjiaaDoorZs
import Derived.Test.YtinilkomfggjiaaDoorLexWalks4
import Derived.Test.YtinilkomfggjiaaDoorParWalks2
set_option linter.unusedVariables false
set_option linter.unusedSimpArgs false
set_option maxHeartbeats 4000000
set_option maxRecDepth 20000
namespace Go.Proofs.YtinilkomfggjiaaDoor
namespace Par
open Go.RowKit Go.Lex Go.Syn
attribute [local irreducible] Go.wpOps Go.Code.wp Go.wpOp Go.wpAnyH Go.Calls
structure SpecP (k : Nat) : Prop where
  f_typ : ∀ (b : Nat) (S : ByteArray) (q : Rs)  (w : World) (K : Ending → World → Prop), Gx.Has w b (rdP S q) → Ok S q → q.fk = 0 → 16 * M S q + 11 ≤ k → (PQ w b K ((run S k .typ q).2)) → (KQ S w b K (run S k .typ q)) → Calls Tryd.prog 49 #[Z.P b 0] w K
  f_pair : ∀ (b : Nat) (S : ByteArray) (q : Rs)  (w : World) (K : Ending → World → Prop), Gx.Has w b (rdP S q) → Ok S q → q.fk = 0 → 16 * M S q + 10 ≤ k → (PQ w b K ((run S k .pair q).2)) → (KQ S w b K (run S k .pair q)) → Calls Tryd.prog 90 #[Z.P b 0] w K
  f_some : ∀ (b : Nat) (S : ByteArray) (q : Rs)  (w : World) (K : Ending → World → Prop), Gx.Has w b (rdP S q) → Ok S q → q.fk = 0 → 16 * M S q + 9 ≤ k → (PQ w b K ((run S k .some q).2)) → (KQ S w b K (run S k .some q)) → Calls Tryd.prog 97 #[Z.P b 0] w K
  f_expr : ∀ (b : Nat) (S : ByteArray) (q : Rs)  (w : World) (K : Ending → World → Prop), Gx.Has w b (rdP S q) → Ok S q → q.fk = 0 → 16 * M S q + 11 ≤ k → (PQ w b K ((run S k .expr q).2)) → (KQ S w b K (run S k .expr q)) → Calls Tryd.prog 51 #[Z.P b 0] w K
  f_any : ∀ (b : Nat) (S : ByteArray) (q : Rs)  (w : World) (K : Ending → World → Prop), Gx.Has w b (rdP S q) → Ok S q → q.fk = 0 → 16 * M S q + 10 ≤ k → (PQ w b K ((run S k .any q).2)) → (KQ S w b K (run S k .any q)) → Calls Tryd.prog 76 #[Z.P b 0] w K
  f_params : ∀ (b : Nat) (S : ByteArray) (q : Rs) (sign : ByteArray) (w : World) (K : Ending → World → Prop), Gx.Has w b (rdP S q) → Ok S q → q.fk = 0 → 16 * M S q + 12 ≤ k → (PQ w b K ((run S k (.params sign true) q).2)) → (KQ S w b K (run S k (.params sign true) q)) → Calls Tryd.prog 50 #[Z.P b 0, .string sign] w K
  f_letN : ∀ (b : Nat) (S : ByteArray) (q : Rs) (at_ : Nat) (w : World) (K : Ending → World → Prop), Gx.Has w b (rdP S q) → Ok S q → q.fk = 0 → 16 * M S q + 13 ≤ k → (PQ w b K ((run S k (.letN at_) q).2)) → (KQ S w b K (run S k (.letN at_) q)) → Calls Tryd.prog 98 #[Z.P b 0, Z.n at_] w K
  f_cases : ∀ (b : Nat) (S : ByteArray) (q : Rs) (at_ : Nat) (w : World) (K : Ending → World → Prop), Gx.Has w b (rdP S q) → Ok S q → q.fk = 0 → 16 * M S q + 13 ≤ k → (PQ w b K ((run S k (.cases at_) q).2)) → (KQ S w b K (run S k (.cases at_) q)) → Calls Tryd.prog 101 #[Z.P b 0, Z.n at_] w K
  f_b0 : ∀ (b : Nat) (S : ByteArray) (q : Rs)  (w : World) (K : Ending → World → Prop), Gx.Has w b (rdP S q) → Ok S q → q.fk = 0 → 16 * M S q + 9 ≤ k → (PQ w b K ((run S k .comp q).2)) → (KQ S w b K (run S k .comp q)) → Calls Tryd.prog 92 #[Z.P b 0, .int .i64 0] w K
  f_b1 : ∀ (b : Nat) (S : ByteArray) (q : Rs)  (w : World) (K : Ending → World → Prop), Gx.Has w b (rdP S q) → Ok S q → q.fk = 0 → 16 * M S q + 8 ≤ k → (PQ w b K ((run S k .cons q).2)) → (KQ S w b K (run S k .cons q)) → Calls Tryd.prog 92 #[Z.P b 0, .int .i64 1] w K
  f_b2 : ∀ (b : Nat) (S : ByteArray) (q : Rs)  (w : World) (K : Ending → World → Prop), Gx.Has w b (rdP S q) → Ok S q → q.fk = 0 → 16 * M S q + 7 ≤ k → (PQ w b K ((run S k .sum q).2)) → (KQ S w b K (run S k .sum q)) → Calls Tryd.prog 92 #[Z.P b 0, .int .i64 2] w K
  f_b3 : ∀ (b : Nat) (S : ByteArray) (q : Rs)  (w : World) (K : Ending → World → Prop), Gx.Has w b (rdP S q) → Ok S q → q.fk = 0 → 16 * M S q + 6 ≤ k → (PQ w b K ((run S k .mul q).2)) → (KQ S w b K (run S k .mul q)) → Calls Tryd.prog 92 #[Z.P b 0, .int .i64 3] w K
  f_b4 : ∀ (b : Nat) (S : ByteArray) (q : Rs)  (w : World) (K : Ending → World → Prop), Gx.Has w b (rdP S q) → Ok S q → q.fk = 0 → 16 * M S q + 5 ≤ k → (PQ w b K ((run S k .app q).2)) → (KQ S w b K (run S k .app q)) → Calls Tryd.prog 92 #[Z.P b 0, .int .i64 4] w K
  f_atom : ∀ (b : Nat) (S : ByteArray) (q : Rs)  (w : World) (K : Ending → World → Prop), Gx.Has w b (rdP S q) → Ok S q → q.fk = 0 → 16 * M S q + 3 ≤ k → (PQ w b K ((run S k .atom q).2)) → (KQ S w b K (run S k .atom q)) → Calls Tryd.prog 113 #[Z.P b 0] w K
theorem pair_p (k : Nat) (b : Nat) (S : ByteArray) (q : Rs) (w : World) (K : Ending → World → Prop) (ih : ∀ j, j ≤ k → SpecP j) (hb : Gx.Has w b (rdP S q)) (hok : Ok S q) (f0 : q.fk = 0) (hmu : 16 * M S q + 10 ≤ k + 1) (hP : (PQ w b K ((run S (k + 1) .pair q).2))) (hK : ∀ w' t A c q', run S (k + 1) .pair q = (t, q') → q'.fk = 0 → Gx.G w w' (some b) → Gx.Has w' b (rdP S q') → KV (In w.heap.size w'.heap.size []) w' t.ks A c → K (.returned (.agg (Z.T t A c))) w') :
    Calls Tryd.prog 90 #[Z.P b 0] w K := by
  refine Z.en 16 Tryd.func90 ?_
  have tbb := hb.lt
  have kbq := (okB_iff q).2 f0
  refine Z.r [0] ?_
  refine Z.N Z.c0 (fun k1 w1 l1 x1 b1 zw1 tb1 => ?_)
  refine Z.e (Z.r [0, 1, 2, 3] ?_)
  refine Z.p [0] [1, 2, 3] [(4, Z.P b 0)] ?_
  have y1 := gb_ext (gb_refl w b) x1
  refine Z.kP (fun R hR hE => (ih k (Nat.le_refl k)).f_some b S q _ R (hb.ext x1) hok f0 (by omega) (fun w2 q1 e1 f1 x2 => hE _ _ (And.intro rfl (hP _ q1 (by rw [run_succ]; simp only [stepN, pairS, kbq, Z.ifs, reduceIte, e1, idl f1]) f1 (gb_upd y1 x2)))) (fun w2 t1 A1 c1 q1 e1 f1 x2 b2 kv1 => hR _ _ ?_))
  have zw2 := x2.size
  have tb2 := b2.lt
  have kbq1 := (okB_iff q1).2 f1
  obtain ⟨ok1, ok1m, ok1x, ok1y⟩ : Tr S q q1 := run_facts hok e1
  refine Z.N Z.c0 (fun k2 w3 l2 x3 b3 zw3 tb3 => ?_)
  refine Z.Sa (Z.T t1 A1 c1) b3 (fun w4 u1 b4 zw4 => ?_)
  refine Z.e (wp_seq (Z.r [0, 1] ?_))
  refine Z.p [0] [1] [(6, Z.P b 0)] ?_
  have y2 := gb_new (gb_ext (gb_upd y1 x2) x3) u1
  have y3 := Z.a kbq (Z.a e1 kbq1)
  refine Z.kP (fun R hR hE => eat_p b S q1 Z.k6 _ R ((b2.ext x3).upd1 u1) ok1 f1 (fun w5 q2 e2 f2 x4 => hE _ _ (And.intro rfl (hP _ q2 (by rw [run_succ]; simp only [stepN, pairS, y3, Z.ifs, reduceIte, e2, has_pan e2 f2 f1, idl f2]) f2 (gb_upd y2 x4)))) (fun w5 q2 e2 f2 x4 b5 => hR _ _ ?_))
  have zw5 := x4.size
  have tb5 := b5.lt
  obtain ⟨ok2, ok2m, ok2x, ok2y⟩ : Tr S q1 q2 := e2 ▸ has_tr ok1
  have kbq2 := (okB_iff q2).2 f2
  refine Z.e (Z.c (isB q1 Z.k6) (fun h_c7 => ?_) (fun h_c7 => ?_))
  · skip
    refine wp_seq (Z.D (fun w' => Gx.Has w' k2 (.cells (Z.T t1 A1 c1) 24)) (fun w6 x5 zw6 => ?_))
    have lt1 := (Z.lt ok1 h_c7 e2)
    refine Z.h ((b4.upd1 x4).ext x5) (fun hS1 => ?_)
    refine Z.t 0 (Z.P k2 1) hS1 ?_
    refine Z.tl 1 1 (Z.n t1.a) (fun _ hs => hs) hS1 ?_
    refine Z.tl 2 0 (.agg (Z.T t1 A1 c1)) (fun _ hs => hs) hS1 ?_
    refine Z.t 3 (Z.P b 0) hS1 ?_
    have y4 := gb_ext (gb_upd y2 x4) x5
    refine Z.oP 4 (fun R hR hE => (ih k (Nat.le_refl k)).f_pair b S q2 _ R (b5.ext x5) ok2 f2 (by omega) (fun w7 q3 e3 f3 x6 => hE _ _ (And.intro rfl (hP _ q3 (by rw [run_succ]; simp only [stepN, pairS, y3, e2, kbq2, h_c7, Z.ifs, reduceIte, e3, idl f3]) f3 (gb_upd y4 x6)))) (fun w7 t2 A2 c2 q3 e3 f3 x6 b6 kv2 => hR _ _ ⟨(((b4.upd1 x4).ext x5).upd1 x6), ?_⟩))
    have zw7 := x6.size
    have tb6 := b6.lt
    have kbq3 := (okB_iff q3).2 f3
    obtain ⟨ok3, ok3m, ok3x, ok3y⟩ : Tr S q2 q3 := run_facts ok2 e3
    have y5 := ((b4.upd1 x4).ext x5).upd1 x6
    refine Z.oR 5 (.cells #[Z.n t1.k, Z.n t1.a, .string t1.nm, .int .i64 t1.n, .slice A1 t1.ks.length c1, Z.n t2.k, Z.n t2.a, .string t2.nm, .int .i64 t2.n, .slice A2 t2.ks.length c2] 24) 2 2 (fun k3 w8 l3 x7 b7 => ⟨(y5.ext x7), ?_⟩)
    have zw8 := x7.size
    have tb7 := b7.lt
    refine Z.h (y5.ext x7) (fun hS2 => ?_)
    refine Z.t 6 (.agg #[.int .i64 28, Z.n t1.a, .string Z.E, .int .i64 0, .slice (some ⟨k3, 0, none⟩) 2 2]) hS2 ?_
    refine Z.oSa 7 #[.int .i64 28, Z.n t1.a, .string Z.E, .int .i64 0, .slice (some ⟨k3, 0, none⟩) 2 2] (((((((b1.upd1 x2).ext x3).upd1 u1).upd1 x4).ext x5).upd1 x6).ext x7) (fun w9 u2 b8 => ⟨((y5.ext x7).upd1 u2), ?_⟩)
    have zw9 := u2.size
    refine Z.q ?_
    refine Z.x (wp_ret (Gx.then_ret (Gx.ret (Gx.res_c (u := .agg #[.int .i64 28, Z.n t1.a, .string Z.E, .int .i64 0, .slice (some ⟨k3, 0, none⟩) 2 2]) rfl (by kernel_rfl) b8 (by kernel_rfl)) ?_)))
    exact hK _ (Nd.mk 28 t1.a Z.E (0 : Int) [t1, t2]) (some (⟨k3, 0, none⟩ : Addr)) 2 q3 (by rw [run_succ]; simp only [stepN, pairS, y3, e2, kbq2, e3, kbq3, h_c7, Z.ifs, reduceIte]) f3 (gb_new (gb_ext (gb_upd y4 x6) x7) u2) ((b6.ext x7).upd1 u2) (KV.of_row [(t1, A1, c1), (t2, A2, c2)] (n := 10) (b7.upd1 u2) rfl ⟨by omega, by omega, (fun hj => by cases hj)⟩ (by intro p hp; simp only [List.mem_cons, List.not_mem_nil, or_false] at hp; rcases hp with rfl | rfl; exact (KV.top (((((((kv1.ext x3).upd u1).upd x4).ext x5).upd x6).ext x7).upd u2)); exact (KV.top ((kv2.ext x7).upd u2))))
  refine wp_skip (Z.x (Z.r [0, 1] ?_))
  refine Z.L 0 (.agg (Z.T t1 A1 c1)) (b4.upd1 x4) ?_
  refine Z.Sa (Z.T t1 A1 c1) ((((b1.upd1 x2).ext x3).upd1 u1).upd1 x4) (fun w10 u3 b9 zw10 => ?_)
  refine Z.e (wp_ret (Gx.ret (Gx.res_c (u := .agg (Z.T t1 A1 c1)) rfl (by kernel_rfl) b9 (by kernel_rfl)) ?_))
  exact hK _ t1 A1 c1 q2 (by rw [run_succ]; simp only [stepN, pairS, y3, e2, kbq2, h_c7, Z.ifs, reduceIte]) f2 (gb_new (gb_upd y2 x4) u3) (b5.upd1 u3) (KV.top ((((kv1.ext x3).upd u1).upd x4).upd u3))
theorem some_kw (k : Nat) (b : Nat) (S : ByteArray) (q : Rs) (w : World) (K : Ending → World → Prop) (ih : ∀ j, j ≤ k → SpecP j) (hb : Gx.Has w b (rdP S q)) (hok : Ok S q) (f0 : q.fk = 0) (hmu : 16 * M S q + 9 ≤ k + 1) (kd : Nat) (hkd : (((kd : Nat) : Int) != (0 : Int)) = true) (hpv : plainV q.t = Z.n kd) (hrun : q.k = 3 → run S (k + 1) .some q = run S k (.listL (.mk kd q.a Z.E 0 [])) (nextR S q)) (hP : (PQ w b K ((run S (k + 1) .some q).2))) (hK : ∀ w' t A c q', run S (k + 1) .some q = (t, q') → q'.fk = 0 → Gx.G w w' (some b) → Gx.Has w' b (rdP S q') → KV (In w.heap.size w'.heap.size []) w' t.ks A c → K (.returned (.agg (Z.T t A c))) w') :
    Calls Tryd.prog 97 #[Z.P b 0] w K := by
  refine Z.en 47 Tryd.func97 ?_
  have tbb := hb.lt
  have kbq := (okB_iff q).2 f0
  refine Z.r [0] ?_
  refine Z.N Z.c0 (fun k1 w1 l1 x1 b1 zw1 tb1 => ?_)
  refine Z.e (Z.r [0] ?_)
  refine Z.N Z.c0 (fun k2 w2 l2 x2 b2 zw2 tb2 => ?_)
  refine Z.e (Z.r [0, 1, 2, 3, 4, 5, 6] ?_)
  refine Z.p [0, 1, 2, 3] [4, 5, 6] [(8, Z.P b 3), (7, Z.P b 1), (6, Z.P b 0), (5, Z.P b 0)] ?_
  refine Z.L 3 (.string q.t) ((hb.ext x1).ext x2) ?_
  refine Z.k (fun R hR => plain_v (s := q.t) (v := Z.n kd) hpv _ R (hR _ _ ?_))
  refine Z.p [6] [] [(4, Z.n kd)] ?_
  refine Z.e (wp_seq (wp_block (Z.r [0, 1, 2, 3, 4, 5, 6, 7, 8, 9, 10] ?_)))
  refine Z.p [0, 1, 2] [3, 4, 5, 6, 7, 8, 9, 10] [(22, .bool (((kd : Nat) : Int) != (0 : Int))), (21, .bool (((kd : Nat) : Int) != (0 : Int))), (20, Z.n kd)] ?_
  refine Gx.split (((kd : Nat) : Int) != (0 : Int)) (fun h_g22 => ?_) (fun h_g22 => ?_)
  · rw [h_g22]
    refine Z.p [3, 4, 5, 6] [7, 8, 9, 10] [(26, Z.P b 1), (25, Z.P b 1), (24, Z.P b 0), (23, Z.P b 0)] ?_
    refine Z.L 1 (Z.n q.k) ((hb.ext x1).ext x2) ?_
    refine Z.p [8, 9, 10] [] [(19, .bool (((q.k : Nat) : Int) == (3 : Int))), (29, .bool (((q.k : Nat) : Int) == (3 : Int))), (28, .bool (((q.k : Nat) : Int) == (3 : Int)))] ?_
    refine Z.e (Z.c (((q.k : Nat) : Int) == (3 : Int)) (fun h_c19 => ?_) (fun h_c19 => ?_))
    · skip
      refine Z.r [0, 1, 2, 3, 4, 5, 6, 7] ?_
      refine Z.p [0, 1, 2, 3, 4] [5, 6, 7] [(34, Z.P b 2), (33, Z.P b 1), (32, Z.P b 0), (31, Z.P b 0), (30, Z.n kd)] ?_
      refine Z.L 2 (Z.n q.a) ((hb.ext x1).ext x2) ?_
      refine Z.p [6] [7] [(36, .agg #[Z.n kd, Z.n q.a, .string Z.E, .int .i64 0, .slice none 0 0])] ?_
      refine Z.Sa #[Z.n kd, Z.n q.a, .string Z.E, .int .i64 0, .slice none 0 0] b2 (fun w3 u1 b3 zw3 => ?_)
      refine Z.e (Z.g [0, 1] ?_)
      refine Z.p [0] [1] [(37, Z.P b 0)] ?_
      have p_c19 := Gx.k1 h_c19
      have y1 := gb_new (gb_ext (gb_ext (gb_refl w b) x1) x2) u1
      have y2 := Z.a h_g22 h_c19
      refine Z.kP (fun R hR hE => advance_p b S q _ R (((hb.ext x1).ext x2).upd1 u1) hok f0 (fun w4 q1 e1 f1 x3 => hE _ _ (And.intro rfl (hP _ q1 (by rw [hrun (by omega)]; simp only [stepN, someS, kbq, y2, Z.ifs, reduceIte, e1, idl f1]) f1 (gb_upd y1 x3)))) (fun w4 q1 e1 f1 x3 b4 => hR _ _ ?_))
      have zw4 := x3.size
      have tb4 := b4.lt
      obtain ⟨ok1, ok1m, ok1x, ok1y⟩ : Tr S q q1 := e1 ▸ next_tr hok
      have kbq1 := (okB_iff q1).2 f1
      refine Gx.ops_nil (Gx.block_normal (Z.x (wp_seq (wp_block (Gx.loop (n' := 47) (d' := []) (fun mz l' w' => ∃ (j : Nat) (p : Rs) (a : Nd) (A : Option Addr) (c : Nat), l' = [(0, Z.P b 0), (2, Z.P k1 0), (3, Z.P k2 0)] ∧ mz = M S p ∧ Gx.G w w' (some b) ∧ Gx.Has w' b (.cells #[.string S, Z.n p.k, Z.n p.a, .string p.t, Z.n p.n, Z.n p.e, Z.n p.x, Z.n p.y] 54) ∧ Gx.Has w' k1 Z.c0 ∧ Gx.Has w' k2 (.cells (Z.T a A c) 24) ∧ (j ≤ k) ∧ (16 * M S p + 3 ≤ j) ∧ (run S j (.listL a) p = run S k (.listL (Nd.mk kd q.a Z.E (0 : Int) [])) q1) ∧ (Ok S p) ∧ (KV (In w.heap.size w'.heap.size [k1, k2]) w' a.ks A c) ∧ (p.fk = 0) ∧ (p.x = q1.x ∧ p.y = q1.y)) _ _ [(0, Z.P b 0), (2, Z.P k1 0), (3, Z.P k2 0)] (Gx.forget [(0, Z.P b 0), (2, Z.P k1 0), (3, Z.P k2 0)] (by kernel_rfl)) ⟨k, q1, (Nd.mk kd q.a Z.E (0 : Int) []), none, 0, rfl, rfl, (gb_upd y1 x3), b4, (((b1.ext x2).upd1 u1).upd1 x3), (b3.upd1 x3), (Nat.le_refl _), (by omega), rfl, ok1, KV.nil, f1, ⟨rfl, rfl⟩⟩ (fun bb1 m1 ll1 w5 hI1 K1 hK1 => ?_))))))
      obtain ⟨j, p, a, A, c, rfl, rfl, x4, b5, b6, b7, hj, hm, hr, ho, hkv, hf, hxy⟩ := hI1
      have zw5 := x4.size
      have tb5 := b5.lt
      have tb6 := b6.lt
      have tb7 := b7.lt
      obtain ⟨i, rfl⟩ : ∃ i, j = i + 1 := ⟨j - 1, by omega⟩
      have kbp := (okB_iff p).2 hf
      refine wp_seq (Z.r [0, 1] ?_)
      refine Z.p [0] [1] [(39, Z.P b 0)] ?_
      have y3 := gb_upd (gb_refl w b) x4
      refine Z.kP (fun R hR hE => eat_p b S p Z.k41 _ R b5 ho hf (fun w6 q2 e2 f2 x5 => hE _ _ (And.intro rfl (hP _ q2 (by have zl : (run S k (.listL (Nd.mk kd q.a Z.E (0 : Int) [])) q1).2 = q2 := (by rw [← hr, run_succ]; simp only [run_succ, stepN, listLS, kbp, y2, Z.ifs, reduceIte, e2, has_pan e2 f2 hf, idl f2]); rw [hrun (by omega)]; simp only [stepN, someS, kbq, e1, kbq1, y2, Z.ifs, reduceIte, zl, idl f2]) f2 (gb_upd y3 x5)))) (fun w6 q2 e2 f2 x5 b8 => hR _ _ ?_))
      have zw6 := x5.size
      have tb8 := b8.lt
      obtain ⟨ok2, ok2m, ok2x, ok2y⟩ : Tr S p q2 := e2 ▸ has_tr ho
      have kbq2 := (okB_iff q2).2 f2
      refine Z.e (Z.c (isB p Z.k41) (fun h_c40 => ?_) (fun h_c40 => ?_))
      · skip
        refine wp_skip (Z.x (wp_block (Z.g [0, 1, 2, 3, 4, 5] ?_)))
        refine Z.p [0] [1, 2, 3, 4, 5] [(41, Z.P k2 1)] ?_
        have lt1 := (Z.lt ho h_c40 e2)
        refine Z.L 1 (Z.n a.a) (b7.upd1 x5) ?_
        refine Z.L 0 (.agg (Z.T a A c)) (b7.upd1 x5) ?_
        refine Z.R (.cells (Z.T a A c) 24) 1 1 (fun k3 w7 l3 x6 b9 zw7 tb9 => ?_)
        refine Z.p [4] [5] [(45, .agg #[.int .i64 27, Z.n a.a, .string Z.E, .int .i64 0, .slice (some ⟨k3, 0, none⟩) 1 1])] ?_
        refine Z.Sa #[.int .i64 27, Z.n a.a, .string Z.E, .int .i64 0, .slice (some ⟨k3, 0, none⟩) 1 1] ((b7.upd1 x5).ext x6) (fun w8 u2 b10 zw8 => ?_)
        refine Gx.ops_nil (Gx.block_normal (Z.x ?_))
        rw [Gx.forget [(0, Z.P b 0), (2, Z.P k1 0), (3, Z.P k2 0)] (by kernel_rfl)]
        exact hK1 _ _ _ _ (by omega) ⟨i, q2, (Nd.mk 27 a.a Z.E (0 : Int) [a]), (some (⟨k3, 0, none⟩ : Addr)), 1, rfl, rfl, (gb_new (gb_ext (gb_upd y3 x5) x6) u2), ((b8.ext x6).upd1 u2), (((b6.upd1 x5).ext x6).upd1 u2), b10, (by omega), (by omega), (by rw [← hr, run_succ]; simp only [stepN, listLS, kbp, e2, kbq2, y2, h_c40, Z.ifs, reduceIte]), ok2, (KV.of_row [(a, A, c)] (n := 5) (b9.upd1 u2) rfl ⟨by omega, by omega, (by simp only [List.mem_cons, List.not_mem_nil, or_false, not_or]; omega)⟩ (by intro p hp; simp only [List.mem_cons, List.not_mem_nil, or_false] at hp; subst hp; exact (KV.top (((hkv.upd x5).ext x6).upd u2)))), f2, ⟨by omega, by omega⟩⟩
      refine wp_exit (Gx.then_exit (Gx.then_exit (Gx.block_exit (Z.x ?_))))
      have e3 : run S k (.listL (Nd.mk kd q.a Z.E (0 : Int) [])) q1 = (a, q2) := by rw [← hr, run_succ]; simp only [stepN, listLS, kbp, e2, kbq2, y2, h_c40, Z.ifs, reduceIte]
      refine Z.r [0, 1] ?_
      refine Z.L 0 (.agg (Z.T a A c)) (b7.upd1 x5) ?_
      refine Z.Sa (Z.T a A c) (b6.upd1 x5) (fun w9 u3 b11 zw9 => ?_)
      refine Z.e (wp_ret (Gx.ret (Gx.res_c (u := .agg (Z.T a A c)) rfl (by kernel_rfl) b11 (by kernel_rfl)) ?_))
      exact hK _ a A c q2 (by rw [hrun (by omega)]; simp only [stepN, someS, kbq, e1, kbq1, e3, y2, h_c40, Z.ifs, reduceIte]) f2 (gb_new (gb_upd y3 x5) u3) (b8.upd1 u3) (KV.top ((hkv.upd x5).upd u3))
    have p_c19 := Gx.k0 h_c19
    have kn0 : isB q Z.k23 = false := kw_no hok (by omega) (by decide); have kh0 : hasR S q Z.k23 = q := has_not rfl kn0
    have kn1 : isB q Z.k26 = false := kw_no hok (by omega) (by decide); have kh1 : hasR S q Z.k26 = q := has_not rfl kn1
    have kn2 : isB q Z.k31 = false := kw_no hok (by omega) (by decide); have kh2 : hasR S q Z.k31 = q := has_not rfl kn2
    refine Z.r [0, 1, 2] ?_
    refine Z.p [0] [1, 2] [(11, Z.P b 0)] ?_
    refine Z.R (.cells #[.string Z.k4] 9) 1 1 (fun k4 w10 l4 x7 b12 zw10 tb12 => ?_)
    have y4 := gb_ext (gb_ext (gb_ext (gb_refl w b) x1) x2) x7
    have y5 := Z.a kbq (Z.a kn0 (Z.a kh0 (Z.a kn1 (Z.a kh1 (Z.a kn2 kh2)))))
    have y6 := Z.a h_g22 h_c19
    refine Z.kP (fun R hR hE => need_p b S q [Z.k4] k4 1 _ R (((hb.ext x1).ext x2).ext x7) hok f0 b12 (by omega) (Nat.le_of_ble_eq_true rfl) (fun w11 q3 e4 f3 x8 => hE _ _ (And.intro rfl (hP _ q3 (by rcases must_pan e4 f0 with ⟨my, mh, mn⟩ | ⟨my, mh, mn⟩; all_goals (rw [run_succ]; simp only [stepN, someS, y5, y6, Z.ifs, reduceIte, (show mustR S q Z.k4 = q3 from e4), my, mh, mn, idl f3])) f3 (gb_upd y4 x8)))) (fun w11 q3 e4 f3 x8 b13 => hR _ _ ?_))
    have zw11 := x8.size
    have tb13 := b13.lt
    obtain ⟨ok3, ok3m, ok3x, ok3y⟩ : Tr S q q3 := e4 ▸ musts_tr _ hok
    have e4 : mustR S q Z.k4 = q3 := e4
    have kbq3 := (okB_iff q3).2 f3
    obtain ⟨my1, mh1, mn1⟩ := must_ok e4 f0 f3
    have ml1 : M S q3 < M S q := by have := has_lt hok my1; rw [mh1] at this; exact this
    refine Z.e (Z.r [0, 1, 2] ?_)
    refine Z.p [0] [1, 2] [(14, Z.P b 0)] ?_
    have y7 := Z.a y5 (Z.a e4 (Z.a kbq3 (Z.a my1 (Z.a mh1 mn1))))
    refine Z.kP (fun R hR hE => (ih k (Nat.le_refl k)).f_typ b S q3 _ R b13 ok3 f3 (by omega) (fun w12 q4 e5 f4 x9 => hE _ _ (And.intro rfl (hP _ q4 (by rw [run_succ]; simp only [stepN, someS, y7, y6, Z.ifs, reduceIte, e5, idl f4]) f4 (gb_upd (gb_upd y4 x8) x9)))) (fun w12 t1 A1 c1 q4 e5 f4 x9 b14 kv1 => hR _ _ ?_))
    have zw12 := x9.size
    have tb14 := b14.lt
    have kbq4 := (okB_iff q4).2 f4
    obtain ⟨ok4, ok4m, ok4x, ok4y⟩ : Tr S q3 q4 := run_facts ok3 e5
    refine Z.Sa (Z.T t1 A1 c1) (((b2.ext x7).upd1 x8).upd1 x9) (fun w13 u4 b15 zw13 => ?_)
    refine Z.e (Z.g [0, 1, 2] ?_)
    refine Z.p [0] [1, 2] [(16, Z.P b 0)] ?_
    refine Z.R (.cells #[.string Z.k2] 9) 1 1 (fun k5 w14 l5 x10 b16 zw14 tb16 => ?_)
    have y8 := gb_ext (gb_new (gb_upd (gb_upd y4 x8) x9) u4) x10
    refine Z.kP (fun R hR hE => need_p b S q4 [Z.k2] k5 1 _ R ((b14.upd1 u4).ext x10) ok4 f4 b16 (by omega) (Nat.le_of_ble_eq_true rfl) (fun w15 q5 e6 f5 x11 => hE _ _ (And.intro rfl (hP _ q5 (by rw [run_succ]; simp only [stepN, someS, y7, e5, kbq4, y6, Z.ifs, reduceIte, (show mustR S q4 Z.k2 = q5 from e6), idl f5]) f5 (gb_upd y8 x11)))) (fun w15 q5 e6 f5 x11 b17 => hR _ _ ?_))
    have zw15 := x11.size
    have tb17 := b17.lt
    obtain ⟨ok5, ok5m, ok5x, ok5y⟩ : Tr S q4 q5 := e6 ▸ musts_tr _ ok4
    have e6 : mustR S q4 Z.k2 = q5 := e6
    have kbq5 := (okB_iff q5).2 f5
    refine Gx.ops_nil (Gx.block_normal (Z.x (wp_seq (wp_block (Gx.loop (n' := 47) (d' := []) (fun mz l' w' => ∃ (j : Nat) (p : Rs) (a : Nd) (A : Option Addr) (c : Nat), l' = [(0, Z.P b 0), (2, Z.P k1 0), (3, Z.P k2 0)] ∧ mz = M S p ∧ Gx.G w w' (some b) ∧ Gx.Has w' b (.cells #[.string S, Z.n p.k, Z.n p.a, .string p.t, Z.n p.n, Z.n p.e, Z.n p.x, Z.n p.y] 54) ∧ Gx.Has w' k1 Z.c0 ∧ Gx.Has w' k2 (.cells (Z.T a A c) 24) ∧ Gx.Has w' k4 (.cells #[.string Z.k4] 9) ∧ Gx.Has w' k5 (.cells #[.string Z.k2] 9) ∧ (j ≤ k) ∧ (16 * M S p + 3 ≤ j) ∧ (run S j (.listL a) p = run S k (.listL t1) q5) ∧ (Ok S p) ∧ (KV (In w.heap.size w'.heap.size [k1, k2]) w' a.ks A c) ∧ (p.fk = 0) ∧ (p.x = q5.x ∧ p.y = q5.y)) _ _ [(0, Z.P b 0), (2, Z.P k1 0), (3, Z.P k2 0)] (Gx.forget [(0, Z.P b 0), (2, Z.P k1 0), (3, Z.P k2 0)] (by kernel_rfl)) ⟨k, q5, t1, A1, c1, rfl, rfl, (gb_upd y8 x11), b17, (((((((b1.ext x2).ext x7).upd1 x8).upd1 x9).upd1 u4).ext x10).upd1 x11), ((b15.ext x10).upd1 x11), (((((b12.upd1 x8).upd1 x9).upd1 u4).ext x10).upd1 x11), (b16.upd1 x11), (Nat.le_refl _), (by omega), rfl, ok5, (KV.top (((kv1.upd u4).ext x10).upd x11)), f5, ⟨rfl, rfl⟩⟩ (fun bb2 m2 ll2 w16 hI2 K2 hK2 => ?_))))))
    obtain ⟨j, p, a, A, c, rfl, rfl, x12, b18, b19, b20, b21, b22, hj, hm, hr, ho, hkv, hf, hxy⟩ := hI2
    have zw16 := x12.size
    have tb18 := b18.lt
    have tb19 := b19.lt
    have tb20 := b20.lt
    have tb21 := b21.lt
    have tb22 := b22.lt
    obtain ⟨i, rfl⟩ : ∃ i, j = i + 1 := ⟨j - 1, by omega⟩
    have kbp := (okB_iff p).2 hf
    refine wp_seq (Z.r [0, 1] ?_)
    refine Z.p [0] [1] [(39, Z.P b 0)] ?_
    have y9 := gb_upd (gb_refl w b) x12
    refine Z.kP (fun R hR hE => eat_p b S p Z.k41 _ R b18 ho hf (fun w17 q6 e7 f6 x13 => hE _ _ (And.intro rfl (hP _ q6 (by have zl : (run S k (.listL t1) q5).2 = q6 := (by rw [← hr, run_succ]; simp only [run_succ, stepN, listLS, kbp, y6, Z.ifs, reduceIte, e7, has_pan e7 f6 hf, idl f6]); rw [run_succ]; simp only [stepN, someS, y7, e5, kbq4, e6, kbq5, y6, Z.ifs, reduceIte, zl, idl f6]) f6 (gb_upd y9 x13)))) (fun w17 q6 e7 f6 x13 b23 => hR _ _ ?_))
    have zw17 := x13.size
    have tb23 := b23.lt
    obtain ⟨ok6, ok6m, ok6x, ok6y⟩ : Tr S p q6 := e7 ▸ has_tr ho
    have kbq6 := (okB_iff q6).2 f6
    refine Z.e (Z.c (isB p Z.k41) (fun h_c40 => ?_) (fun h_c40 => ?_))
    · skip
      refine wp_skip (Z.x (wp_block (Z.g [0, 1, 2, 3, 4, 5] ?_)))
      refine Z.p [0] [1, 2, 3, 4, 5] [(41, Z.P k2 1)] ?_
      have lt2 := (Z.lt ho h_c40 e7)
      refine Z.L 1 (Z.n a.a) (b20.upd1 x13) ?_
      refine Z.L 0 (.agg (Z.T a A c)) (b20.upd1 x13) ?_
      refine Z.R (.cells (Z.T a A c) 24) 1 1 (fun k6 w18 l6 x14 b24 zw18 tb24 => ?_)
      refine Z.p [4] [5] [(45, .agg #[.int .i64 27, Z.n a.a, .string Z.E, .int .i64 0, .slice (some ⟨k6, 0, none⟩) 1 1])] ?_
      refine Z.Sa #[.int .i64 27, Z.n a.a, .string Z.E, .int .i64 0, .slice (some ⟨k6, 0, none⟩) 1 1] ((b20.upd1 x13).ext x14) (fun w19 u5 b25 zw19 => ?_)
      refine Gx.ops_nil (Gx.block_normal (Z.x ?_))
      rw [Gx.forget [(0, Z.P b 0), (2, Z.P k1 0), (3, Z.P k2 0)] (by kernel_rfl)]
      exact hK2 _ _ _ _ (by omega) ⟨i, q6, (Nd.mk 27 a.a Z.E (0 : Int) [a]), (some (⟨k6, 0, none⟩ : Addr)), 1, rfl, rfl, (gb_new (gb_ext (gb_upd y9 x13) x14) u5), ((b23.ext x14).upd1 u5), (((b19.upd1 x13).ext x14).upd1 u5), b25, (((b21.upd1 x13).ext x14).upd1 u5), (((b22.upd1 x13).ext x14).upd1 u5), (by omega), (by omega), (by rw [← hr, run_succ]; simp only [stepN, listLS, kbp, e7, kbq6, y6, h_c40, Z.ifs, reduceIte]), ok6, (KV.of_row [(a, A, c)] (n := 5) (b24.upd1 u5) rfl ⟨by omega, by omega, (by simp only [List.mem_cons, List.not_mem_nil, or_false, not_or]; omega)⟩ (by intro p hp; simp only [List.mem_cons, List.not_mem_nil, or_false] at hp; subst hp; exact (KV.top (((hkv.upd x13).ext x14).upd u5)))), f6, ⟨by omega, by omega⟩⟩
    refine wp_exit (Gx.then_exit (Gx.then_exit (Gx.block_exit (Z.x ?_))))
    have e8 : run S k (.listL t1) q5 = (a, q6) := by rw [← hr, run_succ]; simp only [stepN, listLS, kbp, e7, kbq6, y6, h_c40, Z.ifs, reduceIte]
    refine Z.r [0, 1] ?_
    refine Z.L 0 (.agg (Z.T a A c)) (b20.upd1 x13) ?_
    refine Z.Sa (Z.T a A c) (b19.upd1 x13) (fun w20 u6 b26 zw20 => ?_)
    refine Z.e (wp_ret (Gx.ret (Gx.res_c (u := .agg (Z.T a A c)) rfl (by kernel_rfl) b26 (by kernel_rfl)) ?_))
    exact hK _ a A c q6 (by rw [run_succ]; simp only [stepN, someS, y7, e5, kbq4, e6, kbq5, e8, y6, h_c40, Z.ifs, reduceIte]) f6 (gb_new (gb_upd y9 x13) u6) (b23.upd1 u6) (KV.top ((hkv.upd x13).upd u6))
  exact absurd (hkd.symm.trans h_g22) (by decide)
theorem some_no (k : Nat) (b : Nat) (S : ByteArray) (q : Rs) (w : World) (K : Ending → World → Prop) (ih : ∀ j, j ≤ k → SpecP j) (hb : Gx.Has w b (rdP S q)) (hok : Ok S q) (f0 : q.fk = 0) (hmu : 16 * M S q + 9 ≤ k + 1) (ht0 : (q.t.toList == Z.k23.toList) = false) (ht1 : (q.t.toList == Z.k26.toList) = false) (ht2 : (q.t.toList == Z.k31.toList) = false) (hP : (PQ w b K ((run S (k + 1) .some q).2))) (hK : ∀ w' t A c q', run S (k + 1) .some q = (t, q') → q'.fk = 0 → Gx.G w w' (some b) → Gx.Has w' b (rdP S q') → KV (In w.heap.size w'.heap.size []) w' t.ks A c → K (.returned (.agg (Z.T t A c))) w') :
    Calls Tryd.prog 97 #[Z.P b 0] w K := by
  refine Z.en 47 Tryd.func97 ?_
  have tbb := hb.lt
  have kbq := (okB_iff q).2 f0
  have kn0 := kw_ne' ht0; have kh0 : hasR S q Z.k23 = q := has_not rfl kn0
  have kn1 := kw_ne' ht1; have kh1 : hasR S q Z.k26 = q := has_not rfl kn1
  have kn2 := kw_ne' ht2; have kh2 : hasR S q Z.k31 = q := has_not rfl kn2
  refine Z.r [0] ?_
  refine Z.N Z.c0 (fun k1 w1 l1 x1 b1 zw1 tb1 => ?_)
  refine Z.e (Z.r [0] ?_)
  refine Z.N Z.c0 (fun k2 w2 l2 x2 b2 zw2 tb2 => ?_)
  refine Z.e (Z.r [0, 1, 2, 3, 4, 5, 6] ?_)
  refine Z.p [0, 1, 2, 3] [4, 5, 6] [(8, Z.P b 3), (7, Z.P b 1), (6, Z.P b 0), (5, Z.P b 0)] ?_
  refine Z.L 3 (.string q.t) ((hb.ext x1).ext x2) ?_
  refine Z.k (fun R hR => plain_v (s := q.t) (v := .int .i64 0) (by simp only [plainV, ht0, ht1, ht2, if_true, if_false, Bool.false_eq_true, reduceIte]) _ R (hR _ _ ?_))
  refine Z.p [6] [] [(4, .int .i64 0)] ?_
  refine Z.e (wp_seq (wp_block (Z.sf [(19, .bool false), (29, .bool false), (28, undef), (27, undef), (26, undef), (25, undef), (24, undef), (23, undef), (22, .bool false), (21, .bool false), (20, .int .i64 0)] ?_)))
  refine Z.r [0, 1, 2] ?_
  refine Z.p [0] [1, 2] [(11, Z.P b 0)] ?_
  refine Z.R (.cells #[.string Z.k4] 9) 1 1 (fun k3 w3 l3 x3 b3 zw3 tb3 => ?_)
  have y1 := gb_ext (gb_ext (gb_ext (gb_refl w b) x1) x2) x3
  have y2 := Z.a kbq (Z.a kn0 (Z.a kh0 (Z.a kn1 (Z.a kh1 (Z.a kn2 kh2)))))
  refine Z.kP (fun R hR hE => need_p b S q [Z.k4] k3 1 _ R (((hb.ext x1).ext x2).ext x3) hok f0 b3 (by omega) (Nat.le_of_ble_eq_true rfl) (fun w4 q1 e1 f1 x4 => hE _ _ (And.intro rfl (hP _ q1 (by rcases must_pan e1 f0 with ⟨my, mh, mn⟩ | ⟨my, mh, mn⟩; all_goals (rw [run_succ]; simp only [stepN, someS, y2, Z.ifs, reduceIte, (show mustR S q Z.k4 = q1 from e1), my, mh, mn, idl f1])) f1 (gb_upd y1 x4)))) (fun w4 q1 e1 f1 x4 b4 => hR _ _ ?_))
  have zw4 := x4.size
  have tb4 := b4.lt
  obtain ⟨ok1, ok1m, ok1x, ok1y⟩ : Tr S q q1 := e1 ▸ musts_tr _ hok
  have e1 : mustR S q Z.k4 = q1 := e1
  have kbq1 := (okB_iff q1).2 f1
  obtain ⟨my1, mh1, mn1⟩ := must_ok e1 f0 f1
  have ml1 : M S q1 < M S q := by have := has_lt hok my1; rw [mh1] at this; exact this
  refine Z.e (Z.r [0, 1, 2] ?_)
  refine Z.p [0] [1, 2] [(14, Z.P b 0)] ?_
  have y3 := Z.a y2 (Z.a e1 (Z.a kbq1 (Z.a my1 (Z.a mh1 mn1))))
  refine Z.kP (fun R hR hE => (ih k (Nat.le_refl k)).f_typ b S q1 _ R b4 ok1 f1 (by omega) (fun w5 q2 e2 f2 x5 => hE _ _ (And.intro rfl (hP _ q2 (by rw [run_succ]; simp only [stepN, someS, y3, Z.ifs, reduceIte, e2, idl f2]) f2 (gb_upd (gb_upd y1 x4) x5)))) (fun w5 t1 A1 c1 q2 e2 f2 x5 b5 kv1 => hR _ _ ?_))
  have zw5 := x5.size
  have tb5 := b5.lt
  have kbq2 := (okB_iff q2).2 f2
  obtain ⟨ok2, ok2m, ok2x, ok2y⟩ : Tr S q1 q2 := run_facts ok1 e2
  refine Z.Sa (Z.T t1 A1 c1) (((b2.ext x3).upd1 x4).upd1 x5) (fun w6 u1 b6 zw6 => ?_)
  refine Z.e (Z.g [0, 1, 2] ?_)
  refine Z.p [0] [1, 2] [(16, Z.P b 0)] ?_
  refine Z.R (.cells #[.string Z.k2] 9) 1 1 (fun k4 w7 l4 x6 b7 zw7 tb7 => ?_)
  have y4 := gb_ext (gb_new (gb_upd (gb_upd y1 x4) x5) u1) x6
  refine Z.kP (fun R hR hE => need_p b S q2 [Z.k2] k4 1 _ R ((b5.upd1 u1).ext x6) ok2 f2 b7 (by omega) (Nat.le_of_ble_eq_true rfl) (fun w8 q3 e3 f3 x7 => hE _ _ (And.intro rfl (hP _ q3 (by rw [run_succ]; simp only [stepN, someS, y3, e2, kbq2, Z.ifs, reduceIte, (show mustR S q2 Z.k2 = q3 from e3), idl f3]) f3 (gb_upd y4 x7)))) (fun w8 q3 e3 f3 x7 b8 => hR _ _ ?_))
  have zw8 := x7.size
  have tb8 := b8.lt
  obtain ⟨ok3, ok3m, ok3x, ok3y⟩ : Tr S q2 q3 := e3 ▸ musts_tr _ ok2
  have e3 : mustR S q2 Z.k2 = q3 := e3
  have kbq3 := (okB_iff q3).2 f3
  refine Gx.ops_nil (Gx.block_normal (Z.x (wp_seq (wp_block (Gx.loop (n' := 47) (d' := []) (fun mz l' w' => ∃ (j : Nat) (p : Rs) (a : Nd) (A : Option Addr) (c : Nat), l' = [(0, Z.P b 0), (2, Z.P k1 0), (3, Z.P k2 0)] ∧ mz = M S p ∧ Gx.G w w' (some b) ∧ Gx.Has w' b (.cells #[.string S, Z.n p.k, Z.n p.a, .string p.t, Z.n p.n, Z.n p.e, Z.n p.x, Z.n p.y] 54) ∧ Gx.Has w' k1 Z.c0 ∧ Gx.Has w' k2 (.cells (Z.T a A c) 24) ∧ Gx.Has w' k3 (.cells #[.string Z.k4] 9) ∧ Gx.Has w' k4 (.cells #[.string Z.k2] 9) ∧ (j ≤ k) ∧ (16 * M S p + 3 ≤ j) ∧ (run S j (.listL a) p = run S k (.listL t1) q3) ∧ (Ok S p) ∧ (KV (In w.heap.size w'.heap.size [k1, k2]) w' a.ks A c) ∧ (p.fk = 0) ∧ (p.x = q3.x ∧ p.y = q3.y)) _ _ [(0, Z.P b 0), (2, Z.P k1 0), (3, Z.P k2 0)] (Gx.forget [(0, Z.P b 0), (2, Z.P k1 0), (3, Z.P k2 0)] (by kernel_rfl)) ⟨k, q3, t1, A1, c1, rfl, rfl, (gb_upd y4 x7), b8, (((((((b1.ext x2).ext x3).upd1 x4).upd1 x5).upd1 u1).ext x6).upd1 x7), ((b6.ext x6).upd1 x7), (((((b3.upd1 x4).upd1 x5).upd1 u1).ext x6).upd1 x7), (b7.upd1 x7), (Nat.le_refl _), (by omega), rfl, ok3, (KV.top (((kv1.upd u1).ext x6).upd x7)), f3, ⟨rfl, rfl⟩⟩ (fun bb1 m1 ll1 w9 hI1 K1 hK1 => ?_))))))
  obtain ⟨j, p, a, A, c, rfl, rfl, x8, b9, b10, b11, b12, b13, hj, hm, hr, ho, hkv, hf, hxy⟩ := hI1
  have zw9 := x8.size
  have tb9 := b9.lt
  have tb10 := b10.lt
  have tb11 := b11.lt
  have tb12 := b12.lt
  have tb13 := b13.lt
  obtain ⟨i, rfl⟩ : ∃ i, j = i + 1 := ⟨j - 1, by omega⟩
  have kbp := (okB_iff p).2 hf
  refine wp_seq (Z.r [0, 1] ?_)
  refine Z.p [0] [1] [(39, Z.P b 0)] ?_
  have y5 := gb_upd (gb_refl w b) x8
  refine Z.kP (fun R hR hE => eat_p b S p Z.k41 _ R b9 ho hf (fun w10 q4 e4 f4 x9 => hE _ _ (And.intro rfl (hP _ q4 (by have zl : (run S k (.listL t1) q3).2 = q4 := (by rw [← hr, run_succ]; simp only [run_succ, stepN, listLS, kbp, Z.ifs, reduceIte, e4, has_pan e4 f4 hf, idl f4]); rw [run_succ]; simp only [stepN, someS, y3, e2, kbq2, e3, kbq3, Z.ifs, reduceIte, zl, idl f4]) f4 (gb_upd y5 x9)))) (fun w10 q4 e4 f4 x9 b14 => hR _ _ ?_))
  have zw10 := x9.size
  have tb14 := b14.lt
  obtain ⟨ok4, ok4m, ok4x, ok4y⟩ : Tr S p q4 := e4 ▸ has_tr ho
  have kbq4 := (okB_iff q4).2 f4
  refine Z.e (Z.c (isB p Z.k41) (fun h_c40 => ?_) (fun h_c40 => ?_))
  · skip
    refine wp_skip (Z.x (wp_block (Z.g [0, 1, 2, 3, 4, 5] ?_)))
    refine Z.p [0] [1, 2, 3, 4, 5] [(41, Z.P k2 1)] ?_
    have lt1 := (Z.lt ho h_c40 e4)
    refine Z.L 1 (Z.n a.a) (b11.upd1 x9) ?_
    refine Z.L 0 (.agg (Z.T a A c)) (b11.upd1 x9) ?_
    refine Z.R (.cells (Z.T a A c) 24) 1 1 (fun k5 w11 l5 x10 b15 zw11 tb15 => ?_)
    refine Z.p [4] [5] [(45, .agg #[.int .i64 27, Z.n a.a, .string Z.E, .int .i64 0, .slice (some ⟨k5, 0, none⟩) 1 1])] ?_
    refine Z.Sa #[.int .i64 27, Z.n a.a, .string Z.E, .int .i64 0, .slice (some ⟨k5, 0, none⟩) 1 1] ((b11.upd1 x9).ext x10) (fun w12 u2 b16 zw12 => ?_)
    refine Gx.ops_nil (Gx.block_normal (Z.x ?_))
    rw [Gx.forget [(0, Z.P b 0), (2, Z.P k1 0), (3, Z.P k2 0)] (by kernel_rfl)]
    exact hK1 _ _ _ _ (by omega) ⟨i, q4, (Nd.mk 27 a.a Z.E (0 : Int) [a]), (some (⟨k5, 0, none⟩ : Addr)), 1, rfl, rfl, (gb_new (gb_ext (gb_upd y5 x9) x10) u2), ((b14.ext x10).upd1 u2), (((b10.upd1 x9).ext x10).upd1 u2), b16, (((b12.upd1 x9).ext x10).upd1 u2), (((b13.upd1 x9).ext x10).upd1 u2), (by omega), (by omega), (by rw [← hr, run_succ]; simp only [stepN, listLS, kbp, e4, kbq4, h_c40, Z.ifs, reduceIte]), ok4, (KV.of_row [(a, A, c)] (n := 5) (b15.upd1 u2) rfl ⟨by omega, by omega, (by simp only [List.mem_cons, List.not_mem_nil, or_false, not_or]; omega)⟩ (by intro p hp; simp only [List.mem_cons, List.not_mem_nil, or_false] at hp; subst hp; exact (KV.top (((hkv.upd x9).ext x10).upd u2)))), f4, ⟨by omega, by omega⟩⟩
  refine wp_exit (Gx.then_exit (Gx.then_exit (Gx.block_exit (Z.x ?_))))
  have e5 : run S k (.listL t1) q3 = (a, q4) := by rw [← hr, run_succ]; simp only [stepN, listLS, kbp, e4, kbq4, h_c40, Z.ifs, reduceIte]
  refine Z.r [0, 1] ?_
  refine Z.L 0 (.agg (Z.T a A c)) (b11.upd1 x9) ?_
  refine Z.Sa (Z.T a A c) (b10.upd1 x9) (fun w13 u3 b17 zw13 => ?_)
  refine Z.e (wp_ret (Gx.ret (Gx.res_c (u := .agg (Z.T a A c)) rfl (by kernel_rfl) b17 (by kernel_rfl)) ?_))
  exact hK _ a A c q4 (by rw [run_succ]; simp only [stepN, someS, y3, e2, kbq2, e3, kbq3, e5, h_c40, Z.ifs, reduceIte]) f4 (gb_new (gb_upd y5 x9) u3) (b14.upd1 u3) (KV.top ((hkv.upd x9).upd u3))
theorem some_0 {S : ByteArray} {q : Rs} {k : Nat} (ky : isB q Z.k23 = true) : run S (k + 1) .some q = run S k (.listL (.mk 24 q.a Z.E 0 [])) (nextR S q) := by
  rw [run_succ]
  simp only [stepN, someS, ky, hasR, if_true, if_false, Bool.false_eq_true, reduceIte]
theorem some_1 {S : ByteArray} {q : Rs} {k : Nat} (kn0 : isB q Z.k23 = false) (ky : isB q Z.k26 = true) : run S (k + 1) .some q = run S k (.listL (.mk 25 q.a Z.E 0 [])) (nextR S q) := by
  rw [run_succ]
  simp only [stepN, someS, kn0, ky, hasR, if_true, if_false, Bool.false_eq_true, reduceIte]
theorem some_2 {S : ByteArray} {q : Rs} {k : Nat} (kn0 : isB q Z.k23 = false) (kn1 : isB q Z.k26 = false) (ky : isB q Z.k31 = true) : run S (k + 1) .some q = run S k (.listL (.mk 26 q.a Z.E 0 [])) (nextR S q) := by
  rw [run_succ]
  simp only [stepN, someS, kn0, kn1, ky, hasR, if_true, if_false, Bool.false_eq_true, reduceIte]
theorem some_p (k : Nat) (b : Nat) (S : ByteArray) (q : Rs) (w : World) (K : Ending → World → Prop) (ih : ∀ j, j ≤ k → SpecP j) (hb : Gx.Has w b (rdP S q)) (hok : Ok S q) (f0 : q.fk = 0) (hmu : 16 * M S q + 9 ≤ k + 1) (hP : (PQ w b K ((run S (k + 1) .some q).2))) (hK : ∀ w' t A c q', run S (k + 1) .some q = (t, q') → q'.fk = 0 → Gx.G w w' (some b) → Gx.Has w' b (rdP S q') → KV (In w.heap.size w'.heap.size []) w' t.ks A c → K (.returned (.agg (Z.T t A c))) w') : Calls Tryd.prog 97 #[Z.P b 0] w K := by
  rcases Bool.eq_false_or_eq_true (q.t.toList == Z.k23.toList) with h0 | h0
  · exact some_kw k b S q w K ih hb hok f0 hmu 24 rfl (by simp only [plainV, h0, if_true, if_false, Bool.false_eq_true, reduceIte]; rfl) (fun h3 => some_0 (kw_yes f0 h3 h0)) hP hK
  rcases Bool.eq_false_or_eq_true (q.t.toList == Z.k26.toList) with h1 | h1
  · exact some_kw k b S q w K ih hb hok f0 hmu 25 rfl (by simp only [plainV, h0, h1, if_true, if_false, Bool.false_eq_true, reduceIte]; rfl) (fun h3 => some_1 (kw_ne h1 (by kernel_rfl)) (kw_yes f0 h3 h1)) hP hK
  rcases Bool.eq_false_or_eq_true (q.t.toList == Z.k31.toList) with h2 | h2
  · exact some_kw k b S q w K ih hb hok f0 hmu 26 rfl (by simp only [plainV, h0, h1, h2, if_true, if_false, Bool.false_eq_true, reduceIte]; rfl) (fun h3 => some_2 (kw_ne h2 (by kernel_rfl)) (kw_ne h2 (by kernel_rfl)) (kw_yes f0 h3 h2)) hP hK
  exact some_no k b S q w K ih hb hok f0 hmu h0 h1 h2 hP hK
theorem arrow_p (k : Nat) (b : Nat) (S : ByteArray) (q : Rs) (w : World) (K : Ending → World → Prop) (ih : ∀ j, j ≤ k → SpecP j) (hb : Gx.Has w b (rdP S q)) (hok : Ok S q) (f0 : q.fk = 0) (hmu : 16 * M S q + 10 ≤ k) (hP : (PQ w b K ((arrowR S k q).2))) (hK : ∀ w' t A c q', arrowR S k q = (t, q') → q'.fk = 0 → Gx.G w w' (some b) → Gx.Has w' b (rdP S q') → KV (In w.heap.size w'.heap.size []) w' t.ks A c → K (.returned (.agg (Z.T t A c))) w') :
    Calls Tryd.prog 75 #[Z.P b 0] w K := by
  refine Z.en 46 Tryd.func75 ?_
  have tbb := hb.lt
  have kbq := (okB_iff q).2 f0
  refine Z.r [0] ?_
  refine Z.N Z.c0 (fun k1 w1 l1 x1 b1 zw1 tb1 => ?_)
  refine Z.e (Z.r [0, 1, 2, 3] ?_)
  refine Z.p [0] [1, 2, 3] [(5, Z.P b 0)] ?_
  have y1 := gb_ext (gb_refl w b) x1
  refine Z.kP (fun R hR hE => (ih k (Nat.le_refl k)).f_pair b S q _ R (hb.ext x1) hok f0 (by omega) (fun w2 q1 e1 f1 x2 => hE _ _ (And.intro rfl (hP _ q1 (by simp only [stepN, arrowR, fnS, namesLS, Nd.ks, maps, kbq, Z.ifs, reduceIte, e1, idl f1]) f1 (gb_upd y1 x2)))) (fun w2 t1 A1 c1 q1 e1 f1 x2 b2 kv1 => hR _ _ ?_))
  have zw2 := x2.size
  have tb2 := b2.lt
  have kbq1 := (okB_iff q1).2 f1
  obtain ⟨ok1, ok1m, ok1x, ok1y⟩ : Tr S q q1 := run_facts hok e1
  refine Z.N Z.c0 (fun k2 w3 l2 x3 b3 zw3 tb3 => ?_)
  refine Z.Sa (Z.T t1 A1 c1) b3 (fun w4 u1 b4 zw4 => ?_)
  refine Z.e (wp_seq (wp_block (Z.r [0, 1, 2] ?_)))
  refine Z.p [0] [1, 2] [(8, Z.P b 0)] ?_
  have y2 := gb_new (gb_ext (gb_upd y1 x2) x3) u1
  have y3 := Z.a kbq (Z.a e1 kbq1)
  refine Z.kP (fun R hR hE => eat_p b S q1 Z.k15 _ R ((b2.ext x3).upd1 u1) ok1 f1 (fun w5 q2 e2 f2 x4 => hE _ _ (And.intro rfl (hP _ q2 (by simp only [stepN, arrowR, fnS, namesLS, Nd.ks, maps, y3, Z.ifs, reduceIte, e2, has_pan e2 f2 f1, idl f2]) f2 (gb_upd y2 x4)))) (fun w5 q2 e2 f2 x4 b5 => hR _ _ ?_))
  have zw5 := x4.size
  have tb5 := b5.lt
  obtain ⟨ok2, ok2m, ok2x, ok2y⟩ : Tr S q1 q2 := e2 ▸ has_tr ok1
  have kbq2 := (okB_iff q2).2 f2
  refine Z.p [2] [] [(7, .bool (isB q1 Z.k15))] ?_
  refine Z.e (Z.c (isB q1 Z.k15) (fun h_c7 => ?_) (fun h_c7 => ?_))
  · skip
    refine wp_seq (Z.D (fun w' => Gx.Has w' k2 (.cells (Z.T t1 A1 c1) 24)) (fun w6 x5 zw6 => ?_))
    have lt1 := (Z.lt ok1 h_c7 e2)
    refine Z.h ((b4.upd1 x4).ext x5) (fun hS1 => ?_)
    refine Z.t 0 (Z.P k2 1) hS1 ?_
    refine Z.tl 1 1 (Z.n t1.a) (fun _ hs => hs) hS1 ?_
    refine Z.tl 2 0 (.agg (Z.T t1 A1 c1)) (fun _ hs => hs) hS1 ?_
    refine Z.t 3 (Z.P b 0) hS1 ?_
    have y4 := gb_ext (gb_upd y2 x4) x5
    refine Z.oP 4 (fun R hR hE => (ih k (Nat.le_refl k)).f_typ b S q2 _ R (b5.ext x5) ok2 f2 (by omega) (fun w7 q3 e3 f3 x6 => hE _ _ (And.intro rfl (hP _ q3 (by simp only [stepN, arrowR, fnS, namesLS, Nd.ks, maps, y3, e2, kbq2, h_c7, Z.ifs, reduceIte, e3, idl f3]) f3 (gb_upd y4 x6)))) (fun w7 t2 A2 c2 q3 e3 f3 x6 b6 kv2 => hR _ _ ⟨(((b4.upd1 x4).ext x5).upd1 x6), ?_⟩))
    have zw7 := x6.size
    have tb6 := b6.lt
    have kbq3 := (okB_iff q3).2 f3
    obtain ⟨ok3, ok3m, ok3x, ok3y⟩ : Tr S q2 q3 := run_facts ok2 e3
    have y5 := ((b4.upd1 x4).ext x5).upd1 x6
    refine Z.oR 5 (.cells #[Z.n t1.k, Z.n t1.a, .string t1.nm, .int .i64 t1.n, .slice A1 t1.ks.length c1, Z.n t2.k, Z.n t2.a, .string t2.nm, .int .i64 t2.n, .slice A2 t2.ks.length c2] 24) 2 2 (fun k3 w8 l3 x7 b7 => ⟨(y5.ext x7), ?_⟩)
    have zw8 := x7.size
    have tb7 := b7.lt
    refine Z.h (y5.ext x7) (fun hS2 => ?_)
    refine Z.t 6 (.agg #[.int .i64 29, Z.n t1.a, .string Z.E, .int .i64 0, .slice (some ⟨k3, 0, none⟩) 2 2]) hS2 ?_
    refine Z.oSa 7 #[.int .i64 29, Z.n t1.a, .string Z.E, .int .i64 0, .slice (some ⟨k3, 0, none⟩) 2 2] (((((((b1.upd1 x2).ext x3).upd1 u1).upd1 x4).ext x5).upd1 x6).ext x7) (fun w9 u2 b8 => ⟨((y5.ext x7).upd1 u2), ?_⟩)
    have zw9 := u2.size
    refine Z.q ?_
    refine Z.x (wp_ret (Gx.block_ret (Gx.then_ret (Gx.ret (Gx.res_c (u := .agg #[.int .i64 29, Z.n t1.a, .string Z.E, .int .i64 0, .slice (some ⟨k3, 0, none⟩) 2 2]) rfl (by kernel_rfl) b8 (by kernel_rfl)) ?_))))
    exact hK _ (Nd.mk 29 t1.a Z.E (0 : Int) [t1, t2]) (some (⟨k3, 0, none⟩ : Addr)) 2 q3 (by simp only [stepN, arrowR, fnS, namesLS, Nd.ks, maps, y3, e2, kbq2, e3, kbq3, h_c7, Z.ifs, reduceIte]) f3 (gb_new (gb_ext (gb_upd y4 x6) x7) u2) ((b6.ext x7).upd1 u2) (KV.of_row [(t1, A1, c1), (t2, A2, c2)] (n := 10) (b7.upd1 u2) rfl ⟨by omega, by omega, (fun hj => by cases hj)⟩ (by intro p hp; simp only [List.mem_cons, List.not_mem_nil, or_false] at hp; rcases hp with rfl | rfl; exact (KV.top (((((((kv1.ext x3).upd u1).upd x4).ext x5).upd x6).ext x7).upd u2)); exact (KV.top ((kv2.ext x7).upd u2))))
  refine Z.r [0, 1, 2] ?_
  refine Z.p [0] [1, 2] [(18, Z.P b 0)] ?_
  have y6 := Z.a y3 (Z.a e2 kbq2)
  refine Z.kP (fun R hR hE => eat_p b S q2 Z.k5 _ R b5 ok2 f2 (fun w10 q4 e4 f4 x8 => hE _ _ (And.intro rfl (hP _ q4 (by simp only [stepN, arrowR, fnS, namesLS, Nd.ks, maps, y6, h_c7, Z.ifs, reduceIte, e4, has_pan e4 f4 f2, idl f4]) f4 (gb_upd (gb_upd y2 x4) x8)))) (fun w10 q4 e4 f4 x8 b9 => hR _ _ ?_))
  have zw10 := x8.size
  have tb9 := b9.lt
  obtain ⟨ok4, ok4m, ok4x, ok4y⟩ : Tr S q2 q4 := e4 ▸ has_tr ok2
  have kbq4 := (okB_iff q4).2 f4
  refine Z.p [2] [] [(17, .bool (isB q2 Z.k5))] ?_
  refine Z.e (Z.c (isB q2 Z.k5) (fun h_c17 => ?_) (fun h_c17 => ?_))
  · skip
    refine Z.r [0, 1, 2] ?_
    refine Z.p [0] [1, 2] [(20, Z.P b 0)] ?_
    refine Z.R (.cells #[.string Z.k20] 9) 1 1 (fun k4 w11 l4 x9 b10 zw11 tb10 => ?_)
    have lt2 := (Z.lt ok2 h_c17 e4)
    have y7 := gb_ext (gb_upd (gb_upd y2 x4) x8) x9
    have y8 := Z.a h_c7 h_c17
    have y9 := Z.a y6 (Z.a e4 kbq4)
    refine Z.kP (fun R hR hE => need_p b S q4 [Z.k20] k4 1 _ R (b9.ext x9) ok4 f4 b10 (by omega) (Nat.le_of_ble_eq_true rfl) (fun w12 q5 e5 f5 x10 => hE _ _ (And.intro rfl (hP _ q5 (by simp only [stepN, arrowR, fnS, namesLS, Nd.ks, maps, y9, y8, Z.ifs, reduceIte, (show mustR S q4 Z.k20 = q5 from e5), idl f5]) f5 (gb_upd y7 x10)))) (fun w12 q5 e5 f5 x10 b11 => hR _ _ ?_))
    have zw12 := x10.size
    have tb11 := b11.lt
    obtain ⟨ok5, ok5m, ok5x, ok5y⟩ : Tr S q4 q5 := e5 ▸ musts_tr _ ok4
    have e5 : mustR S q4 Z.k20 = q5 := e5
    have kbq5 := (okB_iff q5).2 f5
    refine Z.e ?_
    obtain ⟨kk, hkk⟩ : ∃ kk, k = kk + 1 := ⟨k - 1, by omega⟩
    have hnm : run S k (.namesL []) q5 = namesLS S (run S kk) [] q5 := by rw [hkk, run_succ]; rfl
    refine Z.r [0, 1, 2, 3] ?_
    refine Z.p [0] [1, 2, 3] [(23, Z.P b 0)] ?_
    have y10 := Z.a y9 (Z.a e5 kbq5)
    refine Z.kP (fun R hR hE => named_p b S q5 (23 : Int) _ R b11 ok5 f5 (fun w13 q6 e6 f6 x11 => hE _ _ (And.intro rfl (hP _ q6 (by simp only [stepN, arrowR, fnS, namesLS, Nd.ks, maps, y10, hnm, y8, Z.ifs, reduceIte, e6, idl f6]) f6 (gb_upd (gb_upd y7 x10) x11)))) (fun w13 q6 e6 f6 x11 b12 => hR _ _ ?_))
    have zw13 := x11.size
    have tb12 := b12.lt
    have kbq6 := (okB_iff q6).2 f6
    obtain ⟨ok6, ok6m, ok6x, ok6y⟩ : Tr S q5 q6 := by have := name_tr ok5; rw [e6] at this; exact this
    have ok6l : M S q6 < M S q5 := by have := name_lt ok5 (by rw [e6]; exact kbq6); rw [e6] at this; exact this
    refine Z.R (.cells #[.int .i64 23, Z.n q5.a, .string q5.t, .int .i64 0, .slice none 0 0] 24) 1 1 (fun k5 w14 l5 x12 b13 zw14 tb13 => ?_)
    refine Z.p [3] [] [(4, .slice (some ⟨k5, 0, none⟩) 1 1)] ?_
    refine Z.e (wp_seq (wp_block ?_))
    have hbv : ∀ j, (.slice (some ⟨k5, 0, none⟩) 1 1 : Value).ownBlock = some j → j = k5 := fun j e => by cases e; rfl
    have hbz : k5 ≤ w14.heap.size := by omega
    have y11 := Z.a y10 (Z.a e6 kbq6)
    refine Gx.loop (n' := 46) (d' := []) (fun mz l' w' => ∃ (j : Nat) (p : Rs) (v : Value) (L : List (Nd × Option Addr × Nat)), l' = [(0, Z.P b 0), (2, Z.P k1 0), (3, Z.P k2 0), (4, v)] ∧ mz = M S p ∧ Gx.G w w' (some b) ∧ Gx.Has w' b (.cells #[.string S, Z.n p.k, Z.n p.a, .string p.t, Z.n p.n, Z.n p.e, Z.n p.x, Z.n p.y] 54) ∧ Gx.Has w' k1 Z.c0 ∧ Gx.Has w' k2 (.cells (Z.T t1 A1 c1) 24) ∧ (j ≤ k) ∧ (16 * M S p + 3 ≤ j) ∧ (nmT S (run S j) (nds L) p = run S k (.namesL []) q5) ∧ (Ok S p) ∧ (w'.ownsRow k5 24 5 v L.length (flat L)) ∧ (∀ p' ∈ L, KV (InV k5 w'.heap.size [k1, k2] v) w' p'.1.ks p'.2.1 p'.2.2) ∧ (L.length + M S p ≤ 4000) ∧ (M S p ≤ M S q6) ∧ (p.x = q6.x ∧ p.y = q6.y) ∧ (k5 ≤ w'.heap.size) ∧ (p.fk = 0) ∧ (∀ j, v.ownBlock = some j → k5 ≤ j ∧ j ≠ k1 ∧ j ≠ k2) ∧ (KV (In w1.heap.size w2.heap.size []) w' t1.ks A1 c1) ∧ (0 < L.length)) _ _ [(0, Z.P b 0), (2, Z.P k1 0), (3, Z.P k2 0), (4, (.slice (some ⟨k5, 0, none⟩) 1 1 : Value))] (Gx.forget [(0, Z.P b 0), (2, Z.P k1 0), (3, Z.P k2 0), (4, (.slice (some ⟨k5, 0, none⟩) 1 1 : Value))] (by kernel_rfl)) ⟨kk, q6, (.slice (some ⟨k5, 0, none⟩) 1 1 : Value), [((Nd.mk 23 q5.a q5.t (0 : Int) []), none, 0)], rfl, rfl, (gb_ext (gb_upd (gb_upd y7 x10) x11) x12), (b12.ext x12), (((((((((b1.upd1 x2).ext x3).upd1 u1).upd1 x4).upd1 x8).ext x9).upd1 x10).upd1 x11).ext x12), ((((((b4.upd1 x4).upd1 x8).ext x9).upd1 x10).upd1 x11).ext x12), (by omega), (by omega), (by rw [hkk, run_succ]; simp only [stepN, namesLS, nmT, y11, maps]), ok6, (Gx.own_row (n := 1) b13 rfl (by unfold maxLen; omega)), (by intro p hp; simp only [List.mem_cons, List.not_mem_nil, or_false] at hp; rcases hp with rfl; exact KV.nil), (by have := M_le ok6; simp only [List.length_append, List.length_cons, List.length_nil]; omega), (Nat.le_refl _), ⟨rfl, rfl⟩, (by omega), f6, (fun j e => by have z := hbv j e; omega), ((((((((kv1.ext x3).upd u1).upd x4).upd x8).ext x9).upd x10).upd x11).ext x12), (Nat.succ_pos _)⟩ (fun bb1 m1 ll1 w15 hI1 K1 hK1 => ?_)
    obtain ⟨j, p, v, L, rfl, rfl, x13, b14, b15, b16, hj, hm, hr, ho, how, hks, hlen, hM, hxy, hbs, hf, hnx, hkc0, hpos⟩ := hI1
    have zw15 := x13.size
    have tb14 := b14.lt
    have tb15 := b15.lt
    have tb16 := b16.lt
    have hbl : ∀ j, v.ownBlock = some j → (k5 ≤ j ∧ j < w15.heap.size ∧ j ≠ k1 ∧ j ≠ k2) := fun j e => by have z := how.lt j e; have z' := hnx j e; omega
    obtain ⟨i, rfl⟩ : ∃ i, j = i + 1 := ⟨j - 1, by omega⟩
    have kbp := (okB_iff p).2 hf
    refine wp_seq (Z.r [0, 1] ?_)
    refine Z.p [0] [1] [(26, Z.P b 0)] ?_
    have y12 := gb_upd (gb_refl w b) x13
    refine Z.kP (fun R hR hE => eat_p b S p Z.k16 _ R b14 ho hf (fun w16 q7 e7 f7 x14 => hE _ _ (And.intro rfl (hP _ q7 (by have zl : (run S k (.namesL []) q5).2 = q7 := (by rw [← hr]; simp only [run_succ, stepN, nmT, namesLS, kbp, y8, Z.ifs, reduceIte, e7, has_pan e7 f7 hf, idl f7]); simp only [stepN, arrowR, fnS, namesLS, Nd.ks, maps, y11, y8, Z.ifs, reduceIte, zl, idl f7]) f7 (gb_upd y12 x14)))) (fun w16 q7 e7 f7 x14 b17 => hR _ _ ?_))
    have zw16 := x14.size
    have tb17 := b17.lt
    obtain ⟨ok7, ok7m, ok7x, ok7y⟩ : Tr S p q7 := e7 ▸ has_tr ho
    have kbq7 := (okB_iff q7).2 f7
    refine Z.e (Z.c (isB p Z.k16) (fun h_c27 => ?_) (fun h_c27 => ?_))
    · skip
      refine wp_skip (Z.x (wp_block (Z.g [0, 1, 2, 3, 4, 5] ?_)))
      refine Z.p [0, 1] [2, 3, 4, 5] [(29, Z.P b 0), (28, v)] ?_
      have lt3 := (Z.lt ho h_c27 e7)
      refine Z.kP (fun R hR hE => named_p b S q7 (23 : Int) _ R b17 ok7 f7 (fun w17 q8 e8 f8 x15 => hE _ _ (And.intro rfl (hP _ q8 (by have zl : (run S k (.namesL []) q5).2 = q8 := (by rw [← hr]; simp only [run_succ, stepN, nmT, namesLS, kbp, e7, kbq7, y8, h_c27, Z.ifs, reduceIte, e8, idl f8]); simp only [stepN, arrowR, fnS, namesLS, Nd.ks, maps, y11, y8, h_c27, Z.ifs, reduceIte, zl, idl f8]) f8 (gb_upd (gb_upd y12 x14) x15)))) (fun w17 q8 e8 f8 x15 b18 => hR _ _ ?_))
      have zw17 := x15.size
      have tb18 := b18.lt
      have kbq8 := (okB_iff q8).2 f8
      obtain ⟨ok8, ok8m, ok8x, ok8y⟩ : Tr S q7 q8 := by have := name_tr ok7; rw [e8] at this; exact this
      have ok8l : M S q8 < M S q7 := by have := name_lt ok7 (by rw [e8]; exact kbq8); rw [e8] at this; exact this
      refine Z.R (.cells #[.int .i64 23, Z.n q7.a, .string q7.t, .int .i64 0, .slice none 0 0] 24) 1 1 (fun k6 w18 l6 x16 b19 zw18 tb19 => ?_)
      have y13 := Gx.own_ext (Gx.own_upd1 (Gx.own_upd1 how x14 (fun q e => by have z := hbl q e; omega)) x15 (fun q e => by have z := hbl q e; omega)) x16
      refine Gx.cons (Gx.op_appendAt rfl (by kernel_rfl) rfl 24 5 64 (by kernel_rfl) (by kernel_rfl) (by kernel_rfl) (k5) (by kernel_rfl) y13 0 1 1 (by kernel_rfl) b19 [.int .i64 23, Z.n q7.a, .string q7.t, .int .i64 0, .slice none 0 0] rfl rfl (List.all_eq_true.1 rfl) (by unfold maxLen; omega) (by omega) (by omega) (fun v1 w19 ow1 g1 nl1 => ?_))
      have zw19 := g1.size
      have hb1 : ∀ j, (v1 : Value).ownBlock = some j → (k5 ≤ j ∧ j < w15.heap.size ∧ j ≠ k1 ∧ j ≠ k2) ∨ (j = w18.heap.size ∧ j < w19.heap.size) := fun j e => by have l := (ow1).lt j e; rcases nl1 with q | q; (rw [q] at e; have z := hbl j e; omega); (rw [q] at e; cases e; omega)
      have owx1 : w19.ownsRow k5 24 5 v1 (L ++ [((Nd.mk 23 q7.a q7.t (0 : Int) []), none, 0)]).length (flat (L ++ [((Nd.mk 23 q7.a q7.t (0 : Int) []), none, 0)])) := by rw [flat_snoc, List.length_append]; exact ow1
      have hkx1 : Z.ks (InV k5 w19.heap.size [k1, k2] v1) w19 (L ++ [((Nd.mk 23 q7.a q7.t (0 : Int) []), none, 0)]) := Z.m1 (Q' := fun _ => True) (w' := w19) (fun p' h0 => (KV.topV (((((((hks p' h0).updV x14).updV x15).extV x16)).appV g1).toV nl1 (by omega)))) KV.nil
      refine Z.p [5] [] [(4, v1)] ?_
      refine Gx.ops_nil (Gx.block_normal (Z.x ?_))
      rw [Gx.forget [(0, Z.P b 0), (2, Z.P k1 0), (3, Z.P k2 0), (4, v1)] (by kernel_rfl)]
      exact hK1 _ _ _ _ (by omega) ⟨i, q8, v1, (L ++ [((Nd.mk 23 q7.a q7.t (0 : Int) []), none, 0)]), rfl, rfl, (gb_app (gb_ext (gb_upd (gb_upd y12 x14) x15) x16) g1 (fun j e => by have := (y13).lt j e; omega)), ((b18.ext x16).upd g1 (fun e => by have := hbl _ e.symm; omega)), ((((b15.upd1 x14).upd1 x15).ext x16).upd g1 (fun e => by have := hbl _ e.symm; omega)), ((((b16.upd1 x14).upd1 x15).ext x16).upd g1 (fun e => by have := hbl _ e.symm; omega)), (by omega), (by omega), (by rw [← hr]; simp only [run_succ, stepN, nmT, namesLS, kbp, e7, kbq7, e8, kbq8, y8, h_c27, Z.ifs, reduceIte, maps]), ok8, owx1, (fun p' h0 => KV.topV (hkx1 p' h0)), (by rw [List.length_append]; show L.length + 1 + _ ≤ _; omega), (by omega), ⟨by omega, by omega⟩, (by omega), f8, (fun j e => by have z := hb1 j e; omega), ((((hkc0.upd x14).upd x15).ext x16).app g1 (fun j e => by have := (y13).lt j e; have := (how).lt j e; first | (left; omega) | (right; left; omega))), (by rw [List.length_append]; show 0 < _ + 1; omega)⟩
    refine wp_exit (Gx.then_exit (Gx.then_exit (Gx.block_exit (Z.x ?_))))
    have e9 : run S k (.namesL []) q5 = ((Nd.mk 0 0 Z.E 0 (nds L)), q7) := by rw [← hr]; simp only [run_succ, stepN, nmT, namesLS, kbp, e7, kbq7, y8, h_c27, Z.ifs, reduceIte, maps]
    refine Z.r [0, 1, 2] ?_
    refine Z.p [0] [1, 2] [(33, Z.P b 0)] ?_
    refine Z.R (.cells #[.string Z.k11, .string Z.k15] 9) 2 2 (fun k7 w20 l7 x17 b20 zw20 tb20 => ?_)
    have y14 := gb_ext (gb_upd y12 x14) x17
    refine Z.kP (fun R hR hE => need_p b S q7 [Z.k11, Z.k15] k7 2 _ R (b17.ext x17) ok7 f7 b20 (by omega) (Nat.le_of_ble_eq_true rfl) (fun w21 q9 e10 f9 x18 => hE _ _ (And.intro rfl (hP _ q9 (by simp only [stepN, arrowR, fnS, namesLS, Nd.ks, maps, y11, e9, y8, h_c27, Z.ifs, reduceIte, (show mustR S (mustR S q7 Z.k11) Z.k15 = q9 from e10), idl f9]) f9 (gb_upd y14 x18)))) (fun w21 q9 e10 f9 x18 b21 => hR _ _ ?_))
    have zw21 := x18.size
    have tb21 := b21.lt
    obtain ⟨ok9, ok9m, ok9x, ok9y⟩ : Tr S q7 q9 := e10 ▸ musts_tr _ ok7
    have e10 : mustR S (mustR S q7 Z.k11) Z.k15 = q9 := e10
    have kbq9 := (okB_iff q9).2 f9
    refine Z.e (wp_seq (Z.D (fun w' => Gx.Has w' k2 (.cells (Z.T t1 A1 c1) 24)) (fun w22 x19 zw22 => ?_)))
    have y15 := (((b16.upd1 x14).ext x17).upd1 x18).ext x19
    refine Z.h y15 (fun hS3 => ?_)
    refine Z.t 0 (Z.P k2 1) hS3 ?_
    refine Z.tl 1 1 (Z.n t1.a) (fun _ hs => hs) hS3 ?_
    refine Z.tl 2 0 (.agg (Z.T t1 A1 c1)) (fun _ hs => hs) hS3 ?_
    refine Z.t 3 (Z.P b 0) hS3 ?_
    refine Z.t 6 (v) hS3 ?_
    have y16 := gb_ext (gb_upd y14 x18) x19
    refine Z.oP 4 (fun R hR hE => (ih k (Nat.le_refl k)).f_typ b S q9 _ R (b21.ext x19) ok9 f9 (by omega) (fun w23 q10 e11 f10 x20 => hE _ _ (And.intro rfl (hP _ q10 (by simp only [stepN, arrowR, fnS, namesLS, Nd.ks, maps, y11, e9, e10, kbq9, y8, h_c27, Z.ifs, reduceIte, e11, idl f10]) f10 (gb_upd y16 x20)))) (fun w23 t3 A3 c3 q10 e11 f10 x20 b22 kv3 => hR _ _ ⟨(y15.upd1 x20), ?_⟩))
    have zw23 := x20.size
    have tb22 := b22.lt
    have kbq10 := (okB_iff q10).2 f10
    obtain ⟨ok10, ok10m, ok10x, ok10y⟩ : Tr S q9 q10 := run_facts ok9 e11
    refine Z.oR 5 (.cells #[Z.n t1.k, Z.n t1.a, .string t1.nm, .int .i64 t1.n, .slice A1 t1.ks.length c1, Z.n t3.k, Z.n t3.a, .string t3.nm, .int .i64 t3.n, .slice A3 t3.ks.length c3] 24) 2 2 (fun k8 w24 l8 x21 b23 => ⟨((y15.upd1 x20).ext x21), ?_⟩)
    have zw24 := x21.size
    have tb23 := b23.lt
    have owx2 : w24.ownsRow k5 24 5 v L.length (flat L) := (Gx.own_ext (Gx.own_upd1 (Gx.own_ext (Gx.own_upd1 (Gx.own_ext (Gx.own_upd1 how x14 (fun q e => by have z := hbl q e; omega)) x17) x18 (fun q e => by have z := hbl q e; omega)) x19) x20 (fun q e => by have z := hbl q e; omega)) x21)
    obtain ⟨gb1, cap1, cur1, rfl, hgb1, hgh1, hnc1, htk1⟩ := Gx.own_open owx2 (by omega)
    have owx3 : w24.ownsRow k8 24 5 (.slice (some ⟨k8, 0, none⟩) 2 2) 2 [Z.n t1.k, Z.n t1.a, .string t1.nm, .int .i64 t1.n, .slice A1 t1.ks.length c1, Z.n t3.k, Z.n t3.a, .string t3.nm, .int .i64 t3.n, .slice A3 t3.ks.length c3] := Gx.own_row (n := 2) b23 rfl (by unfold maxLen; omega)
    refine Gx.any_one 7 (by kernel_rfl) (Gx.op_appendAt rfl (by kernel_rfl) rfl 24 5 64 (by kernel_rfl) (by kernel_rfl) (by kernel_rfl) k8 (by kernel_rfl) owx3 0 L.length cap1 (by kernel_rfl) hgh1 (flat L) (by rw [List.drop_zero]; exact htk1) (flat_len _) (flat_one _) (by unfold maxLen; omega) (by omega) (by omega) (fun v2 w25 ow2 g2 nl2 => ⟨(((y15.upd1 x20).ext x21).upd g2 (fun e => by have := (owx3).lt _ e.symm; omega)), ?_⟩))
    have zw25 := g2.size
    have hl2 : (([(t1, A1, c1), (t3, A3, c3)] : List (Nd × Option Addr × Nat)) ++ L).length = 2 + L.length := List.length_append
    have owx4 : w25.ownsRow k8 24 5 v2 (([(t1, A1, c1), (t3, A3, c3)] : List (Nd × Option Addr × Nat)) ++ L).length (flat (([(t1, A1, c1), (t3, A3, c3)] : List (Nd × Option Addr × Nat)) ++ L)) := by rw [hl2]; exact ow2
    obtain ⟨A4, c4, rfl, kv4⟩ := KV.of_own (Q := In w.heap.size w25.heap.size [k1, k2]) (([(t1, A1, c1), (t3, A3, c3)] : List (Nd × Option Addr × Nat)) ++ L) owx4 (fun j e => by have := (owx4).lt j e; exact ⟨by omega, by omega, (by simp only [List.mem_cons, List.not_mem_nil, or_false, not_or]; omega)⟩) (by intro p' hp'; rcases List.mem_append.1 hp' with h1 | h0; (simp only [List.mem_cons, List.not_mem_nil, or_false] at h1; rcases h1 with rfl | rfl; exact (KV.top (((((((hkc0.upd x14).ext x17).upd x18).ext x19).upd x20).ext x21).app g2 (fun j e => by have := (owx3).lt j e; have := (owx3).lt j e; first | (left; omega) | (right; left; omega)))); exact (KV.top ((kv3.ext x21).app g2 (fun j e => by have := (owx3).lt j e; have := (owx3).lt j e; first | (left; omega) | (right; left; omega))))); exact (KV.top (((((((((hks p' h0).updV x14).extV x17).updV x18).extV x19).updV x20).extV x21).otherV g2 (fun j e => by have := (owx3).lt j e; first | (left; omega) | (right; omega)))).noV))
    refine Z.h (((y15.upd1 x20).ext x21).upd g2 (fun e => by have := (owx3).lt _ e.symm; omega)) (fun hS4 => ?_)
    refine Z.t 8 (.agg #[.int .i64 29, Z.n t1.a, .string Z.E, .int .i64 0, .slice A4 ((nds (([(t1, A1, c1), (t3, A3, c3)] : List (Nd × Option Addr × Nat)) ++ L)).length) c4]) hS4 ?_
    refine Z.oSa 9 #[.int .i64 29, Z.n t1.a, .string Z.E, .int .i64 0, .slice A4 ((nds (([(t1, A1, c1), (t3, A3, c3)] : List (Nd × Option Addr × Nat)) ++ L)).length) c4] (((((((b15.upd1 x14).ext x17).upd1 x18).ext x19).upd1 x20).ext x21).upd g2 (fun e => by have := (owx3).lt _ e.symm; omega)) (fun w26 u3 b24 => ⟨((((y15.upd1 x20).ext x21).upd g2 (fun e => by have := (owx3).lt _ e.symm; omega)).upd1 u3), ?_⟩)
    have zw26 := u3.size
    refine Z.q ?_
    refine Z.x (wp_ret (Gx.block_ret (Gx.then_ret (Gx.ret (Gx.res_c (u := .agg #[.int .i64 29, Z.n t1.a, .string Z.E, .int .i64 0, .slice A4 ((nds (([(t1, A1, c1), (t3, A3, c3)] : List (Nd × Option Addr × Nat)) ++ L)).length) c4]) rfl (by kernel_rfl) b24 (by kernel_rfl)) ?_))))
    exact hK _ (Nd.mk 29 t1.a Z.E (0 : Int) (nds (([(t1, A1, c1), (t3, A3, c3)] : List (Nd × Option Addr × Nat)) ++ L))) A4 c4 q10 (by simp only [stepN, arrowR, fnS, namesLS, Nd.ks, maps, y11, e9, e10, kbq9, e11, kbq10, y8, h_c27, Z.ifs, reduceIte]) f10 (gb_new (gb_app (gb_ext (gb_upd y16 x20) x21) g2 (fun j e => by have := (owx3).lt j e; omega)) u3) (((b22.ext x21).upd g2 (fun e => by have := (owx3).lt _ e.symm; omega)).upd1 u3) (KV.top (kv4.upd u3))
  refine wp_skip (Gx.block_normal (Z.x (Z.r [0, 1] ?_)))
  refine Z.L 0 (.agg (Z.T t1 A1 c1)) ((b4.upd1 x4).upd1 x8) ?_
  refine Z.Sa (Z.T t1 A1 c1) (((((b1.upd1 x2).ext x3).upd1 u1).upd1 x4).upd1 x8) (fun w27 u4 b25 zw27 => ?_)
  refine Z.e (wp_ret (Gx.ret (Gx.res_c (u := .agg (Z.T t1 A1 c1)) rfl (by kernel_rfl) b25 (by kernel_rfl)) ?_))
  exact hK _ t1 A1 c1 q4 (by simp only [stepN, arrowR, fnS, namesLS, Nd.ks, maps, y6, e4, kbq4, h_c7, h_c17, Z.ifs, reduceIte]) f4 (gb_new (gb_upd (gb_upd y2 x4) x8) u4) (b9.upd1 u4) (KV.top (((((kv1.ext x3).upd u1).upd x4).upd x8).upd u4))
theorem within_typ (k : Nat) (b : Nat) (S : ByteArray) (q : Rs) (w : World) (K : Ending → World → Prop) (ih : ∀ j, j ≤ k → SpecP j) (hb : Gx.Has w b (rdP S q)) (hok : Ok S q) (f0 : q.fk = 0) (hmu : 16 * M S q + 11 ≤ k + 1) (hP : (PQ w b K ((run S (k + 1) .typ q).2))) (hK : ∀ w' t A c q', run S (k + 1) .typ q = (t, q') → q'.fk = 0 → Gx.G w w' (some b) → Gx.Has w' b (rdP S q') → KV (In w.heap.size w'.heap.size []) w' t.ks A c → K (.returned (.agg (Z.T t A c))) w') :
    Calls Tryd.prog 74 #[Z.P b 7, Z.P b 0, .func (.func 75) #[Z.P b 0] #[]] w K := by
  refine Z.en 27 Tryd.func74 ?_
  have tbb := hb.lt
  have kbq := (okB_iff q).2 f0
  have hoky := hok.y; have hokx := hok.x
  refine Z.r [0] ?_
  refine Z.N Z.c0 (fun k1 w1 l1 x1 b1 zw1 tb1 => ?_)
  refine Z.e (wp_seq (Z.r [0, 1, 2, 3] ?_))
  refine Z.p [0, 1] [2, 3] [(9, Z.P b 7), (8, Z.P b 7)] ?_
  refine Z.L 7 (Z.n q.y) (hb.ext x1) ?_
  refine Z.p [3] [] [(11, .bool (decide (((q.y : Nat) : Int) ≥ (200 : Int))))] ?_
  refine Z.e (Z.c (decide (((q.y : Nat) : Int) ≥ (200 : Int))) (fun h_c11 => ?_) (fun h_c11 => ?_))
  · skip
    refine Z.g [0, 1] ?_
    refine Z.p [0] [1] [(12, Z.P b 0)] ?_
    have p_c11 := of_decide_eq_true h_c11
    refine Z.kP (fun R hR hE => stop_p b S q 5 _ R (hb.ext x1) (hE _ _ (And.intro rfl (hP _ { q with fk := 5, fa := q.a } (by rw [run_succ]; simp only [stepN, typS, kbq, h_c11, Z.ifs, reduceIte]) (by show (5 : Nat) ≠ 0; decide) (gb_ext (gb_refl w b) x1)))))
  refine wp_skip (Z.x (Z.r [0, 1, 2, 3, 4, 5] ?_))
  refine Z.p [0, 1] [2, 3, 4, 5] [(15, Z.P b 7), (14, Z.P b 7)] ?_
  refine Z.L 7 (Z.n q.y) (hb.ext x1) ?_
  have p_c11 := of_decide_eq_false h_c11
  refine Gx.pure_eq [3] [4, 5] [(17, .int .i64 (IntKind.i64.wrap (((q.y : Nat) : Int) + (1 : Int))))] [(17, .int .i64 ((q.y + 1 : Nat) : Int))] rfl (by kernel_rfl) (Gx.eqI (Gx.i64n (by omega) (by omega))) ?_
  refine Z.p [4] [5] [(18, Z.P b 7)] ?_
  refine Z.S 7 (.int .i64 ((q.y + 1 : Nat) : Int)) (hb.ext x1) #[.string S, Z.n q.k, Z.n q.a, .string q.t, Z.n q.n, Z.n q.e, Z.n q.x, .int .i64 ((q.y + 1 : Nat) : Int)] (fun w2 u1 b2 zw2 => ?_)
  refine Z.e (Z.r [0, 1, 2, 3] ?_)
  refine Z.p [0] [1, 2, 3] [(19, .func (.func 75) #[Z.P b 0] #[])] ?_
  have ok1 : Ok S (⟨q.k, q.a, q.t, q.n, q.e, q.fk, q.fa, q.x, (q.y + 1)⟩ : Rs) := ⟨hok.size, hok.e, by have := hok.x; have := hok.y; dsimp only; omega, by have := hok.x; have := hok.y; dsimp only; omega, hok.a, hok.n, hok.t, hok.k, hok.end_, hok.nm, hok.sg⟩
  have mq1 : M S (⟨q.k, q.a, q.t, q.n, q.e, q.fk, q.fa, q.x, (q.y + 1)⟩ : Rs) = M S q := rfl
  have y1 := gb_upd (gb_ext (gb_refl w b) x1) u1
  refine Z.kP (fun R hR hE => arrow_p k b S (⟨q.k, q.a, q.t, q.n, q.e, q.fk, q.fa, q.x, (q.y + 1)⟩ : Rs) _ R  ih b2 ok1 f0 (by omega) (fun w3 q1 e1 f1 x2 => hE _ _ (And.intro rfl (hP _ (⟨q1.k, q1.a, q1.t, q1.n, q1.e, q1.fk, q1.fa, q1.x, q1.y - 1⟩ : Rs) (by rw [run_succ]; simp only [stepN, typS, kbq, h_c11, Z.ifs, reduceIte, (show (fnS S (run S k) (run S k .pair (⟨q.k, q.a, q.t, q.n, q.e, q.fk, q.fa, q.x, (q.y + 1)⟩ : Rs)).1 (run S k .pair (⟨q.k, q.a, q.t, q.n, q.e, q.fk, q.fa, q.x, (q.y + 1)⟩ : Rs)).2).2 = q1 from e1), idl f1]) (by show q1.fk ≠ 0; exact f1) (gb_upd y1 x2)))) (fun w3 t1 A1 c1 q1 e1 f1 x2 b3 kv1 => hR _ _ ?_))
  have zw3 := x2.size
  have tb3 := b3.lt
  have kbq1 := (okB_iff q1).2 f1
  have e1 := (show fnS S (run S k) (run S k .pair (⟨q.k, q.a, q.t, q.n, q.e, q.fk, q.fa, q.x, (q.y + 1)⟩ : Rs)).1 (run S k .pair (⟨q.k, q.a, q.t, q.n, q.e, q.fk, q.fa, q.x, (q.y + 1)⟩ : Rs)).2 = (t1, q1) from e1)
  obtain ⟨ok2, ok2m, ok2x, ok2y⟩ : Tr S (⟨q.k, q.a, q.t, q.n, q.e, q.fk, q.fa, q.x, (q.y + 1)⟩ : Rs) q1 := (by have := fn_tr (a := (run S k .pair (⟨q.k, q.a, q.t, q.n, q.e, q.fk, q.fa, q.x, (q.y + 1)⟩ : Rs)).1) (run_tr k) (run_tr k .pair (⟨q.k, q.a, q.t, q.n, q.e, q.fk, q.fa, q.x, (q.y + 1)⟩ : Rs) ok1); rw [e1] at this; exact this)
  dsimp only at ok2x ok2y
  refine Z.N Z.c0 (fun k2 w4 l2 x3 b4 zw4 tb4 => ?_)
  refine Z.Sa (Z.T t1 A1 c1) b4 (fun w5 u2 b5 zw5 => ?_)
  refine Z.e (Z.r [0, 1, 2, 3, 4, 5] ?_)
  refine Z.p [0, 1] [2, 3, 4, 5] [(22, Z.P b 7), (21, Z.P b 7)] ?_
  refine Z.L 7 (Z.n q1.y) ((b3.ext x3).upd1 u2) ?_
  refine Gx.pure_eq [3] [4, 5] [(24, .int .i64 (IntKind.i64.wrap (((q1.y : Nat) : Int) - (1 : Int))))] [(24, .int .i64 ((q1.y - 1 : Nat) : Int))] rfl (by kernel_rfl) (Gx.eqI (by rw [IntWalk.i64_in _ (by omega)]; omega)) ?_
  refine Z.p [4] [5] [(25, Z.P b 7)] ?_
  refine Z.S 7 (.int .i64 ((q1.y - 1 : Nat) : Int)) ((b3.ext x3).upd1 u2) #[.string S, Z.n q1.k, Z.n q1.a, .string q1.t, Z.n q1.n, Z.n q1.e, Z.n q1.x, .int .i64 ((q1.y - 1 : Nat) : Int)] (fun w6 u3 b6 zw6 => ?_)
  refine Z.e (Z.r [0, 1] ?_)
  refine Z.L 0 (.agg (Z.T t1 A1 c1)) (b5.upd1 u3) ?_
  refine Z.Sa (Z.T t1 A1 c1) (((((b1.upd1 u1).upd1 x2).ext x3).upd1 u2).upd1 u3) (fun w7 u4 b7 zw7 => ?_)
  refine Z.e (wp_ret (Gx.ret (Gx.res_c (u := .agg (Z.T t1 A1 c1)) rfl (by kernel_rfl) b7 (by kernel_rfl)) ?_))
  exact hK _ t1 A1 c1 (⟨q1.k, q1.a, q1.t, q1.n, q1.e, q1.fk, q1.fa, q1.x, (q1.y - 1)⟩ : Rs) (by rw [run_succ]; simp only [stepN, typS, kbq, e1, kbq1, h_c11, Z.ifs, reduceIte]) f1 (gb_new (gb_upd (gb_new (gb_ext (gb_upd y1 x2) x3) u2) u3) u4) (b6.upd1 u4) (KV.top ((((kv1.ext x3).upd u2).upd u3).upd u4))
theorem typ_p (k : Nat) (b : Nat) (S : ByteArray) (q : Rs) (w : World) (K : Ending → World → Prop) (ih : ∀ j, j ≤ k → SpecP j) (hb : Gx.Has w b (rdP S q)) (hok : Ok S q) (f0 : q.fk = 0) (hmu : 16 * M S q + 11 ≤ k + 1) (hP : (PQ w b K ((run S (k + 1) .typ q).2))) (hK : ∀ w' t A c q', run S (k + 1) .typ q = (t, q') → q'.fk = 0 → Gx.G w w' (some b) → Gx.Has w' b (rdP S q') → KV (In w.heap.size w'.heap.size []) w' t.ks A c → K (.returned (.agg (Z.T t A c))) w') :
    Calls Tryd.prog 49 #[Z.P b 0] w K := by
  refine Z.en 10 Tryd.func49 ?_
  have tbb := hb.lt
  have kbq := (okB_iff q).2 f0
  refine Z.r [0] ?_
  refine Z.N Z.c0 (fun k1 w1 l1 x1 b1 zw1 tb1 => ?_)
  refine Z.e (Z.r [0, 1, 2, 3, 4, 5, 6, 7] ?_)
  refine Z.p [0, 1, 2, 3, 4, 5] [6, 7] [(8, .func (.func 75) #[Z.P b 0] #[]), (7, Z.P b 0), (6, Z.P b 0), (5, Z.P b 7), (4, Z.P b 0), (3, Z.P b 0)] ?_
  have y1 := gb_ext (gb_refl w b) x1
  refine Z.kP (fun R hR hE => within_typ k b S q _ R  ih (hb.ext x1) hok f0 (by omega) (fun w2 q1 e1 f1 x2 => hE _ _ (And.intro rfl (hP _ q1 (by simp only [stepN, typS, kbq, Z.ifs, reduceIte, e1, idl f1]) f1 (gb_upd y1 x2)))) (fun w2 t1 A1 c1 q1 e1 f1 x2 b2 kv1 => hR _ _ ?_))
  have zw2 := x2.size
  have tb2 := b2.lt
  have kbq1 := (okB_iff q1).2 f1
  obtain ⟨ok1, ok1m, ok1x, ok1y⟩ : Tr S q q1 := run_facts hok e1
  refine Z.Sa (Z.T t1 A1 c1) (b1.upd1 x2) (fun w3 u1 b3 zw3 => ?_)
  refine Z.e (wp_ret (Gx.ret (Gx.res_c (u := .agg (Z.T t1 A1 c1)) rfl (by kernel_rfl) b3 (by kernel_rfl)) ?_))
  exact hK _ t1 A1 c1 q1 (by simp only [stepN, typS, kbq, e1, kbq1, Z.ifs, reduceIte]) f1 (gb_new (gb_upd y1 x2) u1) (b2.upd1 u1) (KV.top (kv1.upd u1))
theorem within_expr (k : Nat) (b : Nat) (S : ByteArray) (q : Rs) (w : World) (K : Ending → World → Prop) (ih : ∀ j, j ≤ k → SpecP j) (hb : Gx.Has w b (rdP S q)) (hok : Ok S q) (f0 : q.fk = 0) (hmu : 16 * M S q + 11 ≤ k + 1) (hP : (PQ w b K ((run S (k + 1) .expr q).2))) (hK : ∀ w' t A c q', run S (k + 1) .expr q = (t, q') → q'.fk = 0 → Gx.G w w' (some b) → Gx.Has w' b (rdP S q') → KV (In w.heap.size w'.heap.size []) w' t.ks A c → K (.returned (.agg (Z.T t A c))) w') :
    Calls Tryd.prog 74 #[Z.P b 6, Z.P b 0, .func (.func 76) #[Z.P b 0] #[]] w K := by
  refine Z.en 27 Tryd.func74 ?_
  have tbb := hb.lt
  have kbq := (okB_iff q).2 f0
  have hoky := hok.y; have hokx := hok.x
  refine Z.r [0] ?_
  refine Z.N Z.c0 (fun k1 w1 l1 x1 b1 zw1 tb1 => ?_)
  refine Z.e (wp_seq (Z.r [0, 1, 2, 3] ?_))
  refine Z.p [0, 1] [2, 3] [(9, Z.P b 6), (8, Z.P b 6)] ?_
  refine Z.L 6 (Z.n q.x) (hb.ext x1) ?_
  refine Z.p [3] [] [(11, .bool (decide (((q.x : Nat) : Int) ≥ (200 : Int))))] ?_
  refine Z.e (Z.c (decide (((q.x : Nat) : Int) ≥ (200 : Int))) (fun h_c11 => ?_) (fun h_c11 => ?_))
  · skip
    refine Z.g [0, 1] ?_
    refine Z.p [0] [1] [(12, Z.P b 0)] ?_
    have p_c11 := of_decide_eq_true h_c11
    refine Z.kP (fun R hR hE => stop_p b S q 5 _ R (hb.ext x1) (hE _ _ (And.intro rfl (hP _ { q with fk := 5, fa := q.a } (by rw [run_succ]; simp only [stepN, exprS, kbq, h_c11, Z.ifs, reduceIte]) (by show (5 : Nat) ≠ 0; decide) (gb_ext (gb_refl w b) x1)))))
  refine wp_skip (Z.x (Z.r [0, 1, 2, 3, 4, 5] ?_))
  refine Z.p [0, 1] [2, 3, 4, 5] [(15, Z.P b 6), (14, Z.P b 6)] ?_
  refine Z.L 6 (Z.n q.x) (hb.ext x1) ?_
  have p_c11 := of_decide_eq_false h_c11
  refine Gx.pure_eq [3] [4, 5] [(17, .int .i64 (IntKind.i64.wrap (((q.x : Nat) : Int) + (1 : Int))))] [(17, .int .i64 ((q.x + 1 : Nat) : Int))] rfl (by kernel_rfl) (Gx.eqI (Gx.i64n (by omega) (by omega))) ?_
  refine Z.p [4] [5] [(18, Z.P b 6)] ?_
  refine Z.S 6 (.int .i64 ((q.x + 1 : Nat) : Int)) (hb.ext x1) #[.string S, Z.n q.k, Z.n q.a, .string q.t, Z.n q.n, Z.n q.e, .int .i64 ((q.x + 1 : Nat) : Int), Z.n q.y] (fun w2 u1 b2 zw2 => ?_)
  refine Z.e (Z.r [0, 1, 2, 3] ?_)
  refine Z.p [0] [1, 2, 3] [(19, .func (.func 76) #[Z.P b 0] #[])] ?_
  have ok1 : Ok S (⟨q.k, q.a, q.t, q.n, q.e, q.fk, q.fa, (q.x + 1), q.y⟩ : Rs) := ⟨hok.size, hok.e, by have := hok.x; have := hok.y; dsimp only; omega, by have := hok.x; have := hok.y; dsimp only; omega, hok.a, hok.n, hok.t, hok.k, hok.end_, hok.nm, hok.sg⟩
  have mq1 : M S (⟨q.k, q.a, q.t, q.n, q.e, q.fk, q.fa, (q.x + 1), q.y⟩ : Rs) = M S q := rfl
  have y1 := gb_upd (gb_ext (gb_refl w b) x1) u1
  refine Z.kP (fun R hR hE => (ih k (Nat.le_refl k)).f_any b S (⟨q.k, q.a, q.t, q.n, q.e, q.fk, q.fa, (q.x + 1), q.y⟩ : Rs) _ R b2 ok1 f0 (by omega) (fun w3 q1 e1 f1 x2 => hE _ _ (And.intro rfl (hP _ (⟨q1.k, q1.a, q1.t, q1.n, q1.e, q1.fk, q1.fa, q1.x - 1, q1.y⟩ : Rs) (by rw [run_succ]; simp only [stepN, exprS, kbq, h_c11, Z.ifs, reduceIte, e1, idl f1]) (by show q1.fk ≠ 0; exact f1) (gb_upd y1 x2)))) (fun w3 t1 A1 c1 q1 e1 f1 x2 b3 kv1 => hR _ _ ?_))
  have zw3 := x2.size
  have tb3 := b3.lt
  have kbq1 := (okB_iff q1).2 f1
  obtain ⟨ok2, ok2m, ok2x, ok2y⟩ : Tr S (⟨q.k, q.a, q.t, q.n, q.e, q.fk, q.fa, (q.x + 1), q.y⟩ : Rs) q1 := run_facts ok1 e1
  dsimp only at ok2x ok2y
  refine Z.N Z.c0 (fun k2 w4 l2 x3 b4 zw4 tb4 => ?_)
  refine Z.Sa (Z.T t1 A1 c1) b4 (fun w5 u2 b5 zw5 => ?_)
  refine Z.e (Z.r [0, 1, 2, 3, 4, 5] ?_)
  refine Z.p [0, 1] [2, 3, 4, 5] [(22, Z.P b 6), (21, Z.P b 6)] ?_
  refine Z.L 6 (Z.n q1.x) ((b3.ext x3).upd1 u2) ?_
  refine Gx.pure_eq [3] [4, 5] [(24, .int .i64 (IntKind.i64.wrap (((q1.x : Nat) : Int) - (1 : Int))))] [(24, .int .i64 ((q1.x - 1 : Nat) : Int))] rfl (by kernel_rfl) (Gx.eqI (by rw [IntWalk.i64_in _ (by omega)]; omega)) ?_
  refine Z.p [4] [5] [(25, Z.P b 6)] ?_
  refine Z.S 6 (.int .i64 ((q1.x - 1 : Nat) : Int)) ((b3.ext x3).upd1 u2) #[.string S, Z.n q1.k, Z.n q1.a, .string q1.t, Z.n q1.n, Z.n q1.e, .int .i64 ((q1.x - 1 : Nat) : Int), Z.n q1.y] (fun w6 u3 b6 zw6 => ?_)
  refine Z.e (Z.r [0, 1] ?_)
  refine Z.L 0 (.agg (Z.T t1 A1 c1)) (b5.upd1 u3) ?_
  refine Z.Sa (Z.T t1 A1 c1) (((((b1.upd1 u1).upd1 x2).ext x3).upd1 u2).upd1 u3) (fun w7 u4 b7 zw7 => ?_)
  refine Z.e (wp_ret (Gx.ret (Gx.res_c (u := .agg (Z.T t1 A1 c1)) rfl (by kernel_rfl) b7 (by kernel_rfl)) ?_))
  exact hK _ t1 A1 c1 (⟨q1.k, q1.a, q1.t, q1.n, q1.e, q1.fk, q1.fa, (q1.x - 1), q1.y⟩ : Rs) (by rw [run_succ]; simp only [stepN, exprS, kbq, e1, kbq1, h_c11, Z.ifs, reduceIte]) f1 (gb_new (gb_upd (gb_new (gb_ext (gb_upd y1 x2) x3) u2) u3) u4) (b6.upd1 u4) (KV.top ((((kv1.ext x3).upd u2).upd u3).upd u4))
theorem expr_p (k : Nat) (b : Nat) (S : ByteArray) (q : Rs) (w : World) (K : Ending → World → Prop) (ih : ∀ j, j ≤ k → SpecP j) (hb : Gx.Has w b (rdP S q)) (hok : Ok S q) (f0 : q.fk = 0) (hmu : 16 * M S q + 11 ≤ k + 1) (hP : (PQ w b K ((run S (k + 1) .expr q).2))) (hK : ∀ w' t A c q', run S (k + 1) .expr q = (t, q') → q'.fk = 0 → Gx.G w w' (some b) → Gx.Has w' b (rdP S q') → KV (In w.heap.size w'.heap.size []) w' t.ks A c → K (.returned (.agg (Z.T t A c))) w') :
    Calls Tryd.prog 51 #[Z.P b 0] w K := by
  refine Z.en 10 Tryd.func51 ?_
  have tbb := hb.lt
  have kbq := (okB_iff q).2 f0
  refine Z.r [0] ?_
  refine Z.N Z.c0 (fun k1 w1 l1 x1 b1 zw1 tb1 => ?_)
  refine Z.e (Z.r [0, 1, 2, 3, 4, 5, 6, 7] ?_)
  refine Z.p [0, 1, 2, 3, 4, 5] [6, 7] [(8, .func (.func 76) #[Z.P b 0] #[]), (7, Z.P b 0), (6, Z.P b 0), (5, Z.P b 6), (4, Z.P b 0), (3, Z.P b 0)] ?_
  have y1 := gb_ext (gb_refl w b) x1
  refine Z.kP (fun R hR hE => within_expr k b S q _ R  ih (hb.ext x1) hok f0 (by omega) (fun w2 q1 e1 f1 x2 => hE _ _ (And.intro rfl (hP _ q1 (by simp only [stepN, exprS, kbq, Z.ifs, reduceIte, e1, idl f1]) f1 (gb_upd y1 x2)))) (fun w2 t1 A1 c1 q1 e1 f1 x2 b2 kv1 => hR _ _ ?_))
  have zw2 := x2.size
  have tb2 := b2.lt
  have kbq1 := (okB_iff q1).2 f1
  obtain ⟨ok1, ok1m, ok1x, ok1y⟩ : Tr S q q1 := run_facts hok e1
  refine Z.Sa (Z.T t1 A1 c1) (b1.upd1 x2) (fun w3 u1 b3 zw3 => ?_)
  refine Z.e (wp_ret (Gx.ret (Gx.res_c (u := .agg (Z.T t1 A1 c1)) rfl (by kernel_rfl) b3 (by kernel_rfl)) ?_))
  exact hK _ t1 A1 c1 q1 (by simp only [stepN, exprS, kbq, e1, kbq1, Z.ifs, reduceIte]) f1 (gb_new (gb_upd y1 x2) u1) (b2.upd1 u1) (KV.top (kv1.upd u1))
end Par
end Go.Proofs.YtinilkomfggjiaaDoor
