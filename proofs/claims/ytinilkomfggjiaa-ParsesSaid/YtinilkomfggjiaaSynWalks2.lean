/- The walks, written by a program of ours (wip/gx/gx.py, syngen.py). -/
import Derived.Test.YtinilkomfggjiaaRows
import Derived.Test.YtinilkomfggjiaaGs
import Derived.Test.YtinilkomfggjiaaSynPlain
import Derived.Test.YtinilkomfggjiaaLexWalks2
import Derived.Test.YtinilkomfggjiaaSynWalks1
set_option linter.unusedVariables false
set_option linter.unusedSimpArgs false
namespace Go.Proofs.Ytinilkomfggjiaa
open Go.RowKit Go.Lex Go.Syn
attribute [local irreducible] Go.wpOps Go.Code.wp Go.wpOp Go.wpAnyH Go.Calls
namespace Doc
structure Spec (k : Nat) : Prop where
  f_typ : ∀ (b : Nat) (S : ByteArray) (q : Rs)  (w : World) (K : Ending → World → Prop), Gx.Has w b (rdO S q) → Ok S q → 16 * M S q + 11 ≤ k → (∀ w' t A c q', run S k .typ q = (t, q') → Gx.G w w' (some b) → Gx.Has w' b (rdO S q') → KV (In w.heap.size w'.heap.size []) w' t.ks A c → K (.returned (.agg #[Z.n t.k, Z.n t.a, .string t.nm, .int .i64 t.n, .slice A t.ks.length c])) w') → Calls Try.prog 28 #[Z.P b 0] w K
  f_pair : ∀ (b : Nat) (S : ByteArray) (q : Rs)  (w : World) (K : Ending → World → Prop), Gx.Has w b (rdO S q) → Ok S q → 16 * M S q + 10 ≤ k → (∀ w' t A c q', run S k .pair q = (t, q') → Gx.G w w' (some b) → Gx.Has w' b (rdO S q') → KV (In w.heap.size w'.heap.size []) w' t.ks A c → K (.returned (.agg #[Z.n t.k, Z.n t.a, .string t.nm, .int .i64 t.n, .slice A t.ks.length c])) w') → Calls Try.prog 47 #[Z.P b 0] w K
  f_some : ∀ (b : Nat) (S : ByteArray) (q : Rs)  (w : World) (K : Ending → World → Prop), Gx.Has w b (rdO S q) → Ok S q → 16 * M S q + 9 ≤ k → (∀ w' t A c q', run S k .some q = (t, q') → Gx.G w w' (some b) → Gx.Has w' b (rdO S q') → KV (In w.heap.size w'.heap.size []) w' t.ks A c → K (.returned (.agg #[Z.n t.k, Z.n t.a, .string t.nm, .int .i64 t.n, .slice A t.ks.length c])) w') → Calls Try.prog 56 #[Z.P b 0] w K
  f_expr : ∀ (b : Nat) (S : ByteArray) (q : Rs)  (w : World) (K : Ending → World → Prop), Gx.Has w b (rdO S q) → Ok S q → 16 * M S q + 11 ≤ k → (∀ w' t A c q', run S k .expr q = (t, q') → Gx.G w w' (some b) → Gx.Has w' b (rdO S q') → KV (In w.heap.size w'.heap.size []) w' t.ks A c → K (.returned (.agg #[Z.n t.k, Z.n t.a, .string t.nm, .int .i64 t.n, .slice A t.ks.length c])) w') → Calls Try.prog 32 #[Z.P b 0] w K
  f_any : ∀ (b : Nat) (S : ByteArray) (q : Rs)  (w : World) (K : Ending → World → Prop), Gx.Has w b (rdO S q) → Ok S q → 16 * M S q + 10 ≤ k → (∀ w' t A c q', run S k .any q = (t, q') → Gx.G w w' (some b) → Gx.Has w' b (rdO S q') → KV (In w.heap.size w'.heap.size []) w' t.ks A c → K (.returned (.agg #[Z.n t.k, Z.n t.a, .string t.nm, .int .i64 t.n, .slice A t.ks.length c])) w') → Calls Try.prog 49 #[Z.P b 0] w K
  f_params : ∀ (b : Nat) (S : ByteArray) (q : Rs) (sign : ByteArray) (first : Bool) (w : World) (K : Ending → World → Prop), Gx.Has w b (rdO S q) → Ok S q → 16 * M S q + 12 ≤ k → (∀ w' t A c q', run S k (.params sign first) q = (t, q') → Gx.G w w' (some b) → Gx.Has w' b (rdO S q') → KV (In w.heap.size w'.heap.size []) w' t.ks A c → K (.returned (.agg #[Z.n t.k, Z.n t.a, .string t.nm, .int .i64 t.n, .slice A t.ks.length c])) w') → Calls Try.prog 31 #[Z.P b 0, .string sign, .bool first] w K
  f_letN : ∀ (b : Nat) (S : ByteArray) (q : Rs) (at_ : Nat) (w : World) (K : Ending → World → Prop), Gx.Has w b (rdO S q) → Ok S q → 16 * M S q + 13 ≤ k → (∀ w' t A c q', run S k (.letN at_) q = (t, q') → Gx.G w w' (some b) → Gx.Has w' b (rdO S q') → KV (In w.heap.size w'.heap.size []) w' t.ks A c → K (.returned (.agg #[Z.n t.k, Z.n t.a, .string t.nm, .int .i64 t.n, .slice A t.ks.length c])) w') → Calls Try.prog 57 #[Z.P b 0, Z.n at_] w K
  f_cases : ∀ (b : Nat) (S : ByteArray) (q : Rs) (at_ : Nat) (w : World) (K : Ending → World → Prop), Gx.Has w b (rdO S q) → Ok S q → 16 * M S q + 13 ≤ k → (∀ w' t A c q', run S k (.cases at_) q = (t, q') → Gx.G w w' (some b) → Gx.Has w' b (rdO S q') → KV (In w.heap.size w'.heap.size []) w' t.ks A c → K (.returned (.agg #[Z.n t.k, Z.n t.a, .string t.nm, .int .i64 t.n, .slice A t.ks.length c])) w') → Calls Try.prog 58 #[Z.P b 0, Z.n at_] w K
  f_handle : ∀ (b : Nat) (S : ByteArray) (q : Rs) (at_ : Nat) (w : World) (K : Ending → World → Prop), Gx.Has w b (rdO S q) → Ok S q → 16 * M S q + 9 ≤ k → (isB q (Z.B [104, 97, 110, 100, 108, 101]) = true ∨ isB q (Z.B [115, 104, 97, 108, 108, 111, 119]) = true) → (∀ w' t A c q', run S k (.handle at_) q = (t, q') → Gx.G w w' (some b) → Gx.Has w' b (rdO S q') → KV (In w.heap.size w'.heap.size []) w' t.ks A c → K (.returned (.agg #[Z.n t.k, Z.n t.a, .string t.nm, .int .i64 t.n, .slice A t.ks.length c])) w') → Calls Try.prog 59 #[Z.P b 0, Z.n at_] w K
  f_comp : ∀ (b : Nat) (S : ByteArray) (q : Rs)  (w : World) (K : Ending → World → Prop), Gx.Has w b (rdO S q) → Ok S q → 16 * M S q + 9 ≤ k → (∀ w' t A c q', run S k .comp q = (t, q') → Gx.G w w' (some b) → Gx.Has w' b (rdO S q') → KV (In w.heap.size w'.heap.size []) w' t.ks A c → K (.returned (.agg #[Z.n t.k, Z.n t.a, .string t.nm, .int .i64 t.n, .slice A t.ks.length c])) w') → Calls Try.prog 60 #[Z.P b 0] w K
  f_cons : ∀ (b : Nat) (S : ByteArray) (q : Rs)  (w : World) (K : Ending → World → Prop), Gx.Has w b (rdO S q) → Ok S q → 16 * M S q + 8 ≤ k → (∀ w' t A c q', run S k .cons q = (t, q') → Gx.G w w' (some b) → Gx.Has w' b (rdO S q') → KV (In w.heap.size w'.heap.size []) w' t.ks A c → K (.returned (.agg #[Z.n t.k, Z.n t.a, .string t.nm, .int .i64 t.n, .slice A t.ks.length c])) w') → Calls Try.prog 70 #[Z.P b 0] w K
  f_sum : ∀ (b : Nat) (S : ByteArray) (q : Rs)  (w : World) (K : Ending → World → Prop), Gx.Has w b (rdO S q) → Ok S q → 16 * M S q + 7 ≤ k → (∀ w' t A c q', run S k .sum q = (t, q') → Gx.G w w' (some b) → Gx.Has w' b (rdO S q') → KV (In w.heap.size w'.heap.size []) w' t.ks A c → K (.returned (.agg #[Z.n t.k, Z.n t.a, .string t.nm, .int .i64 t.n, .slice A t.ks.length c])) w') → Calls Try.prog 74 #[Z.P b 0] w K
  f_mul : ∀ (b : Nat) (S : ByteArray) (q : Rs)  (w : World) (K : Ending → World → Prop), Gx.Has w b (rdO S q) → Ok S q → 16 * M S q + 6 ≤ k → (∀ w' t A c q', run S k .mul q = (t, q') → Gx.G w w' (some b) → Gx.Has w' b (rdO S q') → KV (In w.heap.size w'.heap.size []) w' t.ks A c → K (.returned (.agg #[Z.n t.k, Z.n t.a, .string t.nm, .int .i64 t.n, .slice A t.ks.length c])) w') → Calls Try.prog 76 #[Z.P b 0] w K
  f_app : ∀ (b : Nat) (S : ByteArray) (q : Rs)  (w : World) (K : Ending → World → Prop), Gx.Has w b (rdO S q) → Ok S q → 16 * M S q + 5 ≤ k → (∀ w' t A c q', run S k .app q = (t, q') → Gx.G w w' (some b) → Gx.Has w' b (rdO S q') → KV (In w.heap.size w'.heap.size []) w' t.ks A c → K (.returned (.agg #[Z.n t.k, Z.n t.a, .string t.nm, .int .i64 t.n, .slice A t.ks.length c])) w') → Calls Try.prog 77 #[Z.P b 0] w K
  f_atom : ∀ (b : Nat) (S : ByteArray) (q : Rs)  (w : World) (K : Ending → World → Prop), Gx.Has w b (rdO S q) → Ok S q → 16 * M S q + 3 ≤ k → (∀ w' t A c q', run S k .atom q = (t, q') → Gx.G w w' (some b) → Gx.Has w' b (rdO S q') → KV (In w.heap.size w'.heap.size []) w' t.ks A c → K (.returned (.agg #[Z.n t.k, Z.n t.a, .string t.nm, .int .i64 t.n, .slice A t.ks.length c])) w') → Calls Try.prog 78 #[Z.P b 0] w K
  f_round : ∀ (b : Nat) (S : ByteArray) (q : Rs) (at_ : Nat) (w : World) (K : Ending → World → Prop), Gx.Has w b (rdO S q) → Ok S q → 16 * M S q + 13 ≤ k → (∀ w' t A c q', run S k (.round at_) q = (t, q') → Gx.G w w' (some b) → Gx.Has w' b (rdO S q') → KV (In w.heap.size w'.heap.size []) w' t.ks A c → K (.returned (.agg #[Z.n t.k, Z.n t.a, .string t.nm, .int .i64 t.n, .slice A t.ks.length c])) w') → Calls Try.prog 80 #[Z.P b 0, Z.n at_] w K
  f_square : ∀ (b : Nat) (S : ByteArray) (q : Rs) (at_ : Nat) (w : World) (K : Ending → World → Prop), Gx.Has w b (rdO S q) → Ok S q → 16 * M S q + 13 ≤ k → (∀ w' t A c q', run S k (.square at_) q = (t, q') → Gx.G w w' (some b) → Gx.Has w' b (rdO S q') → KV (In w.heap.size w'.heap.size []) w' t.ks A c → K (.returned (.agg #[Z.n t.k, Z.n t.a, .string t.nm, .int .i64 t.n, .slice A t.ks.length c])) w') → Calls Try.prog 81 #[Z.P b 0, Z.n at_] w K
  f_prog : ∀ (b : Nat) (S : ByteArray) (q : Rs)  (w : World) (K : Ending → World → Prop), Gx.Has w b (rdO S q) → Ok S q → 16 * M S q + 14 ≤ k → (∀ w' t A c q', run S k .prog q = (t, q') → Gx.G w w' (some b) → Gx.Has w' b (rdO S q') → KV (In w.heap.size w'.heap.size []) w' t.ks A c → K (.returned (.agg #[Z.n t.k, Z.n t.a, .string t.nm, .int .i64 t.n, .slice A t.ks.length c])) w') → Calls Try.prog 12 #[Z.P b 0] w K
set_option maxHeartbeats 1000000 in
set_option maxRecDepth 10000 in
theorem pair_c (k : Nat) (b : Nat) (S : ByteArray) (q : Rs) (w : World) (K : Ending → World → Prop) (ih : ∀ j, j ≤ k → Spec j) (hb : Gx.Has w b (rdO S q)) (hok : Ok S q) (hmu : 16 * M S q + 10 ≤ k + 1) (hK : ∀ w' t A c q', run S (k + 1) .pair q = (t, q') → Gx.G w w' (some b) → Gx.Has w' b (rdO S q') → KV (In w.heap.size w'.heap.size []) w' t.ks A c → K (.returned (.agg #[Z.n t.k, Z.n t.a, .string t.nm, .int .i64 t.n, .slice A t.ks.length c])) w') :
    Calls Try.prog 47 #[Z.P b 0] w K := by
  refine Gx.enter 18 Try.func47 rfl rfl (Nat.le_of_ble_eq_true rfl) ?_
  have tbb := hb.lt
  refine Z.r [0] ?_
  refine Z.N (.cells #[.int .i64 0, .int .i64 0, .string Z.E, .int .i64 0, .slice none 0 0] 24) (fun k1 w1 l1 x1 b1 zw1 tb1 => ?_)
  refine Z.e (Z.r [0, 1, 2, 3] ?_)
  refine Z.p [0] [1, 2, 3] [(5, Z.P b 0)] ?_
  refine Z.k (fun R hR => (ih k (Nat.le_refl k)).f_some b S q _ R (hb.ext x1) hok (by omega) (fun w2 t1 A1 c1 q1 e1 x2 b2 kv1 => hR _ _ ?_))
  have zw2 := x2.size
  have tb2 := b2.lt
  obtain ⟨ok1, m1, tr1x, tr1y⟩ : Tr S q q1 := run_facts hok e1
  refine Z.N (.cells #[.int .i64 0, .int .i64 0, .string Z.E, .int .i64 0, .slice none 0 0] 24) (fun k2 w3 l2 x3 b3 zw3 tb3 => ?_)
  refine Z.Sa #[Z.n t1.k, Z.n t1.a, .string t1.nm, .int .i64 t1.n, .slice A1 t1.ks.length c1] b3 (fun w4 u1 b4 zw4 => ?_)
  refine Z.e (wp_seq (Z.r [0, 1] ?_))
  refine Z.p [0] [1] [(7, Z.P b 0)] ?_
  refine Z.k (fun R hR => has_c b S q1 (Z.B [42]) _ R ((b2.ext x3).upd1 u1) ok1 (fun w5 q2 e2 x4 b5 => hR _ _ ?_))
  have zw5 := x4.size
  have tb5 := b5.lt
  obtain ⟨ok2, m2, tr2x, tr2y⟩ : Tr S q1 q2 := e2 ▸ has_tr ok1
  refine Z.e (Z.c (isB q1 (Z.B [42])) (fun h_c8 => ?_) (fun h_c8 => ?_))
  · skip
    refine Z.r [0, 1, 2, 3] ?_
    refine Z.p [0] [1, 2, 3] [(9, Z.P b 0)] ?_
    have lt1 := (by have := has_lt ok1 h_c8; rw [e2] at this; exact this : M S q2 < M S q1)
    refine Z.k (fun R hR => (ih k (Nat.le_refl k)).f_pair b S q2 _ R b5 ok2 (by omega) (fun w6 t2 A2 c2 q3 e3 x5 b6 kv2 => hR _ _ ?_))
    have zw6 := x5.size
    have tb6 := b6.lt
    obtain ⟨ok3, m3, tr3x, tr3y⟩ : Tr S q2 q3 := run_facts ok2 e3
    refine Z.N (.cells #[.int .i64 0, .int .i64 0, .string Z.E, .int .i64 0, .slice none 0 0] 24) (fun k3 w7 l3 x6 b7 zw7 tb7 => ?_)
    refine Z.Sa #[Z.n t2.k, Z.n t2.a, .string t2.nm, .int .i64 t2.n, .slice A2 t2.ks.length c2] b7 (fun w8 u2 b8 zw8 => ?_)
    refine Z.e (Z.r [0, 1, 2, 3, 4, 5, 6] ?_)
    refine Z.p [0] [1, 2, 3, 4, 5, 6] [(11, Z.P k2 1)] ?_
    refine Z.L 1 (Z.n t1.a) ((((b4.upd1 x4).upd1 x5).ext x6).upd1 u2) ?_
    refine Z.L 0 (.agg #[Z.n t1.k, Z.n t1.a, .string t1.nm, .int .i64 t1.n, .slice A1 t1.ks.length c1]) ((((b4.upd1 x4).upd1 x5).ext x6).upd1 u2) ?_
    refine Z.L 0 (.agg #[Z.n t2.k, Z.n t2.a, .string t2.nm, .int .i64 t2.n, .slice A2 t2.ks.length c2]) b8 ?_
    refine Z.R (.cells #[Z.n t1.k, Z.n t1.a, .string t1.nm, .int .i64 t1.n, .slice A1 t1.ks.length c1, Z.n t2.k, Z.n t2.a, .string t2.nm, .int .i64 t2.n, .slice A2 t2.ks.length c2] 24) 2 2 (fun k4 w9 l4 x7 b9 zw9 tb9 => ?_)
    refine Z.k (fun R hR => Node_c (28 : Int) ((t1.a : Nat) : Int) (some (⟨k4, 0, none⟩ : Addr)) 2 2 _ R (fun w10 x8 => hR _ _ ?_))
    have zw10 := x8.size
    refine Z.Sa #[.int .i64 28, Z.n t1.a, .string Z.E, .int .i64 0, .slice (some ⟨k4, 0, none⟩) 2 2] (((((((((b1.upd1 x2).ext x3).upd1 u1).upd1 x4).upd1 x5).ext x6).upd1 u2).ext x7).ext x8) (fun w11 u3 b10 zw11 => ?_)
    refine Z.e (wp_ret (Gx.then_ret (Gx.ret (Gx.res_c (u := .agg #[.int .i64 28, Z.n t1.a, .string Z.E, .int .i64 0, .slice (some ⟨k4, 0, none⟩) 2 2]) rfl (by kernel_rfl) b10 (by kernel_rfl)) ?_)))
    exact hK _ (Nd.mk 28 t1.a Z.E (0 : Int) [t1, t2]) (some (⟨k4, 0, none⟩ : Addr)) 2 q3 (by rw [run_succ]; simp only [stepN, pairS, e1, e2, e3, h_c8, Z.ifs, reduceIte]) (gb_new (gb_ext (gb_ext (gb_new (gb_ext (gb_upd (gb_upd (gb_new (gb_ext (gb_upd (gb_ext (gb_refl w b) x1) x2) x3) u1) x4) x5) x6) u2) x7) x8) u3) (((((b6.ext x6).upd1 u2).ext x7).ext x8).upd1 u3) (KV.of_row [(t1, A1, c1), (t2, A2, c2)] (n := 10) ((b9.ext x8).upd1 u3) rfl ⟨by omega, by omega, (fun hj => by cases hj)⟩ (by intro p hp; simp only [List.mem_cons, List.not_mem_nil, or_false] at hp; rcases hp with rfl | rfl; exact (KV.top (((((((((kv1.ext x3).upd u1).upd x4).upd x5).ext x6).upd u2).ext x7).ext x8).upd u3)); exact (KV.top (((((kv2.ext x6).upd u2).ext x7).ext x8).upd u3))))
  refine wp_skip (Z.x (Z.r [0, 1] ?_))
  refine Z.L 0 (.agg #[Z.n t1.k, Z.n t1.a, .string t1.nm, .int .i64 t1.n, .slice A1 t1.ks.length c1]) (b4.upd1 x4) ?_
  refine Z.Sa #[Z.n t1.k, Z.n t1.a, .string t1.nm, .int .i64 t1.n, .slice A1 t1.ks.length c1] ((((b1.upd1 x2).ext x3).upd1 u1).upd1 x4) (fun w12 u4 b11 zw12 => ?_)
  refine Z.e (wp_ret (Gx.ret (Gx.res_c (u := .agg #[Z.n t1.k, Z.n t1.a, .string t1.nm, .int .i64 t1.n, .slice A1 t1.ks.length c1]) rfl (by kernel_rfl) b11 (by kernel_rfl)) ?_))
  exact hK _ t1 A1 c1 q2 (by rw [run_succ]; simp only [stepN, pairS, e1, e2, h_c8, Z.ifs, reduceIte]) (gb_new (gb_upd (gb_new (gb_ext (gb_upd (gb_ext (gb_refl w b) x1) x2) x3) u1) x4) u4) (b5.upd1 u4) (KV.top ((((kv1.ext x3).upd u1).upd x4).upd u4))
set_option maxHeartbeats 1000000 in
set_option maxRecDepth 10000 in
theorem cons_c (k : Nat) (b : Nat) (S : ByteArray) (q : Rs) (w : World) (K : Ending → World → Prop) (ih : ∀ j, j ≤ k → Spec j) (hb : Gx.Has w b (rdO S q)) (hok : Ok S q) (hmu : 16 * M S q + 8 ≤ k + 1) (hK : ∀ w' t A c q', run S (k + 1) .cons q = (t, q') → Gx.G w w' (some b) → Gx.Has w' b (rdO S q') → KV (In w.heap.size w'.heap.size []) w' t.ks A c → K (.returned (.agg #[Z.n t.k, Z.n t.a, .string t.nm, .int .i64 t.n, .slice A t.ks.length c])) w') :
    Calls Try.prog 70 #[Z.P b 0] w K := by
  refine Gx.enter 18 Try.func70 rfl rfl (Nat.le_of_ble_eq_true rfl) ?_
  have tbb := hb.lt
  refine Z.r [0] ?_
  refine Z.N (.cells #[.int .i64 0, .int .i64 0, .string Z.E, .int .i64 0, .slice none 0 0] 24) (fun k1 w1 l1 x1 b1 zw1 tb1 => ?_)
  refine Z.e (Z.r [0, 1, 2, 3] ?_)
  refine Z.p [0] [1, 2, 3] [(5, Z.P b 0)] ?_
  refine Z.k (fun R hR => (ih k (Nat.le_refl k)).f_sum b S q _ R (hb.ext x1) hok (by omega) (fun w2 t1 A1 c1 q1 e1 x2 b2 kv1 => hR _ _ ?_))
  have zw2 := x2.size
  have tb2 := b2.lt
  obtain ⟨ok1, m1, tr1x, tr1y⟩ : Tr S q q1 := run_facts hok e1
  refine Z.N (.cells #[.int .i64 0, .int .i64 0, .string Z.E, .int .i64 0, .slice none 0 0] 24) (fun k2 w3 l2 x3 b3 zw3 tb3 => ?_)
  refine Z.Sa #[Z.n t1.k, Z.n t1.a, .string t1.nm, .int .i64 t1.n, .slice A1 t1.ks.length c1] b3 (fun w4 u1 b4 zw4 => ?_)
  refine Z.e (wp_seq (Z.r [0, 1] ?_))
  refine Z.p [0] [1] [(7, Z.P b 0)] ?_
  refine Z.k (fun R hR => has_c b S q1 (Z.B [58, 58]) _ R ((b2.ext x3).upd1 u1) ok1 (fun w5 q2 e2 x4 b5 => hR _ _ ?_))
  have zw5 := x4.size
  have tb5 := b5.lt
  obtain ⟨ok2, m2, tr2x, tr2y⟩ : Tr S q1 q2 := e2 ▸ has_tr ok1
  refine Z.e (Z.c (isB q1 (Z.B [58, 58])) (fun h_c8 => ?_) (fun h_c8 => ?_))
  · skip
    refine Z.r [0, 1, 2, 3] ?_
    refine Z.p [0] [1, 2, 3] [(9, Z.P b 0)] ?_
    have lt1 := (by have := has_lt ok1 h_c8; rw [e2] at this; exact this : M S q2 < M S q1)
    refine Z.k (fun R hR => (ih k (Nat.le_refl k)).f_cons b S q2 _ R b5 ok2 (by omega) (fun w6 t2 A2 c2 q3 e3 x5 b6 kv2 => hR _ _ ?_))
    have zw6 := x5.size
    have tb6 := b6.lt
    obtain ⟨ok3, m3, tr3x, tr3y⟩ : Tr S q2 q3 := run_facts ok2 e3
    refine Z.N (.cells #[.int .i64 0, .int .i64 0, .string Z.E, .int .i64 0, .slice none 0 0] 24) (fun k3 w7 l3 x6 b7 zw7 tb7 => ?_)
    refine Z.Sa #[Z.n t2.k, Z.n t2.a, .string t2.nm, .int .i64 t2.n, .slice A2 t2.ks.length c2] b7 (fun w8 u2 b8 zw8 => ?_)
    refine Z.e (Z.r [0, 1, 2, 3, 4, 5, 6] ?_)
    refine Z.p [0] [1, 2, 3, 4, 5, 6] [(11, Z.P k2 1)] ?_
    refine Z.L 1 (Z.n t1.a) ((((b4.upd1 x4).upd1 x5).ext x6).upd1 u2) ?_
    refine Z.L 0 (.agg #[Z.n t1.k, Z.n t1.a, .string t1.nm, .int .i64 t1.n, .slice A1 t1.ks.length c1]) ((((b4.upd1 x4).upd1 x5).ext x6).upd1 u2) ?_
    refine Z.L 0 (.agg #[Z.n t2.k, Z.n t2.a, .string t2.nm, .int .i64 t2.n, .slice A2 t2.ks.length c2]) b8 ?_
    refine Z.R (.cells #[Z.n t1.k, Z.n t1.a, .string t1.nm, .int .i64 t1.n, .slice A1 t1.ks.length c1, Z.n t2.k, Z.n t2.a, .string t2.nm, .int .i64 t2.n, .slice A2 t2.ks.length c2] 24) 2 2 (fun k4 w9 l4 x7 b9 zw9 tb9 => ?_)
    refine Z.k (fun R hR => Node_c (16 : Int) ((t1.a : Nat) : Int) (some (⟨k4, 0, none⟩ : Addr)) 2 2 _ R (fun w10 x8 => hR _ _ ?_))
    have zw10 := x8.size
    refine Z.Sa #[.int .i64 16, Z.n t1.a, .string Z.E, .int .i64 0, .slice (some ⟨k4, 0, none⟩) 2 2] (((((((((b1.upd1 x2).ext x3).upd1 u1).upd1 x4).upd1 x5).ext x6).upd1 u2).ext x7).ext x8) (fun w11 u3 b10 zw11 => ?_)
    refine Z.e (wp_ret (Gx.then_ret (Gx.ret (Gx.res_c (u := .agg #[.int .i64 16, Z.n t1.a, .string Z.E, .int .i64 0, .slice (some ⟨k4, 0, none⟩) 2 2]) rfl (by kernel_rfl) b10 (by kernel_rfl)) ?_)))
    exact hK _ (Nd.mk 16 t1.a Z.E (0 : Int) [t1, t2]) (some (⟨k4, 0, none⟩ : Addr)) 2 q3 (by rw [run_succ]; simp only [stepN, consS, e1, e2, e3, h_c8, Z.ifs, reduceIte]) (gb_new (gb_ext (gb_ext (gb_new (gb_ext (gb_upd (gb_upd (gb_new (gb_ext (gb_upd (gb_ext (gb_refl w b) x1) x2) x3) u1) x4) x5) x6) u2) x7) x8) u3) (((((b6.ext x6).upd1 u2).ext x7).ext x8).upd1 u3) (KV.of_row [(t1, A1, c1), (t2, A2, c2)] (n := 10) ((b9.ext x8).upd1 u3) rfl ⟨by omega, by omega, (fun hj => by cases hj)⟩ (by intro p hp; simp only [List.mem_cons, List.not_mem_nil, or_false] at hp; rcases hp with rfl | rfl; exact (KV.top (((((((((kv1.ext x3).upd u1).upd x4).upd x5).ext x6).upd u2).ext x7).ext x8).upd u3)); exact (KV.top (((((kv2.ext x6).upd u2).ext x7).ext x8).upd u3))))
  refine wp_skip (Z.x (Z.r [0, 1] ?_))
  refine Z.L 0 (.agg #[Z.n t1.k, Z.n t1.a, .string t1.nm, .int .i64 t1.n, .slice A1 t1.ks.length c1]) (b4.upd1 x4) ?_
  refine Z.Sa #[Z.n t1.k, Z.n t1.a, .string t1.nm, .int .i64 t1.n, .slice A1 t1.ks.length c1] ((((b1.upd1 x2).ext x3).upd1 u1).upd1 x4) (fun w12 u4 b11 zw12 => ?_)
  refine Z.e (wp_ret (Gx.ret (Gx.res_c (u := .agg #[Z.n t1.k, Z.n t1.a, .string t1.nm, .int .i64 t1.n, .slice A1 t1.ks.length c1]) rfl (by kernel_rfl) b11 (by kernel_rfl)) ?_))
  exact hK _ t1 A1 c1 q2 (by rw [run_succ]; simp only [stepN, consS, e1, e2, h_c8, Z.ifs, reduceIte]) (gb_new (gb_upd (gb_new (gb_ext (gb_upd (gb_ext (gb_refl w b) x1) x2) x3) u1) x4) u4) (b5.upd1 u4) (KV.top ((((kv1.ext x3).upd u1).upd x4).upd u4))
set_option maxHeartbeats 1000000 in
set_option maxRecDepth 10000 in
theorem some_c (k : Nat) (b : Nat) (S : ByteArray) (q : Rs) (w : World) (K : Ending → World → Prop) (ih : ∀ j, j ≤ k → Spec j) (hb : Gx.Has w b (rdO S q)) (hok : Ok S q) (hmu : 16 * M S q + 9 ≤ k + 1) (hK : ∀ w' t A c q', run S (k + 1) .some q = (t, q') → Gx.G w w' (some b) → Gx.Has w' b (rdO S q') → KV (In w.heap.size w'.heap.size []) w' t.ks A c → K (.returned (.agg #[Z.n t.k, Z.n t.a, .string t.nm, .int .i64 t.n, .slice A t.ks.length c])) w') :
    Calls Try.prog 56 #[Z.P b 0] w K := by
  refine Gx.enter 43 Try.func56 rfl rfl (Nat.le_of_ble_eq_true rfl) ?_
  have tbb := hb.lt
  refine Z.r [0] ?_
  refine Z.N (.cells #[.int .i64 0, .int .i64 0, .string Z.E, .int .i64 0, .slice none 0 0] 24) (fun k1 w1 l1 x1 b1 zw1 tb1 => ?_)
  refine Z.e (Z.r [0, 1, 2, 3, 4, 5] ?_)
  refine Z.p [0, 1, 2, 3] [4, 5] [(8, Z.P b 2), (7, Z.P b 1), (6, Z.P b 0), (5, Z.P b 0)] ?_
  refine Z.L 2 (Z.n q.a) (hb.ext x1) ?_
  refine Z.p [5] [] [(3, Z.n q.a)] ?_
  refine Z.e (Z.r [0, 1, 2] ?_)
  refine Z.p [0] [1, 2] [(10, .agg #[.int .i64 0, .int .i64 0, .string Z.E, .int .i64 0, .slice none 0 0])] ?_
  refine Z.N (.cells #[.int .i64 0, .int .i64 0, .string Z.E, .int .i64 0, .slice none 0 0] 24) (fun k2 w2 l2 x2 b2 zw2 tb2 => ?_)
  refine Z.Sa #[.int .i64 0, .int .i64 0, .string Z.E, .int .i64 0, .slice none 0 0] b2 (fun w3 u1 b3 zw3 => ?_)
  refine Z.e (wp_seq (wp_block (Z.r [0, 1, 2] ?_)))
  refine Z.p [0] [1, 2] [(14, Z.P b 0)] ?_
  refine Z.k (fun R hR => has_c b S q (Z.B [105, 110, 116]) _ R (((hb.ext x1).ext x2).upd1 u1) hok (fun w4 q1 e1 x3 b4 => hR _ _ ?_))
  have zw4 := x3.size
  have tb4 := b4.lt
  obtain ⟨ok1, m1, tr1x, tr1y⟩ : Tr S q q1 := e1 ▸ has_tr hok
  refine Z.p [2] [] [(13, .bool (isB q (Z.B [105, 110, 116])))] ?_
  refine Z.e (Z.c (isB q (Z.B [105, 110, 116])) (fun h_c13 => ?_) (fun h_c13 => ?_))
  · skip
    refine Z.g [0, 1, 2] ?_
    refine Z.p [0] [1, 2] [(16, Z.n q.a)] ?_
    refine Z.k (fun R hR => Node_c (24 : Int) ((q.a : Nat) : Int) none 0 0 _ R (fun w5 x4 => hR _ _ ?_))
    have zw5 := x4.size
    have lt1 := (by have := has_lt hok h_c13; rw [e1] at this; exact this : M S q1 < M S q)
    refine Z.Sa #[.int .i64 24, Z.n q.a, .string Z.E, .int .i64 0, .slice none 0 0] ((b3.upd1 x3).ext x4) (fun w6 u2 b5 zw6 => ?_)
    refine Gx.ops_nil (Gx.block_normal (Z.x (wp_seq (wp_block (Gx.loop (n' := 43) (d' := []) (fun mz l' w' => ∃ (j : Nat) (p : Rs) (a : Nd) (A : Option Addr) (c : Nat), l' = [(0, Z.P b 0), (2, Z.P k1 0), (4, Z.P k2 0)] ∧ mz = M S p ∧ Gx.G w w' (some b) ∧ Gx.Has w' b (.cells #[.string S, Z.n p.k, Z.n p.a, .string p.t, Z.n p.n, Z.n p.e, Z.n p.fk, Z.n p.fa, Z.n p.x, Z.n p.y] 41) ∧ Gx.Has w' k1 (.cells #[.int .i64 0, .int .i64 0, .string Z.E, .int .i64 0, .slice none 0 0] 24) ∧ Gx.Has w' k2 (.cells #[Z.n a.k, Z.n a.a, .string a.nm, .int .i64 a.n, .slice A a.ks.length c] 24) ∧ (j ≤ k) ∧ (16 * M S p + 3 ≤ j) ∧ (run S j (.listL a) p = run S k (.listL (Nd.mk 24 q.a Z.E (0 : Int) [])) q1) ∧ (Ok S p) ∧ (KV (In w.heap.size w'.heap.size [k1, k2]) w' a.ks A c)) _ _ [(0, Z.P b 0), (2, Z.P k1 0), (4, Z.P k2 0)] (Gx.forget [(0, Z.P b 0), (2, Z.P k1 0), (4, Z.P k2 0)] (by kernel_rfl)) ⟨k, q1, (Nd.mk 24 q.a Z.E (0 : Int) []), none, 0, rfl, rfl, (gb_new (gb_ext (gb_upd (gb_new (gb_ext (gb_ext (gb_refl w b) x1) x2) u1) x3) x4) u2), ((b4.ext x4).upd1 u2), (((((b1.ext x2).upd1 u1).upd1 x3).ext x4).upd1 u2), b5, (Nat.le_refl _), (by omega), rfl, ok1, KV.nil⟩ (fun bb1 m2 ll1 w7 hI1 K1 hK1 => ?_))))))
    obtain ⟨j, p, a, A, c, rfl, rfl, x5, b6, b7, b8, hj, hm, hr, ho, hkv⟩ := hI1
    have zw7 := x5.size
    have tb6 := b6.lt
    have tb7 := b7.lt
    have tb8 := b8.lt
    obtain ⟨i, rfl⟩ : ∃ i, j = i + 1 := ⟨j - 1, by omega⟩
    refine wp_seq (Z.r [0, 1] ?_)
    refine Z.p [0] [1] [(35, Z.P b 0)] ?_
    refine Z.k (fun R hR => has_c b S p (Z.B [108, 105, 115, 116]) _ R b6 ho (fun w8 q2 e2 x6 b9 => hR _ _ ?_))
    have zw8 := x6.size
    have tb9 := b9.lt
    obtain ⟨ok2, m3, tr2x, tr2y⟩ : Tr S p q2 := e2 ▸ has_tr ho
    refine Z.e (Z.c (isB p (Z.B [108, 105, 115, 116])) (fun h_c36 => ?_) (fun h_c36 => ?_))
    · skip
      refine wp_skip (Z.x (wp_block (Z.g [0, 1, 2, 3, 4, 5] ?_)))
      refine Z.p [0] [1, 2, 3, 4, 5] [(37, Z.P k2 1)] ?_
      have lt2 := (by have := has_lt ho h_c36; rw [e2] at this; exact this : M S q2 < M S p)
      refine Z.L 1 (Z.n a.a) (b8.upd1 x6) ?_
      refine Z.L 0 (.agg #[Z.n a.k, Z.n a.a, .string a.nm, .int .i64 a.n, .slice A a.ks.length c]) (b8.upd1 x6) ?_
      refine Z.R (.cells #[Z.n a.k, Z.n a.a, .string a.nm, .int .i64 a.n, .slice A a.ks.length c] 24) 1 1 (fun k3 w9 l3 x7 b10 zw9 tb10 => ?_)
      refine Z.k (fun R hR => Node_c (27 : Int) ((a.a : Nat) : Int) (some (⟨k3, 0, none⟩ : Addr)) 1 1 _ R (fun w10 x8 => hR _ _ ?_))
      have zw10 := x8.size
      refine Z.Sa #[.int .i64 27, Z.n a.a, .string Z.E, .int .i64 0, .slice (some ⟨k3, 0, none⟩) 1 1] (((b8.upd1 x6).ext x7).ext x8) (fun w11 u3 b11 zw11 => ?_)
      refine Gx.ops_nil (Gx.block_normal (Z.x ?_))
      rw [Gx.forget [(0, Z.P b 0), (2, Z.P k1 0), (4, Z.P k2 0)] (by kernel_rfl)]
      exact hK1 _ _ _ _ (by omega) ⟨i, q2, (Nd.mk 27 a.a Z.E (0 : Int) [a]), (some (⟨k3, 0, none⟩ : Addr)), 1, rfl, rfl, (gb_new (gb_ext (gb_ext (gb_upd (gb_upd (gb_refl w b) x5) x6) x7) x8) u3), (((b9.ext x7).ext x8).upd1 u3), ((((b7.upd1 x6).ext x7).ext x8).upd1 u3), b11, (by omega), (by omega), (by rw [← hr, run_succ]; simp only [stepN, listLS, e2, h_c13, h_c36, Z.ifs, reduceIte]), ok2, (KV.of_row [(a, A, c)] (n := 5) ((b10.ext x8).upd1 u3) rfl ⟨by omega, by omega, (by simp only [List.mem_cons, List.not_mem_nil, or_false, not_or]; omega)⟩ (by intro p hp; simp only [List.mem_cons, List.not_mem_nil, or_false] at hp; subst hp; exact (KV.top ((((hkv.upd x6).ext x7).ext x8).upd u3) (by omega) (by intro j hj; simp only [List.mem_cons, List.not_mem_nil, or_false] at hj ⊢; omega))))⟩
    refine wp_exit (Gx.then_exit (Gx.then_exit (Gx.block_exit (Z.x ?_))))
    have e3 : run S k (.listL (Nd.mk 24 q.a Z.E (0 : Int) [])) q1 = (a, q2) := by rw [← hr, run_succ]; simp only [stepN, listLS, e2, h_c13, h_c36, Z.ifs, reduceIte]
    refine Z.r [0, 1] ?_
    refine Z.L 0 (.agg #[Z.n a.k, Z.n a.a, .string a.nm, .int .i64 a.n, .slice A a.ks.length c]) (b8.upd1 x6) ?_
    refine Z.Sa #[Z.n a.k, Z.n a.a, .string a.nm, .int .i64 a.n, .slice A a.ks.length c] (b7.upd1 x6) (fun w12 u4 b12 zw12 => ?_)
    refine Z.e (wp_ret (Gx.ret (Gx.res_c (u := .agg #[Z.n a.k, Z.n a.a, .string a.nm, .int .i64 a.n, .slice A a.ks.length c]) rfl (by kernel_rfl) b12 (by kernel_rfl)) ?_))
    exact hK _ a A c q2 (by rw [run_succ]; simp only [stepN, someS, e1, e3, h_c13, h_c36, Z.ifs, reduceIte]) (gb_new (gb_upd (gb_upd (gb_refl w b) x5) x6) u4) (b9.upd1 u4) (KV.top ((hkv.upd x6).upd u4))
  refine Z.r [0, 1, 2] ?_
  refine Z.p [0] [1, 2] [(19, Z.P b 0)] ?_
  refine Z.k (fun R hR => has_c b S q1 (Z.B [98, 111, 111, 108]) _ R b4 ok1 (fun w13 q3 e4 x9 b13 => hR _ _ ?_))
  have zw13 := x9.size
  have tb13 := b13.lt
  obtain ⟨ok3, m4, tr3x, tr3y⟩ : Tr S q1 q3 := e4 ▸ has_tr ok1
  refine Z.p [2] [] [(18, .bool (isB q1 (Z.B [98, 111, 111, 108])))] ?_
  refine Z.e (Z.c (isB q1 (Z.B [98, 111, 111, 108])) (fun h_c18 => ?_) (fun h_c18 => ?_))
  · skip
    refine Z.g [0, 1, 2] ?_
    refine Z.p [0] [1, 2] [(21, Z.n q.a)] ?_
    refine Z.k (fun R hR => Node_c (25 : Int) ((q.a : Nat) : Int) none 0 0 _ R (fun w14 x10 => hR _ _ ?_))
    have zw14 := x10.size
    have lt3 := (by have := has_lt ok1 h_c18; rw [e4] at this; exact this : M S q3 < M S q1)
    refine Z.Sa #[.int .i64 25, Z.n q.a, .string Z.E, .int .i64 0, .slice none 0 0] (((b3.upd1 x3).upd1 x9).ext x10) (fun w15 u5 b14 zw15 => ?_)
    refine Gx.ops_nil (Gx.block_normal (Z.x (wp_seq (wp_block (Gx.loop (n' := 43) (d' := []) (fun mz l' w' => ∃ (j : Nat) (p : Rs) (a : Nd) (A : Option Addr) (c : Nat), l' = [(0, Z.P b 0), (2, Z.P k1 0), (4, Z.P k2 0)] ∧ mz = M S p ∧ Gx.G w w' (some b) ∧ Gx.Has w' b (.cells #[.string S, Z.n p.k, Z.n p.a, .string p.t, Z.n p.n, Z.n p.e, Z.n p.fk, Z.n p.fa, Z.n p.x, Z.n p.y] 41) ∧ Gx.Has w' k1 (.cells #[.int .i64 0, .int .i64 0, .string Z.E, .int .i64 0, .slice none 0 0] 24) ∧ Gx.Has w' k2 (.cells #[Z.n a.k, Z.n a.a, .string a.nm, .int .i64 a.n, .slice A a.ks.length c] 24) ∧ (j ≤ k) ∧ (16 * M S p + 3 ≤ j) ∧ (run S j (.listL a) p = run S k (.listL (Nd.mk 25 q.a Z.E (0 : Int) [])) q3) ∧ (Ok S p) ∧ (KV (In w.heap.size w'.heap.size [k1, k2]) w' a.ks A c)) _ _ [(0, Z.P b 0), (2, Z.P k1 0), (4, Z.P k2 0)] (Gx.forget [(0, Z.P b 0), (2, Z.P k1 0), (4, Z.P k2 0)] (by kernel_rfl)) ⟨k, q3, (Nd.mk 25 q.a Z.E (0 : Int) []), none, 0, rfl, rfl, (gb_new (gb_ext (gb_upd (gb_upd (gb_new (gb_ext (gb_ext (gb_refl w b) x1) x2) u1) x3) x9) x10) u5), ((b13.ext x10).upd1 u5), ((((((b1.ext x2).upd1 u1).upd1 x3).upd1 x9).ext x10).upd1 u5), b14, (Nat.le_refl _), (by omega), rfl, ok3, KV.nil⟩ (fun bb2 m5 ll2 w16 hI2 K2 hK2 => ?_))))))
    obtain ⟨j, p, a, A, c, rfl, rfl, x11, b15, b16, b17, hj, hm, hr, ho, hkv⟩ := hI2
    have zw16 := x11.size
    have tb15 := b15.lt
    have tb16 := b16.lt
    have tb17 := b17.lt
    obtain ⟨i, rfl⟩ : ∃ i, j = i + 1 := ⟨j - 1, by omega⟩
    refine wp_seq (Z.r [0, 1] ?_)
    refine Z.p [0] [1] [(35, Z.P b 0)] ?_
    refine Z.k (fun R hR => has_c b S p (Z.B [108, 105, 115, 116]) _ R b15 ho (fun w17 q4 e5 x12 b18 => hR _ _ ?_))
    have zw17 := x12.size
    have tb18 := b18.lt
    obtain ⟨ok4, m6, tr4x, tr4y⟩ : Tr S p q4 := e5 ▸ has_tr ho
    refine Z.e (Z.c (isB p (Z.B [108, 105, 115, 116])) (fun h_c36 => ?_) (fun h_c36 => ?_))
    · skip
      refine wp_skip (Z.x (wp_block (Z.g [0, 1, 2, 3, 4, 5] ?_)))
      refine Z.p [0] [1, 2, 3, 4, 5] [(37, Z.P k2 1)] ?_
      have lt4 := (by have := has_lt ho h_c36; rw [e5] at this; exact this : M S q4 < M S p)
      refine Z.L 1 (Z.n a.a) (b17.upd1 x12) ?_
      refine Z.L 0 (.agg #[Z.n a.k, Z.n a.a, .string a.nm, .int .i64 a.n, .slice A a.ks.length c]) (b17.upd1 x12) ?_
      refine Z.R (.cells #[Z.n a.k, Z.n a.a, .string a.nm, .int .i64 a.n, .slice A a.ks.length c] 24) 1 1 (fun k4 w18 l4 x13 b19 zw18 tb19 => ?_)
      refine Z.k (fun R hR => Node_c (27 : Int) ((a.a : Nat) : Int) (some (⟨k4, 0, none⟩ : Addr)) 1 1 _ R (fun w19 x14 => hR _ _ ?_))
      have zw19 := x14.size
      refine Z.Sa #[.int .i64 27, Z.n a.a, .string Z.E, .int .i64 0, .slice (some ⟨k4, 0, none⟩) 1 1] (((b17.upd1 x12).ext x13).ext x14) (fun w20 u6 b20 zw20 => ?_)
      refine Gx.ops_nil (Gx.block_normal (Z.x ?_))
      rw [Gx.forget [(0, Z.P b 0), (2, Z.P k1 0), (4, Z.P k2 0)] (by kernel_rfl)]
      exact hK2 _ _ _ _ (by omega) ⟨i, q4, (Nd.mk 27 a.a Z.E (0 : Int) [a]), (some (⟨k4, 0, none⟩ : Addr)), 1, rfl, rfl, (gb_new (gb_ext (gb_ext (gb_upd (gb_upd (gb_refl w b) x11) x12) x13) x14) u6), (((b18.ext x13).ext x14).upd1 u6), ((((b16.upd1 x12).ext x13).ext x14).upd1 u6), b20, (by omega), (by omega), (by rw [← hr, run_succ]; simp only [stepN, listLS, e5, h_c13, h_c18, h_c36, Z.ifs, reduceIte]), ok4, (KV.of_row [(a, A, c)] (n := 5) ((b19.ext x14).upd1 u6) rfl ⟨by omega, by omega, (by simp only [List.mem_cons, List.not_mem_nil, or_false, not_or]; omega)⟩ (by intro p hp; simp only [List.mem_cons, List.not_mem_nil, or_false] at hp; subst hp; exact (KV.top ((((hkv.upd x12).ext x13).ext x14).upd u6) (by omega) (by intro j hj; simp only [List.mem_cons, List.not_mem_nil, or_false] at hj ⊢; omega))))⟩
    refine wp_exit (Gx.then_exit (Gx.then_exit (Gx.block_exit (Z.x ?_))))
    have e6 : run S k (.listL (Nd.mk 25 q.a Z.E (0 : Int) [])) q3 = (a, q4) := by rw [← hr, run_succ]; simp only [stepN, listLS, e5, h_c13, h_c18, h_c36, Z.ifs, reduceIte]
    refine Z.r [0, 1] ?_
    refine Z.L 0 (.agg #[Z.n a.k, Z.n a.a, .string a.nm, .int .i64 a.n, .slice A a.ks.length c]) (b17.upd1 x12) ?_
    refine Z.Sa #[Z.n a.k, Z.n a.a, .string a.nm, .int .i64 a.n, .slice A a.ks.length c] (b16.upd1 x12) (fun w21 u7 b21 zw21 => ?_)
    refine Z.e (wp_ret (Gx.ret (Gx.res_c (u := .agg #[Z.n a.k, Z.n a.a, .string a.nm, .int .i64 a.n, .slice A a.ks.length c]) rfl (by kernel_rfl) b21 (by kernel_rfl)) ?_))
    exact hK _ a A c q4 (by rw [run_succ]; simp only [stepN, someS, e1, e4, e6, h_c13, h_c18, h_c36, Z.ifs, reduceIte]) (gb_new (gb_upd (gb_upd (gb_refl w b) x11) x12) u7) (b18.upd1 u7) (KV.top ((hkv.upd x12).upd u7))
  refine Z.r [0, 1, 2] ?_
  refine Z.p [0] [1, 2] [(24, Z.P b 0)] ?_
  refine Z.k (fun R hR => has_c b S q3 (Z.B [117, 110, 105, 116]) _ R b13 ok3 (fun w22 q5 e7 x15 b22 => hR _ _ ?_))
  have zw22 := x15.size
  have tb22 := b22.lt
  obtain ⟨ok5, m7, tr5x, tr5y⟩ : Tr S q3 q5 := e7 ▸ has_tr ok3
  refine Z.p [2] [] [(23, .bool (isB q3 (Z.B [117, 110, 105, 116])))] ?_
  refine Z.e (Z.c (isB q3 (Z.B [117, 110, 105, 116])) (fun h_c23 => ?_) (fun h_c23 => ?_))
  · skip
    refine Z.g [0, 1, 2] ?_
    refine Z.p [0] [1, 2] [(26, Z.n q.a)] ?_
    refine Z.k (fun R hR => Node_c (26 : Int) ((q.a : Nat) : Int) none 0 0 _ R (fun w23 x16 => hR _ _ ?_))
    have zw23 := x16.size
    have lt5 := (by have := has_lt ok3 h_c23; rw [e7] at this; exact this : M S q5 < M S q3)
    refine Z.Sa #[.int .i64 26, Z.n q.a, .string Z.E, .int .i64 0, .slice none 0 0] ((((b3.upd1 x3).upd1 x9).upd1 x15).ext x16) (fun w24 u8 b23 zw24 => ?_)
    refine Gx.ops_nil (Gx.block_normal (Z.x (wp_seq (wp_block (Gx.loop (n' := 43) (d' := []) (fun mz l' w' => ∃ (j : Nat) (p : Rs) (a : Nd) (A : Option Addr) (c : Nat), l' = [(0, Z.P b 0), (2, Z.P k1 0), (4, Z.P k2 0)] ∧ mz = M S p ∧ Gx.G w w' (some b) ∧ Gx.Has w' b (.cells #[.string S, Z.n p.k, Z.n p.a, .string p.t, Z.n p.n, Z.n p.e, Z.n p.fk, Z.n p.fa, Z.n p.x, Z.n p.y] 41) ∧ Gx.Has w' k1 (.cells #[.int .i64 0, .int .i64 0, .string Z.E, .int .i64 0, .slice none 0 0] 24) ∧ Gx.Has w' k2 (.cells #[Z.n a.k, Z.n a.a, .string a.nm, .int .i64 a.n, .slice A a.ks.length c] 24) ∧ (j ≤ k) ∧ (16 * M S p + 3 ≤ j) ∧ (run S j (.listL a) p = run S k (.listL (Nd.mk 26 q.a Z.E (0 : Int) [])) q5) ∧ (Ok S p) ∧ (KV (In w.heap.size w'.heap.size [k1, k2]) w' a.ks A c)) _ _ [(0, Z.P b 0), (2, Z.P k1 0), (4, Z.P k2 0)] (Gx.forget [(0, Z.P b 0), (2, Z.P k1 0), (4, Z.P k2 0)] (by kernel_rfl)) ⟨k, q5, (Nd.mk 26 q.a Z.E (0 : Int) []), none, 0, rfl, rfl, (gb_new (gb_ext (gb_upd (gb_upd (gb_upd (gb_new (gb_ext (gb_ext (gb_refl w b) x1) x2) u1) x3) x9) x15) x16) u8), ((b22.ext x16).upd1 u8), (((((((b1.ext x2).upd1 u1).upd1 x3).upd1 x9).upd1 x15).ext x16).upd1 u8), b23, (Nat.le_refl _), (by omega), rfl, ok5, KV.nil⟩ (fun bb3 m8 ll3 w25 hI3 K3 hK3 => ?_))))))
    obtain ⟨j, p, a, A, c, rfl, rfl, x17, b24, b25, b26, hj, hm, hr, ho, hkv⟩ := hI3
    have zw25 := x17.size
    have tb24 := b24.lt
    have tb25 := b25.lt
    have tb26 := b26.lt
    obtain ⟨i, rfl⟩ : ∃ i, j = i + 1 := ⟨j - 1, by omega⟩
    refine wp_seq (Z.r [0, 1] ?_)
    refine Z.p [0] [1] [(35, Z.P b 0)] ?_
    refine Z.k (fun R hR => has_c b S p (Z.B [108, 105, 115, 116]) _ R b24 ho (fun w26 q6 e8 x18 b27 => hR _ _ ?_))
    have zw26 := x18.size
    have tb27 := b27.lt
    obtain ⟨ok6, m9, tr6x, tr6y⟩ : Tr S p q6 := e8 ▸ has_tr ho
    refine Z.e (Z.c (isB p (Z.B [108, 105, 115, 116])) (fun h_c36 => ?_) (fun h_c36 => ?_))
    · skip
      refine wp_skip (Z.x (wp_block (Z.g [0, 1, 2, 3, 4, 5] ?_)))
      refine Z.p [0] [1, 2, 3, 4, 5] [(37, Z.P k2 1)] ?_
      have lt6 := (by have := has_lt ho h_c36; rw [e8] at this; exact this : M S q6 < M S p)
      refine Z.L 1 (Z.n a.a) (b26.upd1 x18) ?_
      refine Z.L 0 (.agg #[Z.n a.k, Z.n a.a, .string a.nm, .int .i64 a.n, .slice A a.ks.length c]) (b26.upd1 x18) ?_
      refine Z.R (.cells #[Z.n a.k, Z.n a.a, .string a.nm, .int .i64 a.n, .slice A a.ks.length c] 24) 1 1 (fun k5 w27 l5 x19 b28 zw27 tb28 => ?_)
      refine Z.k (fun R hR => Node_c (27 : Int) ((a.a : Nat) : Int) (some (⟨k5, 0, none⟩ : Addr)) 1 1 _ R (fun w28 x20 => hR _ _ ?_))
      have zw28 := x20.size
      refine Z.Sa #[.int .i64 27, Z.n a.a, .string Z.E, .int .i64 0, .slice (some ⟨k5, 0, none⟩) 1 1] (((b26.upd1 x18).ext x19).ext x20) (fun w29 u9 b29 zw29 => ?_)
      refine Gx.ops_nil (Gx.block_normal (Z.x ?_))
      rw [Gx.forget [(0, Z.P b 0), (2, Z.P k1 0), (4, Z.P k2 0)] (by kernel_rfl)]
      exact hK3 _ _ _ _ (by omega) ⟨i, q6, (Nd.mk 27 a.a Z.E (0 : Int) [a]), (some (⟨k5, 0, none⟩ : Addr)), 1, rfl, rfl, (gb_new (gb_ext (gb_ext (gb_upd (gb_upd (gb_refl w b) x17) x18) x19) x20) u9), (((b27.ext x19).ext x20).upd1 u9), ((((b25.upd1 x18).ext x19).ext x20).upd1 u9), b29, (by omega), (by omega), (by rw [← hr, run_succ]; simp only [stepN, listLS, e8, h_c13, h_c18, h_c23, h_c36, Z.ifs, reduceIte]), ok6, (KV.of_row [(a, A, c)] (n := 5) ((b28.ext x20).upd1 u9) rfl ⟨by omega, by omega, (by simp only [List.mem_cons, List.not_mem_nil, or_false, not_or]; omega)⟩ (by intro p hp; simp only [List.mem_cons, List.not_mem_nil, or_false] at hp; subst hp; exact (KV.top ((((hkv.upd x18).ext x19).ext x20).upd u9) (by omega) (by intro j hj; simp only [List.mem_cons, List.not_mem_nil, or_false] at hj ⊢; omega))))⟩
    refine wp_exit (Gx.then_exit (Gx.then_exit (Gx.block_exit (Z.x ?_))))
    have e9 : run S k (.listL (Nd.mk 26 q.a Z.E (0 : Int) [])) q5 = (a, q6) := by rw [← hr, run_succ]; simp only [stepN, listLS, e8, h_c13, h_c18, h_c23, h_c36, Z.ifs, reduceIte]
    refine Z.r [0, 1] ?_
    refine Z.L 0 (.agg #[Z.n a.k, Z.n a.a, .string a.nm, .int .i64 a.n, .slice A a.ks.length c]) (b26.upd1 x18) ?_
    refine Z.Sa #[Z.n a.k, Z.n a.a, .string a.nm, .int .i64 a.n, .slice A a.ks.length c] (b25.upd1 x18) (fun w30 u10 b30 zw30 => ?_)
    refine Z.e (wp_ret (Gx.ret (Gx.res_c (u := .agg #[Z.n a.k, Z.n a.a, .string a.nm, .int .i64 a.n, .slice A a.ks.length c]) rfl (by kernel_rfl) b30 (by kernel_rfl)) ?_))
    exact hK _ a A c q6 (by rw [run_succ]; simp only [stepN, someS, e1, e4, e7, e9, h_c13, h_c18, h_c23, h_c36, Z.ifs, reduceIte]) (gb_new (gb_upd (gb_upd (gb_refl w b) x17) x18) u10) (b27.upd1 u10) (KV.top ((hkv.upd x18).upd u10))
  refine Z.r [0, 1, 2] ?_
  refine Z.p [0] [1, 2] [(29, Z.P b 0)] ?_
  refine Z.k (fun R hR => has_c b S q5 (Z.B [40]) _ R b22 ok5 (fun w31 q7 e10 x21 b31 => hR _ _ ?_))
  have zw31 := x21.size
  have tb31 := b31.lt
  obtain ⟨ok7, m10, tr7x, tr7y⟩ : Tr S q5 q7 := e10 ▸ has_tr ok5
  refine Z.p [2] [] [(28, .bool (isB q5 (Z.B [40])))] ?_
  refine Z.e (Z.c (isB q5 (Z.B [40])) (fun h_c28 => ?_) (fun h_c28 => ?_))
  · skip
    refine Z.r [0, 1, 2] ?_
    refine Z.p [0] [1, 2] [(31, Z.P b 0)] ?_
    have lt7 := (by have := has_lt ok5 h_c28; rw [e10] at this; exact this : M S q7 < M S q5)
    refine Z.k (fun R hR => (ih k (Nat.le_refl k)).f_typ b S q7 _ R b31 ok7 (by omega) (fun w32 t1 A1 c1 q8 e11 x22 b32 kv1 => hR _ _ ?_))
    have zw32 := x22.size
    have tb32 := b32.lt
    obtain ⟨ok8, m11, tr8x, tr8y⟩ : Tr S q7 q8 := run_facts ok7 e11
    refine Z.Sa #[Z.n t1.k, Z.n t1.a, .string t1.nm, .int .i64 t1.n, .slice A1 t1.ks.length c1] (((((b3.upd1 x3).upd1 x9).upd1 x15).upd1 x21).upd1 x22) (fun w33 u11 b33 zw33 => ?_)
    refine Z.e (Z.g [0, 1] ?_)
    refine Z.p [0] [1] [(33, Z.P b 0)] ?_
    refine Z.k (fun R hR => must_c b S q8 (Z.B [41]) _ R (b32.upd1 u11) ok8 (fun w34 q9 e12 x23 b34 => hR _ _ ?_))
    have zw34 := x23.size
    have tb34 := b34.lt
    obtain ⟨ok9, m12, tr9x, tr9y⟩ : Tr S q8 q9 := e12 ▸ must_tr ok8
    refine Gx.ops_nil (Gx.block_normal (Z.x (wp_seq (wp_block (Gx.loop (n' := 43) (d' := []) (fun mz l' w' => ∃ (j : Nat) (p : Rs) (a : Nd) (A : Option Addr) (c : Nat), l' = [(0, Z.P b 0), (2, Z.P k1 0), (4, Z.P k2 0)] ∧ mz = M S p ∧ Gx.G w w' (some b) ∧ Gx.Has w' b (.cells #[.string S, Z.n p.k, Z.n p.a, .string p.t, Z.n p.n, Z.n p.e, Z.n p.fk, Z.n p.fa, Z.n p.x, Z.n p.y] 41) ∧ Gx.Has w' k1 (.cells #[.int .i64 0, .int .i64 0, .string Z.E, .int .i64 0, .slice none 0 0] 24) ∧ Gx.Has w' k2 (.cells #[Z.n a.k, Z.n a.a, .string a.nm, .int .i64 a.n, .slice A a.ks.length c] 24) ∧ (j ≤ k) ∧ (16 * M S p + 3 ≤ j) ∧ (run S j (.listL a) p = run S k (.listL t1) q9) ∧ (Ok S p) ∧ (KV (In w.heap.size w'.heap.size [k1, k2]) w' a.ks A c)) _ _ [(0, Z.P b 0), (2, Z.P k1 0), (4, Z.P k2 0)] (Gx.forget [(0, Z.P b 0), (2, Z.P k1 0), (4, Z.P k2 0)] (by kernel_rfl)) ⟨k, q9, t1, A1, c1, rfl, rfl, (gb_upd (gb_new (gb_upd (gb_upd (gb_upd (gb_upd (gb_upd (gb_new (gb_ext (gb_ext (gb_refl w b) x1) x2) u1) x3) x9) x15) x21) x22) u11) x23), b34, (((((((((b1.ext x2).upd1 u1).upd1 x3).upd1 x9).upd1 x15).upd1 x21).upd1 x22).upd1 u11).upd1 x23), (b33.upd1 x23), (Nat.le_refl _), (by omega), rfl, ok9, (KV.top ((kv1.upd u11).upd x23) (by omega) (by intro j hj; simp only [List.mem_cons, List.not_mem_nil, or_false] at hj ⊢; omega))⟩ (fun bb4 m13 ll4 w35 hI4 K4 hK4 => ?_))))))
    obtain ⟨j, p, a, A, c, rfl, rfl, x24, b35, b36, b37, hj, hm, hr, ho, hkv⟩ := hI4
    have zw35 := x24.size
    have tb35 := b35.lt
    have tb36 := b36.lt
    have tb37 := b37.lt
    obtain ⟨i, rfl⟩ : ∃ i, j = i + 1 := ⟨j - 1, by omega⟩
    refine wp_seq (Z.r [0, 1] ?_)
    refine Z.p [0] [1] [(35, Z.P b 0)] ?_
    refine Z.k (fun R hR => has_c b S p (Z.B [108, 105, 115, 116]) _ R b35 ho (fun w36 q10 e13 x25 b38 => hR _ _ ?_))
    have zw36 := x25.size
    have tb38 := b38.lt
    obtain ⟨ok10, m14, tr10x, tr10y⟩ : Tr S p q10 := e13 ▸ has_tr ho
    refine Z.e (Z.c (isB p (Z.B [108, 105, 115, 116])) (fun h_c36 => ?_) (fun h_c36 => ?_))
    · skip
      refine wp_skip (Z.x (wp_block (Z.g [0, 1, 2, 3, 4, 5] ?_)))
      refine Z.p [0] [1, 2, 3, 4, 5] [(37, Z.P k2 1)] ?_
      have lt8 := (by have := has_lt ho h_c36; rw [e13] at this; exact this : M S q10 < M S p)
      refine Z.L 1 (Z.n a.a) (b37.upd1 x25) ?_
      refine Z.L 0 (.agg #[Z.n a.k, Z.n a.a, .string a.nm, .int .i64 a.n, .slice A a.ks.length c]) (b37.upd1 x25) ?_
      refine Z.R (.cells #[Z.n a.k, Z.n a.a, .string a.nm, .int .i64 a.n, .slice A a.ks.length c] 24) 1 1 (fun k6 w37 l6 x26 b39 zw37 tb39 => ?_)
      refine Z.k (fun R hR => Node_c (27 : Int) ((a.a : Nat) : Int) (some (⟨k6, 0, none⟩ : Addr)) 1 1 _ R (fun w38 x27 => hR _ _ ?_))
      have zw38 := x27.size
      refine Z.Sa #[.int .i64 27, Z.n a.a, .string Z.E, .int .i64 0, .slice (some ⟨k6, 0, none⟩) 1 1] (((b37.upd1 x25).ext x26).ext x27) (fun w39 u12 b40 zw39 => ?_)
      refine Gx.ops_nil (Gx.block_normal (Z.x ?_))
      rw [Gx.forget [(0, Z.P b 0), (2, Z.P k1 0), (4, Z.P k2 0)] (by kernel_rfl)]
      exact hK4 _ _ _ _ (by omega) ⟨i, q10, (Nd.mk 27 a.a Z.E (0 : Int) [a]), (some (⟨k6, 0, none⟩ : Addr)), 1, rfl, rfl, (gb_new (gb_ext (gb_ext (gb_upd (gb_upd (gb_refl w b) x24) x25) x26) x27) u12), (((b38.ext x26).ext x27).upd1 u12), ((((b36.upd1 x25).ext x26).ext x27).upd1 u12), b40, (by omega), (by omega), (by rw [← hr, run_succ]; simp only [stepN, listLS, e13, h_c13, h_c18, h_c23, h_c28, h_c36, Z.ifs, reduceIte]), ok10, (KV.of_row [(a, A, c)] (n := 5) ((b39.ext x27).upd1 u12) rfl ⟨by omega, by omega, (by simp only [List.mem_cons, List.not_mem_nil, or_false, not_or]; omega)⟩ (by intro p hp; simp only [List.mem_cons, List.not_mem_nil, or_false] at hp; subst hp; exact (KV.top ((((hkv.upd x25).ext x26).ext x27).upd u12) (by omega) (by intro j hj; simp only [List.mem_cons, List.not_mem_nil, or_false] at hj ⊢; omega))))⟩
    refine wp_exit (Gx.then_exit (Gx.then_exit (Gx.block_exit (Z.x ?_))))
    have e14 : run S k (.listL t1) q9 = (a, q10) := by rw [← hr, run_succ]; simp only [stepN, listLS, e13, h_c13, h_c18, h_c23, h_c28, h_c36, Z.ifs, reduceIte]
    refine Z.r [0, 1] ?_
    refine Z.L 0 (.agg #[Z.n a.k, Z.n a.a, .string a.nm, .int .i64 a.n, .slice A a.ks.length c]) (b37.upd1 x25) ?_
    refine Z.Sa #[Z.n a.k, Z.n a.a, .string a.nm, .int .i64 a.n, .slice A a.ks.length c] (b36.upd1 x25) (fun w40 u13 b41 zw40 => ?_)
    refine Z.e (wp_ret (Gx.ret (Gx.res_c (u := .agg #[Z.n a.k, Z.n a.a, .string a.nm, .int .i64 a.n, .slice A a.ks.length c]) rfl (by kernel_rfl) b41 (by kernel_rfl)) ?_))
    exact hK _ a A c q10 (by rw [run_succ]; simp only [stepN, someS, e1, e4, e7, e10, e11, e12, e14, h_c13, h_c18, h_c23, h_c28, h_c36, Z.ifs, reduceIte]) (gb_new (gb_upd (gb_upd (gb_refl w b) x24) x25) u13) (b38.upd1 u13) (KV.top ((hkv.upd x25).upd u13))
  refine Z.g [0, 1] ?_
  refine Z.p [0] [1] [(11, Z.P b 0)] ?_
  refine Z.k (fun R hR => no_c b S q7 _ R b31 ok7 (fun w41 q11 e15 x28 b42 => hR _ _ ?_))
  have zw41 := x28.size
  have tb42 := b42.lt
  obtain ⟨ok11, m15, tr11x, tr11y⟩ : Tr S q7 q11 := e15 ▸ no_tr ok7
  refine Gx.ops_nil (Gx.block_normal (Z.x (wp_seq (wp_block (Gx.loop (n' := 43) (d' := []) (fun mz l' w' => ∃ (j : Nat) (p : Rs) (a : Nd) (A : Option Addr) (c : Nat), l' = [(0, Z.P b 0), (2, Z.P k1 0), (4, Z.P k2 0)] ∧ mz = M S p ∧ Gx.G w w' (some b) ∧ Gx.Has w' b (.cells #[.string S, Z.n p.k, Z.n p.a, .string p.t, Z.n p.n, Z.n p.e, Z.n p.fk, Z.n p.fa, Z.n p.x, Z.n p.y] 41) ∧ Gx.Has w' k1 (.cells #[.int .i64 0, .int .i64 0, .string Z.E, .int .i64 0, .slice none 0 0] 24) ∧ Gx.Has w' k2 (.cells #[Z.n a.k, Z.n a.a, .string a.nm, .int .i64 a.n, .slice A a.ks.length c] 24) ∧ (j ≤ k) ∧ (16 * M S p + 3 ≤ j) ∧ (run S j (.listL a) p = run S k (.listL nd0) q11) ∧ (Ok S p) ∧ (KV (In w.heap.size w'.heap.size [k1, k2]) w' a.ks A c)) _ _ [(0, Z.P b 0), (2, Z.P k1 0), (4, Z.P k2 0)] (Gx.forget [(0, Z.P b 0), (2, Z.P k1 0), (4, Z.P k2 0)] (by kernel_rfl)) ⟨k, q11, nd0, none, 0, rfl, rfl, (gb_upd (gb_upd (gb_upd (gb_upd (gb_upd (gb_new (gb_ext (gb_ext (gb_refl w b) x1) x2) u1) x3) x9) x15) x21) x28), b42, (((((((b1.ext x2).upd1 u1).upd1 x3).upd1 x9).upd1 x15).upd1 x21).upd1 x28), (((((b3.upd1 x3).upd1 x9).upd1 x15).upd1 x21).upd1 x28), (Nat.le_refl _), (by omega), rfl, ok11, KV.nil⟩ (fun bb5 m16 ll5 w42 hI5 K5 hK5 => ?_))))))
  obtain ⟨j, p, a, A, c, rfl, rfl, x29, b43, b44, b45, hj, hm, hr, ho, hkv⟩ := hI5
  have zw42 := x29.size
  have tb43 := b43.lt
  have tb44 := b44.lt
  have tb45 := b45.lt
  obtain ⟨i, rfl⟩ : ∃ i, j = i + 1 := ⟨j - 1, by omega⟩
  refine wp_seq (Z.r [0, 1] ?_)
  refine Z.p [0] [1] [(35, Z.P b 0)] ?_
  refine Z.k (fun R hR => has_c b S p (Z.B [108, 105, 115, 116]) _ R b43 ho (fun w43 q12 e16 x30 b46 => hR _ _ ?_))
  have zw43 := x30.size
  have tb46 := b46.lt
  obtain ⟨ok12, m17, tr12x, tr12y⟩ : Tr S p q12 := e16 ▸ has_tr ho
  refine Z.e (Z.c (isB p (Z.B [108, 105, 115, 116])) (fun h_c36 => ?_) (fun h_c36 => ?_))
  · skip
    refine wp_skip (Z.x (wp_block (Z.g [0, 1, 2, 3, 4, 5] ?_)))
    refine Z.p [0] [1, 2, 3, 4, 5] [(37, Z.P k2 1)] ?_
    have lt9 := (by have := has_lt ho h_c36; rw [e16] at this; exact this : M S q12 < M S p)
    refine Z.L 1 (Z.n a.a) (b45.upd1 x30) ?_
    refine Z.L 0 (.agg #[Z.n a.k, Z.n a.a, .string a.nm, .int .i64 a.n, .slice A a.ks.length c]) (b45.upd1 x30) ?_
    refine Z.R (.cells #[Z.n a.k, Z.n a.a, .string a.nm, .int .i64 a.n, .slice A a.ks.length c] 24) 1 1 (fun k7 w44 l7 x31 b47 zw44 tb47 => ?_)
    refine Z.k (fun R hR => Node_c (27 : Int) ((a.a : Nat) : Int) (some (⟨k7, 0, none⟩ : Addr)) 1 1 _ R (fun w45 x32 => hR _ _ ?_))
    have zw45 := x32.size
    refine Z.Sa #[.int .i64 27, Z.n a.a, .string Z.E, .int .i64 0, .slice (some ⟨k7, 0, none⟩) 1 1] (((b45.upd1 x30).ext x31).ext x32) (fun w46 u14 b48 zw46 => ?_)
    refine Gx.ops_nil (Gx.block_normal (Z.x ?_))
    rw [Gx.forget [(0, Z.P b 0), (2, Z.P k1 0), (4, Z.P k2 0)] (by kernel_rfl)]
    exact hK5 _ _ _ _ (by omega) ⟨i, q12, (Nd.mk 27 a.a Z.E (0 : Int) [a]), (some (⟨k7, 0, none⟩ : Addr)), 1, rfl, rfl, (gb_new (gb_ext (gb_ext (gb_upd (gb_upd (gb_refl w b) x29) x30) x31) x32) u14), (((b46.ext x31).ext x32).upd1 u14), ((((b44.upd1 x30).ext x31).ext x32).upd1 u14), b48, (by omega), (by omega), (by rw [← hr, run_succ]; simp only [stepN, listLS, e16, h_c13, h_c18, h_c23, h_c28, h_c36, Z.ifs, reduceIte]), ok12, (KV.of_row [(a, A, c)] (n := 5) ((b47.ext x32).upd1 u14) rfl ⟨by omega, by omega, (by simp only [List.mem_cons, List.not_mem_nil, or_false, not_or]; omega)⟩ (by intro p hp; simp only [List.mem_cons, List.not_mem_nil, or_false] at hp; subst hp; exact (KV.top ((((hkv.upd x30).ext x31).ext x32).upd u14) (by omega) (by intro j hj; simp only [List.mem_cons, List.not_mem_nil, or_false] at hj ⊢; omega))))⟩
  refine wp_exit (Gx.then_exit (Gx.then_exit (Gx.block_exit (Z.x ?_))))
  have e17 : run S k (.listL nd0) q11 = (a, q12) := by rw [← hr, run_succ]; simp only [stepN, listLS, e16, h_c13, h_c18, h_c23, h_c28, h_c36, Z.ifs, reduceIte]
  refine Z.r [0, 1] ?_
  refine Z.L 0 (.agg #[Z.n a.k, Z.n a.a, .string a.nm, .int .i64 a.n, .slice A a.ks.length c]) (b45.upd1 x30) ?_
  refine Z.Sa #[Z.n a.k, Z.n a.a, .string a.nm, .int .i64 a.n, .slice A a.ks.length c] (b44.upd1 x30) (fun w47 u15 b49 zw47 => ?_)
  refine Z.e (wp_ret (Gx.ret (Gx.res_c (u := .agg #[Z.n a.k, Z.n a.a, .string a.nm, .int .i64 a.n, .slice A a.ks.length c]) rfl (by kernel_rfl) b49 (by kernel_rfl)) ?_))
  exact hK _ a A c q12 (by rw [run_succ]; simp only [stepN, someS, e1, e4, e7, e10, e15, e17, h_c13, h_c18, h_c23, h_c28, h_c36, Z.ifs, reduceIte]) (gb_new (gb_upd (gb_upd (gb_refl w b) x29) x30) u15) (b46.upd1 u15) (KV.top ((hkv.upd x30).upd u15))
set_option maxHeartbeats 1000000 in
set_option maxRecDepth 10000 in
theorem mul_c (k : Nat) (b : Nat) (S : ByteArray) (q : Rs) (w : World) (K : Ending → World → Prop) (ih : ∀ j, j ≤ k → Spec j) (hb : Gx.Has w b (rdO S q)) (hok : Ok S q) (hmu : 16 * M S q + 6 ≤ k + 1) (hK : ∀ w' t A c q', run S (k + 1) .mul q = (t, q') → Gx.G w w' (some b) → Gx.Has w' b (rdO S q') → KV (In w.heap.size w'.heap.size []) w' t.ks A c → K (.returned (.agg #[Z.n t.k, Z.n t.a, .string t.nm, .int .i64 t.n, .slice A t.ks.length c])) w') :
    Calls Try.prog 76 #[Z.P b 0] w K := by
  refine Gx.enter 15 Try.func76 rfl rfl (Nat.le_of_ble_eq_true rfl) ?_
  have tbb := hb.lt
  refine Z.r [0] ?_
  refine Z.N (.cells #[.int .i64 0, .int .i64 0, .string Z.E, .int .i64 0, .slice none 0 0] 24) (fun k1 w1 l1 x1 b1 zw1 tb1 => ?_)
  refine Z.e (Z.r [0, 1, 2, 3] ?_)
  refine Z.p [0] [1, 2, 3] [(5, Z.P b 0)] ?_
  refine Z.k (fun R hR => (ih k (Nat.le_refl k)).f_app b S q _ R (hb.ext x1) hok (by omega) (fun w2 t1 A1 c1 q1 e1 x2 b2 kv1 => hR _ _ ?_))
  have zw2 := x2.size
  have tb2 := b2.lt
  obtain ⟨ok1, m1, tr1x, tr1y⟩ : Tr S q q1 := run_facts hok e1
  refine Z.N (.cells #[.int .i64 0, .int .i64 0, .string Z.E, .int .i64 0, .slice none 0 0] 24) (fun k2 w3 l2 x3 b3 zw3 tb3 => ?_)
  refine Z.Sa #[Z.n t1.k, Z.n t1.a, .string t1.nm, .int .i64 t1.n, .slice A1 t1.ks.length c1] b3 (fun w4 u1 b4 zw4 => ?_)
  refine Z.e (wp_seq (wp_block (Gx.loop (n' := 15) (d' := []) (fun mz l' w' => ∃ (j : Nat) (p : Rs) (a : Nd) (A : Option Addr) (c : Nat), l' = [(0, Z.P b 0), (2, Z.P k1 0), (3, Z.P k2 0)] ∧ mz = M S p ∧ Gx.G w w' (some b) ∧ Gx.Has w' b (.cells #[.string S, Z.n p.k, Z.n p.a, .string p.t, Z.n p.n, Z.n p.e, Z.n p.fk, Z.n p.fa, Z.n p.x, Z.n p.y] 41) ∧ Gx.Has w' k1 (.cells #[.int .i64 0, .int .i64 0, .string Z.E, .int .i64 0, .slice none 0 0] 24) ∧ Gx.Has w' k2 (.cells #[Z.n a.k, Z.n a.a, .string a.nm, .int .i64 a.n, .slice A a.ks.length c] 24) ∧ (j ≤ k) ∧ (16 * M S p + 5 ≤ j) ∧ (run S j (.mulL a) p = run S k (.mulL t1) q1) ∧ (Ok S p) ∧ (KV (In w.heap.size w'.heap.size [k1, k2]) w' a.ks A c)) _ _ [(0, Z.P b 0), (2, Z.P k1 0), (3, Z.P k2 0)] (Gx.forget [(0, Z.P b 0), (2, Z.P k1 0), (3, Z.P k2 0)] (by kernel_rfl)) ⟨k, q1, t1, A1, c1, rfl, rfl, (gb_new (gb_ext (gb_upd (gb_ext (gb_refl w b) x1) x2) x3) u1), ((b2.ext x3).upd1 u1), (((b1.upd1 x2).ext x3).upd1 u1), b4, (Nat.le_refl _), (by omega), rfl, ok1, (KV.top ((kv1.ext x3).upd u1) (by omega) (by intro j hj; simp only [List.mem_cons, List.not_mem_nil, or_false] at hj ⊢; omega))⟩ (fun bb1 m2 ll1 w5 hI1 K1 hK1 => ?_))))
  obtain ⟨j, p, a, A, c, rfl, rfl, x4, b5, b6, b7, hj, hm, hr, ho, hkv⟩ := hI1
  have zw5 := x4.size
  have tb5 := b5.lt
  have tb6 := b6.lt
  have tb7 := b7.lt
  obtain ⟨i, rfl⟩ : ∃ i, j = i + 1 := ⟨j - 1, by omega⟩
  refine wp_seq (Z.r [0, 1] ?_)
  refine Z.p [0] [1] [(7, Z.P b 0)] ?_
  refine Z.k (fun R hR => has_c b S p (Z.B [42]) _ R b5 ho (fun w6 q2 e2 x5 b8 => hR _ _ ?_))
  have zw6 := x5.size
  have tb8 := b8.lt
  obtain ⟨ok2, m3, tr2x, tr2y⟩ : Tr S p q2 := e2 ▸ has_tr ho
  refine Z.e (Z.c (isB p (Z.B [42])) (fun h_c8 => ?_) (fun h_c8 => ?_))
  · skip
    refine wp_skip (Z.x (wp_block (Z.r [0, 1, 2, 3] ?_)))
    refine Z.p [0] [1, 2, 3] [(9, Z.P b 0)] ?_
    have lt1 := (by have := has_lt ho h_c8; rw [e2] at this; exact this : M S q2 < M S p)
    refine Z.k (fun R hR => (ih i (by omega)).f_app b S q2 _ R b8 ok2 (by omega) (fun w7 t2 A2 c2 q3 e3 x6 b9 kv2 => hR _ _ ?_))
    have zw7 := x6.size
    have tb9 := b9.lt
    obtain ⟨ok3, m4, tr3x, tr3y⟩ : Tr S q2 q3 := run_facts ok2 e3
    refine Z.N (.cells #[.int .i64 0, .int .i64 0, .string Z.E, .int .i64 0, .slice none 0 0] 24) (fun k3 w8 l3 x7 b10 zw8 tb10 => ?_)
    refine Z.Sa #[Z.n t2.k, Z.n t2.a, .string t2.nm, .int .i64 t2.n, .slice A2 t2.ks.length c2] b10 (fun w9 u2 b11 zw9 => ?_)
    refine Z.e (Z.g [0, 1, 2, 3] ?_)
    refine Z.L 0 (.agg #[Z.n a.k, Z.n a.a, .string a.nm, .int .i64 a.n, .slice A a.ks.length c]) ((((b7.upd1 x5).upd1 x6).ext x7).upd1 u2) ?_
    refine Z.L 0 (.agg #[Z.n t2.k, Z.n t2.a, .string t2.nm, .int .i64 t2.n, .slice A2 t2.ks.length c2]) b11 ?_
    refine Z.k (fun R hR => two_c (Z.B [42]) ((a.k : Nat) : Int) ((a.a : Nat) : Int) a.nm a.n A a.ks.length c ((t2.k : Nat) : Int) ((t2.a : Nat) : Int) t2.nm t2.n A2 t2.ks.length c2 _ R (fun w10 k4 x8 l4 b12 => hR _ _ ?_))
    have zw10 := x8.size
    have tb12 := b12.lt
    refine Z.Sa #[.int .i64 18, Z.n a.a, .string (Z.B [42]), .int .i64 0, .slice (some ⟨k4, 0, none⟩) 2 2] (((((b7.upd1 x5).upd1 x6).ext x7).upd1 u2).ext x8) (fun w11 u3 b13 zw11 => ?_)
    refine Gx.ops_nil (Gx.block_normal (Z.x ?_))
    rw [Gx.forget [(0, Z.P b 0), (2, Z.P k1 0), (3, Z.P k2 0)] (by kernel_rfl)]
    exact hK1 _ _ _ _ (by omega) ⟨i, q3, (Nd.mk 18 a.a (Z.B [42]) (0 : Int) [a, t2]), (some (⟨k4, 0, none⟩ : Addr)), 2, rfl, rfl, (gb_new (gb_ext (gb_new (gb_ext (gb_upd (gb_upd (gb_upd (gb_refl w b) x4) x5) x6) x7) u2) x8) u3), ((((b9.ext x7).upd1 u2).ext x8).upd1 u3), ((((((b6.upd1 x5).upd1 x6).ext x7).upd1 u2).ext x8).upd1 u3), b13, (by omega), (by omega), (by rw [← hr, run_succ]; simp only [stepN, mulLS, two, e2, e3, h_c8, Z.ifs, reduceIte]), ok3, (KV.of_row [(a, A, c), (t2, A2, c2)] (n := 10) (b12.upd1 u3) rfl ⟨by omega, by omega, (by simp only [List.mem_cons, List.not_mem_nil, or_false, not_or]; omega)⟩ (by intro p hp; simp only [List.mem_cons, List.not_mem_nil, or_false] at hp; rcases hp with rfl | rfl; exact (KV.top ((((((hkv.upd x5).upd x6).ext x7).upd u2).ext x8).upd u3) (by omega) (by intro j hj; simp only [List.mem_cons, List.not_mem_nil, or_false] at hj ⊢; omega)); exact (KV.top ((((kv2.ext x7).upd u2).ext x8).upd u3) (by omega) (by intro j hj; simp only [List.mem_cons, List.not_mem_nil, or_false] at hj ⊢; omega))))⟩
  refine wp_exit (Gx.then_exit (Gx.then_exit (Gx.block_exit (Z.x ?_))))
  have e4 : run S k (.mulL t1) q1 = (a, q2) := by rw [← hr, run_succ]; simp only [stepN, mulLS, two, e2, h_c8, Z.ifs, reduceIte]
  refine Z.r [0, 1] ?_
  refine Z.L 0 (.agg #[Z.n a.k, Z.n a.a, .string a.nm, .int .i64 a.n, .slice A a.ks.length c]) (b7.upd1 x5) ?_
  refine Z.Sa #[Z.n a.k, Z.n a.a, .string a.nm, .int .i64 a.n, .slice A a.ks.length c] (b6.upd1 x5) (fun w12 u4 b14 zw12 => ?_)
  refine Z.e (wp_ret (Gx.ret (Gx.res_c (u := .agg #[Z.n a.k, Z.n a.a, .string a.nm, .int .i64 a.n, .slice A a.ks.length c]) rfl (by kernel_rfl) b14 (by kernel_rfl)) ?_))
  exact hK _ a A c q2 (by rw [run_succ]; simp only [stepN, mulS, two, e1, e4, h_c8, Z.ifs, reduceIte]) (gb_new (gb_upd (gb_upd (gb_refl w b) x4) x5) u4) (b8.upd1 u4) (KV.top ((hkv.upd x5).upd u4))
set_option maxHeartbeats 1000000 in
set_option maxRecDepth 10000 in
theorem sum_c (k : Nat) (b : Nat) (S : ByteArray) (q : Rs) (w : World) (K : Ending → World → Prop) (ih : ∀ j, j ≤ k → Spec j) (hb : Gx.Has w b (rdO S q)) (hok : Ok S q) (hmu : 16 * M S q + 7 ≤ k + 1) (hK : ∀ w' t A c q', run S (k + 1) .sum q = (t, q') → Gx.G w w' (some b) → Gx.Has w' b (rdO S q') → KV (In w.heap.size w'.heap.size []) w' t.ks A c → K (.returned (.agg #[Z.n t.k, Z.n t.a, .string t.nm, .int .i64 t.n, .slice A t.ks.length c])) w') :
    Calls Try.prog 74 #[Z.P b 0] w K := by
  refine Gx.enter 28 Try.func74 rfl rfl (Nat.le_of_ble_eq_true rfl) ?_
  have tbb := hb.lt
  refine Z.r [0] ?_
  refine Z.N (.cells #[.int .i64 0, .int .i64 0, .string Z.E, .int .i64 0, .slice none 0 0] 24) (fun k1 w1 l1 x1 b1 zw1 tb1 => ?_)
  refine Z.e (Z.r [0, 1, 2, 3] ?_)
  refine Z.p [0] [1, 2, 3] [(6, Z.P b 0)] ?_
  refine Z.k (fun R hR => (ih k (Nat.le_refl k)).f_mul b S q _ R (hb.ext x1) hok (by omega) (fun w2 t1 A1 c1 q1 e1 x2 b2 kv1 => hR _ _ ?_))
  have zw2 := x2.size
  have tb2 := b2.lt
  obtain ⟨ok1, m1, tr1x, tr1y⟩ : Tr S q q1 := run_facts hok e1
  refine Z.N (.cells #[.int .i64 0, .int .i64 0, .string Z.E, .int .i64 0, .slice none 0 0] 24) (fun k2 w3 l2 x3 b3 zw3 tb3 => ?_)
  refine Z.Sa #[Z.n t1.k, Z.n t1.a, .string t1.nm, .int .i64 t1.n, .slice A1 t1.ks.length c1] b3 (fun w4 u1 b4 zw4 => ?_)
  refine Z.e (wp_block (Gx.loop (n' := 28) (d' := []) (fun mz l' w' => ∃ (j : Nat) (p : Rs) (a : Nd) (A : Option Addr) (c : Nat), l' = [(0, Z.P b 0), (2, Z.P k1 0), (3, Z.P k2 0)] ∧ mz = M S p ∧ Gx.G w w' (some b) ∧ Gx.Has w' b (.cells #[.string S, Z.n p.k, Z.n p.a, .string p.t, Z.n p.n, Z.n p.e, Z.n p.fk, Z.n p.fa, Z.n p.x, Z.n p.y] 41) ∧ Gx.Has w' k1 (.cells #[.int .i64 0, .int .i64 0, .string Z.E, .int .i64 0, .slice none 0 0] 24) ∧ Gx.Has w' k2 (.cells #[Z.n a.k, Z.n a.a, .string a.nm, .int .i64 a.n, .slice A a.ks.length c] 24) ∧ (j ≤ k) ∧ (16 * M S p + 6 ≤ j) ∧ (run S j (.sumL a) p = run S k (.sumL t1) q1) ∧ (Ok S p) ∧ (KV (In w.heap.size w'.heap.size [k1, k2]) w' a.ks A c)) _ _ [(0, Z.P b 0), (2, Z.P k1 0), (3, Z.P k2 0)] (Gx.forget [(0, Z.P b 0), (2, Z.P k1 0), (3, Z.P k2 0)] (by kernel_rfl)) ⟨k, q1, t1, A1, c1, rfl, rfl, (gb_new (gb_ext (gb_upd (gb_ext (gb_refl w b) x1) x2) x3) u1), ((b2.ext x3).upd1 u1), (((b1.upd1 x2).ext x3).upd1 u1), b4, (Nat.le_refl _), (by omega), rfl, ok1, (KV.top ((kv1.ext x3).upd u1) (by omega) (by intro j hj; simp only [List.mem_cons, List.not_mem_nil, or_false] at hj ⊢; omega))⟩ (fun bb1 m2 ll1 w5 hI1 K1 hK1 => ?_)))
  obtain ⟨j, p, a, A, c, rfl, rfl, x4, b5, b6, b7, hj, hm, hr, ho, hkv⟩ := hI1
  have zw5 := x4.size
  have tb5 := b5.lt
  have tb6 := b6.lt
  have tb7 := b7.lt
  obtain ⟨i, rfl⟩ : ∃ i, j = i + 1 := ⟨j - 1, by omega⟩
  refine wp_block (Z.r [0, 1, 2, 3, 4, 5] ?_)
  refine Z.p [0, 1, 2, 3] [4, 5] [(11, Z.P b 3), (10, Z.P b 1), (9, Z.P b 0), (8, Z.P b 0)] ?_
  refine Z.L 3 (.string p.t) b5 ?_
  refine Z.p [5] [] [(4, .string p.t)] ?_
  refine Z.e (wp_seq (Z.r [0, 1, 2, 3, 4, 5, 6, 7] ?_))
  refine Z.p [0] [1, 2, 3, 4, 5, 6, 7] [(13, Z.P b 0)] ?_
  refine Z.k (fun R hR => has_c b S p (Z.B [43]) _ R b5 ho (fun w6 q2 e2 x5 b8 => hR _ _ ?_))
  have zw6 := x5.size
  have tb8 := b8.lt
  obtain ⟨ok2, m3, tr2x, tr2y⟩ : Tr S p q2 := e2 ▸ has_tr ho
  refine Z.p [2, 3] [4, 5, 6, 7] [(16, .bool (!(isB p (Z.B [43])))), (15, .bool (!(isB p (Z.B [43]))))] ?_
  refine Gx.split (!(isB p (Z.B [43]))) (fun h_g16 => ?_) (fun h_g16 => ?_)
  · rw [h_g16]
    refine Z.p [4] [5, 6, 7] [(17, Z.P b 0)] ?_
    refine Z.k (fun R hR => has_c b S q2 (Z.B [45]) _ R b8 ok2 (fun w7 q3 e3 x6 b9 => hR _ _ ?_))
    have zw7 := x6.size
    have tb9 := b9.lt
    obtain ⟨ok3, m4, tr3x, tr3y⟩ : Tr S q2 q3 := e3 ▸ has_tr ok2
    refine Z.p [6, 7] [] [(20, .bool (!(isB q2 (Z.B [45])))), (19, .bool (!(isB q2 (Z.B [45]))))] ?_
    refine Z.e (Z.c (!(isB q2 (Z.B [45]))) (fun h_c20 => ?_) (fun h_c20 => ?_))
    · skip
      have n_g16 : isB p (Z.B [43]) = false := by simpa using h_g16
      have n_c20 : isB q2 (Z.B [45]) = false := by simpa using h_c20
      have e4 : run S k (.sumL t1) q1 = (a, q3) := by rw [← hr, run_succ]; simp only [stepN, sumLS, two, e2, e3, h_g16, h_c20, n_g16, n_c20, Z.ifs, reduceIte]
      refine Z.r [0, 1] ?_
      refine Z.L 0 (.agg #[Z.n a.k, Z.n a.a, .string a.nm, .int .i64 a.n, .slice A a.ks.length c]) ((b7.upd1 x5).upd1 x6) ?_
      refine Z.Sa #[Z.n a.k, Z.n a.a, .string a.nm, .int .i64 a.n, .slice A a.ks.length c] ((b6.upd1 x5).upd1 x6) (fun w8 u2 b10 zw8 => ?_)
      refine Z.e (wp_ret (Gx.then_ret (Gx.block_ret (Gx.then_ret (Gx.block_ret (Gx.ret (Gx.res_c (u := .agg #[Z.n a.k, Z.n a.a, .string a.nm, .int .i64 a.n, .slice A a.ks.length c]) rfl (by kernel_rfl) b10 (by kernel_rfl)) ?_))))))
      exact hK _ a A c q3 (by rw [run_succ]; simp only [stepN, sumS, two, e1, e4, h_g16, h_c20, n_g16, n_c20, Z.ifs, reduceIte]) (gb_new (gb_upd (gb_upd (gb_upd (gb_refl w b) x4) x5) x6) u2) (b9.upd1 u2) (KV.top (((hkv.upd x5).upd x6).upd u2))
    refine wp_skip (Z.x (Z.r [0, 1, 2, 3] ?_))
    refine Z.p [0] [1, 2, 3] [(22, Z.P b 0)] ?_
    have n_g16 : isB p (Z.B [43]) = false := by simpa using h_g16
    have n_c20 : isB q2 (Z.B [45]) = true := by simpa using h_c20
    have lt1 := (by have := has_lt ok2 n_c20; rw [e3] at this; exact this : M S q3 < M S q2)
    refine Z.k (fun R hR => (ih i (by omega)).f_mul b S q3 _ R b9 ok3 (by omega) (fun w9 t2 A2 c2 q4 e5 x7 b11 kv2 => hR _ _ ?_))
    have zw9 := x7.size
    have tb11 := b11.lt
    obtain ⟨ok4, m5, tr4x, tr4y⟩ : Tr S q3 q4 := run_facts ok3 e5
    refine Z.N (.cells #[.int .i64 0, .int .i64 0, .string Z.E, .int .i64 0, .slice none 0 0] 24) (fun k3 w10 l3 x8 b12 zw10 tb12 => ?_)
    refine Z.Sa #[Z.n t2.k, Z.n t2.a, .string t2.nm, .int .i64 t2.n, .slice A2 t2.ks.length c2] b12 (fun w11 u3 b13 zw11 => ?_)
    refine Z.e (Z.g [0, 1, 2, 3, 4] ?_)
    refine Z.p [0] [1, 2, 3, 4] [(24, .string p.t)] ?_
    refine Z.L 0 (.agg #[Z.n a.k, Z.n a.a, .string a.nm, .int .i64 a.n, .slice A a.ks.length c]) (((((b7.upd1 x5).upd1 x6).upd1 x7).ext x8).upd1 u3) ?_
    refine Z.L 0 (.agg #[Z.n t2.k, Z.n t2.a, .string t2.nm, .int .i64 t2.n, .slice A2 t2.ks.length c2]) b13 ?_
    refine Z.k (fun R hR => two_c p.t ((a.k : Nat) : Int) ((a.a : Nat) : Int) a.nm a.n A a.ks.length c ((t2.k : Nat) : Int) ((t2.a : Nat) : Int) t2.nm t2.n A2 t2.ks.length c2 _ R (fun w12 k4 x9 l4 b14 => hR _ _ ?_))
    have zw12 := x9.size
    have tb14 := b14.lt
    refine Z.Sa #[.int .i64 18, Z.n a.a, .string p.t, .int .i64 0, .slice (some ⟨k4, 0, none⟩) 2 2] ((((((b7.upd1 x5).upd1 x6).upd1 x7).ext x8).upd1 u3).ext x9) (fun w13 u4 b15 zw13 => ?_)
    refine Gx.ops_nil (Gx.block_normal (Z.x ?_))
    rw [Gx.forget [(0, Z.P b 0), (2, Z.P k1 0), (3, Z.P k2 0)] (by kernel_rfl)]
    exact hK1 _ _ _ _ (by omega) ⟨i, q4, (Nd.mk 18 a.a p.t (0 : Int) [a, t2]), (some (⟨k4, 0, none⟩ : Addr)), 2, rfl, rfl, (gb_new (gb_ext (gb_new (gb_ext (gb_upd (gb_upd (gb_upd (gb_upd (gb_refl w b) x4) x5) x6) x7) x8) u3) x9) u4), ((((b11.ext x8).upd1 u3).ext x9).upd1 u4), (((((((b6.upd1 x5).upd1 x6).upd1 x7).ext x8).upd1 u3).ext x9).upd1 u4), b15, (by omega), (by omega), (by rw [← hr, run_succ]; simp only [stepN, sumLS, two, e2, e3, e5, h_g16, h_c20, n_g16, n_c20, Z.ifs, reduceIte]), ok4, (KV.of_row [(a, A, c), (t2, A2, c2)] (n := 10) (b14.upd1 u4) rfl ⟨by omega, by omega, (by simp only [List.mem_cons, List.not_mem_nil, or_false, not_or]; omega)⟩ (by intro p hp; simp only [List.mem_cons, List.not_mem_nil, or_false] at hp; rcases hp with rfl | rfl; exact (KV.top (((((((hkv.upd x5).upd x6).upd x7).ext x8).upd u3).ext x9).upd u4) (by omega) (by intro j hj; simp only [List.mem_cons, List.not_mem_nil, or_false] at hj ⊢; omega)); exact (KV.top ((((kv2.ext x8).upd u3).ext x9).upd u4) (by omega) (by intro j hj; simp only [List.mem_cons, List.not_mem_nil, or_false] at hj ⊢; omega))))⟩
  rw [h_g16]
  refine Z.p [4, 5, 6, 7] [] [(20, .bool false), (19, undef), (18, undef), (17, undef)] ?_
  refine Z.e (Z.cf ?_)
  refine wp_skip (Z.x (Z.r [0, 1, 2, 3] ?_))
  refine Z.p [0] [1, 2, 3] [(22, Z.P b 0)] ?_
  have n_g16 : isB p (Z.B [43]) = true := by simpa using h_g16
  have lt2 := (by have := has_lt ho n_g16; rw [e2] at this; exact this : M S q2 < M S p)
  refine Z.k (fun R hR => (ih i (by omega)).f_mul b S q2 _ R b8 ok2 (by omega) (fun w14 t3 A3 c3 q5 e6 x10 b16 kv3 => hR _ _ ?_))
  have zw14 := x10.size
  have tb16 := b16.lt
  obtain ⟨ok5, m6, tr5x, tr5y⟩ : Tr S q2 q5 := run_facts ok2 e6
  refine Z.N (.cells #[.int .i64 0, .int .i64 0, .string Z.E, .int .i64 0, .slice none 0 0] 24) (fun k5 w15 l5 x11 b17 zw15 tb17 => ?_)
  refine Z.Sa #[Z.n t3.k, Z.n t3.a, .string t3.nm, .int .i64 t3.n, .slice A3 t3.ks.length c3] b17 (fun w16 u5 b18 zw16 => ?_)
  refine Z.e (Z.g [0, 1, 2, 3, 4] ?_)
  refine Z.p [0] [1, 2, 3, 4] [(24, .string p.t)] ?_
  refine Z.L 0 (.agg #[Z.n a.k, Z.n a.a, .string a.nm, .int .i64 a.n, .slice A a.ks.length c]) ((((b7.upd1 x5).upd1 x10).ext x11).upd1 u5) ?_
  refine Z.L 0 (.agg #[Z.n t3.k, Z.n t3.a, .string t3.nm, .int .i64 t3.n, .slice A3 t3.ks.length c3]) b18 ?_
  refine Z.k (fun R hR => two_c p.t ((a.k : Nat) : Int) ((a.a : Nat) : Int) a.nm a.n A a.ks.length c ((t3.k : Nat) : Int) ((t3.a : Nat) : Int) t3.nm t3.n A3 t3.ks.length c3 _ R (fun w17 k6 x12 l6 b19 => hR _ _ ?_))
  have zw17 := x12.size
  have tb19 := b19.lt
  refine Z.Sa #[.int .i64 18, Z.n a.a, .string p.t, .int .i64 0, .slice (some ⟨k6, 0, none⟩) 2 2] (((((b7.upd1 x5).upd1 x10).ext x11).upd1 u5).ext x12) (fun w18 u6 b20 zw18 => ?_)
  refine Gx.ops_nil (Gx.block_normal (Z.x ?_))
  rw [Gx.forget [(0, Z.P b 0), (2, Z.P k1 0), (3, Z.P k2 0)] (by kernel_rfl)]
  exact hK1 _ _ _ _ (by omega) ⟨i, q5, (Nd.mk 18 a.a p.t (0 : Int) [a, t3]), (some (⟨k6, 0, none⟩ : Addr)), 2, rfl, rfl, (gb_new (gb_ext (gb_new (gb_ext (gb_upd (gb_upd (gb_upd (gb_refl w b) x4) x5) x10) x11) u5) x12) u6), ((((b16.ext x11).upd1 u5).ext x12).upd1 u6), ((((((b6.upd1 x5).upd1 x10).ext x11).upd1 u5).ext x12).upd1 u6), b20, (by omega), (by omega), (by rw [← hr, run_succ]; simp only [stepN, sumLS, two, e2, e6, h_g16, n_g16, Z.ifs, reduceIte]), ok5, (KV.of_row [(a, A, c), (t3, A3, c3)] (n := 10) (b19.upd1 u6) rfl ⟨by omega, by omega, (by simp only [List.mem_cons, List.not_mem_nil, or_false, not_or]; omega)⟩ (by intro p hp; simp only [List.mem_cons, List.not_mem_nil, or_false] at hp; rcases hp with rfl | rfl; exact (KV.top ((((((hkv.upd x5).upd x10).ext x11).upd u5).ext x12).upd u6) (by omega) (by intro j hj; simp only [List.mem_cons, List.not_mem_nil, or_false] at hj ⊢; omega)); exact (KV.top ((((kv3.ext x11).upd u5).ext x12).upd u6) (by omega) (by intro j hj; simp only [List.mem_cons, List.not_mem_nil, or_false] at hj ⊢; omega))))⟩
end Doc
end Go.Proofs.Ytinilkomfggjiaa
