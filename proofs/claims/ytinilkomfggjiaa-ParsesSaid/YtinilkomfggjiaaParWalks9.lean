/- The walks, written by a program of ours (wip/gx/gx.py, parsegen.py). -/
import Derived.Test.YtinilkomfggjiaaRows
import Derived.Test.YtinilkomfggjiaaGs
import Derived.Test.YtinilkomfggjiaaGp
import Derived.Test.YtinilkomfggjiaaSynPlain
import Derived.Test.YtinilkomfggjiaaLexWalks4
import Derived.Test.YtinilkomfggjiaaGq
import Derived.Test.YtinilkomfggjiaaSynWalks6
import Derived.Test.YtinilkomfggjiaaParWalks8
set_option linter.unusedVariables false
set_option linter.unusedSimpArgs false
namespace Go.Proofs.Ytinilkomfggjiaa
open Go.RowKit Go.Lex Go.Syn
attribute [local irreducible] Go.wpOps Go.Code.wp Go.wpOp Go.wpAnyH Go.Calls
theorem sz_kid {t : Nd} {i : Nat} (h : i < t.ks.length) : SizeOf.sizeOf (t.ks.getD i nd0) < SizeOf.sizeOf t := by
  have hm : t.ks.getD i nd0 ∈ t.ks := by
    rw [List.getD_eq_getElem?_getD, List.getElem?_eq_getElem h]
    exact List.getElem_mem h
  cases t with
  | mk k a nm n ks =>
    have h2 : SizeOf.sizeOf (ks.getD i nd0) < SizeOf.sizeOf ks := List.sizeOf_lt_of_mem hm
    rw [Nd.mk.sizeOf_spec]
    show SizeOf.sizeOf (ks.getD i nd0) < _
    omega
def SameOk (t : Nd) : Prop := ∀ (A A' : Option Addr) (c c' : Nat) (lo hi lo' hi' : Nat) (p : Bool) (w : World) (K : Ending → World → Prop), KV (In lo hi []) w t.ks A c → KV (In lo' hi' []) w t.ks A' c' →
  (∀ w', Gx.Ext w w' → K (.returned (.bool true)) w') → Calls Try.prog 6 #[.agg #[Z.n t.k, Z.n t.a, .string t.nm, .int .i64 t.n, .slice A t.ks.length c], .agg #[Z.n t.k, Z.n t.a, .string t.nm, .int .i64 t.n, .slice A' t.ks.length c'], .bool p] w K
theorem parse_same (s : ByteArray) (w : World) (K : Ending → World → Prop) {t : Nd} {fk fa : Nat} (e : parseP s = (t, fk, fa)) (hK : ∀ w' A c, Gx.Ext w w' → KV (In w.heap.size w'.heap.size []) w' t.ks A c → K (.returned (.tuple #[.agg #[Z.n t.k, Z.n t.a, .string t.nm, .int .i64 t.n, .slice A t.ks.length c], .agg #[Z.n fk, Z.n fa]])) w') :
    Calls Try.prog 5 #[.string s] w K := Doc.parse_c s w K (fun w' t' A c fk' fa' e' x kv => by rw [e] at e'; cases e'; exact hK w' A c x kv)
set_option maxHeartbeats 400000 in
set_option maxRecDepth 10000 in
theorem same_step (t : Nd) (A A' : Option Addr) (c c' : Nat) (lo hi lo' hi' : Nat) (p : Bool) (w : World) (K : Ending → World → Prop) (ih : ∀ i, i < t.ks.length → SameOk (t.ks.getD i nd0)) (h1 : KV (In lo hi []) w t.ks A c) (h2 : KV (In lo' hi' []) w t.ks A' c') (hK : ∀ w', Gx.Ext w w' → K (.returned (.bool true)) w') :
    Calls Try.prog 6 #[.agg #[Z.n t.k, Z.n t.a, .string t.nm, .int .i64 t.n, .slice A t.ks.length c], .agg #[Z.n t.k, Z.n t.a, .string t.nm, .int .i64 t.n, .slice A' t.ks.length c'], .bool p] w K := by
  refine Gx.enter 68 Try.func6 rfl rfl (Nat.le_of_ble_eq_true rfl) ?_
  obtain ⟨As, cs, hrd1, hch1⟩ := KV.at_ h1; obtain ⟨As', cs', hrd2, hch2⟩ := KV.at_ h2; have hmx := KV.max h1; unfold maxLen at hmx
  refine Z.r [0, 1, 2] ?_
  refine Z.N (.cells #[Z.n t.k, Z.n t.a, .string t.nm, .int .i64 t.n, .slice A t.ks.length c] 24) (fun k1 w1 l1 x1 b1 zw1 tb1 => ?_)
  refine Z.N (.cells #[Z.n t.k, Z.n t.a, .string t.nm, .int .i64 t.n, .slice A' t.ks.length c'] 24) (fun k2 w2 l2 x2 b2 zw2 tb2 => ?_)
  refine Z.p [2] [] [(6, .bool false)] ?_
  refine Z.e (wp_seq (Z.r [0, 1, 2, 3, 4, 5, 6, 7, 8, 9, 10, 11, 12, 13, 14, 15, 16, 17, 18, 19, 20, 21, 22, 23, 24, 25, 26, 27, 28, 29, 30, 31, 32, 33, 34, 35, 36, 37] ?_))
  refine Z.p [0] [1, 2, 3, 4, 5, 6, 7, 8, 9, 10, 11, 12, 13, 14, 15, 16, 17, 18, 19, 20, 21, 22, 23, 24, 25, 26, 27, 28, 29, 30, 31, 32, 33, 34, 35, 36, 37] [(9, Z.P k1 0)] ?_
  refine Z.L 0 (Z.n t.k) (b1.ext x2) ?_
  refine Z.p [2] [3, 4, 5, 6, 7, 8, 9, 10, 11, 12, 13, 14, 15, 16, 17, 18, 19, 20, 21, 22, 23, 24, 25, 26, 27, 28, 29, 30, 31, 32, 33, 34, 35, 36, 37] [(11, Z.P k2 0)] ?_
  refine Z.L 0 (Z.n t.k) b2 ?_
  refine Z.p [4, 5] [6, 7, 8, 9, 10, 11, 12, 13, 14, 15, 16, 17, 18, 19, 20, 21, 22, 23, 24, 25, 26, 27, 28, 29, 30, 31, 32, 33, 34, 35, 36, 37] [(14, .bool (((t.k : Nat) : Int) != ((t.k : Nat) : Int))), (13, .bool (((t.k : Nat) : Int) != ((t.k : Nat) : Int)))] ?_
  refine Gx.split (((t.k : Nat) : Int) != ((t.k : Nat) : Int)) (fun h_g14 => ?_) (fun h_g14 => ?_)
  · exact absurd h_g14 (by simp)
  rw [h_g14]
  refine Z.p [6] [7, 8, 9, 10, 11, 12, 13, 14, 15, 16, 17, 18, 19, 20, 21, 22, 23, 24, 25, 26, 27, 28, 29, 30, 31, 32, 33, 34, 35, 36, 37] [(15, Z.P k1 2)] ?_
  refine Z.L 2 (.string t.nm) (b1.ext x2) ?_
  refine Z.p [8] [9, 10, 11, 12, 13, 14, 15, 16, 17, 18, 19, 20, 21, 22, 23, 24, 25, 26, 27, 28, 29, 30, 31, 32, 33, 34, 35, 36, 37] [(17, Z.P k2 2)] ?_
  refine Z.L 2 (.string t.nm) b2 ?_
  refine Z.p [10, 11, 12] [13, 14, 15, 16, 17, 18, 19, 20, 21, 22, 23, 24, 25, 26, 27, 28, 29, 30, 31, 32, 33, 34, 35, 36, 37] [(21, .bool (!(t.nm.toList == t.nm.toList))), (20, .bool (!(t.nm.toList == t.nm.toList))), (19, .bool (!(t.nm.toList == t.nm.toList)))] ?_
  refine Gx.split (!(t.nm.toList == t.nm.toList)) (fun h_g21 => ?_) (fun h_g21 => ?_)
  · exact absurd h_g21 (by simp)
  rw [h_g21]
  refine Z.p [13] [14, 15, 16, 17, 18, 19, 20, 21, 22, 23, 24, 25, 26, 27, 28, 29, 30, 31, 32, 33, 34, 35, 36, 37] [(22, Z.P k1 3)] ?_
  refine Z.L 3 (.int .i64 t.n) (b1.ext x2) ?_
  refine Z.p [15] [16, 17, 18, 19, 20, 21, 22, 23, 24, 25, 26, 27, 28, 29, 30, 31, 32, 33, 34, 35, 36, 37] [(24, Z.P k2 3)] ?_
  refine Z.L 3 (.int .i64 t.n) b2 ?_
  refine Z.p [17, 18, 19] [20, 21, 22, 23, 24, 25, 26, 27, 28, 29, 30, 31, 32, 33, 34, 35, 36, 37] [(28, .bool (t.n != t.n)), (27, .bool (t.n != t.n)), (26, .bool (t.n != t.n))] ?_
  refine Gx.split (t.n != t.n) (fun h_g28 => ?_) (fun h_g28 => ?_)
  · exact absurd h_g28 (by simp)
  rw [h_g28]
  refine Z.p [20] [21, 22, 23, 24, 25, 26, 27, 28, 29, 30, 31, 32, 33, 34, 35, 36, 37] [(29, Z.P k1 4)] ?_
  refine Z.L 4 (.slice A t.ks.length c) (b1.ext x2) ?_
  refine Z.p [22, 23] [24, 25, 26, 27, 28, 29, 30, 31, 32, 33, 34, 35, 36, 37] [(32, Z.P k2 4), (31, Z.n t.ks.length)] ?_
  refine Z.L 4 (.slice A' t.ks.length c') b2 ?_
  refine Z.p [25, 26, 27, 28] [29, 30, 31, 32, 33, 34, 35, 36, 37] [(37, .bool (((t.ks.length : Nat) : Int) != ((t.ks.length : Nat) : Int))), (36, .bool (((t.ks.length : Nat) : Int) != ((t.ks.length : Nat) : Int))), (35, .bool (((t.ks.length : Nat) : Int) != ((t.ks.length : Nat) : Int))), (34, Z.n t.ks.length)] ?_
  refine Gx.split (((t.ks.length : Nat) : Int) != ((t.ks.length : Nat) : Int)) (fun h_g37 => ?_) (fun h_g37 => ?_)
  · exact absurd h_g37 (by simp)
  rw [h_g37]
  refine Z.p [29, 30] [31, 32, 33, 34, 35, 36, 37] [(39, .bool p), (38, .bool p)] ?_
  refine Gx.split p (fun h_g39 => ?_) (fun h_g39 => ?_)
  · rw [h_g39]
    refine Z.p [31] [32, 33, 34, 35, 36, 37] [(40, Z.P k1 1)] ?_
    refine Z.L 1 (Z.n t.a) (b1.ext x2) ?_
    refine Z.p [33] [34, 35, 36, 37] [(42, Z.P k2 1)] ?_
    refine Z.L 1 (Z.n t.a) b2 ?_
    refine Z.p [35, 36, 37] [] [(46, .bool (((t.a : Nat) : Int) != ((t.a : Nat) : Int))), (45, .bool (((t.a : Nat) : Int) != ((t.a : Nat) : Int))), (44, .bool (((t.a : Nat) : Int) != ((t.a : Nat) : Int)))] ?_
    refine Z.e (Z.c (((t.a : Nat) : Int) != ((t.a : Nat) : Int)) (fun h_c46 => ?_) (fun h_c46 => ?_))
    · exact absurd h_c46 (by simp)
    refine wp_skip (Z.x (wp_seq (Z.s [(7, .int .i64 0)] ?_)))
    refine wp_block ?_
    have p_g39 := h_g39; try simp [-List.getD_eq_getElem?_getD] at p_g39
    refine Gx.loop (n' := 68) (d' := []) (fun mz l' w' => ∃ (i : Nat), l' = [(2, .bool true), (3, Z.P k1 0), (4, Z.P k2 0), (7, Z.n i)] ∧ mz = t.ks.length - i ∧ Gx.Ext w w' ∧ Gx.Has w' k1 (.cells #[Z.n t.k, Z.n t.a, .string t.nm, .int .i64 t.n, .slice A t.ks.length c] 24) ∧ Gx.Has w' k2 (.cells #[Z.n t.k, Z.n t.a, .string t.nm, .int .i64 t.n, .slice A' t.ks.length c'] 24) ∧ (i ≤ t.ks.length)) _ _ [(2, .bool true), (3, Z.P k1 0), (4, Z.P k2 0), (7, Z.n 0)] (Gx.forget [(2, .bool true), (3, Z.P k1 0), (4, Z.P k2 0), (7, Z.n 0)] (by kernel_rfl)) ⟨0, rfl, rfl, (((Gx.Ext.refl w).trans x1).trans x2), (b1.ext x2), b2, (Nat.zero_le _)⟩ (fun bb1 m1 ll1 w3 hI1 K1 hK1 => ?_)
    obtain ⟨i, rfl, rfl, x3, b3, b4, hi⟩ := hI1
    have zw3 := x3.size
    have tb3 := b3.lt
    have tb4 := b4.lt
    refine wp_seq (Z.r [0, 1, 2, 3, 4] ?_)
    refine Z.p [0, 1] [2, 3, 4] [(48, Z.P k1 4), (47, Z.n i)] ?_
    refine Z.L 4 (.slice A t.ks.length c) b3 ?_
    refine Z.p [3, 4] [] [(51, .bool (decide (((i : Nat) : Int) < ((t.ks.length : Nat) : Int)))), (50, Z.n t.ks.length)] ?_
    refine Z.e (Z.c (decide (((i : Nat) : Int) < ((t.ks.length : Nat) : Int))) (fun h_c51 => ?_) (fun h_c51 => ?_))
    · skip
      refine wp_skip (Z.x (wp_seq (wp_block (wp_seq (Z.D (fun w' => Gx.Has w' k1 (.cells #[Z.n t.k, Z.n t.a, .string t.nm, .int .i64 t.n, .slice A t.ks.length c] 24) ∧ Gx.Has w' k2 (.cells #[Z.n t.k, Z.n t.a, .string t.nm, .int .i64 t.n, .slice A' t.ks.length c'] 24) ∧ Gx.Ext w w') (fun w4 x4 zw4 => ?_))))))
      refine Z.h ⟨(b3.ext x4), (b4.ext x4), (((Gx.Ext.refl w).trans x3).trans x4)⟩ (fun hS1 => ?_)
      refine Z.t 0 (Z.P k1 4) hS1 ?_
      refine Z.tl 1 4 (.slice A t.ks.length c) (fun _ hs => hs.1) hS1 ?_
      refine Z.t 2 (Z.n i) hS1 ?_
      have p_c51 := of_decide_eq_true h_c51
      obtain ⟨a1, ha1, hc1⟩ := hrd1 i (by omega)
      refine Z.ti 3 24 5 ha1 t.ks.length c i hS1 ?_
      refine Z.ta 4 [.int .i64 (((t.ks.getD i nd0).k : Nat) : Int), .int .i64 (((t.ks.getD i nd0).a : Nat) : Int), .string ((t.ks.getD i nd0).nm), .int .i64 ((t.ks.getD i nd0).n), .slice (As i) ((t.ks.getD i nd0).ks.length) (cs i)] 5 hc1 (fun _ hs => hs.2.2) hS1 ?_
      refine Z.t 5 (Z.P k2 4) hS1 ?_
      refine Z.tl 6 4 (.slice A' t.ks.length c') (fun _ hs => hs.2.1) hS1 ?_
      refine Z.t 7 (Z.n i) hS1 ?_
      obtain ⟨a2, ha2, hc2⟩ := hrd2 i (by omega)
      refine Z.ti 8 24 5 ha2 t.ks.length c' i hS1 ?_
      refine Z.ta 9 [.int .i64 (((t.ks.getD i nd0).k : Nat) : Int), .int .i64 (((t.ks.getD i nd0).a : Nat) : Int), .string ((t.ks.getD i nd0).nm), .int .i64 ((t.ks.getD i nd0).n), .slice (As' i) ((t.ks.getD i nd0).ks.length) (cs' i)] 5 hc2 (fun _ hs => hs.2.2) hS1 ?_
      refine Z.t 10 (.bool true) hS1 ?_
      refine Z.o 11 (fun R hR => ih i (by omega) (As i) (As' i) (cs i) (cs' i) _ _ _ _ true _ R (((hch1 i (by omega)).ext x3).ext x4) (((hch2 i (by omega)).ext x3).ext x4) (fun w5 x5 => hR _ _ ⟨⟨((b3.ext x4).ext x5), ((b4.ext x4).ext x5), ((((Gx.Ext.refl w).trans x3).trans x4).trans x5)⟩, fun hS2 => ?_⟩))
      have zw5 := x5.size
      refine Z.t 12 (.bool true) hS2 ?_
      refine Z.q ?_
      refine Z.x (Z.sf [(67, .bool false), (66, .bool true)] ?_)
      refine wp_skip (Gx.block_normal (Z.x (Z.g [0, 1, 2] ?_)))
      refine Z.p [0] [1, 2] [(52, Z.n i)] ?_
      refine Gx.pure_eq [1] [2] [(53, .int .i64 (IntKind.i64.wrap (((i : Nat) : Int) + (1 : Int))))] [(53, .int .i64 ((i + 1 : Nat) : Int))] rfl (by kernel_rfl) (Gx.eqI (Gx.i64n (by omega) (by omega))) ?_
      refine Z.p [2] [] [(7, .int .i64 ((i + 1 : Nat) : Int))] ?_
      refine Gx.ops_nil (Z.x ?_)
      rw [Gx.forget [(2, .bool true), (3, Z.P k1 0), (4, Z.P k2 0), (7, .int .i64 ((i + 1 : Nat) : Int))] (by kernel_rfl)]
      exact hK1 _ _ _ _ (by omega) ⟨i + 1, rfl, rfl, ((((Gx.Ext.refl w).trans x3).trans x4).trans x5), ((b3.ext x4).ext x5), ((b4.ext x4).ext x5), (by omega)⟩
    refine wp_exit (Gx.then_exit (Gx.then_exit (Gx.block_exit (Z.x (Z.s [(6, .bool true)] ?_)))))
    refine wp_ret (Z.v (.bool true) ?_)
    have p_c51 := of_decide_eq_false h_c51
    exact hK _ ((Gx.Ext.refl w).trans x3)
  rw [h_g39]
  refine Z.p [31, 32, 33, 34, 35, 36, 37] [] [(46, .bool false), (45, .bool false), (44, undef), (43, undef), (42, undef), (41, undef), (40, undef)] ?_
  refine Z.e (Z.cf ?_)
  refine wp_skip (Z.x (wp_seq (Z.s [(7, .int .i64 0)] ?_)))
  refine wp_block ?_
  have p_g39 := h_g39; try simp [-List.getD_eq_getElem?_getD] at p_g39
  refine Gx.loop (n' := 68) (d' := []) (fun mz l' w' => ∃ (i : Nat), l' = [(2, .bool false), (3, Z.P k1 0), (4, Z.P k2 0), (7, Z.n i)] ∧ mz = t.ks.length - i ∧ Gx.Ext w w' ∧ Gx.Has w' k1 (.cells #[Z.n t.k, Z.n t.a, .string t.nm, .int .i64 t.n, .slice A t.ks.length c] 24) ∧ Gx.Has w' k2 (.cells #[Z.n t.k, Z.n t.a, .string t.nm, .int .i64 t.n, .slice A' t.ks.length c'] 24) ∧ (i ≤ t.ks.length)) _ _ [(2, .bool false), (3, Z.P k1 0), (4, Z.P k2 0), (7, Z.n 0)] (Gx.forget [(2, .bool false), (3, Z.P k1 0), (4, Z.P k2 0), (7, Z.n 0)] (by kernel_rfl)) ⟨0, rfl, rfl, (((Gx.Ext.refl w).trans x1).trans x2), (b1.ext x2), b2, (Nat.zero_le _)⟩ (fun bb2 m2 ll2 w6 hI2 K2 hK2 => ?_)
  obtain ⟨i, rfl, rfl, x6, b5, b6, hi⟩ := hI2
  have zw6 := x6.size
  have tb5 := b5.lt
  have tb6 := b6.lt
  refine wp_seq (Z.r [0, 1, 2, 3, 4] ?_)
  refine Z.p [0, 1] [2, 3, 4] [(48, Z.P k1 4), (47, Z.n i)] ?_
  refine Z.L 4 (.slice A t.ks.length c) b5 ?_
  refine Z.p [3, 4] [] [(51, .bool (decide (((i : Nat) : Int) < ((t.ks.length : Nat) : Int)))), (50, Z.n t.ks.length)] ?_
  refine Z.e (Z.c (decide (((i : Nat) : Int) < ((t.ks.length : Nat) : Int))) (fun h_c51 => ?_) (fun h_c51 => ?_))
  · skip
    refine wp_skip (Z.x (wp_seq (wp_block (wp_seq (Z.D (fun w' => Gx.Has w' k1 (.cells #[Z.n t.k, Z.n t.a, .string t.nm, .int .i64 t.n, .slice A t.ks.length c] 24) ∧ Gx.Has w' k2 (.cells #[Z.n t.k, Z.n t.a, .string t.nm, .int .i64 t.n, .slice A' t.ks.length c'] 24) ∧ Gx.Ext w w') (fun w7 x7 zw7 => ?_))))))
    refine Z.h ⟨(b5.ext x7), (b6.ext x7), (((Gx.Ext.refl w).trans x6).trans x7)⟩ (fun hS3 => ?_)
    refine Z.t 0 (Z.P k1 4) hS3 ?_
    refine Z.tl 1 4 (.slice A t.ks.length c) (fun _ hs => hs.1) hS3 ?_
    refine Z.t 2 (Z.n i) hS3 ?_
    have p_c51 := of_decide_eq_true h_c51
    obtain ⟨a3, ha3, hc3⟩ := hrd1 i (by omega)
    refine Z.ti 3 24 5 ha3 t.ks.length c i hS3 ?_
    refine Z.ta 4 [.int .i64 (((t.ks.getD i nd0).k : Nat) : Int), .int .i64 (((t.ks.getD i nd0).a : Nat) : Int), .string ((t.ks.getD i nd0).nm), .int .i64 ((t.ks.getD i nd0).n), .slice (As i) ((t.ks.getD i nd0).ks.length) (cs i)] 5 hc3 (fun _ hs => hs.2.2) hS3 ?_
    refine Z.t 5 (Z.P k2 4) hS3 ?_
    refine Z.tl 6 4 (.slice A' t.ks.length c') (fun _ hs => hs.2.1) hS3 ?_
    refine Z.t 7 (Z.n i) hS3 ?_
    obtain ⟨a4, ha4, hc4⟩ := hrd2 i (by omega)
    refine Z.ti 8 24 5 ha4 t.ks.length c' i hS3 ?_
    refine Z.ta 9 [.int .i64 (((t.ks.getD i nd0).k : Nat) : Int), .int .i64 (((t.ks.getD i nd0).a : Nat) : Int), .string ((t.ks.getD i nd0).nm), .int .i64 ((t.ks.getD i nd0).n), .slice (As' i) ((t.ks.getD i nd0).ks.length) (cs' i)] 5 hc4 (fun _ hs => hs.2.2) hS3 ?_
    refine Z.t 10 (.bool false) hS3 ?_
    refine Z.o 11 (fun R hR => ih i (by omega) (As i) (As' i) (cs i) (cs' i) _ _ _ _ false _ R (((hch1 i (by omega)).ext x6).ext x7) (((hch2 i (by omega)).ext x6).ext x7) (fun w8 x8 => hR _ _ ⟨⟨((b5.ext x7).ext x8), ((b6.ext x7).ext x8), ((((Gx.Ext.refl w).trans x6).trans x7).trans x8)⟩, fun hS4 => ?_⟩))
    have zw8 := x8.size
    refine Z.t 12 (.bool true) hS4 ?_
    refine Z.q ?_
    refine Z.x (Z.sf [(67, .bool false), (66, .bool true)] ?_)
    refine wp_skip (Gx.block_normal (Z.x (Z.g [0, 1, 2] ?_)))
    refine Z.p [0] [1, 2] [(52, Z.n i)] ?_
    refine Gx.pure_eq [1] [2] [(53, .int .i64 (IntKind.i64.wrap (((i : Nat) : Int) + (1 : Int))))] [(53, .int .i64 ((i + 1 : Nat) : Int))] rfl (by kernel_rfl) (Gx.eqI (Gx.i64n (by omega) (by omega))) ?_
    refine Z.p [2] [] [(7, .int .i64 ((i + 1 : Nat) : Int))] ?_
    refine Gx.ops_nil (Z.x ?_)
    rw [Gx.forget [(2, .bool false), (3, Z.P k1 0), (4, Z.P k2 0), (7, .int .i64 ((i + 1 : Nat) : Int))] (by kernel_rfl)]
    exact hK2 _ _ _ _ (by omega) ⟨i + 1, rfl, rfl, ((((Gx.Ext.refl w).trans x6).trans x7).trans x8), ((b5.ext x7).ext x8), ((b6.ext x7).ext x8), (by omega)⟩
  refine wp_exit (Gx.then_exit (Gx.then_exit (Gx.block_exit (Z.x (Z.s [(6, .bool true)] ?_)))))
  refine wp_ret (Z.v (.bool true) ?_)
  have p_c51 := of_decide_eq_false h_c51
  exact hK _ ((Gx.Ext.refl w).trans x6)
theorem same_c (t : Nd) : SameOk t := by
  generalize hn : SizeOf.sizeOf t = n
  induction n using Nat.strongRecOn generalizing t with
  | ind n ih => subst hn; exact fun A A' c c' lo hi lo' hi' p w K h1 h2 hK => same_step t A A' c c' lo hi lo' hi' p w K (fun i hi => ih _ (sz_kid hi) _ rfl) h1 h2 hK
set_option maxHeartbeats 400000 in
set_option maxRecDepth 10000 in
theorem Parses_c (s : ByteArray) (w : World) (K : Ending → World → Prop)  (hK : ∀ w', Gx.Ext w w' → K (.returned (.bool true)) w') :
    Calls Try.prog 3 #[.string s] w K := by
  refine Gx.enter 25 Try.func3 rfl rfl (Nat.le_of_ble_eq_true rfl) ?_
  refine Z.s [(2, .bool false)] ?_
  refine Z.r [0, 1, 2, 3, 4, 5, 6, 7, 8] ?_
  refine Z.p [0] [1, 2, 3, 4, 5, 6, 7, 8] [(8, .string s)] ?_
  refine Z.k (fun R hR => Parse_p s _ R (fun w1 t1 A1 c1 fk1 fa1 e1 x1 kv1 => hR _ _ ?_))
  have zw1 := x1.size
  refine Z.p [2, 3, 4] [5, 6, 7, 8] [(11, .agg #[Z.n fk1, Z.n fa1]), (10, .agg #[Z.n t1.k, Z.n t1.a, .string t1.nm, .int .i64 t1.n, .slice A1 t1.ks.length c1]), (7, .tuple #[.agg #[Z.n t1.k, Z.n t1.a, .string t1.nm, .int .i64 t1.n, .slice A1 t1.ks.length c1], .agg #[Z.n fk1, Z.n fa1]])] ?_
  refine Z.N (.cells #[.int .i64 0, .int .i64 0, .string Z.E, .int .i64 0, .slice none 0 0] 24) (fun k1 w2 l1 x2 b1 zw2 tb1 => ?_)
  refine Z.N (.cells #[.int .i64 0, .int .i64 0] 27) (fun k2 w3 l2 x3 b2 zw3 tb2 => ?_)
  refine Z.Sa #[Z.n t1.k, Z.n t1.a, .string t1.nm, .int .i64 t1.n, .slice A1 t1.ks.length c1] (b1.ext x3) (fun w4 u1 b3 zw4 => ?_)
  refine Z.Sa #[Z.n fk1, Z.n fa1] (b2.upd1 u1) (fun w5 u2 b4 zw5 => ?_)
  refine Z.e (Z.r [0, 1, 2, 3, 4, 5, 6, 7, 8] ?_)
  refine Z.p [0] [1, 2, 3, 4, 5, 6, 7, 8] [(13, .string s)] ?_
  refine Z.k (fun R hR => parse_same s _ R e1 (fun w6 A2 c2 x4 kv2 => hR _ _ ?_))
  have zw6 := x4.size
  refine Z.p [2, 3, 4] [5, 6, 7, 8] [(16, .agg #[Z.n fk1, Z.n fa1]), (15, .agg #[Z.n t1.k, Z.n t1.a, .string t1.nm, .int .i64 t1.n, .slice A2 t1.ks.length c2]), (12, .tuple #[.agg #[Z.n t1.k, Z.n t1.a, .string t1.nm, .int .i64 t1.n, .slice A2 t1.ks.length c2], .agg #[Z.n fk1, Z.n fa1]])] ?_
  refine Z.N (.cells #[.int .i64 0, .int .i64 0, .string Z.E, .int .i64 0, .slice none 0 0] 24) (fun k3 w7 l3 x5 b5 zw7 tb5 => ?_)
  refine Z.N (.cells #[.int .i64 0, .int .i64 0] 27) (fun k4 w8 l4 x6 b6 zw8 tb6 => ?_)
  refine Z.Sa #[Z.n t1.k, Z.n t1.a, .string t1.nm, .int .i64 t1.n, .slice A2 t1.ks.length c2] (b5.ext x6) (fun w9 u3 b7 zw9 => ?_)
  refine Z.Sa #[Z.n fk1, Z.n fa1] (b6.upd1 u3) (fun w10 u4 b8 zw10 => ?_)
  refine Z.e (Z.r [0, 1, 2, 3, 4, 5, 6, 7, 8] ?_)
  refine Z.L 0 (.agg #[Z.n fk1, Z.n fa1]) (((((b4.ext x4).ext x5).ext x6).upd1 u3).upd1 u4) ?_
  refine Z.L 0 (.agg #[Z.n fk1, Z.n fa1]) b8 ?_
  refine Gx.cons (Gx.op_val rfl (by kernel_rfl) (Gx.run_eql_struct rfl #[Z.n fk1, Z.n fa1] #[Z.n fk1, Z.n fa1] ((((fk1 : Nat) : Int) == ((fk1 : Nat) : Int)) && ((((fa1 : Nat) : Int) == ((fa1 : Nat) : Int)) && true)) (by kernel_rfl) (by kernel_rfl) (by kernel_rfl) (by kernel_rfl) (by kernel_rfl) (by kernel_rfl)) ?_)
  refine Z.p [3] [4, 5, 6, 7, 8] [(20, .bool ((((fk1 : Nat) : Int) == ((fk1 : Nat) : Int)) && ((((fa1 : Nat) : Int) == ((fa1 : Nat) : Int)) && true)))] ?_
  refine Gx.split ((((fk1 : Nat) : Int) == ((fk1 : Nat) : Int)) && ((((fa1 : Nat) : Int) == ((fa1 : Nat) : Int)) && true)) (fun h_g20 => ?_) (fun h_g20 => ?_)
  · rw [h_g20]
    refine Z.L 0 (.agg #[Z.n t1.k, Z.n t1.a, .string t1.nm, .int .i64 t1.n, .slice A1 t1.ks.length c1]) ((((((b3.upd1 u2).ext x4).ext x5).ext x6).upd1 u3).upd1 u4) ?_
    refine Z.L 0 (.agg #[Z.n t1.k, Z.n t1.a, .string t1.nm, .int .i64 t1.n, .slice A2 t1.ks.length c2]) (b7.upd1 u4) ?_
    refine Z.k (fun R hR => same_c t1 A1 A2 c1 c2 _ _ _ _ true _ R (((((((((kv1.ext x2).ext x3).upd u1).upd u2).ext x4).ext x5).ext x6).upd u3).upd u4) ((((kv2.ext x5).ext x6).upd u3).upd u4) (fun w11 x7 => hR _ _ ?_))
    have zw11 := x7.size
    refine Z.p [7, 8] [] [(2, .bool true), (24, .bool true)] ?_
    refine Z.e (wp_ret (Z.v (.bool true) ?_))
    exact hK _ ((((((((((((Gx.Ext.refl w).trans x1).trans x2).trans x3).upd1 u1).upd1 u2).trans x4).trans x5).trans x6).upd1 u3).upd1 u4).trans x7)
  exact absurd h_g20 (by simp)
end Go.Proofs.Ytinilkomfggjiaa
