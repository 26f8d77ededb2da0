/- The walks of high, Same and Again, written by a program of ours (wip/gx/gx.py, wip/syn/agwalk.py). -/
import Derived.Test.YtinilkomfggjiaaDoorRows
import Derived.Test.YtinilkomfggjiaaDoorParWalks8
import Derived.Test.YtinilkomfggjiaaDoorPrWalks7
import Derived.Test.YtinilkomfggjiaaDoorAgUniq
set_option linter.unusedVariables false
set_option linter.unusedSimpArgs false
set_option maxHeartbeats 4000000
set_option maxRecDepth 20000
namespace Go.Proofs.YtinilkomfggjiaaDoor
open Go.RowKit Go.Lex Go.Syn
attribute [local irreducible] Go.wpOps Go.Code.wp Go.wpOp Go.wpAnyH Go.Calls
theorem sz_kid {t : Nd} {i : Nat} (h : i < t.ks.length) : SizeOf.sizeOf (t.ks.getD i nd0) < SizeOf.sizeOf t := by
  have hm : t.ks.getD i nd0 ∈ t.ks := by
    rw [List.getD_eq_getElem?_getD, List.getElem?_eq_getElem h]
    exact List.getElem_mem h
  cases t with
  | mk k a nm n ks =>
    have h2 : SizeOf.sizeOf (ks.getD i nd0) < SizeOf.sizeOf ks := List.sizeOf_lt_of_mem hm
    rw [Nd.mk.sizeOf_spec]
    show SizeOf.sizeOf (ks.getD i nd0) < _
    omega
theorem hgt_get {t : Nd} {i : Nat} (h : i < t.ks.length) : Ag.hgt (t.ks.getD i nd0) + 1 ≤ Ag.hgt t := by
  cases t with
  | mk k a nm n ks =>
    refine Ag.hgt_kid ?_
    show ks.getD i nd0 ∈ ks
    have h' : i < ks.length := h
    rw [List.getD_eq_getElem?_getD, List.getElem?_eq_getElem h']
    exact List.getElem_mem h'
theorem hgt_eq (t : Nd) : Ag.hgt t = Ag.hgtL t.ks + 1 := by cases t; rfl
theorem hgtL_snoc (l : List Nd) (x : Nd) : Ag.hgtL (l ++ [x]) = max (Ag.hgtL l) (Ag.hgt x) := by
  induction l with
  | nil => simp [Ag.hgtL]
  | cons y r ih => rw [List.cons_append, Ag.hgtL, Ag.hgtL, ih]; omega
theorem hgtL_take (l : List Nd) (i : Nat) (h : i < l.length) : Ag.hgtL (l.take (i + 1)) = max (Ag.hgtL (l.take i)) (Ag.hgt (l.getD i nd0)) := by
  rw [← List.take_append_getElem h, hgtL_snoc, List.getD_eq_getElem?_getD, List.getElem?_eq_getElem h]
  rfl
theorem Sm_n {t t' : Nd} (h : Ag.Sm t t') : t'.n = t.n := by cases h; rfl
theorem Sm_ks {t t' : Nd} (h : Ag.Sm t t') : Ag.SmL t.ks t'.ks := by cases h with | mk h => exact h
theorem tab_up {w w' : World} (htab : Lib.TabBelow Tryd.prog w.heap.size w "internal/strconv.uint64pow10" .u64 Lib.pow10Tab) (x : Gx.Ext w w') : Lib.TabBelow Tryd.prog w'.heap.size w' "internal/strconv.uint64pow10" .u64 Lib.pow10Tab := Lib.tabBelow_of_tabIs (htab _ (Gx.Ext.below x))
theorem parse_at (s : ByteArray) {t : Nd} {fk fa : Nat} (e : parseP s = (t, fk, fa)) (w : World) (K : Ending → World → Prop) (hK : ∀ w' A c, Gx.Ext w w' → KV (In w.heap.size w'.heap.size []) w' t.ks A c → K (.returned (.tuple #[.agg (Z.T t A c), .agg #[Z.n fk, Z.n fa]])) w') :
    Calls Tryd.prog 8 #[.string s] w K := Par.Parse_p s w K (fun w' t' A c fk' fa' e' x kv => by rw [e] at e'; cases e'; exact hK w' A c x kv)
theorem print_at {p : Ag.PgD} (hp : p.Ok) {u : ByteArray} (hu : Ag.joinW p.tks = u) (hz : u.size ≤ 400000000) (A : Option Addr) (c lo hi : Nat) (w : World) (K : Ending → World → Prop) (h1 : KV (In lo hi []) w p.node.ks A c) (htab : Lib.TabBelow Tryd.prog w.heap.size w "internal/strconv.uint64pow10" .u64 Lib.pow10Tab) (hK : ∀ w', Gx.Ext w w' → K (.returned (.string u)) w') :
    Calls Tryd.prog 6 #[.agg #[Z.n p.node.k, Z.n p.node.a, .string p.node.nm, .int .i64 p.node.n, .slice A p.node.ks.length c]] w K := by
  obtain ⟨As, cs, hr, hkk⟩ := KV.at_ h1
  have hs := Ag.prog_say hp
  have hM : ∀ x ∈ p.os.map Ag.OpD.node ++ p.ds.map Ag.DfD.node, x.k = 1 ∨ x.k = 2 := fun x hx => by
    rcases List.mem_append.1 hx with hx | hx
    · obtain ⟨o, _, rfl⟩ := List.mem_map.1 hx; exact .inl rfl
    · obtain ⟨o, _, rfl⟩ := List.mem_map.1 hx; exact .inr rfl
  have hl : (p.os.map Ag.OpD.node ++ p.ds.map Ag.DfD.node).length = p.os.length + p.ds.length := by simp
  generalize hMM : p.os.map Ag.OpD.node ++ p.ds.map Ag.DfD.node = M at hM hl
  have hL : p.node.ks = M ++ [p.e] := by rw [← hMM]; rfl
  have hd : DL p.node.ks (Ag.pgFs p) := Ag.prog_dl hp
  have hpos : 0 < (Ag.joinW p.tks).size := by
    have h2 := Ag.len_le (Ag.pg_ag hp)
    have h3 : 0 < p.tks.length := by unfold Ag.PgD.tks; simp only [List.length_append, List.length_cons]; omega
    omega
  refine Print_c _ 0 Z.E ((p.os.length : Nat) : Int) p.node.ks (p.os.length + p.ds.length) (Ag.pgFs p) A c As cs w K hr hd hkk htab (by rw [hL, List.length_append, hl]; rfl) (fun i hi => ?_) ?_ (by rw [hs, hu]; exact hz) (by rw [hs]; exact hpos) (fun w' x => ?_)
  · have h' : i < M.length := by omega
    rw [hL, List.getD_eq_getElem?_getD, List.getElem?_append_left h', List.getElem?_eq_getElem h']
    exact hM _ (List.getElem_mem h')
  · rw [hL, List.getD_eq_getElem?_getD, List.getElem?_append_right (by omega), hl, Nat.sub_self]
    exact wr_kind (Ag.tw_say hp.e).wr
  · rw [hs, hu]; exact hK w' x
def SameOk (t : Nd) : Prop := ∀ (A A' : Option Addr) (c c' : Nat) (lo hi lo' hi' : Nat) (p : Bool) (w : World) (K : Ending → World → Prop), KV (In lo hi []) w t.ks A c → KV (In lo' hi' []) w t.ks A' c' → (∀ w', Gx.Ext w w' → K (.returned (.bool true)) w') → Calls Tryd.prog 9 #[.agg (Z.T t A c), .agg (Z.T t A' c'), .bool p] w K
def SameOk2 (t : Nd) : Prop := ∀ (t' : Nd), Ag.Sm t t' → ∀ (A A' : Option Addr) (c c' : Nat) (lo hi lo' hi' : Nat) (w : World) (K : Ending → World → Prop), KV (In lo hi []) w t.ks A c → KV (In lo' hi' []) w t'.ks A' c' → (∀ w', Gx.Ext w w' → K (.returned (.bool true)) w') → Calls Tryd.prog 9 #[.agg (Z.T t A c), .agg (Z.T t' A' c'), .bool false] w K
def HighOk (t : Nd) : Prop := Ag.hgt t ≤ 1000000000 → ∀ (A : Option Addr) (c lo hi : Nat) (w : World) (K : Ending → World → Prop), KV (In lo hi []) w t.ks A c → (∀ w', Gx.Ext w w' → K (.returned (.int .i64 ((Ag.hgt t : Nat) : Int))) w') → Calls Tryd.prog 10 #[.agg (Z.T t A c)] w K
theorem same_step (t : Nd) (A A' : Option Addr) (c c' : Nat) (lo hi lo' hi' : Nat) (p : Bool) (w : World) (K : Ending → World → Prop) (ih : ∀ i, i < t.ks.length → SameOk (t.ks.getD i nd0)) (h1 : KV (In lo hi []) w t.ks A c) (h2 : KV (In lo' hi' []) w t.ks A' c') (hK : ∀ w', Gx.Ext w w' → K (.returned (.bool true)) w') :
    Calls Tryd.prog 9 #[.agg (Z.T t A c), .agg (Z.T t A' c'), .bool p] w K := by
  refine Z.en 68 Tryd.func9 ?_
  obtain ⟨As, cs, hrd1, hch1⟩ := KV.at_ h1; obtain ⟨As', cs', hrd2, hch2⟩ := KV.at_ h2; have hmx := KV.max h1; unfold maxLen at hmx
  refine Z.r [0, 1, 2] ?_
  refine Z.N (.cells (Z.T t A c) 24) (fun k1 w1 l1 x1 b1 zw1 tb1 => ?_)
  refine Z.N (.cells (Z.T t A' c') 24) (fun k2 w2 l2 x2 b2 zw2 tb2 => ?_)
  refine Z.p [2] [] [(6, .bool false)] ?_
  refine Z.e (wp_seq (Z.r [0, 1, 2, 3, 4, 5, 6, 7, 8, 9, 10, 11, 12, 13, 14, 15, 16, 17, 18, 19, 20, 21, 22, 23, 24, 25, 26, 27, 28, 29, 30, 31, 32, 33, 34, 35, 36, 37] ?_))
  refine Z.p [0] [1, 2, 3, 4, 5, 6, 7, 8, 9, 10, 11, 12, 13, 14, 15, 16, 17, 18, 19, 20, 21, 22, 23, 24, 25, 26, 27, 28, 29, 30, 31, 32, 33, 34, 35, 36, 37] [(9, Z.P k1 0)] ?_
  refine Z.L 0 (Z.n t.k) (b1.ext x2) ?_
  refine Z.p [2] [3, 4, 5, 6, 7, 8, 9, 10, 11, 12, 13, 14, 15, 16, 17, 18, 19, 20, 21, 22, 23, 24, 25, 26, 27, 28, 29, 30, 31, 32, 33, 34, 35, 36, 37] [(11, Z.P k2 0)] ?_
  refine Z.L 0 (Z.n t.k) b2 ?_
  refine Z.p [4, 5] [6, 7, 8, 9, 10, 11, 12, 13, 14, 15, 16, 17, 18, 19, 20, 21, 22, 23, 24, 25, 26, 27, 28, 29, 30, 31, 32, 33, 34, 35, 36, 37] [(14, .bool (((t.k : Nat) : Int) != ((t.k : Nat) : Int))), (13, .bool (((t.k : Nat) : Int) != ((t.k : Nat) : Int)))] ?_
  refine Gx.split (((t.k : Nat) : Int) != ((t.k : Nat) : Int)) (fun h_g14 => ?_) (fun h_g14 => ?_)
  · exact absurd h_g14 (by simp)
  rw [h_g14]
  refine Z.p [6] [7, 8, 9, 10, 11, 12, 13, 14, 15, 16, 17, 18, 19, 20, 21, 22, 23, 24, 25, 26, 27, 28, 29, 30, 31, 32, 33, 34, 35, 36, 37] [(15, Z.P k1 2)] ?_
  refine Z.L 2 (.string t.nm) (b1.ext x2) ?_
  refine Z.p [8] [9, 10, 11, 12, 13, 14, 15, 16, 17, 18, 19, 20, 21, 22, 23, 24, 25, 26, 27, 28, 29, 30, 31, 32, 33, 34, 35, 36, 37] [(17, Z.P k2 2)] ?_
  refine Z.L 2 (.string t.nm) b2 ?_
  refine Z.p [10, 11, 12] [13, 14, 15, 16, 17, 18, 19, 20, 21, 22, 23, 24, 25, 26, 27, 28, 29, 30, 31, 32, 33, 34, 35, 36, 37] [(21, .bool (!(t.nm.toList == t.nm.toList))), (20, .bool (!(t.nm.toList == t.nm.toList))), (19, .bool (!(t.nm.toList == t.nm.toList)))] ?_
  refine Gx.split (!(t.nm.toList == t.nm.toList)) (fun h_g21 => ?_) (fun h_g21 => ?_)
  · exact absurd h_g21 (by simp)
  rw [h_g21]
  refine Z.p [13] [14, 15, 16, 17, 18, 19, 20, 21, 22, 23, 24, 25, 26, 27, 28, 29, 30, 31, 32, 33, 34, 35, 36, 37] [(22, Z.P k1 3)] ?_
  refine Z.L 3 (.int .i64 t.n) (b1.ext x2) ?_
  refine Z.p [15] [16, 17, 18, 19, 20, 21, 22, 23, 24, 25, 26, 27, 28, 29, 30, 31, 32, 33, 34, 35, 36, 37] [(24, Z.P k2 3)] ?_
  refine Z.L 3 (.int .i64 t.n) b2 ?_
  refine Z.p [17, 18, 19] [20, 21, 22, 23, 24, 25, 26, 27, 28, 29, 30, 31, 32, 33, 34, 35, 36, 37] [(28, .bool (t.n != t.n)), (27, .bool (t.n != t.n)), (26, .bool (t.n != t.n))] ?_
  refine Gx.split (t.n != t.n) (fun h_g28 => ?_) (fun h_g28 => ?_)
  · exact absurd h_g28 (by simp)
  rw [h_g28]
  refine Z.p [20] [21, 22, 23, 24, 25, 26, 27, 28, 29, 30, 31, 32, 33, 34, 35, 36, 37] [(29, Z.P k1 4)] ?_
  refine Z.L 4 (.slice A t.ks.length c) (b1.ext x2) ?_
  refine Z.p [22, 23] [24, 25, 26, 27, 28, 29, 30, 31, 32, 33, 34, 35, 36, 37] [(32, Z.P k2 4), (31, Z.n t.ks.length)] ?_
  refine Z.L 4 (.slice A' t.ks.length c') b2 ?_
  refine Z.p [25, 26, 27, 28] [29, 30, 31, 32, 33, 34, 35, 36, 37] [(37, .bool (((t.ks.length : Nat) : Int) != ((t.ks.length : Nat) : Int))), (36, .bool (((t.ks.length : Nat) : Int) != ((t.ks.length : Nat) : Int))), (35, .bool (((t.ks.length : Nat) : Int) != ((t.ks.length : Nat) : Int))), (34, Z.n t.ks.length)] ?_
  refine Gx.split (((t.ks.length : Nat) : Int) != ((t.ks.length : Nat) : Int)) (fun h_g37 => ?_) (fun h_g37 => ?_)
  · exact absurd h_g37 (by simp)
  rw [h_g37]
  refine Z.p [29, 30] [31, 32, 33, 34, 35, 36, 37] [(39, .bool p), (38, .bool p)] ?_
  refine Gx.split p (fun h_g39 => ?_) (fun h_g39 => ?_)
  · rw [h_g39]
    refine Z.p [31] [32, 33, 34, 35, 36, 37] [(40, Z.P k1 1)] ?_
    refine Z.L 1 (Z.n t.a) (b1.ext x2) ?_
    refine Z.p [33] [34, 35, 36, 37] [(42, Z.P k2 1)] ?_
    refine Z.L 1 (Z.n t.a) b2 ?_
    refine Z.p [35, 36, 37] [] [(46, .bool (((t.a : Nat) : Int) != ((t.a : Nat) : Int))), (45, .bool (((t.a : Nat) : Int) != ((t.a : Nat) : Int))), (44, .bool (((t.a : Nat) : Int) != ((t.a : Nat) : Int)))] ?_
    refine Z.e (Z.c (((t.a : Nat) : Int) != ((t.a : Nat) : Int)) (fun h_c46 => ?_) (fun h_c46 => ?_))
    · exact absurd h_c46 (by simp)
    refine wp_skip (Z.x (wp_seq (Z.s [(7, .int .i64 0)] ?_)))
    refine wp_block ?_
    have p_g39 := h_g39; try simp [-List.getD_eq_getElem?_getD] at p_g39
    refine Gx.loop (n' := 68) (d' := []) (fun mz l' w' => ∃ (i : Nat), l' = [(2, .bool true), (3, Z.P k1 0), (4, Z.P k2 0), (7, Z.n i)] ∧ mz = t.ks.length - i ∧ Gx.Ext w w' ∧ Gx.Has w' k1 (.cells (Z.T t A c) 24) ∧ Gx.Has w' k2 (.cells (Z.T t A' c') 24) ∧ (i ≤ t.ks.length)) _ _ [(2, .bool true), (3, Z.P k1 0), (4, Z.P k2 0), (7, Z.n 0)] (Gx.forget [(2, .bool true), (3, Z.P k1 0), (4, Z.P k2 0), (7, Z.n 0)] (by kernel_rfl)) ⟨0, rfl, rfl, (((Gx.Ext.refl w).trans x1).trans x2), (b1.ext x2), b2, (Nat.zero_le _)⟩ (fun bb1 m1 ll1 w3 hI1 K1 hK1 => ?_)
    obtain ⟨i, rfl, rfl, x3, b3, b4, hi⟩ := hI1
    have zw3 := x3.size
    have tb3 := b3.lt
    have tb4 := b4.lt
    refine wp_seq (Z.r [0, 1, 2, 3, 4] ?_)
    refine Z.p [0, 1] [2, 3, 4] [(48, Z.P k1 4), (47, Z.n i)] ?_
    refine Z.L 4 (.slice A t.ks.length c) b3 ?_
    refine Z.p [3, 4] [] [(51, .bool (decide (((i : Nat) : Int) < ((t.ks.length : Nat) : Int)))), (50, Z.n t.ks.length)] ?_
    refine Z.e (Z.c (decide (((i : Nat) : Int) < ((t.ks.length : Nat) : Int))) (fun h_c51 => ?_) (fun h_c51 => ?_))
    · skip
      refine wp_skip (Z.x (wp_seq (wp_block (wp_seq (Z.D (fun w' => Gx.Has w' k1 (.cells (Z.T t A c) 24) ∧ Gx.Has w' k2 (.cells (Z.T t A' c') 24) ∧ Gx.Ext w w') (fun w4 x4 zw4 => ?_))))))
      have y1 := ((Gx.Ext.refl w).trans x3).trans x4
      refine Z.h ⟨(b3.ext x4), (b4.ext x4), y1⟩ (fun hS1 => ?_)
      refine Z.t 0 (Z.P k1 4) hS1 ?_
      refine Z.tl 1 4 (.slice A t.ks.length c) (fun _ hs => hs.1) hS1 ?_
      refine Z.t 2 (Z.n i) hS1 ?_
      have p_c51 := of_decide_eq_true h_c51
      obtain ⟨a1, ha1, hc1⟩ := hrd1 i (by omega)
      refine Z.ti 3 24 5 ha1 t.ks.length c i hS1 ?_
      refine Z.ta 4 [.int .i64 (((t.ks.getD i nd0).k : Nat) : Int), .int .i64 (((t.ks.getD i nd0).a : Nat) : Int), .string ((t.ks.getD i nd0).nm), .int .i64 ((t.ks.getD i nd0).n), .slice (As i) ((t.ks.getD i nd0).ks.length) (cs i)] 5 hc1 (fun _ hs => hs.2.2) hS1 ?_
      refine Z.t 5 (Z.P k2 4) hS1 ?_
      refine Z.tl 6 4 (.slice A' t.ks.length c') (fun _ hs => hs.2.1) hS1 ?_
      refine Z.t 7 (Z.n i) hS1 ?_
      obtain ⟨a2, ha2, hc2⟩ := hrd2 i (by omega)
      refine Z.ti 8 24 5 ha2 t.ks.length c' i hS1 ?_
      refine Z.ta 9 [.int .i64 (((t.ks.getD i nd0).k : Nat) : Int), .int .i64 (((t.ks.getD i nd0).a : Nat) : Int), .string ((t.ks.getD i nd0).nm), .int .i64 ((t.ks.getD i nd0).n), .slice (As' i) ((t.ks.getD i nd0).ks.length) (cs' i)] 5 hc2 (fun _ hs => hs.2.2) hS1 ?_
      refine Z.t 10 (.bool true) hS1 ?_
      refine Z.o 11 (fun R hR => ih i (by omega) (As i) (As' i) (cs i) (cs' i) _ _ _ _ true _ R (((hch1 i (by omega)).ext x3).ext x4) (((hch2 i (by omega)).ext x3).ext x4) (fun w5 x5 => hR _ _ ⟨⟨((b3.ext x4).ext x5), ((b4.ext x4).ext x5), (y1.trans x5)⟩, fun hS2 => ?_⟩))
      have zw5 := x5.size
      refine Z.t 12 (.bool true) hS2 ?_
      refine Z.q ?_
      refine Z.x (Z.sf [(67, .bool false), (66, .bool true)] ?_)
      refine wp_skip (Gx.block_normal (Z.x (Z.g [0, 1, 2] ?_)))
      refine Z.p [0] [1, 2] [(52, Z.n i)] ?_
      refine Gx.pure_eq [1] [2] [(53, .int .i64 (IntKind.i64.wrap (((i : Nat) : Int) + (1 : Int))))] [(53, .int .i64 ((i + 1 : Nat) : Int))] rfl (by kernel_rfl) (Gx.eqI (Gx.i64n (by omega) (by omega))) ?_
      refine Z.p [2] [] [(7, .int .i64 ((i + 1 : Nat) : Int))] ?_
      refine Gx.ops_nil (Z.x ?_)
      rw [Gx.forget [(2, .bool true), (3, Z.P k1 0), (4, Z.P k2 0), (7, .int .i64 ((i + 1 : Nat) : Int))] (by kernel_rfl)]
      exact hK1 _ _ _ _ (by omega) ⟨i + 1, rfl, rfl, (y1.trans x5), ((b3.ext x4).ext x5), ((b4.ext x4).ext x5), (by omega)⟩
    refine wp_exit (Gx.then_exit (Gx.then_exit (Gx.block_exit (Z.x (Z.s [(6, .bool true)] ?_)))))
    refine wp_ret (Z.v (.bool true) ?_)
    have p_c51 := of_decide_eq_false h_c51
    exact hK _ ((Gx.Ext.refl w).trans x3)
  rw [h_g39]
  refine Z.p [31, 32, 33, 34, 35, 36, 37] [] [(46, .bool false), (45, .bool false), (44, undef), (43, undef), (42, undef), (41, undef), (40, undef)] ?_
  refine Z.e (Z.cf ?_)
  refine wp_skip (Z.x (wp_seq (Z.s [(7, .int .i64 0)] ?_)))
  refine wp_block ?_
  have p_g39 := h_g39; try simp [-List.getD_eq_getElem?_getD] at p_g39
  refine Gx.loop (n' := 68) (d' := []) (fun mz l' w' => ∃ (i : Nat), l' = [(2, .bool false), (3, Z.P k1 0), (4, Z.P k2 0), (7, Z.n i)] ∧ mz = t.ks.length - i ∧ Gx.Ext w w' ∧ Gx.Has w' k1 (.cells (Z.T t A c) 24) ∧ Gx.Has w' k2 (.cells (Z.T t A' c') 24) ∧ (i ≤ t.ks.length)) _ _ [(2, .bool false), (3, Z.P k1 0), (4, Z.P k2 0), (7, Z.n 0)] (Gx.forget [(2, .bool false), (3, Z.P k1 0), (4, Z.P k2 0), (7, Z.n 0)] (by kernel_rfl)) ⟨0, rfl, rfl, (((Gx.Ext.refl w).trans x1).trans x2), (b1.ext x2), b2, (Nat.zero_le _)⟩ (fun bb2 m2 ll2 w6 hI2 K2 hK2 => ?_)
  obtain ⟨i, rfl, rfl, x6, b5, b6, hi⟩ := hI2
  have zw6 := x6.size
  have tb5 := b5.lt
  have tb6 := b6.lt
  refine wp_seq (Z.r [0, 1, 2, 3, 4] ?_)
  refine Z.p [0, 1] [2, 3, 4] [(48, Z.P k1 4), (47, Z.n i)] ?_
  refine Z.L 4 (.slice A t.ks.length c) b5 ?_
  refine Z.p [3, 4] [] [(51, .bool (decide (((i : Nat) : Int) < ((t.ks.length : Nat) : Int)))), (50, Z.n t.ks.length)] ?_
  refine Z.e (Z.c (decide (((i : Nat) : Int) < ((t.ks.length : Nat) : Int))) (fun h_c51 => ?_) (fun h_c51 => ?_))
  · skip
    refine wp_skip (Z.x (wp_seq (wp_block (wp_seq (Z.D (fun w' => Gx.Has w' k1 (.cells (Z.T t A c) 24) ∧ Gx.Has w' k2 (.cells (Z.T t A' c') 24) ∧ Gx.Ext w w') (fun w7 x7 zw7 => ?_))))))
    have y2 := ((Gx.Ext.refl w).trans x6).trans x7
    refine Z.h ⟨(b5.ext x7), (b6.ext x7), y2⟩ (fun hS3 => ?_)
    refine Z.t 0 (Z.P k1 4) hS3 ?_
    refine Z.tl 1 4 (.slice A t.ks.length c) (fun _ hs => hs.1) hS3 ?_
    refine Z.t 2 (Z.n i) hS3 ?_
    have p_c51 := of_decide_eq_true h_c51
    obtain ⟨a3, ha3, hc3⟩ := hrd1 i (by omega)
    refine Z.ti 3 24 5 ha3 t.ks.length c i hS3 ?_
    refine Z.ta 4 [.int .i64 (((t.ks.getD i nd0).k : Nat) : Int), .int .i64 (((t.ks.getD i nd0).a : Nat) : Int), .string ((t.ks.getD i nd0).nm), .int .i64 ((t.ks.getD i nd0).n), .slice (As i) ((t.ks.getD i nd0).ks.length) (cs i)] 5 hc3 (fun _ hs => hs.2.2) hS3 ?_
    refine Z.t 5 (Z.P k2 4) hS3 ?_
    refine Z.tl 6 4 (.slice A' t.ks.length c') (fun _ hs => hs.2.1) hS3 ?_
    refine Z.t 7 (Z.n i) hS3 ?_
    obtain ⟨a4, ha4, hc4⟩ := hrd2 i (by omega)
    refine Z.ti 8 24 5 ha4 t.ks.length c' i hS3 ?_
    refine Z.ta 9 [.int .i64 (((t.ks.getD i nd0).k : Nat) : Int), .int .i64 (((t.ks.getD i nd0).a : Nat) : Int), .string ((t.ks.getD i nd0).nm), .int .i64 ((t.ks.getD i nd0).n), .slice (As' i) ((t.ks.getD i nd0).ks.length) (cs' i)] 5 hc4 (fun _ hs => hs.2.2) hS3 ?_
    refine Z.t 10 (.bool false) hS3 ?_
    refine Z.o 11 (fun R hR => ih i (by omega) (As i) (As' i) (cs i) (cs' i) _ _ _ _ false _ R (((hch1 i (by omega)).ext x6).ext x7) (((hch2 i (by omega)).ext x6).ext x7) (fun w8 x8 => hR _ _ ⟨⟨((b5.ext x7).ext x8), ((b6.ext x7).ext x8), (y2.trans x8)⟩, fun hS4 => ?_⟩))
    have zw8 := x8.size
    refine Z.t 12 (.bool true) hS4 ?_
    refine Z.q ?_
    refine Z.x (Z.sf [(67, .bool false), (66, .bool true)] ?_)
    refine wp_skip (Gx.block_normal (Z.x (Z.g [0, 1, 2] ?_)))
    refine Z.p [0] [1, 2] [(52, Z.n i)] ?_
    refine Gx.pure_eq [1] [2] [(53, .int .i64 (IntKind.i64.wrap (((i : Nat) : Int) + (1 : Int))))] [(53, .int .i64 ((i + 1 : Nat) : Int))] rfl (by kernel_rfl) (Gx.eqI (Gx.i64n (by omega) (by omega))) ?_
    refine Z.p [2] [] [(7, .int .i64 ((i + 1 : Nat) : Int))] ?_
    refine Gx.ops_nil (Z.x ?_)
    rw [Gx.forget [(2, .bool false), (3, Z.P k1 0), (4, Z.P k2 0), (7, .int .i64 ((i + 1 : Nat) : Int))] (by kernel_rfl)]
    exact hK2 _ _ _ _ (by omega) ⟨i + 1, rfl, rfl, (y2.trans x8), ((b5.ext x7).ext x8), ((b6.ext x7).ext x8), (by omega)⟩
  refine wp_exit (Gx.then_exit (Gx.then_exit (Gx.block_exit (Z.x (Z.s [(6, .bool true)] ?_)))))
  refine wp_ret (Z.v (.bool true) ?_)
  have p_c51 := of_decide_eq_false h_c51
  exact hK _ ((Gx.Ext.refl w).trans x6)
theorem same_c (t : Nd) : SameOk t := by
  generalize hn : SizeOf.sizeOf t = n
  induction n using Nat.strongRecOn generalizing t with
  | ind n ih => subst hn; exact fun A A' c c' lo hi lo' hi' p w K h1 h2 hK => same_step t A A' c c' lo hi lo' hi' p w K (fun i hi => ih _ (sz_kid hi) _ rfl) h1 h2 hK
theorem same2_step (t t' : Nd) (A A' : Option Addr) (c c' : Nat) (lo hi lo' hi' : Nat) (w : World) (K : Ending → World → Prop) (hs : Ag.Sm t t') (ih : ∀ i, i < t.ks.length → SameOk2 (t.ks.getD i nd0)) (h1 : KV (In lo hi []) w t.ks A c) (h2 : KV (In lo' hi' []) w t'.ks A' c') (hK : ∀ w', Gx.Ext w w' → K (.returned (.bool true)) w') :
    Calls Tryd.prog 9 #[.agg (Z.T t A c), .agg (Z.T t' A' c'), .bool false] w K := by
  refine Z.en 68 Tryd.func9 ?_
  obtain ⟨As, cs, hrd1, hch1⟩ := KV.at_ h1; obtain ⟨As', cs', hrd2, hch2⟩ := KV.at_ h2; have hmx := KV.max h1; unfold maxLen at hmx
  have ek := hs.k; have enm := hs.nm; have en := Sm_n hs; obtain ⟨el, esm⟩ := Ag.SmL.at_ (Sm_ks hs)
  have kf0 : ((((t.k : Nat) : Int) != ((t'.k : Nat) : Int))) = false := by rw [ek]; simp
  have kf1 : (!(t.nm.toList == t'.nm.toList)) = false := by rw [enm]; simp
  have kf2 : ((t.n != t'.n)) = false := by rw [en]; simp
  have kf3 : ((((t.ks.length : Nat) : Int) != ((t'.ks.length : Nat) : Int))) = false := by rw [el]; simp
  refine Z.r [0, 1, 2] ?_
  refine Z.N (.cells (Z.T t A c) 24) (fun k1 w1 l1 x1 b1 zw1 tb1 => ?_)
  refine Z.N (.cells (Z.T t' A' c') 24) (fun k2 w2 l2 x2 b2 zw2 tb2 => ?_)
  refine Z.p [2] [] [(6, .bool false)] ?_
  refine Z.e (wp_seq (Z.r [0, 1, 2, 3, 4, 5, 6, 7, 8, 9, 10, 11, 12, 13, 14, 15, 16, 17, 18, 19, 20, 21, 22, 23, 24, 25, 26, 27, 28, 29, 30, 31, 32, 33, 34, 35, 36, 37] ?_))
  refine Z.p [0] [1, 2, 3, 4, 5, 6, 7, 8, 9, 10, 11, 12, 13, 14, 15, 16, 17, 18, 19, 20, 21, 22, 23, 24, 25, 26, 27, 28, 29, 30, 31, 32, 33, 34, 35, 36, 37] [(9, Z.P k1 0)] ?_
  refine Z.L 0 (Z.n t.k) (b1.ext x2) ?_
  refine Z.p [2] [3, 4, 5, 6, 7, 8, 9, 10, 11, 12, 13, 14, 15, 16, 17, 18, 19, 20, 21, 22, 23, 24, 25, 26, 27, 28, 29, 30, 31, 32, 33, 34, 35, 36, 37] [(11, Z.P k2 0)] ?_
  refine Z.L 0 (Z.n t'.k) b2 ?_
  refine Z.p [4, 5] [6, 7, 8, 9, 10, 11, 12, 13, 14, 15, 16, 17, 18, 19, 20, 21, 22, 23, 24, 25, 26, 27, 28, 29, 30, 31, 32, 33, 34, 35, 36, 37] [(14, .bool (((t.k : Nat) : Int) != ((t'.k : Nat) : Int))), (13, .bool (((t.k : Nat) : Int) != ((t'.k : Nat) : Int)))] ?_
  refine Gx.split (((t.k : Nat) : Int) != ((t'.k : Nat) : Int)) (fun h_g14 => ?_) (fun h_g14 => ?_)
  · exact absurd (kf0.symm.trans h_g14) (by decide)
  rw [h_g14]
  refine Z.p [6] [7, 8, 9, 10, 11, 12, 13, 14, 15, 16, 17, 18, 19, 20, 21, 22, 23, 24, 25, 26, 27, 28, 29, 30, 31, 32, 33, 34, 35, 36, 37] [(15, Z.P k1 2)] ?_
  refine Z.L 2 (.string t.nm) (b1.ext x2) ?_
  refine Z.p [8] [9, 10, 11, 12, 13, 14, 15, 16, 17, 18, 19, 20, 21, 22, 23, 24, 25, 26, 27, 28, 29, 30, 31, 32, 33, 34, 35, 36, 37] [(17, Z.P k2 2)] ?_
  refine Z.L 2 (.string t'.nm) b2 ?_
  refine Z.p [10, 11, 12] [13, 14, 15, 16, 17, 18, 19, 20, 21, 22, 23, 24, 25, 26, 27, 28, 29, 30, 31, 32, 33, 34, 35, 36, 37] [(21, .bool (!(t.nm.toList == t'.nm.toList))), (20, .bool (!(t.nm.toList == t'.nm.toList))), (19, .bool (!(t.nm.toList == t'.nm.toList)))] ?_
  refine Gx.split (!(t.nm.toList == t'.nm.toList)) (fun h_g21 => ?_) (fun h_g21 => ?_)
  · exact absurd (kf1.symm.trans h_g21) (by decide)
  rw [h_g21]
  refine Z.p [13] [14, 15, 16, 17, 18, 19, 20, 21, 22, 23, 24, 25, 26, 27, 28, 29, 30, 31, 32, 33, 34, 35, 36, 37] [(22, Z.P k1 3)] ?_
  refine Z.L 3 (.int .i64 t.n) (b1.ext x2) ?_
  refine Z.p [15] [16, 17, 18, 19, 20, 21, 22, 23, 24, 25, 26, 27, 28, 29, 30, 31, 32, 33, 34, 35, 36, 37] [(24, Z.P k2 3)] ?_
  refine Z.L 3 (.int .i64 t'.n) b2 ?_
  refine Z.p [17, 18, 19] [20, 21, 22, 23, 24, 25, 26, 27, 28, 29, 30, 31, 32, 33, 34, 35, 36, 37] [(28, .bool (t.n != t'.n)), (27, .bool (t.n != t'.n)), (26, .bool (t.n != t'.n))] ?_
  refine Gx.split (t.n != t'.n) (fun h_g28 => ?_) (fun h_g28 => ?_)
  · exact absurd (kf2.symm.trans h_g28) (by decide)
  rw [h_g28]
  refine Z.p [20] [21, 22, 23, 24, 25, 26, 27, 28, 29, 30, 31, 32, 33, 34, 35, 36, 37] [(29, Z.P k1 4)] ?_
  refine Z.L 4 (.slice A t.ks.length c) (b1.ext x2) ?_
  refine Z.p [22, 23] [24, 25, 26, 27, 28, 29, 30, 31, 32, 33, 34, 35, 36, 37] [(32, Z.P k2 4), (31, Z.n t.ks.length)] ?_
  refine Z.L 4 (.slice A' t'.ks.length c') b2 ?_
  refine Z.p [25, 26, 27, 28] [29, 30, 31, 32, 33, 34, 35, 36, 37] [(37, .bool (((t.ks.length : Nat) : Int) != ((t'.ks.length : Nat) : Int))), (36, .bool (((t.ks.length : Nat) : Int) != ((t'.ks.length : Nat) : Int))), (35, .bool (((t.ks.length : Nat) : Int) != ((t'.ks.length : Nat) : Int))), (34, Z.n t'.ks.length)] ?_
  refine Gx.split (((t.ks.length : Nat) : Int) != ((t'.ks.length : Nat) : Int)) (fun h_g37 => ?_) (fun h_g37 => ?_)
  · exact absurd (kf3.symm.trans h_g37) (by decide)
  rw [h_g37]
  refine Z.p [29, 30, 31, 32, 33, 34, 35, 36, 37] [] [(46, .bool false), (45, .bool false), (44, undef), (43, undef), (42, undef), (41, undef), (40, undef), (39, .bool false), (38, .bool false)] ?_
  refine Z.e (Z.cf ?_)
  refine wp_skip (Z.x (wp_seq (Z.s [(7, .int .i64 0)] ?_)))
  refine wp_block (Gx.loop (n' := 68) (d' := []) (fun mz l' w' => ∃ (i : Nat), l' = [(2, .bool false), (3, Z.P k1 0), (4, Z.P k2 0), (7, Z.n i)] ∧ mz = t.ks.length - i ∧ Gx.Ext w w' ∧ Gx.Has w' k1 (.cells (Z.T t A c) 24) ∧ Gx.Has w' k2 (.cells (Z.T t' A' c') 24) ∧ (i ≤ t.ks.length)) _ _ [(2, .bool false), (3, Z.P k1 0), (4, Z.P k2 0), (7, Z.n 0)] (Gx.forget [(2, .bool false), (3, Z.P k1 0), (4, Z.P k2 0), (7, Z.n 0)] (by kernel_rfl)) ⟨0, rfl, rfl, (((Gx.Ext.refl w).trans x1).trans x2), (b1.ext x2), b2, (Nat.zero_le _)⟩ (fun bb1 m1 ll1 w3 hI1 K1 hK1 => ?_))
  obtain ⟨i, rfl, rfl, x3, b3, b4, hi⟩ := hI1
  have zw3 := x3.size
  have tb3 := b3.lt
  have tb4 := b4.lt
  refine wp_seq (Z.r [0, 1, 2, 3, 4] ?_)
  refine Z.p [0, 1] [2, 3, 4] [(48, Z.P k1 4), (47, Z.n i)] ?_
  refine Z.L 4 (.slice A t.ks.length c) b3 ?_
  refine Z.p [3, 4] [] [(51, .bool (decide (((i : Nat) : Int) < ((t.ks.length : Nat) : Int)))), (50, Z.n t.ks.length)] ?_
  refine Z.e (Z.c (decide (((i : Nat) : Int) < ((t.ks.length : Nat) : Int))) (fun h_c51 => ?_) (fun h_c51 => ?_))
  · skip
    refine wp_skip (Z.x (wp_seq (wp_block (wp_seq (Z.D (fun w' => Gx.Has w' k1 (.cells (Z.T t A c) 24) ∧ Gx.Has w' k2 (.cells (Z.T t' A' c') 24) ∧ Gx.Ext w w') (fun w4 x4 zw4 => ?_))))))
    have y1 := ((Gx.Ext.refl w).trans x3).trans x4
    refine Z.h ⟨(b3.ext x4), (b4.ext x4), y1⟩ (fun hS1 => ?_)
    refine Z.t 0 (Z.P k1 4) hS1 ?_
    refine Z.tl 1 4 (.slice A t.ks.length c) (fun _ hs => hs.1) hS1 ?_
    refine Z.t 2 (Z.n i) hS1 ?_
    have p_c51 := of_decide_eq_true h_c51
    obtain ⟨a1, ha1, hc1⟩ := hrd1 i (by omega)
    refine Z.ti 3 24 5 ha1 t.ks.length c i hS1 ?_
    refine Z.ta 4 [.int .i64 (((t.ks.getD i nd0).k : Nat) : Int), .int .i64 (((t.ks.getD i nd0).a : Nat) : Int), .string ((t.ks.getD i nd0).nm), .int .i64 ((t.ks.getD i nd0).n), .slice (As i) ((t.ks.getD i nd0).ks.length) (cs i)] 5 hc1 (fun _ hs => hs.2.2) hS1 ?_
    refine Z.t 5 (Z.P k2 4) hS1 ?_
    refine Z.tl 6 4 (.slice A' t'.ks.length c') (fun _ hs => hs.2.1) hS1 ?_
    refine Z.t 7 (Z.n i) hS1 ?_
    obtain ⟨a2, ha2, hc2⟩ := hrd2 i (by omega)
    refine Z.ti 8 24 5 ha2 t'.ks.length c' i hS1 ?_
    refine Z.ta 9 [.int .i64 (((t'.ks.getD i nd0).k : Nat) : Int), .int .i64 (((t'.ks.getD i nd0).a : Nat) : Int), .string ((t'.ks.getD i nd0).nm), .int .i64 ((t'.ks.getD i nd0).n), .slice (As' i) ((t'.ks.getD i nd0).ks.length) (cs' i)] 5 hc2 (fun _ hs => hs.2.2) hS1 ?_
    refine Z.t 10 (.bool false) hS1 ?_
    refine Z.o 11 (fun R hR => ih i (by omega) _ (esm i (by omega)) (As i) (As' i) (cs i) (cs' i) _ _ _ _ _ R (((hch1 i (by omega)).ext x3).ext x4) (((hch2 i (by omega)).ext x3).ext x4) (fun w5 x5 => hR _ _ ⟨⟨((b3.ext x4).ext x5), ((b4.ext x4).ext x5), (y1.trans x5)⟩, fun hS2 => ?_⟩))
    have zw5 := x5.size
    refine Z.t 12 (.bool true) hS2 ?_
    refine Z.q ?_
    refine Z.x (Z.sf [(67, .bool false), (66, .bool true)] ?_)
    refine wp_skip (Gx.block_normal (Z.x (Z.g [0, 1, 2] ?_)))
    refine Z.p [0] [1, 2] [(52, Z.n i)] ?_
    refine Gx.pure_eq [1] [2] [(53, .int .i64 (IntKind.i64.wrap (((i : Nat) : Int) + (1 : Int))))] [(53, .int .i64 ((i + 1 : Nat) : Int))] rfl (by kernel_rfl) (Gx.eqI (Gx.i64n (by omega) (by omega))) ?_
    refine Z.p [2] [] [(7, .int .i64 ((i + 1 : Nat) : Int))] ?_
    refine Gx.ops_nil (Z.x ?_)
    rw [Gx.forget [(2, .bool false), (3, Z.P k1 0), (4, Z.P k2 0), (7, .int .i64 ((i + 1 : Nat) : Int))] (by kernel_rfl)]
    exact hK1 _ _ _ _ (by omega) ⟨i + 1, rfl, rfl, (y1.trans x5), ((b3.ext x4).ext x5), ((b4.ext x4).ext x5), (by omega)⟩
  refine wp_exit (Gx.then_exit (Gx.then_exit (Gx.block_exit (Z.x (Z.s [(6, .bool true)] ?_)))))
  refine wp_ret (Z.v (.bool true) ?_)
  have p_c51 := of_decide_eq_false h_c51
  exact hK _ ((Gx.Ext.refl w).trans x3)
theorem same2_c (t : Nd) : SameOk2 t := by
  generalize hn : SizeOf.sizeOf t = n
  induction n using Nat.strongRecOn generalizing t with
  | ind n ih => subst hn; exact fun t' hs A A' c c' lo hi lo' hi' w K h1 h2 hK => same2_step t t' A A' c c' lo hi lo' hi' w K hs (fun i hi => ih _ (sz_kid hi) _ rfl) h1 h2 hK
theorem high_step (t : Nd) (A : Option Addr) (c lo hi : Nat) (w : World) (K : Ending → World → Prop) (hb : Ag.hgt t ≤ 1000000000) (ih : ∀ i, i < t.ks.length → HighOk (t.ks.getD i nd0)) (h1 : KV (In lo hi []) w t.ks A c) (hK : ∀ w', Gx.Ext w w' → K (.returned (.int .i64 ((Ag.hgt t : Nat) : Int))) w') :
    Calls Tryd.prog 10 #[.agg (Z.T t A c)] w K := by
  refine Z.en 25 Tryd.func10 ?_
  obtain ⟨As, cs, hrd1, hch1⟩ := KV.at_ h1; have hmx := KV.max h1; unfold maxLen at hmx
  refine Z.r [0, 1] ?_
  refine Z.N (.cells (Z.T t A c) 24) (fun k1 w1 l1 x1 b1 zw1 tb1 => ?_)
  refine Z.p [1] [] [(2, .int .i64 0)] ?_
  refine Z.e (Z.s [(3, .int .i64 0)] ?_)
  refine wp_seq (Z.s [(4, .int .i64 0)] ?_)
  refine wp_block (Gx.loop (n' := 25) (d' := []) (fun mz l' w' => ∃ (i : Nat) (m : Nat), l' = [(1, Z.P k1 0), (3, Z.n m), (4, Z.n i)] ∧ mz = t.ks.length - i ∧ Gx.Ext w w' ∧ Gx.Has w' k1 (.cells (Z.T t A c) 24) ∧ (i ≤ t.ks.length) ∧ (m = Ag.hgtL (t.ks.take i))) _ _ [(1, Z.P k1 0), (3, Z.n 0), (4, Z.n 0)] (Gx.forget [(1, Z.P k1 0), (3, Z.n 0), (4, Z.n 0)] (by kernel_rfl)) ⟨0, 0, rfl, rfl, ((Gx.Ext.refl w).trans x1), b1, (Nat.zero_le _), rfl⟩ (fun bb1 m1 ll1 w2 hI1 K1 hK1 => ?_))
  obtain ⟨i, m, rfl, rfl, x2, b2, hi, hm⟩ := hI1
  have zw2 := x2.size
  have tb2 := b2.lt
  refine wp_seq (Z.r [0, 1, 2, 3, 4] ?_)
  refine Z.p [0, 1] [2, 3, 4] [(7, Z.P k1 4), (6, Z.n i)] ?_
  refine Z.L 4 (.slice A t.ks.length c) b2 ?_
  refine Z.p [3, 4] [] [(10, .bool (decide (((i : Nat) : Int) < ((t.ks.length : Nat) : Int)))), (9, Z.n t.ks.length)] ?_
  refine Z.e (Z.c (decide (((i : Nat) : Int) < ((t.ks.length : Nat) : Int))) (fun h_c10 => ?_) (fun h_c10 => ?_))
  · skip
    refine wp_skip (Z.x (wp_seq (wp_block (Z.r [0, 1, 2, 3, 4, 5, 6] ?_))))
    refine Z.p [0] [1, 2, 3, 4, 5, 6] [(13, Z.P k1 4)] ?_
    refine Z.L 4 (.slice A t.ks.length c) b2 ?_
    refine Z.p [2] [3, 4, 5, 6] [(15, Z.n i)] ?_
    have p_c10 := of_decide_eq_true h_c10
    obtain ⟨a1, ha1, hc1⟩ := hrd1 i (by omega)
    refine Z.I 24 5 ha1 t.ks.length c i ?_
    have y1 := (Gx.Ext.refl w).trans x2
    refine Z.La [.int .i64 (((t.ks.getD i nd0).k : Nat) : Int), .int .i64 (((t.ks.getD i nd0).a : Nat) : Int), .string ((t.ks.getD i nd0).nm), .int .i64 ((t.ks.getD i nd0).n), .slice (As i) ((t.ks.getD i nd0).ks.length) (cs i)] 5 hc1 y1 ?_
    refine Z.k (fun R hR => ih i (by omega) (by have := hgt_get (t := t) (i := i) (by omega); omega) (As i) (cs i) _ _ _ R ((hch1 i (by omega)).ext x2) (fun w3 x3 => hR _ _ ?_))
    have zw3 := x3.size
    refine Z.p [6] [] [(5, .int .i64 ((Ag.hgt (t.ks.getD i nd0) : Nat) : Int))] ?_
    refine Z.e (Z.s [(21, .bool (decide (((Ag.hgt (t.ks.getD i nd0) : Nat) : Int) > ((m : Nat) : Int)))), (20, Z.n m), (19, .int .i64 ((Ag.hgt (t.ks.getD i nd0) : Nat) : Int))] ?_)
    refine Z.c (decide (((Ag.hgt (t.ks.getD i nd0) : Nat) : Int) > ((m : Nat) : Int))) (fun h_c21 => ?_) (fun h_c21 => ?_)
    · skip
      refine Z.u [(3, .int .i64 ((Ag.hgt (t.ks.getD i nd0) : Nat) : Int)), (22, .int .i64 ((Ag.hgt (t.ks.getD i nd0) : Nat) : Int))] ?_
      refine Gx.block_normal (Z.x (Z.g [0, 1, 2] ?_))
      refine Z.p [0] [1, 2] [(11, Z.n i)] ?_
      have p_c21 := of_decide_eq_true h_c21
      refine Gx.pure_eq [1] [2] [(12, .int .i64 (IntKind.i64.wrap (((i : Nat) : Int) + (1 : Int))))] [(12, .int .i64 ((i + 1 : Nat) : Int))] rfl (by kernel_rfl) (Gx.eqI (Gx.i64n (by omega) (by omega))) ?_
      refine Z.p [2] [] [(4, .int .i64 ((i + 1 : Nat) : Int))] ?_
      refine Gx.ops_nil (Z.x ?_)
      rw [Gx.forget [(1, Z.P k1 0), (3, .int .i64 ((Ag.hgt (t.ks.getD i nd0) : Nat) : Int)), (4, .int .i64 ((i + 1 : Nat) : Int))] (by kernel_rfl)]
      exact hK1 _ _ _ _ (by omega) ⟨i + 1, Ag.hgt (t.ks.getD i nd0), rfl, rfl, (y1.trans x3), (b2.ext x3), (by omega), (by rw [hgtL_take _ _ (by omega), ← hm]; omega)⟩
    refine wp_skip (Gx.block_normal (Z.x (Z.g [0, 1, 2] ?_)))
    refine Z.p [0] [1, 2] [(11, Z.n i)] ?_
    have p_c21 := of_decide_eq_false h_c21
    refine Gx.pure_eq [1] [2] [(12, .int .i64 (IntKind.i64.wrap (((i : Nat) : Int) + (1 : Int))))] [(12, .int .i64 ((i + 1 : Nat) : Int))] rfl (by kernel_rfl) (Gx.eqI (Gx.i64n (by omega) (by omega))) ?_
    refine Z.p [2] [] [(4, .int .i64 ((i + 1 : Nat) : Int))] ?_
    refine Gx.ops_nil (Z.x ?_)
    rw [Gx.forget [(1, Z.P k1 0), (3, Z.n m), (4, .int .i64 ((i + 1 : Nat) : Int))] (by kernel_rfl)]
    exact hK1 _ _ _ _ (by omega) ⟨i + 1, m, rfl, rfl, (y1.trans x3), (b2.ext x3), (by omega), (by rw [hgtL_take _ _ (by omega), ← hm]; omega)⟩
  refine wp_exit (Gx.then_exit (Gx.then_exit (Gx.block_exit (Z.x ?_))))
  have p_c10 := of_decide_eq_false h_c10
  have hzz : Ag.hgt t = m + 1 := by rw [hgt_eq, hm, List.take_of_length_le (by omega)]
  refine Z.r [0, 1, 2] ?_
  refine Z.p [0] [1, 2] [(23, Z.n m)] ?_
  refine Gx.pure_eq [1] [2] [(24, .int .i64 (IntKind.i64.wrap (((m : Nat) : Int) + (1 : Int))))] [(24, .int .i64 ((Ag.hgt t : Nat) : Int))] rfl (by kernel_rfl) (Gx.eqI (Gx.i64n (by omega) (by omega))) ?_
  refine Z.p [2] [] [(2, .int .i64 ((Ag.hgt t : Nat) : Int))] ?_
  refine Z.e (wp_ret (Z.v (.int .i64 ((Ag.hgt t : Nat) : Int)) ?_))
  exact hK _ ((Gx.Ext.refl w).trans x2)
theorem high_c (t : Nd) : HighOk t := by
  generalize hn : SizeOf.sizeOf t = n
  induction n using Nat.strongRecOn generalizing t with
  | ind n ih => subst hn; exact fun hb A c lo hi w K h1 hK => high_step t A c lo hi w K hb (fun i hi => ih _ (sz_kid hi) _ rfl) h1 hK
theorem Again_k (s : ByteArray) (w : World) (K : Ending → World → Prop) (p : Ag.PgD) (fa : Nat) (hp : p.Ok) (e : parseP s = (p.node, 0, fa)) (htab : Lib.TabBelow Tryd.prog w.heap.size w "internal/strconv.uint64pow10" .u64 Lib.pow10Tab) (hK : ∀ w', Gx.Ext w w' → K (.returned (.bool true)) w') :
    Calls Tryd.prog 4 #[.string s] w K := by
  refine Z.en 62 Tryd.func4 ?_
  obtain ⟨pm, om, em, jm⟩ := Ag.main_ex
  refine Z.s [(2, .bool false)] ?_
  refine Z.r [0, 1, 2, 3, 4, 5, 6, 7] ?_
  refine Z.k (fun R hR => parse_at Z.k53 em _ R (fun w1 A1 c1 x1 kv1 => hR _ _ ?_))
  have zw1 := x1.size
  refine Z.p [1, 2, 3] [4, 5, 6, 7] [(12, .agg #[.int .i64 0, .int .i64 0]), (11, .agg #[Z.n pm.node.k, Z.n pm.node.a, .string pm.node.nm, .int .i64 pm.node.n, .slice A1 pm.node.ks.length c1]), (9, .tuple #[.agg #[Z.n pm.node.k, Z.n pm.node.a, .string pm.node.nm, .int .i64 pm.node.n, .slice A1 pm.node.ks.length c1], .agg #[.int .i64 0, .int .i64 0]])] ?_
  refine Z.N Z.c0 (fun k1 w2 l1 x2 b1 zw2 tb1 => ?_)
  refine Z.N (.cells #[.int .i64 0, .int .i64 0] 27) (fun k2 w3 l2 x3 b2 zw3 tb2 => ?_)
  refine Z.Sa #[Z.n pm.node.k, Z.n pm.node.a, .string pm.node.nm, .int .i64 pm.node.n, .slice A1 pm.node.ks.length c1] (b1.ext x3) (fun w4 u1 b3 zw4 => ?_)
  refine Z.Sa #[.int .i64 0, .int .i64 0] (b2.upd1 u1) (fun w5 u2 b4 zw5 => ?_)
  refine Z.e (wp_seq (Z.r [0, 1, 2, 3, 4, 5, 6, 7] ?_))
  refine Z.p [0] [1, 2, 3, 4, 5, 6, 7] [(13, Z.P k2 0)] ?_
  refine Z.L 0 (.int .i64 0) b4 ?_
  refine Z.p [2, 3] [4, 5, 6, 7] [(16, .bool false), (15, .bool false)] ?_
  refine Z.L 0 (.agg #[Z.n pm.node.k, Z.n pm.node.a, .string pm.node.nm, .int .i64 pm.node.n, .slice A1 pm.node.ks.length c1]) (b3.upd1 u2) ?_
  have y1 := (((((Gx.Ext.refl w).trans x1).trans x2).trans x3).upd1 u1).upd1 u2
  refine Z.k (fun R hR => print_at om jm (by decide) A1 c1 _ _ _ R ((((kv1.ext x2).ext x3).upd u1).upd u2) (tab_up htab y1) (fun w6 x4 => hR _ _ ?_))
  have zw6 := x4.size
  refine Z.p [6, 7] [] [(20, .bool (!(Z.k53.toList == Z.k53.toList))), (19, .bool (!(Z.k53.toList == Z.k53.toList)))] ?_
  refine Z.e (Z.c (!(Z.k53.toList == Z.k53.toList)) (fun h_c20 => ?_) (fun h_c20 => ?_))
  · exact absurd h_c20 (by simp)
  refine wp_skip (Z.x (Z.r [0, 1, 2, 3, 4, 5, 6] ?_))
  refine Z.p [0] [1, 2, 3, 4, 5, 6] [(22, .string s)] ?_
  refine Z.k (fun R hR => parse_at s e _ R (fun w7 A2 c2 x5 kv2 => hR _ _ ?_))
  have zw7 := x5.size
  refine Z.p [2, 3, 4] [5, 6] [(25, .agg #[.int .i64 0, Z.n fa]), (24, .agg #[Z.n p.node.k, Z.n p.node.a, .string p.node.nm, .int .i64 p.node.n, .slice A2 p.node.ks.length c2]), (21, .tuple #[.agg #[Z.n p.node.k, Z.n p.node.a, .string p.node.nm, .int .i64 p.node.n, .slice A2 p.node.ks.length c2], .agg #[.int .i64 0, Z.n fa]])] ?_
  refine Z.Sa #[Z.n p.node.k, Z.n p.node.a, .string p.node.nm, .int .i64 p.node.n, .slice A2 p.node.ks.length c2] (((b3.upd1 u2).ext x4).ext x5) (fun w8 u3 b5 zw8 => ?_)
  refine Z.Sa #[.int .i64 0, Z.n fa] (((b4.ext x4).ext x5).upd1 u3) (fun w9 u4 b6 zw9 => ?_)
  refine Z.e (wp_seq (Z.r [0, 1, 2] ?_))
  refine Z.p [0] [1, 2] [(26, Z.P k2 0)] ?_
  refine Z.L 0 (.int .i64 0) b6 ?_
  refine Z.p [2] [] [(28, .bool false)] ?_
  refine Z.e (Z.cf ?_)
  refine wp_skip (Z.x (Z.r [0, 1, 2] ?_))
  refine Z.L 0 (.agg #[Z.n p.node.k, Z.n p.node.a, .string p.node.nm, .int .i64 p.node.n, .slice A2 p.node.ks.length c2]) (b5.upd1 u4) ?_
  refine Z.k (fun R hR => print_at hp rfl (Ag.pg_bound hp e) A2 c2 _ _ _ R ((kv2.upd u3).upd u4) (tab_up htab ((((y1.trans x4).trans x5).upd1 u3).upd1 u4)) (fun w10 x6 => hR _ _ ?_))
  have zw10 := x6.size
  refine Z.p [2] [] [(5, .string (Ag.joinW p.tks))] ?_
  refine Z.e (Z.r [0, 1, 2] ?_)
  refine Z.L 0 (.agg #[Z.n p.node.k, Z.n p.node.a, .string p.node.nm, .int .i64 p.node.n, .slice A2 p.node.ks.length c2]) ((b5.upd1 u4).ext x6) ?_
  have y2 := ((kv2.upd u3).upd u4).ext x6
  refine Z.k (fun R hR => high_c p.node (Ag.pg_small hp e) A2 c2 _ _ _ R y2 (fun w11 x7 => hR _ _ ?_))
  have zw11 := x7.size
  refine Z.p [2] [] [(6, .int .i64 ((Ag.hgt p.node : Nat) : Int))] ?_
  refine Z.e (wp_seq (Z.r [0, 1, 2, 3, 4, 5, 6] ?_))
  refine Z.p [0, 1, 2, 3] [4, 5, 6] [(39, .bool (decide ((((Ag.joinW p.tks).size : Nat) : Int) > (3000 : Int)))), (38, .bool (decide ((((Ag.joinW p.tks).size : Nat) : Int) > (3000 : Int)))), (37, .int .i64 (((Ag.joinW p.tks).size : Nat) : Int)), (36, .string (Ag.joinW p.tks))] ?_
  refine Gx.split (decide ((((Ag.joinW p.tks).size : Nat) : Int) > (3000 : Int))) (fun h_g39 => ?_) (fun h_g39 => ?_)
  · rw [h_g39]
    refine Z.p [4, 5, 6] [] [(42, .bool true), (41, undef), (40, undef)] ?_
    refine Z.e (Z.ct ?_)
    refine Z.s [(2, .bool true)] ?_
    refine wp_ret (Gx.then_ret (Z.v (.bool true) ?_))
    have p_g39 := of_decide_eq_true h_g39
    exact hK _ ((((((y1.trans x4).trans x5).upd1 u3).upd1 u4).trans x6).trans x7)
  rw [h_g39]
  refine Z.p [4, 5, 6] [] [(42, .bool (decide (((Ag.hgt p.node : Nat) : Int) > (200 : Int)))), (41, .bool (decide (((Ag.hgt p.node : Nat) : Int) > (200 : Int)))), (40, .int .i64 ((Ag.hgt p.node : Nat) : Int))] ?_
  refine Z.e (Z.c (decide (((Ag.hgt p.node : Nat) : Int) > (200 : Int))) (fun h_c42 => ?_) (fun h_c42 => ?_))
  · skip
    refine Z.s [(2, .bool true)] ?_
    refine wp_ret (Gx.then_ret (Z.v (.bool true) ?_))
    have p_g39 := of_decide_eq_false h_g39
    have p_c42 := of_decide_eq_true h_c42
    exact hK _ ((((((y1.trans x4).trans x5).upd1 u3).upd1 u4).trans x6).trans x7)
  refine wp_skip (Z.x (Z.r [0, 1, 2, 3, 4, 5, 6, 7, 8] ?_))
  refine Z.p [0] [1, 2, 3, 4, 5, 6, 7, 8] [(44, .string (Ag.joinW p.tks))] ?_
  have p_g39 := of_decide_eq_false h_g39
  have p_c42 := of_decide_eq_false h_c42
  obtain ⟨p3, e3, o3, t3, m3⟩ := Ag.reparse hp (by omega) (by omega)
  refine Z.k (fun R hR => parse_at (Ag.joinW p.tks) e3 _ R (fun w12 A3 c3 x8 kv3 => hR _ _ ?_))
  have zw12 := x8.size
  refine Z.p [2, 3, 4] [5, 6, 7, 8] [(47, .agg #[.int .i64 0, .int .i64 0]), (46, .agg #[Z.n p3.node.k, Z.n p3.node.a, .string p3.node.nm, .int .i64 p3.node.n, .slice A3 p3.node.ks.length c3]), (43, .tuple #[.agg #[Z.n p3.node.k, Z.n p3.node.a, .string p3.node.nm, .int .i64 p3.node.n, .slice A3 p3.node.ks.length c3], .agg #[.int .i64 0, .int .i64 0]])] ?_
  refine Z.N Z.c0 (fun k3 w13 l3 x9 b7 zw13 tb7 => ?_)
  refine Z.N (.cells #[.int .i64 0, .int .i64 0] 27) (fun k4 w14 l4 x10 b8 zw14 tb8 => ?_)
  refine Z.Sa #[Z.n p3.node.k, Z.n p3.node.a, .string p3.node.nm, .int .i64 p3.node.n, .slice A3 p3.node.ks.length c3] (b7.ext x10) (fun w15 u5 b9 zw15 => ?_)
  refine Z.Sa #[.int .i64 0, .int .i64 0] (b8.upd1 u5) (fun w16 u6 b10 zw16 => ?_)
  refine Z.e (Z.r [0, 1, 2, 3, 4, 5, 6, 7, 8, 9, 10, 11, 12, 13, 14] ?_)
  refine Z.p [0] [1, 2, 3, 4, 5, 6, 7, 8, 9, 10, 11, 12, 13, 14] [(48, Z.P k4 0)] ?_
  refine Z.L 0 (.int .i64 0) b10 ?_
  refine Z.p [2, 3] [4, 5, 6, 7, 8, 9, 10, 11, 12, 13, 14] [(51, .bool true), (50, .bool true)] ?_
  refine Z.L 0 (.agg #[Z.n p.node.k, Z.n p.node.a, .string p.node.nm, .int .i64 p.node.n, .slice A2 p.node.ks.length c2]) ((((((((b5.upd1 u4).ext x6).ext x7).ext x8).ext x9).ext x10).upd1 u5).upd1 u6) ?_
  refine Z.L 0 (.agg #[Z.n p3.node.k, Z.n p3.node.a, .string p3.node.nm, .int .i64 p3.node.n, .slice A3 p3.node.ks.length c3]) (b9.upd1 u6) ?_
  have y3 := (((kv3.ext x9).ext x10).upd u5).upd u6
  refine Z.k (fun R hR => same2_c p.node _ m3 A2 A3 c2 c3 _ _ _ _ _ R ((((((y2.ext x7).ext x8).ext x9).ext x10).upd u5).upd u6) y3 (fun w17 x11 => hR _ _ ?_))
  have zw17 := x11.size
  refine Z.p [7, 8] [9, 10, 11, 12, 13, 14] [(56, .bool true), (55, .bool true)] ?_
  refine Z.L 0 (.agg #[Z.n p3.node.k, Z.n p3.node.a, .string p3.node.nm, .int .i64 p3.node.n, .slice A3 p3.node.ks.length c3]) ((b9.upd1 u6).ext x11) ?_
  refine Z.k (fun R hR => print_at o3 (by rw [t3]) (by omega) A3 c3 _ _ _ R (y3.ext x11) (tab_up htab ((((((((((((y1.trans x4).trans x5).upd1 u3).upd1 u4).trans x6).trans x7).trans x8).trans x9).trans x10).upd1 u5).upd1 u6).trans x11)) (fun w18 x12 => hR _ _ ?_))
  have zw18 := x12.size
  refine Z.p [11, 12, 13, 14] [] [(2, .bool ((Ag.joinW p.tks).toList == (Ag.joinW p.tks).toList)), (61, .bool ((Ag.joinW p.tks).toList == (Ag.joinW p.tks).toList)), (60, .bool ((Ag.joinW p.tks).toList == (Ag.joinW p.tks).toList)), (59, .string (Ag.joinW p.tks))] ?_
  refine Z.e (wp_ret (Z.v (.bool ((Ag.joinW p.tks).toList == (Ag.joinW p.tks).toList)) ?_))
  exact Gx.ret_as (v' := .bool true) (by simp) (hK _ (((((((((((((y1.trans x4).trans x5).upd1 u3).upd1 u4).trans x6).trans x7).trans x8).trans x9).trans x10).upd1 u5).upd1 u6).trans x11).trans x12))
theorem Again_f (s : ByteArray) (w : World) (K : Ending → World → Prop) (fk fa : Nat) (hfk : (((fk : Nat) : Int) != (0 : Int)) = true) (e : parseP s = (nd0, fk, fa)) (htab : Lib.TabBelow Tryd.prog w.heap.size w "internal/strconv.uint64pow10" .u64 Lib.pow10Tab) (hK : ∀ w', Gx.Ext w w' → K (.returned (.bool true)) w') :
    Calls Tryd.prog 4 #[.string s] w K := by
  refine Z.en 62 Tryd.func4 ?_
  obtain ⟨pm, om, em, jm⟩ := Ag.main_ex
  refine Z.s [(2, .bool false)] ?_
  refine Z.r [0, 1, 2, 3, 4, 5, 6, 7] ?_
  refine Z.k (fun R hR => parse_at Z.k53 em _ R (fun w1 A1 c1 x1 kv1 => hR _ _ ?_))
  have zw1 := x1.size
  refine Z.p [1, 2, 3] [4, 5, 6, 7] [(12, .agg #[.int .i64 0, .int .i64 0]), (11, .agg #[Z.n pm.node.k, Z.n pm.node.a, .string pm.node.nm, .int .i64 pm.node.n, .slice A1 pm.node.ks.length c1]), (9, .tuple #[.agg #[Z.n pm.node.k, Z.n pm.node.a, .string pm.node.nm, .int .i64 pm.node.n, .slice A1 pm.node.ks.length c1], .agg #[.int .i64 0, .int .i64 0]])] ?_
  refine Z.N Z.c0 (fun k1 w2 l1 x2 b1 zw2 tb1 => ?_)
  refine Z.N (.cells #[.int .i64 0, .int .i64 0] 27) (fun k2 w3 l2 x3 b2 zw3 tb2 => ?_)
  refine Z.Sa #[Z.n pm.node.k, Z.n pm.node.a, .string pm.node.nm, .int .i64 pm.node.n, .slice A1 pm.node.ks.length c1] (b1.ext x3) (fun w4 u1 b3 zw4 => ?_)
  refine Z.Sa #[.int .i64 0, .int .i64 0] (b2.upd1 u1) (fun w5 u2 b4 zw5 => ?_)
  refine Z.e (wp_seq (Z.r [0, 1, 2, 3, 4, 5, 6, 7] ?_))
  refine Z.p [0] [1, 2, 3, 4, 5, 6, 7] [(13, Z.P k2 0)] ?_
  refine Z.L 0 (.int .i64 0) b4 ?_
  refine Z.p [2, 3] [4, 5, 6, 7] [(16, .bool false), (15, .bool false)] ?_
  refine Z.L 0 (.agg #[Z.n pm.node.k, Z.n pm.node.a, .string pm.node.nm, .int .i64 pm.node.n, .slice A1 pm.node.ks.length c1]) (b3.upd1 u2) ?_
  have y1 := (((((Gx.Ext.refl w).trans x1).trans x2).trans x3).upd1 u1).upd1 u2
  refine Z.k (fun R hR => print_at om jm (by decide) A1 c1 _ _ _ R ((((kv1.ext x2).ext x3).upd u1).upd u2) (tab_up htab y1) (fun w6 x4 => hR _ _ ?_))
  have zw6 := x4.size
  refine Z.p [6, 7] [] [(20, .bool (!(Z.k53.toList == Z.k53.toList))), (19, .bool (!(Z.k53.toList == Z.k53.toList)))] ?_
  refine Z.e (Z.c (!(Z.k53.toList == Z.k53.toList)) (fun h_c20 => ?_) (fun h_c20 => ?_))
  · exact absurd h_c20 (by simp)
  refine wp_skip (Z.x (Z.r [0, 1, 2, 3, 4, 5, 6] ?_))
  refine Z.p [0] [1, 2, 3, 4, 5, 6] [(22, .string s)] ?_
  refine Z.k (fun R hR => parse_at s e _ R (fun w7 A2 c2 x5 kv2 => hR _ _ ?_))
  have zw7 := x5.size
  refine Z.p [2, 3, 4] [5, 6] [(25, .agg #[Z.n fk, Z.n fa]), (24, .agg (Z.T nd0 A2 c2)), (21, .tuple #[.agg (Z.T nd0 A2 c2), .agg #[Z.n fk, Z.n fa]])] ?_
  refine Z.Sa (Z.T nd0 A2 c2) (((b3.upd1 u2).ext x4).ext x5) (fun w8 u3 b5 zw8 => ?_)
  refine Z.Sa #[Z.n fk, Z.n fa] (((b4.ext x4).ext x5).upd1 u3) (fun w9 u4 b6 zw9 => ?_)
  refine Z.e (wp_seq (Z.r [0, 1, 2] ?_))
  refine Z.p [0] [1, 2] [(26, Z.P k2 0)] ?_
  refine Z.L 0 (Z.n fk) b6 ?_
  refine Z.p [2] [] [(28, .bool (((fk : Nat) : Int) != (0 : Int)))] ?_
  refine Z.e (Z.c (((fk : Nat) : Int) != (0 : Int)) (fun h_c28 => ?_) (fun h_c28 => ?_))
  · skip
    refine Z.r [0, 1, 2, 3] ?_
    refine Z.L 0 (.agg (Z.T nd0 A2 c2)) (b5.upd1 u4) ?_
    refine Z.p [1] [2, 3] [(30, .agg Z.t0)] ?_
    refine Z.k (fun R hR => same_c nd0 A2 none c2 0 _ _ _ _ true _ R ((kv2.upd u3).upd u4) (KV.nil (Q := In 0 0 [])) (fun w10 x6 => hR _ _ ?_))
    have zw10 := x6.size
    refine Z.p [3] [] [(2, .bool true)] ?_
    refine Z.e (wp_ret (Gx.then_ret (Z.v (.bool true) ?_)))
    exact hK _ (((((y1.trans x4).trans x5).upd1 u3).upd1 u4).trans x6)
  exact absurd (hfk.symm.trans h_c28) (by decide)
theorem Again_c (s : ByteArray) (w : World) (K : Ending → World → Prop) (htab : Lib.TabBelow Tryd.prog w.heap.size w "internal/strconv.uint64pow10" .u64 Lib.pow10Tab) (hK : ∀ w', Gx.Ext w w' → K (.returned (.bool true)) w') : Calls Tryd.prog 4 #[.string s] w K := by
  generalize h : parseP s = r
  obtain ⟨t, fk, fa⟩ := r
  by_cases hf : fk = 0
  · subst hf
    obtain ⟨p, hp, rfl, _⟩ := Ag.parse_pg h
    exact Again_k s w K p fa hp h htab hK
  · have e := Ag.parse_nd0 h hf
    subst e
    exact Again_f s w K fk fa (by simp; omega) h htab hK
end Go.Proofs.YtinilkomfggjiaaDoor
