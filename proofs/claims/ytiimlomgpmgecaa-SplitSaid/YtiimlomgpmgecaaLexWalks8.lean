/- The walks of the lexer's functions, written by a program of ours (wip/gx/gx.py, wip/lexer/lexgen.py). -/
import Derived.Test.YtiimlomgpmgecaaGy
import Derived.Test.YtiimlomgpmgecaaLexSplit
import Derived.Test.YtiimlomgpmgecaaLexWalks1
import Derived.Test.YtiimlomgpmgecaaLexWalks2
import Derived.Test.YtiimlomgpmgecaaLexWalks3
import Derived.Test.YtiimlomgpmgecaaLexWalks4
import Derived.Test.YtiimlomgpmgecaaLexWalks5
import Derived.Test.YtiimlomgpmgecaaLexWalks6
import Derived.Test.YtiimlomgpmgecaaLexWalks7
namespace Go.Proofs.Ytiimlomgpmgecaa
open Go.RowKit Go.Lex
attribute [local irreducible] Go.wpOps Go.Code.wp Go.wpOp Go.wpAnyH Go.Calls
def oneL : List Nx := [⟨2, 0, ⟨#[97]⟩, 0, 1, 0, 0⟩, ⟨0, 1, ⟨#[]⟩, 0, 1, 0, 0⟩]
theorem loadB_one {P : Program} {t : TypeId} {cs : Array Value} (hu : ∃ fs, P.underlying t = some (.struct fs)) (hi : (P.info? t).map (·.size) = some 4) (hx : cs.toList.take 8 = tokCells oneL) (hc : 8 ≤ cs.size) :
    Gx.loadB P t cs (0 + 0 * 4) = some (.agg #[.int .i64 2, .int .i64 0, .string (⟨#[97]⟩ : ByteArray), .int .i64 0]) := loadB_tok (l := oneL) (k := 0) hu hi hx hc (by decide)
theorem pTokens_a (w : World) (K : Ending → World → Prop) (hK : ∀ w', Gx.Ext w w' → ∀ g ca cs, Gx.Has w' g (.cells cs 31) → 8 ≤ cs.size → cs.toList.take 8 = tokCells oneL → K (.returned (.tuple #[.slice (some ⟨g, 0, none⟩) 2 ca, .agg #[.int .i64 0, .int .i64 0]])) w') :
    Calls Try.prog 5 #[.string (⟨#[97]⟩ : ByteArray)] w K := by
  refine pTokens_c _ w K (fun w' hx v ow => ?_)
  rw [lex_one] at ow ⊢
  obtain ⟨_, a, ca, rfl, h1⟩ := Gx.own_shape ow
  obtain ⟨g, cs, rfl, _, hg, hc, ht⟩ := h1 (by decide)
  exact hK w' hx g ca cs hg hc ht
theorem join_step {L l : List Nx} {e : Nx} (h : L = l ++ [e]) {i : Nat} (hi : i < l.length) : joinB (l.take (i + 1)) = (joinB (l.take i) ++ sayB (nxAt L i)) ++ (⟨#[32]⟩ : ByteArray) := by
  have : nxAt L i = l[i] := by
    unfold nxAt
    rw [h, List.getElem?_append_left hi, List.getElem?_eq_getElem hi]
    rfl
  rw [this, ← joinB_snoc, List.take_add_one, List.getElem?_eq_getElem hi]
  rfl
theorem join_good {L l : List Nx} {e : Nx} (h : L = l ++ [e]) (hg : ∀ x ∈ l, Lex.Good 3000 x) {i : Nat} (hi : i < l.length) : Lex.Good 3000 (nxAt L i) := by
  have : nxAt L i = l[i] := by
    unfold nxAt
    rw [h, List.getElem?_append_left hi, List.getElem?_eq_getElem hi]
    rfl
  rw [this]
  exact hg _ (List.getElem_mem hi)
theorem join_le {l : List Nx} (hg : ∀ x ∈ l, Lex.Good 3000 x) (hl : l.length ≤ 3001) (i : Nat) : (joinB (l.take i)).size ≤ 9006001 := by
  have h := joinB_size (m := 3000) (l := l.take i) (fun x hx => hg x (List.mem_of_mem_take hx))
  have h2 : (l.take i).length ≤ 3001 := by rw [List.length_take]; omega
  have h3 := Nat.mul_le_mul_right (3000 + 1) h2
  omega

set_option maxHeartbeats 4000000 in
set_option maxRecDepth 10000 in
theorem Split_c (s : ByteArray) (t : ByteArray) (w : World) (K : Ending → World → Prop)  (hK : ∀ w', Gx.Ext w w' → K (.returned (.bool true)) w') :
    Calls Try.prog 4 #[.string s, .string t] w K := by
  refine Gx.enter 146 Try.func4 rfl rfl (Nat.le_of_ble_eq_true rfl) ?_
  refine Gx.seq_run [(4, .bool false)] (by kernel_rfl) ?_
  refine Gx.seq_reg [0, 1, 2, 3, 4, 5, 6] (by kernel_rfl) ?_
  refine Gx.cons (Gx.op_call rfl (by kernel_rfl) (by kernel_rfl) (fun R hR => pTokens_a  _ R  (fun w1 x1 ga1 ca1 cs1 hga1 hca1 hta1 => hR _ _ ?_)))
  have zw1 := x1.size
  have thga1 := hga1.lt
  refine Gx.pure [1, 2, 3] [4, 5, 6] [(18, .agg #[.int .i64 0, .int .i64 0]), (17, .slice (some ⟨ga1, 0, none⟩) 2 ca1), (15, .tuple #[.slice (some ⟨ga1, 0, none⟩) 2 ca1, .agg #[.int .i64 0, .int .i64 0]])] rfl (by kernel_rfl) ?_
  refine Gx.cons (Gx.op_new (.cells #[.int .i64 0, .int .i64 0] 25) rfl (by kernel_rfl) (by kernel_rfl) (fun k1 w2 l1 x2 b1 => ?_))
  have zw2 := x2.size
  have tb1 := b1.lt
  refine Gx.pure [5] [6] [(5, .slice (some ⟨ga1, 0, none⟩) 2 ca1)] rfl (by kernel_rfl) ?_
  refine Gx.cons (Gx.op_store rfl (by kernel_rfl) rfl 0 (.agg #[.int .i64 0, .int .i64 0]) (by kernel_rfl) (by kernel_rfl) b1 (by kernel_rfl) (by kernel_rfl) (by kernel_rfl) #[.int .i64 0, .int .i64 0] (by kernel_rfl) (fun w3 u1 b2 => ?_))
  have zw3 := u1.size
  refine Gx.ops_end ?_
  refine wp_seq ?_
  refine Gx.seq_reg [0, 1, 2, 3, 4, 5, 6, 7, 8, 9, 10, 11, 12, 13, 14] (by kernel_rfl) ?_
  refine Gx.pure [0] [1, 2, 3, 4, 5, 6, 7, 8, 9, 10, 11, 12, 13, 14] [(19, .pointer (some ⟨k1, 0, none⟩))] rfl (by kernel_rfl) ?_
  refine Gx.cons (Gx.op_load rfl (by kernel_rfl) rfl 0 (.int .i64 0) (by kernel_rfl) b2 (by kernel_rfl) ?_)
  refine Gx.pure [2, 3, 4, 5, 6, 7, 8, 9] [10, 11, 12, 13, 14] [(28, .slice (some ⟨ga1, 0, none⟩) 2 ca1), (27, .bool false), (26, .bool false), (25, .bool false), (24, .int .i64 2), (23, .slice (some ⟨ga1, 0, none⟩) 2 ca1), (22, .bool false), (21, .bool false)] rfl (by kernel_rfl) ?_
  refine Gx.cons (Gx.op_indexAddr (bk := ga1) rfl (by kernel_rfl) rfl 31 4 (by kernel_rfl) (by kernel_rfl) 0 2 ca1 (by kernel_rfl) .i64 0 (by kernel_rfl) (by omega) ?_)
  refine Gx.cons (Gx.op_load rfl (by kernel_rfl) rfl (0 + 0 * 4) (.agg #[.int .i64 2, .int .i64 0, .string (⟨#[97]⟩ : ByteArray), .int .i64 0]) (by kernel_rfl) ((hga1.ext x2).upd1 u1 (by omega)) (loadB_one ⟨_, rfl⟩ (by kernel_rfl) hta1 hca1) ?_)
  refine Gx.pure [12] [13, 14] [(31, .agg #[.int .i64 2, .int .i64 0, .string (⟨#[97]⟩ : ByteArray), .int .i64 0])] rfl (by kernel_rfl) ?_
  refine Gx.cons (Gx.op_val rfl (by kernel_rfl) (Gx.run_neq_struct rfl #[.int .i64 2, .int .i64 0, .string (⟨#[97]⟩ : ByteArray), .int .i64 0] #[.int .i64 2, .int .i64 0, .string (⟨#[97]⟩ : ByteArray), .int .i64 0] (((2 : Int) == (2 : Int)) && (((0 : Int) == (0 : Int)) && (((⟨#[97]⟩ : ByteArray).toList == (⟨#[97]⟩ : ByteArray).toList) && (((0 : Int) == (0 : Int)) && true)))) (by kernel_rfl) (by kernel_rfl) (by kernel_rfl) (by kernel_rfl) (by kernel_rfl) (by kernel_rfl)) ?_)
  refine Gx.pure [14] [] [(33, .bool (!(((2 : Int) == (2 : Int)) && (((0 : Int) == (0 : Int)) && (((⟨#[97]⟩ : ByteArray).toList == (⟨#[97]⟩ : ByteArray).toList) && (((0 : Int) == (0 : Int)) && true))))))] rfl (by kernel_rfl) ?_
  refine Gx.ops_end ?_
  refine Gx.cond (!(((2 : Int) == (2 : Int)) && (((0 : Int) == (0 : Int)) && (((⟨#[97]⟩ : ByteArray).toList == (⟨#[97]⟩ : ByteArray).toList) && (((0 : Int) == (0 : Int)) && true))))) (by kernel_rfl) (fun h_c33 => ?_) (fun h_c33 => ?_)
  · skip
    have p_c33 := h_c33; try simp at p_c33
    all_goals (exact absurd h_c33 (by decide +kernel))
  refine wp_skip ?_
  refine Gx.then_normal ?_
  refine Gx.seq_reg [0, 1, 2, 3, 4, 5, 6] (by kernel_rfl) ?_
  refine Gx.pure [0] [1, 2, 3, 4, 5, 6] [(35, .string s)] rfl (by kernel_rfl) ?_
  refine Gx.cons (Gx.op_call rfl (by kernel_rfl) (by kernel_rfl) (fun R hR => pTokens_c s _ R  (fun w4 x3 v1 ow1 => hR _ _ ?_)))
  have zw4 := x3.size
  refine Gx.pure [2, 3, 4, 5] [6] [(7, v1), (38, .agg #[.int .i64 (((lex s).2.1 : Nat) : Int), .int .i64 (((lex s).2.2 : Nat) : Int)]), (37, v1), (34, .tuple #[v1, .agg #[.int .i64 (((lex s).2.1 : Nat) : Int), .int .i64 (((lex s).2.2 : Nat) : Int)]])] rfl (by kernel_rfl) ?_
  refine Gx.cons (Gx.op_store rfl (by kernel_rfl) rfl 0 (.agg #[.int .i64 (((lex s).2.1 : Nat) : Int), .int .i64 (((lex s).2.2 : Nat) : Int)]) (by kernel_rfl) (by kernel_rfl) (b2.ext x3) (by kernel_rfl) (by kernel_rfl) (by kernel_rfl) #[.int .i64 (((lex s).2.1 : Nat) : Int), .int .i64 (((lex s).2.2 : Nat) : Int)] (by kernel_rfl) (fun w5 u2 b3 => ?_))
  have zw5 := u2.size
  refine Gx.ops_end ?_
  refine Gx.seq_reg [0, 1, 2, 3, 4, 5, 6, 7] (by kernel_rfl) ?_
  refine Gx.pure [0] [1, 2, 3, 4, 5, 6, 7] [(40, .string t)] rfl (by kernel_rfl) ?_
  refine Gx.cons (Gx.op_call rfl (by kernel_rfl) (by kernel_rfl) (fun R hR => pTokens_c t _ R  (fun w6 x4 v2 ow2 => hR _ _ ?_)))
  have zw6 := x4.size
  refine Gx.pure [2, 3, 4] [5, 6, 7] [(43, .agg #[.int .i64 (((lex t).2.1 : Nat) : Int), .int .i64 (((lex t).2.2 : Nat) : Int)]), (42, v2), (39, .tuple #[v2, .agg #[.int .i64 (((lex t).2.1 : Nat) : Int), .int .i64 (((lex t).2.2 : Nat) : Int)]])] rfl (by kernel_rfl) ?_
  refine Gx.cons (Gx.op_new (.cells #[.int .i64 0, .int .i64 0] 25) rfl (by kernel_rfl) (by kernel_rfl) (fun k2 w7 l2 x5 b4 => ?_))
  have zw7 := x5.size
  have tb4 := b4.lt
  refine Gx.pure [6] [7] [(8, v2)] rfl (by kernel_rfl) ?_
  refine Gx.cons (Gx.op_store rfl (by kernel_rfl) rfl 0 (.agg #[.int .i64 (((lex t).2.1 : Nat) : Int), .int .i64 (((lex t).2.2 : Nat) : Int)]) (by kernel_rfl) (by kernel_rfl) b4 (by kernel_rfl) (by kernel_rfl) (by kernel_rfl) #[.int .i64 (((lex t).2.1 : Nat) : Int), .int .i64 (((lex t).2.2 : Nat) : Int)] (by kernel_rfl) (fun w8 u3 b5 => ?_))
  have zw8 := u3.size
  refine Gx.ops_end ?_
  refine wp_seq ?_
  refine Gx.seq_reg [0, 1, 2] (by kernel_rfl) ?_
  refine Gx.pure [0] [1, 2] [(44, .pointer (some ⟨k1, 0, none⟩))] rfl (by kernel_rfl) ?_
  have p_c33 := h_c33; try simp at p_c33
  refine Gx.cons (Gx.op_load rfl (by kernel_rfl) rfl 0 (.int .i64 (((lex s).2.1 : Nat) : Int)) (by kernel_rfl) (((b3.ext x4).ext x5).upd1 u3 (by omega)) (by kernel_rfl) ?_)
  refine Gx.pure [2] [] [(46, .bool ((((lex s).2.1 : Nat) : Int) != (0 : Int)))] rfl (by kernel_rfl) ?_
  refine Gx.ops_end ?_
  refine Gx.cond ((((lex s).2.1 : Nat) : Int) != (0 : Int)) (by kernel_rfl) (fun h_c46 => ?_) (fun h_c46 => ?_)
  · skip
    have p_c46 := h_c46; try simp at p_c46
    have hempty := lex_fault (s := s) (by omega)
    obtain ⟨_, va0, ca0, rfl, _⟩ := Gx.own_shape (Gx.own_upd1 (Gx.own_ext (Gx.own_ext (Gx.own_upd1 ow1 u2 (fun q e => by have := ow1.lt q e; omega)) x4) x5) u3 (fun q e => by have := ow1.lt q e; omega))
    refine Gx.seq_run [(4, .bool ((((lex s).1.length : Nat) : Int) == (0 : Int))), (49, .bool ((((lex s).1.length : Nat) : Int) == (0 : Int))), (48, .int .i64 (((lex s).1.length : Nat) : Int)), (47, .slice va0 ((lex s).1.length) ca0)] (by kernel_rfl) ?_
    refine wp_ret ?_
    refine Gx.then_ret ?_
    refine Gx.ret (v := .bool ((((lex s).1.length : Nat) : Int) == (0 : Int))) (Gx.res1 rfl (by kernel_rfl)) ?_
    exact Gx.ret_as (v' := .bool true) (by rw [hempty]; rfl) (hK _ (((((((((Gx.Ext.refl w).trans x1).trans x2).upd1 u1 (by omega)).trans x3).upd1 u2 (by omega)).trans x4).trans x5).upd1 u3 (by omega)))
  have p_c46 := h_c46; try simp at p_c46
  obtain ⟨hs3, hl3, ll, e1, hle, hsig, hgood⟩ := lex_good (s := s) (by omega)
  have hlen : (lex s).1.length = ll.length + 1 := by rw [hle]; simp
  have hot1 := (Gx.own_upd1 (Gx.own_ext (Gx.own_ext (Gx.own_upd1 ow1 u2 (fun q e => by have := ow1.lt q e; omega)) x4) x5) u3 (fun q e => by have := ow1.lt q e; omega))
  have hlt1 := (ow1).lt
  obtain ⟨_, va1, ca1, rfl, hv1⟩ := Gx.own_shape hot1
  have hcap1 := Gx.own_cap hot1 (by omega)
  obtain ⟨gg1, cc1, rfl, _, hgg1, hcc1, htt1⟩ := hv1 (by omega)
  clear hv1
  have thq1 := (hlt1 gg1 rfl).2
  have thgg1 := hgg1.lt
  have hm0 := Gx.own_mono (Gx.own_upd1 (Gx.own_ext ow2 x5) u3 (fun q e => by have := ow2.lt q e; omega)) (Nat.zero_le _)
  refine wp_skip ?_
  refine Gx.then_normal ?_
  refine wp_seq ?_
  refine Gx.seq_run [(52, .bool ((((lex s).1.length : Nat) : Int) == (0 : Int))), (51, .int .i64 (((lex s).1.length : Nat) : Int)), (50, .slice (some ⟨gg1, 0, none⟩) ((lex s).1.length) ca1)] (by kernel_rfl) ?_
  refine Gx.cond ((((lex s).1.length : Nat) : Int) == (0 : Int)) (by kernel_rfl) (fun h_c52 => ?_) (fun h_c52 => ?_)
  · skip
    have p_c52 := h_c52; try simp at p_c52
    exfalso; rw [p_c52] at hlen; simp at hlen
  refine wp_skip ?_
  refine Gx.then_normal ?_
  refine Gx.seq_run [(10, .string (⟨#[]⟩ : ByteArray))] (by kernel_rfl) ?_
  refine wp_seq ?_
  refine Gx.seq_run [(11, .int .i64 0)] (by kernel_rfl) ?_
  refine wp_block ?_
  have p_c52 := h_c52; try simp at p_c52
  refine Gx.loop (n' := 146) (d' := []) (fun mz l' w' => ∃ (i : Nat), l' = [(0, .string s), (1, .string t), (7, .slice (some ⟨gg1, 0, none⟩) ((lex s).1.length) ca1), (8, v2), (9, .pointer (some ⟨k2, 0, none⟩)), (10, .string (joinB (ll.take i))), (11, .int .i64 ((i : Nat) : Int))] ∧ mz = ll.length - i ∧ Gx.Ext w w' ∧ Gx.Has w' ga1 (.cells cs1 31) ∧ Gx.Has w' k1 (.cells #[.int .i64 (((lex s).2.1 : Nat) : Int), .int .i64 (((lex s).2.2 : Nat) : Int)] 25) ∧ Gx.Has w' k2 (.cells #[.int .i64 (((lex t).2.1 : Nat) : Int), .int .i64 (((lex t).2.2 : Nat) : Int)] 25) ∧ Gx.Has w' gg1 (.cells cc1 31) ∧ (i ≤ ll.length) ∧ (w'.ownsRow 0 31 4 v2 (lex t).1.length (tokCells (lex t).1))) _ _ [(0, .string s), (1, .string t), (7, .slice (some ⟨gg1, 0, none⟩) ((lex s).1.length) ca1), (8, v2), (9, .pointer (some ⟨k2, 0, none⟩)), (10, .string (joinB (ll.take 0))), (11, .int .i64 ((0 : Nat) : Int))] (Gx.forget [(0, .string s), (1, .string t), (7, .slice (some ⟨gg1, 0, none⟩) ((lex s).1.length) ca1), (8, v2), (9, .pointer (some ⟨k2, 0, none⟩)), (10, .string (joinB (ll.take 0))), (11, .int .i64 ((0 : Nat) : Int))] (by kernel_rfl)) ⟨0, rfl, rfl, (((((((((Gx.Ext.refl w).trans x1).trans x2).upd1 u1 (by omega)).trans x3).upd1 u2 (by omega)).trans x4).trans x5).upd1 u3 (by omega)), (((((((hga1.ext x2).upd1 u1 (by omega)).ext x3).upd1 u2 (by omega)).ext x4).ext x5).upd1 u3 (by omega)), (((b3.ext x4).ext x5).upd1 u3 (by omega)), b5, hgg1, (by omega), hm0⟩ (fun bb1 m1 ll1 w9 hI1 K1 hK1 => ?_)
  obtain ⟨i, rfl, rfl, x6, b6, b7, b8, b9, hi, hm⟩ := hI1
  have zw9 := x6.size
  have tb6 := b6.lt
  have tb7 := b7.lt
  have tb8 := b8.lt
  have tb9 := b9.lt
  refine wp_seq ?_
  refine Gx.seq_reg [0, 1, 2, 3, 4] (by kernel_rfl) ?_
  refine Gx.pure [0, 1, 2] [3, 4] [(55, .int .i64 (((lex s).1.length : Nat) : Int)), (54, .slice (some ⟨gg1, 0, none⟩) ((lex s).1.length) ca1), (53, .int .i64 ((i : Nat) : Int))] rfl (by kernel_rfl) ?_
  refine Gx.pure_eq [3] [4] [(56, .int .i64 (IntKind.i64.wrap ((((lex s).1.length : Nat) : Int) - (1 : Int))))] [(56, .int .i64 ((((lex s).1.length : Nat) : Int) - (1 : Int)))] rfl (by kernel_rfl) (Gx.eqI (IntWalk.i64_in _ (by omega))) ?_
  refine Gx.pure [4] [] [(57, .bool (decide (((i : Nat) : Int) < ((((lex s).1.length : Nat) : Int) - (1 : Int)))))] rfl (by kernel_rfl) ?_
  refine Gx.ops_end ?_
  refine Gx.cond (decide (((i : Nat) : Int) < ((((lex s).1.length : Nat) : Int) - (1 : Int)))) (by kernel_rfl) (fun h_c57 => ?_) (fun h_c57 => ?_)
  · skip
    have p_c57 := h_c57; try simp at p_c57
    have hgd := join_good hle hgood (i := i) (by omega)
    have hjs := join_step hle (i := i) (by omega)
    have hjl := join_le hgood (by omega) i
    have hsz := hgd.size
    refine wp_skip ?_
    refine Gx.then_normal ?_
    refine wp_seq ?_
    refine wp_block ?_
    refine wp_seq ?_
    refine Gx.cut (d' := []) (n' := 146) (fun l' w' => l' = [(0, .string s), (1, .string t), (7, .slice (some ⟨gg1, 0, none⟩) ((lex s).1.length) ca1), (8, v2), (9, .pointer (some ⟨k2, 0, none⟩)), (10, .string (joinB (ll.take i))), (11, .int .i64 ((i : Nat) : Int)), (81, .bool (((decide ((((nxAt (lex s).1 i).kind : Nat) : Int) < (1 : Int))) || (decide ((((nxAt (lex s).1 i).kind : Nat) : Int) > (4 : Int)))) || (decide ((((nxAt (lex s).1 i).n : Nat) : Int) < (0 : Int)))))] ∧ w9 = w') (fun K2 hK2 => ?_) (fun bb2 ll2 w10 hI2 => ?_)
    · refine Gx.reg [0, 1, 2, 3, 4, 5, 6, 7, 8, 9, 10, 11, 12, 13, 14, 15, 16, 17, 18, 19, 20, 21] (by kernel_rfl) ?_
      refine Gx.pure [0, 1] [2, 3, 4, 5, 6, 7, 8, 9, 10, 11, 12, 13, 14, 15, 16, 17, 18, 19, 20, 21] [(61, .int .i64 ((i : Nat) : Int)), (60, .slice (some ⟨gg1, 0, none⟩) ((lex s).1.length) ca1)] rfl (by kernel_rfl) ?_
      refine Gx.cons (Gx.op_indexAddr (bk := gg1) rfl (by kernel_rfl) rfl 31 4 (by kernel_rfl) (by kernel_rfl) 0 ((lex s).1.length) ca1 (by kernel_rfl) .i64 i (by kernel_rfl) (by omega) ?_)
      refine Gx.pure [3] [4, 5, 6, 7, 8, 9, 10, 11, 12, 13, 14, 15, 16, 17, 18, 19, 20, 21] [(63, .pointer (some ⟨gg1, 0 + i * 4 + 0, none⟩))] rfl (by kernel_rfl) ?_
      refine Gx.cons (Gx.op_load rfl (by kernel_rfl) rfl (0 + i * 4 + 0) (.int .i64 (((nxAt (lex s).1 i).kind : Nat) : Int)) (by kernel_rfl) b9 (loadB_fld (l := (lex s).1) (k := i) 0 (.inl ⟨_, rfl⟩) htt1 (by omega) rfl) ?_)
      refine Gx.pure [5, 6] [7, 8, 9, 10, 11, 12, 13, 14, 15, 16, 17, 18, 19, 20, 21] [(66, .bool (decide ((((nxAt (lex s).1 i).kind : Nat) : Int) < (1 : Int)))), (65, .bool (decide ((((nxAt (lex s).1 i).kind : Nat) : Int) < (1 : Int))))] rfl (by kernel_rfl) ?_
      refine Gx.split (decide ((((nxAt (lex s).1 i).kind : Nat) : Int) < (1 : Int))) (fun h_g66 => ?_) (fun h_g66 => ?_)
      · rw [h_g66]
        refine Gx.pure [7, 8, 9, 10, 11, 12, 13, 14, 15, 16, 17, 18, 19, 20, 21] [] [(81, .bool true), (80, undef), (79, undef), (78, undef), (77, undef), (76, undef), (75, undef), (74, .bool true), (73, .bool true), (72, undef), (71, undef), (70, undef), (69, undef), (68, undef), (67, undef)] rfl (by kernel_rfl) ?_
        refine Gx.ops_end ?_
        rw [Gx.forget [(0, .string s), (1, .string t), (7, .slice (some ⟨gg1, 0, none⟩) ((lex s).1.length) ca1), (8, v2), (9, .pointer (some ⟨k2, 0, none⟩)), (10, .string (joinB (ll.take i))), (11, .int .i64 ((i : Nat) : Int)), (81, .bool (((decide ((((nxAt (lex s).1 i).kind : Nat) : Int) < (1 : Int))) || (decide ((((nxAt (lex s).1 i).kind : Nat) : Int) > (4 : Int)))) || (decide ((((nxAt (lex s).1 i).n : Nat) : Int) < (0 : Int)))))] (by rw [h_g66]; try kernel_rfl)]
        exact hK2 _ _ _ ⟨rfl, rfl⟩
      rw [h_g66]
      refine Gx.pure [7, 8] [9, 10, 11, 12, 13, 14, 15, 16, 17, 18, 19, 20, 21] [(68, .int .i64 ((i : Nat) : Int)), (67, .slice (some ⟨gg1, 0, none⟩) ((lex s).1.length) ca1)] rfl (by kernel_rfl) ?_
      have p_g66 := h_g66; try simp at p_g66
      refine Gx.cons (Gx.op_indexAddr (bk := gg1) rfl (by kernel_rfl) rfl 31 4 (by kernel_rfl) (by kernel_rfl) 0 ((lex s).1.length) ca1 (by kernel_rfl) .i64 i (by kernel_rfl) (by omega) ?_)
      refine Gx.pure [10] [11, 12, 13, 14, 15, 16, 17, 18, 19, 20, 21] [(70, .pointer (some ⟨gg1, 0 + i * 4 + 0, none⟩))] rfl (by kernel_rfl) ?_
      refine Gx.cons (Gx.op_load rfl (by kernel_rfl) rfl (0 + i * 4 + 0) (.int .i64 (((nxAt (lex s).1 i).kind : Nat) : Int)) (by kernel_rfl) b9 (loadB_fld (l := (lex s).1) (k := i) 0 (.inl ⟨_, rfl⟩) htt1 (by omega) rfl) ?_)
      refine Gx.pure [12, 13, 14] [15, 16, 17, 18, 19, 20, 21] [(74, .bool (decide ((((nxAt (lex s).1 i).kind : Nat) : Int) > (4 : Int)))), (73, .bool (decide ((((nxAt (lex s).1 i).kind : Nat) : Int) > (4 : Int)))), (72, .bool (decide ((((nxAt (lex s).1 i).kind : Nat) : Int) > (4 : Int))))] rfl (by kernel_rfl) ?_
      refine Gx.split (decide ((((nxAt (lex s).1 i).kind : Nat) : Int) > (4 : Int))) (fun h_g74 => ?_) (fun h_g74 => ?_)
      · rw [h_g74]
        refine Gx.pure [15, 16, 17, 18, 19, 20, 21] [] [(81, .bool true), (80, undef), (79, undef), (78, undef), (77, undef), (76, undef), (75, undef)] rfl (by kernel_rfl) ?_
        refine Gx.ops_end ?_
        rw [Gx.forget [(0, .string s), (1, .string t), (7, .slice (some ⟨gg1, 0, none⟩) ((lex s).1.length) ca1), (8, v2), (9, .pointer (some ⟨k2, 0, none⟩)), (10, .string (joinB (ll.take i))), (11, .int .i64 ((i : Nat) : Int)), (81, .bool (((decide ((((nxAt (lex s).1 i).kind : Nat) : Int) < (1 : Int))) || (decide ((((nxAt (lex s).1 i).kind : Nat) : Int) > (4 : Int)))) || (decide ((((nxAt (lex s).1 i).n : Nat) : Int) < (0 : Int)))))] (by rw [h_g66, h_g74]; try kernel_rfl)]
        exact hK2 _ _ _ ⟨rfl, rfl⟩
      rw [h_g74]
      refine Gx.pure [15, 16] [17, 18, 19, 20, 21] [(76, .int .i64 ((i : Nat) : Int)), (75, .slice (some ⟨gg1, 0, none⟩) ((lex s).1.length) ca1)] rfl (by kernel_rfl) ?_
      have p_g74 := h_g74; try simp at p_g74
      refine Gx.cons (Gx.op_indexAddr (bk := gg1) rfl (by kernel_rfl) rfl 31 4 (by kernel_rfl) (by kernel_rfl) 0 ((lex s).1.length) ca1 (by kernel_rfl) .i64 i (by kernel_rfl) (by omega) ?_)
      refine Gx.pure [18] [19, 20, 21] [(78, .pointer (some ⟨gg1, 0 + i * 4 + 3, none⟩))] rfl (by kernel_rfl) ?_
      refine Gx.cons (Gx.op_load rfl (by kernel_rfl) rfl (0 + i * 4 + 3) (.int .i64 (((nxAt (lex s).1 i).n : Nat) : Int)) (by kernel_rfl) b9 (loadB_fld (l := (lex s).1) (k := i) 3 (.inl ⟨_, rfl⟩) htt1 (by omega) rfl) ?_)
      refine Gx.pure [20, 21] [] [(81, .bool (decide ((((nxAt (lex s).1 i).n : Nat) : Int) < (0 : Int)))), (80, .bool (decide ((((nxAt (lex s).1 i).n : Nat) : Int) < (0 : Int))))] rfl (by kernel_rfl) ?_
      refine Gx.ops_end ?_
      rw [Gx.forget [(0, .string s), (1, .string t), (7, .slice (some ⟨gg1, 0, none⟩) ((lex s).1.length) ca1), (8, v2), (9, .pointer (some ⟨k2, 0, none⟩)), (10, .string (joinB (ll.take i))), (11, .int .i64 ((i : Nat) : Int)), (81, .bool (((decide ((((nxAt (lex s).1 i).kind : Nat) : Int) < (1 : Int))) || (decide ((((nxAt (lex s).1 i).kind : Nat) : Int) > (4 : Int)))) || (decide ((((nxAt (lex s).1 i).n : Nat) : Int) < (0 : Int)))))] (by rw [h_g66, h_g74]; try kernel_rfl)]
      exact hK2 _ _ _ ⟨rfl, rfl⟩
    obtain ⟨rfl, rfl⟩ := hI2
    refine Gx.cond (((decide ((((nxAt (lex s).1 i).kind : Nat) : Int) < (1 : Int))) || (decide ((((nxAt (lex s).1 i).kind : Nat) : Int) > (4 : Int)))) || (decide ((((nxAt (lex s).1 i).n : Nat) : Int) < (0 : Int)))) (by kernel_rfl) (fun h_c81 => ?_) (fun h_c81 => ?_)
    · skip
      have p_c81 := h_c81; try simp at p_c81
      exact absurd h_c81 (by have := hgd.kind; simp; omega)
    refine wp_skip ?_
    refine Gx.then_normal ?_
    refine Gx.reg [0, 1, 2, 3, 4, 5, 6, 7, 8] (by kernel_rfl) ?_
    refine Gx.pure [0, 1, 2] [3, 4, 5, 6, 7, 8] [(84, .int .i64 ((i : Nat) : Int)), (83, .slice (some ⟨gg1, 0, none⟩) ((lex s).1.length) ca1), (82, .string (joinB (ll.take i)))] rfl (by kernel_rfl) ?_
    have p_c81 := h_c81; try simp at p_c81
    refine Gx.cons (Gx.op_indexAddr (bk := gg1) rfl (by kernel_rfl) rfl 31 4 (by kernel_rfl) (by kernel_rfl) 0 ((lex s).1.length) ca1 (by kernel_rfl) .i64 i (by kernel_rfl) (by omega) ?_)
    refine Gx.cons (Gx.op_load rfl (by kernel_rfl) rfl (0 + i * 4) (.agg #[.int .i64 (((nxAt (lex s).1 i).kind : Nat) : Int), .int .i64 (((nxAt (lex s).1 i).at_ : Nat) : Int), .string ((nxAt (lex s).1 i).text), .int .i64 (((nxAt (lex s).1 i).n : Nat) : Int)]) (by kernel_rfl) b9 (loadB_tok ⟨_, rfl⟩ (by kernel_rfl) htt1 hcc1 (by omega)) ?_)
    refine Gx.cons (Gx.op_call rfl (by kernel_rfl) (by kernel_rfl) (fun R hR => said_c (nxAt (lex s).1 i) _ R hgd.num (fun w11 x7  => hR _ _ ?_)))
    have zw11 := x7.size
    refine Gx.cons (Gx.op_concat rfl (by kernel_rfl) rfl (joinB (ll.take i)) (sayB (nxAt (lex s).1 i)) (by kernel_rfl) (by kernel_rfl) (by omega) ?_)
    refine Gx.cons (Gx.op_concat rfl (by kernel_rfl) rfl ((joinB (ll.take i)) ++ (sayB (nxAt (lex s).1 i))) (⟨#[32]⟩ : ByteArray) (by kernel_rfl) (by kernel_rfl) (by have e1 : (⟨#[32]⟩ : ByteArray).size = 1 := rfl; rw [ByteArray.size_append, e1]; omega) ?_)
    refine Gx.pure [8] [] [(10, .string (((joinB (ll.take i)) ++ (sayB (nxAt (lex s).1 i))) ++ (⟨#[32]⟩ : ByteArray)))] rfl (by kernel_rfl) ?_
    refine Gx.ops_nil ?_
    refine Gx.block_normal ?_
    refine Gx.then_normal ?_
    refine Gx.reg [0, 1, 2] (by kernel_rfl) ?_
    refine Gx.pure [0] [1, 2] [(58, .int .i64 ((i : Nat) : Int))] rfl (by kernel_rfl) ?_
    refine Gx.pure_eq [1] [2] [(59, .int .i64 (IntKind.i64.wrap (((i : Nat) : Int) + (1 : Int))))] [(59, .int .i64 ((i + 1 : Nat) : Int))] rfl (by kernel_rfl) (Gx.eqI (Gx.i64n (by omega) (by omega))) ?_
    refine Gx.pure [2] [] [(11, .int .i64 ((i + 1 : Nat) : Int))] rfl (by kernel_rfl) ?_
    refine Gx.ops_nil ?_
    refine Gx.then_normal ?_
    rw [Gx.forget [(0, .string s), (1, .string t), (7, .slice (some ⟨gg1, 0, none⟩) ((lex s).1.length) ca1), (8, v2), (9, .pointer (some ⟨k2, 0, none⟩)), (10, .string (joinB (ll.take (i + 1)))), (11, .int .i64 (((i + 1) : Nat) : Int))] (by rw [hjs]; kernel_rfl)]
    exact hK1 _ _ _ _ (by omega) ⟨(i + 1), rfl, rfl, (((Gx.Ext.refl w).trans x6).trans x7), (b6.ext x7), (b7.ext x7), (b8.ext x7), (b9.ext x7), (by omega), (Gx.own_ext hm x7)⟩
  have p_c57 := h_c57; try simp at p_c57
  have hX : ll.take i = ll := List.take_of_length_le (by omega)
  have hjn : (joinB (ll.take i)).size ≤ 3000 → (lex (joinB (ll.take i))).2.1 = 0 ∧ (lex (joinB (ll.take i))).1.map sig = (lex s).1.map sig := by rw [hX, hle]; exact law_join hsig hgood
  refine wp_exit ?_
  refine Gx.then_exit ?_
  refine Gx.then_exit ?_
  refine Gx.block_exit ?_
  refine Gx.then_normal ?_
  refine Gx.seq_reg [0, 1, 2, 3, 4, 5, 6, 7] (by kernel_rfl) ?_
  refine Gx.pure [0] [1, 2, 3, 4, 5, 6, 7] [(91, .string (joinB (ll.take i)))] rfl (by kernel_rfl) ?_
  refine Gx.cons (Gx.op_call rfl (by kernel_rfl) (by kernel_rfl) (fun R hR => pTokens_c (joinB (ll.take i)) _ R  (fun w12 x8 v3 ow3 => hR _ _ ?_)))
  have zw12 := x8.size
  refine Gx.pure [2, 3, 4] [5, 6, 7] [(94, .agg #[.int .i64 (((lex (joinB (ll.take i))).2.1 : Nat) : Int), .int .i64 (((lex (joinB (ll.take i))).2.2 : Nat) : Int)]), (93, v3), (90, .tuple #[v3, .agg #[.int .i64 (((lex (joinB (ll.take i))).2.1 : Nat) : Int), .int .i64 (((lex (joinB (ll.take i))).2.2 : Nat) : Int)]])] rfl (by kernel_rfl) ?_
  refine Gx.cons (Gx.op_new (.cells #[.int .i64 0, .int .i64 0] 25) rfl (by kernel_rfl) (by kernel_rfl) (fun k3 w13 l3 x9 b10 => ?_))
  have zw13 := x9.size
  have tb10 := b10.lt
  refine Gx.pure [6] [7] [(12, v3)] rfl (by kernel_rfl) ?_
  refine Gx.cons (Gx.op_store rfl (by kernel_rfl) rfl 0 (.agg #[.int .i64 (((lex (joinB (ll.take i))).2.1 : Nat) : Int), .int .i64 (((lex (joinB (ll.take i))).2.2 : Nat) : Int)]) (by kernel_rfl) (by kernel_rfl) b10 (by kernel_rfl) (by kernel_rfl) (by kernel_rfl) #[.int .i64 (((lex (joinB (ll.take i))).2.1 : Nat) : Int), .int .i64 (((lex (joinB (ll.take i))).2.2 : Nat) : Int)] (by kernel_rfl) (fun w14 u4 b11 => ?_))
  have zw14 := u4.size
  refine Gx.ops_end ?_
  refine wp_seq ?_
  refine Gx.cut (d' := []) (n' := 146) (fun l' w' => l' = [(0, .string s), (1, .string t), (7, .slice (some ⟨gg1, 0, none⟩) ((lex s).1.length) ca1), (8, v2), (9, .pointer (some ⟨k2, 0, none⟩)), (13, .pointer (some ⟨k3, 0, none⟩)), (108, .bool ((decide ((((joinB (ll.take i)).size : Nat) : Int) ≤ (3000 : Int))) && (((((lex (joinB (ll.take i))).2.1 : Nat) : Int) != (0 : Int)) || false)))] ∧ Gx.Ext w14 w') (fun K3 hK3 => ?_) (fun bb3 ll3 w15 hI3 => ?_)
  · refine Gx.reg [0, 1, 2, 3, 4, 5, 6, 7, 8, 9, 10, 11, 12, 13] (by kernel_rfl) ?_
    refine Gx.pure [0, 1, 2, 3] [4, 5, 6, 7, 8, 9, 10, 11, 12, 13] [(98, .bool (decide ((((joinB (ll.take i)).size : Nat) : Int) ≤ (3000 : Int)))), (97, .bool (decide ((((joinB (ll.take i)).size : Nat) : Int) ≤ (3000 : Int)))), (96, .int .i64 (((joinB (ll.take i)).size : Nat) : Int)), (95, .string (joinB (ll.take i)))] rfl (by kernel_rfl) ?_
    refine Gx.split (decide ((((joinB (ll.take i)).size : Nat) : Int) ≤ (3000 : Int))) (fun h_g98 => ?_) (fun h_g98 => ?_)
    · rw [h_g98]
      refine Gx.pure [4] [5, 6, 7, 8, 9, 10, 11, 12, 13] [(99, .pointer (some ⟨k3, 0, none⟩))] rfl (by kernel_rfl) ?_
      refine Gx.cons (Gx.op_load rfl (by kernel_rfl) rfl 0 (.int .i64 (((lex (joinB (ll.take i))).2.1 : Nat) : Int)) (by kernel_rfl) b11 (by kernel_rfl) ?_)
      refine Gx.pure [6, 7] [8, 9, 10, 11, 12, 13] [(102, .bool ((((lex (joinB (ll.take i))).2.1 : Nat) : Int) != (0 : Int))), (101, .bool ((((lex (joinB (ll.take i))).2.1 : Nat) : Int) != (0 : Int)))] rfl (by kernel_rfl) ?_
      refine Gx.split ((((lex (joinB (ll.take i))).2.1 : Nat) : Int) != (0 : Int)) (fun h_g102 => ?_) (fun h_g102 => ?_)
      · rw [h_g102]
        have p_g98 := h_g98; try simp at p_g98
        have p_g102 := h_g102; try simp at p_g102
        exfalso; have hal := hjn (by omega); omega
      rw [h_g102]
      refine Gx.pure [8, 9] [10, 11, 12, 13] [(104, .slice (some ⟨gg1, 0, none⟩) ((lex s).1.length) ca1), (103, v3)] rfl (by kernel_rfl) ?_
      have p_g98 := h_g98; try simp at p_g98
      have p_g102 := h_g102; try simp at p_g102
      have hal := hjn (by omega)
      have hall : _ = _ := congrArg List.length hal.2
      simp only [List.length_map] at hall
      refine Gx.cons (Gx.op_call rfl (by kernel_rfl) (by kernel_rfl) (fun R hR => alike_c ((lex (joinB (ll.take i))).1) ((lex s).1) _ R (Tk.own (Gx.own_upd1 (Gx.own_ext ow3 x9) u4 (fun q e => by have := ow3.lt q e; omega)) rfl rfl (by omega)) ⟨gg1, ca1, cc1, rfl, (((b9.ext x8).ext x9).upd1 u4 (by omega)), hcc1, htt1, (by omega)⟩ hal.2 (fun w16 x10  => hR _ _ ?_)))
      have zw16 := x10.size
      refine Gx.pure [11, 12, 13] [] [(108, .bool false), (107, .bool false), (106, .bool false)] rfl (by kernel_rfl) ?_
      refine Gx.ops_end ?_
      rw [Gx.forget [(0, .string s), (1, .string t), (7, .slice (some ⟨gg1, 0, none⟩) ((lex s).1.length) ca1), (8, v2), (9, .pointer (some ⟨k2, 0, none⟩)), (13, .pointer (some ⟨k3, 0, none⟩)), (108, .bool ((decide ((((joinB (ll.take i)).size : Nat) : Int) ≤ (3000 : Int))) && (((((lex (joinB (ll.take i))).2.1 : Nat) : Int) != (0 : Int)) || false)))] (by rw [h_g98, h_g102]; try kernel_rfl)]
      exact hK3 _ _ _ ⟨rfl, ((Gx.Ext.refl w14).trans x10)⟩
    rw [h_g98]
    refine Gx.pure [4, 5, 6, 7, 8, 9, 10, 11, 12, 13] [] [(108, .bool false), (107, undef), (106, undef), (105, undef), (104, undef), (103, undef), (102, undef), (101, undef), (100, undef), (99, undef)] rfl (by kernel_rfl) ?_
    refine Gx.ops_end ?_
    rw [Gx.forget [(0, .string s), (1, .string t), (7, .slice (some ⟨gg1, 0, none⟩) ((lex s).1.length) ca1), (8, v2), (9, .pointer (some ⟨k2, 0, none⟩)), (13, .pointer (some ⟨k3, 0, none⟩)), (108, .bool ((decide ((((joinB (ll.take i)).size : Nat) : Int) ≤ (3000 : Int))) && (((((lex (joinB (ll.take i))).2.1 : Nat) : Int) != (0 : Int)) || false)))] (by rw [h_g98]; try kernel_rfl)]
    exact hK3 _ _ _ ⟨rfl, (Gx.Ext.refl w14)⟩
  obtain ⟨rfl, x11⟩ := hI3
  have zw15 := x11.size
  refine Gx.cond ((decide ((((joinB (ll.take i)).size : Nat) : Int) ≤ (3000 : Int))) && (((((lex (joinB (ll.take i))).2.1 : Nat) : Int) != (0 : Int)) || false)) (by kernel_rfl) (fun h_c108 => ?_) (fun h_c108 => ?_)
  · skip
    have p_c108 := h_c108; try simp at p_c108
    exfalso; simp at h_c108; have hal := hjn (by omega); omega
  refine wp_skip ?_
  refine Gx.then_normal ?_
  refine wp_seq ?_
  refine Gx.cut (d' := []) (n' := 146) (fun l' w' => l' = [(0, .string s), (1, .string t), (7, .slice (some ⟨gg1, 0, none⟩) ((lex s).1.length) ca1), (8, v2), (13, .pointer (some ⟨k3, 0, none⟩)), (120, .bool (((((lex t).2.1 : Nat) : Int) != (0 : Int)) || (decide ((((s.size + t.size) + 1 : Nat) : Int) > (3000 : Int)))))] ∧ w15 = w') (fun K4 hK4 => ?_) (fun bb4 ll4 w17 hI4 => ?_)
  · refine Gx.reg [0, 1, 2, 3, 4, 5, 6, 7, 8, 9, 10, 11] (by kernel_rfl) ?_
    refine Gx.pure [0] [1, 2, 3, 4, 5, 6, 7, 8, 9, 10, 11] [(109, .pointer (some ⟨k2, 0, none⟩))] rfl (by kernel_rfl) ?_
    have p_c108 := h_c108; try simp at p_c108
    refine Gx.cons (Gx.op_load rfl (by kernel_rfl) rfl 0 (.int .i64 (((lex t).2.1 : Nat) : Int)) (by kernel_rfl) ((((b8.ext x8).ext x9).upd1 u4 (by omega)).ext x11) (by kernel_rfl) ?_)
    refine Gx.pure [2, 3] [4, 5, 6, 7, 8, 9, 10, 11] [(112, .bool ((((lex t).2.1 : Nat) : Int) != (0 : Int))), (111, .bool ((((lex t).2.1 : Nat) : Int) != (0 : Int)))] rfl (by kernel_rfl) ?_
    refine Gx.split ((((lex t).2.1 : Nat) : Int) != (0 : Int)) (fun h_g112 => ?_) (fun h_g112 => ?_)
    · rw [h_g112]
      refine Gx.pure [4, 5, 6, 7, 8, 9, 10, 11] [] [(120, .bool true), (119, undef), (118, undef), (117, undef), (116, undef), (115, undef), (114, undef), (113, undef)] rfl (by kernel_rfl) ?_
      refine Gx.ops_end ?_
      rw [Gx.forget [(0, .string s), (1, .string t), (7, .slice (some ⟨gg1, 0, none⟩) ((lex s).1.length) ca1), (8, v2), (13, .pointer (some ⟨k3, 0, none⟩)), (120, .bool (((((lex t).2.1 : Nat) : Int) != (0 : Int)) || (decide ((((s.size + t.size) + 1 : Nat) : Int) > (3000 : Int)))))] (by rw [h_g112]; try kernel_rfl)]
      exact hK4 _ _ _ ⟨rfl, rfl⟩
    rw [h_g112]
    refine Gx.pure [4, 5, 6, 7] [8, 9, 10, 11] [(116, .int .i64 ((t.size : Nat) : Int)), (115, .string t), (114, .int .i64 ((s.size : Nat) : Int)), (113, .string s)] rfl (by kernel_rfl) ?_
    have p_g112 := h_g112; try simp at p_g112
    refine Gx.pure_eq [8] [9, 10, 11] [(117, .int .i64 (IntKind.i64.wrap (((s.size : Nat) : Int) + ((t.size : Nat) : Int))))] [(117, .int .i64 ((s.size + t.size : Nat) : Int))] rfl (by kernel_rfl) (Gx.eqI (Gx.i64n (by omega) (by have := (lex_ok (s := t) (by omega)).1; omega))) ?_
    refine Gx.pure_eq [9] [10, 11] [(118, .int .i64 (IntKind.i64.wrap (((s.size + t.size : Nat) : Int) + (1 : Int))))] [(118, .int .i64 (((s.size + t.size) + 1 : Nat) : Int))] rfl (by kernel_rfl) (Gx.eqI (Gx.i64n (by omega) (by have := (lex_ok (s := t) (by omega)).1; omega))) ?_
    refine Gx.pure [10, 11] [] [(120, .bool (decide ((((s.size + t.size) + 1 : Nat) : Int) > (3000 : Int)))), (119, .bool (decide ((((s.size + t.size) + 1 : Nat) : Int) > (3000 : Int))))] rfl (by kernel_rfl) ?_
    refine Gx.ops_end ?_
    rw [Gx.forget [(0, .string s), (1, .string t), (7, .slice (some ⟨gg1, 0, none⟩) ((lex s).1.length) ca1), (8, v2), (13, .pointer (some ⟨k3, 0, none⟩)), (120, .bool (((((lex t).2.1 : Nat) : Int) != (0 : Int)) || (decide ((((s.size + t.size) + 1 : Nat) : Int) > (3000 : Int)))))] (by rw [h_g112]; try kernel_rfl)]
    exact hK4 _ _ _ ⟨rfl, rfl⟩
  obtain ⟨rfl, rfl⟩ := hI4
  refine Gx.cond (((((lex t).2.1 : Nat) : Int) != (0 : Int)) || (decide ((((s.size + t.size) + 1 : Nat) : Int) > (3000 : Int)))) (by kernel_rfl) (fun h_c120 => ?_) (fun h_c120 => ?_)
  · skip
    refine Gx.seq_run [(4, .bool true)] (by kernel_rfl) ?_
    refine wp_ret ?_
    refine Gx.then_ret ?_
    refine Gx.ret (v := .bool true) (Gx.res1 rfl (by kernel_rfl)) ?_
    have p_c108 := h_c108; try simp at p_c108
    have p_c120 := h_c120; try simp at p_c120
    exact Gx.ret_as (v' := .bool true) (by rfl) (hK _ ((((((Gx.Ext.refl w).trans x6).trans x8).trans x9).upd1 u4 (by omega)).trans x11))
  have p_c108 := h_c108; try simp at p_c108
  have p_c120 := h_c120; try simp at p_c120
  obtain ⟨ht3, hl4, lt_, e2, hle2, _, _⟩ := lex_good (s := t) (by omega)
  have hlen2 : (lex t).1.length = lt_.length + 1 := by rw [hle2]; simp
  have hbo := law_both (s := s) (t := t) (by omega) (by omega) (by omega)
  have hdl : (lex s).1.dropLast.length = (lex s).1.length - 1 := List.length_dropLast
  have hot2 := (Gx.own_ext (Gx.own_upd1 (Gx.own_ext (Gx.own_ext hm x8) x9) u4 (fun q e => by have := hm.lt q e; omega)) x11)
  have hlt2 := (hm).lt
  obtain ⟨_, va2, ca2, rfl, hv2⟩ := Gx.own_shape hot2
  have hcap2 := Gx.own_cap hot2 (by omega)
  obtain ⟨gg2, cc2, rfl, _, hgg2, hcc2, htt2⟩ := hv2 (by omega)
  clear hv2
  have thq2 := (hlt2 gg2 rfl).2
  have thgg2 := hgg2.lt
  refine wp_skip ?_
  refine Gx.then_normal ?_
  refine Gx.seq_reg [0, 1, 2, 3, 4, 5, 6, 7, 8, 9] (by kernel_rfl) ?_
  refine Gx.pure [0] [1, 2, 3, 4, 5, 6, 7, 8, 9] [(122, .string s)] rfl (by kernel_rfl) ?_
  refine Gx.cons (Gx.op_concat rfl (by kernel_rfl) rfl s (⟨#[10]⟩ : ByteArray) (by kernel_rfl) (by kernel_rfl) (by have e1 : (⟨#[10]⟩ : ByteArray).size = 1 := rfl; rw [e1]; omega) ?_)
  refine Gx.pure [2] [3, 4, 5, 6, 7, 8, 9] [(124, .string t)] rfl (by kernel_rfl) ?_
  refine Gx.cons (Gx.op_concat rfl (by kernel_rfl) rfl (s ++ (⟨#[10]⟩ : ByteArray)) t (by kernel_rfl) (by kernel_rfl) (by have e1 : (⟨#[10]⟩ : ByteArray).size = 1 := rfl; rw [ByteArray.size_append, e1]; omega) ?_)
  refine Gx.cons (Gx.op_call rfl (by kernel_rfl) (by kernel_rfl) (fun R hR => pTokens_c ((s ++ (⟨#[10]⟩ : ByteArray)) ++ t) _ R  (fun w18 x12 v4 ow4 => hR _ _ ?_)))
  have zw18 := x12.size
  refine Gx.pure [5, 6, 7, 8] [9] [(12, v4), (128, .agg #[.int .i64 (((lex ((s ++ (⟨#[10]⟩ : ByteArray)) ++ t)).2.1 : Nat) : Int), .int .i64 (((lex ((s ++ (⟨#[10]⟩ : ByteArray)) ++ t)).2.2 : Nat) : Int)]), (127, v4), (121, .tuple #[v4, .agg #[.int .i64 (((lex ((s ++ (⟨#[10]⟩ : ByteArray)) ++ t)).2.1 : Nat) : Int), .int .i64 (((lex ((s ++ (⟨#[10]⟩ : ByteArray)) ++ t)).2.2 : Nat) : Int)]])] rfl (by kernel_rfl) ?_
  refine Gx.cons (Gx.op_store rfl (by kernel_rfl) rfl 0 (.agg #[.int .i64 (((lex ((s ++ (⟨#[10]⟩ : ByteArray)) ++ t)).2.1 : Nat) : Int), .int .i64 (((lex ((s ++ (⟨#[10]⟩ : ByteArray)) ++ t)).2.2 : Nat) : Int)]) (by kernel_rfl) (by kernel_rfl) ((b11.ext x11).ext x12) (by kernel_rfl) (by kernel_rfl) (by kernel_rfl) #[.int .i64 (((lex ((s ++ (⟨#[10]⟩ : ByteArray)) ++ t)).2.1 : Nat) : Int), .int .i64 (((lex ((s ++ (⟨#[10]⟩ : ByteArray)) ++ t)).2.2 : Nat) : Int)] (by kernel_rfl) (fun w19 u5 b12 => ?_))
  have zw19 := u5.size
  refine Gx.ops_end ?_
  refine Gx.seq_reg [0, 1, 2, 3, 4, 5, 6, 7, 8, 9] (by kernel_rfl) ?_
  refine Gx.cons (Gx.op_row (.cells #[] 31) 0 0 rfl (by kernel_rfl) (by kernel_rfl) (fun k4 w20 l4 x13 b13 => ?_))
  have zw20 := x13.size
  have tb13 := b13.lt
  refine Gx.pure [1, 2, 3] [4, 5, 6, 7, 8, 9] [(132, .int .i64 (((lex s).1.length : Nat) : Int)), (131, .slice (some ⟨gg1, 0, none⟩) ((lex s).1.length) ca1), (130, .slice (some ⟨gg1, 0, none⟩) ((lex s).1.length) ca1)] rfl (by kernel_rfl) ?_
  refine Gx.pure_eq [4] [5, 6, 7, 8, 9] [(133, .int .i64 (IntKind.i64.wrap ((((lex s).1.length : Nat) : Int) - (1 : Int))))] [(133, .int .i64 (((lex s).1.length - 1 : Nat) : Int))] rfl (by kernel_rfl) (Gx.eqI (by rw [IntWalk.i64_in _ (by omega)]; omega)) ?_
  refine Gx.cons (Gx.op_slice_hi (bk := gg1) rfl (by kernel_rfl) rfl 31 (by kernel_rfl) (by kernel_rfl) 0 ((lex s).1.length) ca1 (by kernel_rfl) .i64 ((lex s).1.length - 1) (by kernel_rfl) (by omega) ?_)
  refine Gx.cons (Gx.op_appendP rfl (by kernel_rfl) rfl 31 4 40 (by kernel_rfl) (by kernel_rfl) (by kernel_rfl) (k4) (by kernel_rfl) (Gx.own_empty (size := 4) b13) 0 ((lex s).1.length - 1) ca1 (by kernel_rfl) (((((((b9.ext x8).ext x9).upd1 u4 (by omega)).ext x11).ext x12).upd1 u5 (by omega)).ext x13) (tokCells (lex s).1.dropLast) (take_toks htt1) (by rw [tokCells_len, hdl]) (tokCells_one _) (by first | (unfold maxLen; omega) | omega) (by first | (unfold maxLen; omega) | omega) (by omega) (fun v5 w21 ow5 g1 nl1 => ?_))
  have zw21 := g1.size
  refine Gx.pure [7] [8, 9] [(136, .slice (some ⟨gg2, 0, none⟩) ((lex t).1.length) ca2)] rfl (by kernel_rfl) ?_
  refine Gx.cons (Gx.op_appendP rfl (by kernel_rfl) rfl 31 4 40 (by kernel_rfl) (by kernel_rfl) (by kernel_rfl) (k4) (by kernel_rfl) ow5 0 ((lex t).1.length) ca2 (by kernel_rfl) ((((hgg2.ext x12).upd1 u5 (by omega)).ext x13).upd g1 (fun e => by have := ((Gx.own_empty (size := 4) b13)).lt _ e.symm; omega)) (tokCells (lex t).1) (all_toks htt2) (tokCells_len _) (tokCells_one _) (by first | (unfold maxLen; omega) | omega) (by first | (unfold maxLen; omega) | omega) (by omega) (fun v6 w22 ow6 g2 nl2 => ?_))
  have zw22 := g2.size
  refine Gx.pure [9] [] [(14, v6)] rfl (by kernel_rfl) ?_
  refine Gx.ops_end ?_
  refine Gx.cut (d' := []) (n' := 146) (fun l' w' => l' = [(4, .bool (((((lex ((s ++ (⟨#[10]⟩ : ByteArray)) ++ t)).2.1 : Nat) : Int) == (0 : Int)) || false))] ∧ Gx.Ext w22 w') (fun K5 hK5 => ?_) (fun bb5 ll5 w23 hI5 => ?_)
  · refine Gx.reg [0, 1, 2, 3, 4, 5, 6, 7, 8] (by kernel_rfl) ?_
    refine Gx.pure [0] [1, 2, 3, 4, 5, 6, 7, 8] [(138, .pointer (some ⟨k3, 0, none⟩))] rfl (by kernel_rfl) ?_
    refine Gx.cons (Gx.op_load rfl (by kernel_rfl) rfl 0 (.int .i64 (((lex ((s ++ (⟨#[10]⟩ : ByteArray)) ++ t)).2.1 : Nat) : Int)) (by kernel_rfl) (((b12.ext x13).upd g1 (fun e => by have := ((Gx.own_empty (size := 4) b13)).lt _ e.symm; omega)).upd g2 (fun e => by have := (ow5).lt _ e.symm; omega)) (by kernel_rfl) ?_)
    refine Gx.pure [2, 3] [4, 5, 6, 7, 8] [(141, .bool ((((lex ((s ++ (⟨#[10]⟩ : ByteArray)) ++ t)).2.1 : Nat) : Int) == (0 : Int))), (140, .bool ((((lex ((s ++ (⟨#[10]⟩ : ByteArray)) ++ t)).2.1 : Nat) : Int) == (0 : Int)))] rfl (by kernel_rfl) ?_
    refine Gx.split ((((lex ((s ++ (⟨#[10]⟩ : ByteArray)) ++ t)).2.1 : Nat) : Int) == (0 : Int)) (fun h_g141 => ?_) (fun h_g141 => ?_)
    · rw [h_g141]
      refine Gx.pure [4, 5] [6, 7, 8] [(143, v6), (142, v4)] rfl (by kernel_rfl) ?_
      have p_g141 := h_g141; try simp at p_g141
      have hal := hbo
      have hall : _ = _ := congrArg List.length hal.2
      simp only [List.length_map, List.length_append] at hall
      refine Gx.cons (Gx.op_call rfl (by kernel_rfl) (by kernel_rfl) (fun R hR => alike_c ((lex ((s ++ (⟨#[10]⟩ : ByteArray)) ++ t)).1) ((lex s).1.dropLast ++ (lex t).1) _ R (Tk.own (Gx.own_updr (Gx.own_updr (Gx.own_ext (Gx.own_upd1 ow4 u5 (fun q e => by have := ow4.lt q e; omega)) x13) g1 (fun q e j e' => by have := (ow4).lt q e; have := ((Gx.own_empty (size := 4) b13)).lt j e'; omega)) g2 (fun q e j e' => by have := (ow4).lt q e; have := (ow5).lt j e'; omega)) rfl rfl (by omega)) (Tk.own ow6 (by simp) (by rw [tokCells_append, List.nil_append]) (by simp; omega)) hal.2 (fun w24 x14  => hR _ _ ?_)))
      have zw24 := x14.size
      refine Gx.pure [7, 8] [] [(4, .bool true), (145, .bool true)] rfl (by kernel_rfl) ?_
      refine Gx.ops_end ?_
      rw [Gx.forget [(4, .bool (((((lex ((s ++ (⟨#[10]⟩ : ByteArray)) ++ t)).2.1 : Nat) : Int) == (0 : Int)) || false))] (by rw [h_g141]; try kernel_rfl)]
      exact hK5 _ _ _ ⟨rfl, ((Gx.Ext.refl w22).trans x14)⟩
    rw [h_g141]
    have p_g141 := h_g141; try simp at p_g141
    exfalso; have hal := hbo.1; omega
  obtain ⟨rfl, x15⟩ := hI5
  have zw23 := x15.size
  refine wp_ret ?_
  refine Gx.ret (v := .bool (((((lex ((s ++ (⟨#[10]⟩ : ByteArray)) ++ t)).2.1 : Nat) : Int) == (0 : Int)) || false)) (Gx.res1 rfl (by kernel_rfl)) ?_
  exact Gx.ret_as (v' := .bool true) (by rw [hbo.1]; rfl) (hK _ ((((((((((((Gx.Ext.refl w).trans x6).trans x8).trans x9).upd1 u4 (by omega)).trans x11).trans x12).upd1 u5 (by omega)).trans x13).upd g1 (fun j e => by have := ((Gx.own_empty (size := 4) b13)).lt j e; omega)).upd g2 (fun j e => by have := (ow5).lt j e; omega)).trans x15))

end Go.Proofs.Ytiimlomgpmgecaa
