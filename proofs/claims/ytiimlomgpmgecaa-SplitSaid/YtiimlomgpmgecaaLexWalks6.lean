/- The walks of the lexer's functions, written by a program of ours (wip/gx/gx.py, wip/lexer/lexgen.py). -/
import Derived.Test.YtiimlomgpmgecaaRows
import Derived.Test.YtiimlomgpmgecaaGx
import Derived.Test.YtiimlomgpmgecaaLexPlain
import Derived.Test.YtiimlomgpmgecaaLexWalks1
import Derived.Test.YtiimlomgpmgecaaLexWalks2
import Derived.Test.YtiimlomgpmgecaaLexWalks3
import Derived.Test.YtiimlomgpmgecaaLexWalks4
import Derived.Test.YtiimlomgpmgecaaLexWalks5
namespace Go.Proofs.Ytiimlomgpmgecaa
open Go.RowKit Go.Lex
attribute [local irreducible] Go.wpOps Go.Code.wp Go.wpOp Go.wpAnyH Go.Calls
set_option maxHeartbeats 400000 in
set_option maxRecDepth 10000 in
theorem same_nil (a : Option Addr) (ca : Nat) (a' : Option Addr) (ca' : Nat) (w : World) (K : Ending → World → Prop)  (hK : ∀ w', Gx.Ext w w' → K (.returned (.bool true)) w') :
    Calls Try.prog 7 #[.slice a 0 ca, .slice a' 0 ca'] w K := by
  refine Gx.enter 26 Try.func7 rfl rfl (Nat.le_of_ble_eq_true rfl) ?_
  refine Gx.seq_run [(4, .bool false)] (by kernel_rfl) ?_
  refine wp_seq ?_
  refine Gx.seq_run [(10, .bool false), (9, .int .i64 0), (8, .slice a' 0 ca'), (7, .int .i64 0), (6, .slice a 0 ca)] (by kernel_rfl) ?_
  refine Gx.cond_f (by kernel_rfl) ?_
  refine wp_skip ?_
  refine Gx.then_normal ?_
  refine wp_seq ?_
  refine Gx.seq_run [(5, .int .i64 0)] (by kernel_rfl) ?_
  refine wp_block ?_
  refine Gx.loop (n' := 26) (d' := []) (fun mz l' w' => l' = [(0, .slice a 0 ca), (1, .slice a' 0 ca'), (5, .int .i64 0)] ∧ mz = 0 ∧ Gx.Ext w w') _ _ [(0, .slice a 0 ca), (1, .slice a' 0 ca'), (5, .int .i64 0)] (Gx.forget [(0, .slice a 0 ca), (1, .slice a' 0 ca'), (5, .int .i64 0)] (by kernel_rfl)) ⟨rfl, rfl, (Gx.Ext.refl w)⟩ (fun bb1 m1 ll1 w1 hI1 K1 hK1 => ?_)
  obtain ⟨rfl, rfl, x1⟩ := hI1
  have zw1 := x1.size
  refine wp_seq ?_
  refine Gx.seq_run [(14, .bool false), (13, .int .i64 0), (12, .slice a 0 ca), (11, .int .i64 0)] (by kernel_rfl) ?_
  refine Gx.cond_f (by kernel_rfl) ?_
  refine wp_exit ?_
  refine Gx.then_exit ?_
  refine Gx.then_exit ?_
  refine Gx.block_exit ?_
  refine Gx.then_normal ?_
  refine Gx.seq_run [(4, .bool true)] (by kernel_rfl) ?_
  refine wp_ret ?_
  refine Gx.ret (v := .bool true) (Gx.res1 rfl (by kernel_rfl)) ?_
  exact Gx.ret_as (v' := .bool true) (by rfl) (hK _ ((Gx.Ext.refl w).trans x1))

set_option maxHeartbeats 400000 in
set_option maxRecDepth 10000 in
theorem same_go (l : List Nx) (g ca : Nat) (cs : Array Value) (g' ca' : Nat) (cs' : Array Value) (w : World) (K : Ending → World → Prop) (hl : l.length ≤ 9223372036854775807) (hg : Gx.Has w g (.cells cs 31)) (hc : l.length * 4 ≤ cs.size) (ht : cs.toList.take (l.length * 4) = tokCells l) (hg' : Gx.Has w g' (.cells cs' 31)) (hc' : l.length * 4 ≤ cs'.size) (ht' : cs'.toList.take (l.length * 4) = tokCells l) (hK : ∀ w', Gx.Ext w w' → K (.returned (.bool true)) w') :
    Calls Try.prog 7 #[.slice (some ⟨g, 0, none⟩) l.length ca, .slice (some ⟨g', 0, none⟩) l.length ca'] w K := by
  refine Gx.enter 26 Try.func7 rfl rfl (Nat.le_of_ble_eq_true rfl) ?_
  refine Gx.seq_run [(4, .bool false)] (by kernel_rfl) ?_
  refine wp_seq ?_
  refine Gx.seq_run [(10, .bool (((l.length : Nat) : Int) != ((l.length : Nat) : Int))), (9, .int .i64 ((l.length : Nat) : Int)), (8, .slice (some ⟨g', 0, none⟩) l.length ca'), (7, .int .i64 ((l.length : Nat) : Int)), (6, .slice (some ⟨g, 0, none⟩) l.length ca)] (by kernel_rfl) ?_
  refine Gx.cond (((l.length : Nat) : Int) != ((l.length : Nat) : Int)) (by kernel_rfl) (fun h_c10 => ?_) (fun h_c10 => ?_)
  · skip
    have p_c10 := h_c10; try simp at p_c10
    try exact absurd h_c10 (by simp)
  refine wp_skip ?_
  refine Gx.then_normal ?_
  refine wp_seq ?_
  refine Gx.seq_run [(5, .int .i64 0)] (by kernel_rfl) ?_
  refine wp_block ?_
  have p_c10 := h_c10; try simp at p_c10
  refine Gx.loop (n' := 26) (d' := []) (fun mz l' w' => ∃ (k : Nat), l' = [(0, .slice (some ⟨g, 0, none⟩) l.length ca), (1, .slice (some ⟨g', 0, none⟩) l.length ca'), (5, .int .i64 ((k : Nat) : Int))] ∧ mz = l.length - k ∧ Gx.Ext w w' ∧ Gx.Has w' g (.cells cs 31) ∧ Gx.Has w' g' (.cells cs' 31) ∧ (k ≤ l.length)) _ _ [(0, .slice (some ⟨g, 0, none⟩) l.length ca), (1, .slice (some ⟨g', 0, none⟩) l.length ca'), (5, .int .i64 ((0 : Nat) : Int))] (Gx.forget [(0, .slice (some ⟨g, 0, none⟩) l.length ca), (1, .slice (some ⟨g', 0, none⟩) l.length ca'), (5, .int .i64 ((0 : Nat) : Int))] (by kernel_rfl)) ⟨0, rfl, rfl, (Gx.Ext.refl w), hg, hg', (by omega)⟩ (fun bb1 m1 ll1 w1 hI1 K1 hK1 => ?_)
  obtain ⟨k, rfl, rfl, x1, b1, b2, hk⟩ := hI1
  have zw1 := x1.size
  have tb1 := b1.lt
  have tb2 := b2.lt
  refine wp_seq ?_
  refine Gx.seq_run [(14, .bool (decide (((k : Nat) : Int) < ((l.length : Nat) : Int)))), (13, .int .i64 ((l.length : Nat) : Int)), (12, .slice (some ⟨g, 0, none⟩) l.length ca), (11, .int .i64 ((k : Nat) : Int))] (by kernel_rfl) ?_
  refine Gx.cond (decide (((k : Nat) : Int) < ((l.length : Nat) : Int))) (by kernel_rfl) (fun h_c14 => ?_) (fun h_c14 => ?_)
  · skip
    refine wp_skip ?_
    refine Gx.then_normal ?_
    refine wp_seq ?_
    refine wp_block ?_
    refine wp_seq ?_
    refine Gx.draw (S := fun w' => Gx.Has w' g (.cells cs 31) ∧ Gx.Has w' g' (.cells cs' 31)) (by kernel_rfl) (fun w2 x2 => ?_)
    have zw2 := x2.size
    refine Gx.any_take 0 (.slice (some ⟨g, 0, none⟩) l.length ca) rfl (by kernel_rfl) (by kernel_rfl) (by kernel_rfl) (fun _ _ _ h => h) ⟨(b1.ext x2), (b2.ext x2)⟩ (by kernel_rfl) (fun _ _ => (by kernel_rfl)) ?_
    refine Gx.any_take 1 (.int .i64 ((k : Nat) : Int)) rfl (by kernel_rfl) (by kernel_rfl) (by kernel_rfl) (fun _ _ _ h => h) ⟨(b1.ext x2), (b2.ext x2)⟩ (by kernel_rfl) (fun _ _ => (by kernel_rfl)) ?_
    have p_c14 := h_c14; try simp at p_c14
    refine Gx.any_take 2 (.pointer (some ⟨g, 0 + k * 4, none⟩)) rfl (by kernel_rfl) (by kernel_rfl) (by kernel_rfl) (fun _ _ _ h => h) ⟨(b1.ext x2), (b2.ext x2)⟩ (by kernel_rfl) (fun _ _ => Gx.run_indexAddr rfl 31 4 (by kernel_rfl) (by kernel_rfl) 0 l.length ca (by kernel_rfl) .i64 k (by kernel_rfl) (by omega)) ?_
    refine Gx.any_take 3 (.agg #[.int .i64 (((nxAt l k).kind : Nat) : Int), .int .i64 (((nxAt l k).at_ : Nat) : Int), .string ((nxAt l k).text), .int .i64 (((nxAt l k).n : Nat) : Int)]) rfl (by kernel_rfl) (by kernel_rfl) (by kernel_rfl) (fun _ _ _ h => h) ⟨(b1.ext x2), (b2.ext x2)⟩ (by kernel_rfl) (fun _ hs => Gx.run_load rfl (0 + k * 4) (.agg #[.int .i64 (((nxAt l k).kind : Nat) : Int), .int .i64 (((nxAt l k).at_ : Nat) : Int), .string ((nxAt l k).text), .int .i64 (((nxAt l k).n : Nat) : Int)]) (by kernel_rfl) hs.1 (loadB_tok ⟨_, rfl⟩ (by kernel_rfl) ht hc (by omega))) ?_
    refine Gx.any_take 4 (.slice (some ⟨g', 0, none⟩) l.length ca') rfl (by kernel_rfl) (by kernel_rfl) (by kernel_rfl) (fun _ _ _ h => h) ⟨(b1.ext x2), (b2.ext x2)⟩ (by kernel_rfl) (fun _ _ => (by kernel_rfl)) ?_
    refine Gx.any_take 5 (.int .i64 ((k : Nat) : Int)) rfl (by kernel_rfl) (by kernel_rfl) (by kernel_rfl) (fun _ _ _ h => h) ⟨(b1.ext x2), (b2.ext x2)⟩ (by kernel_rfl) (fun _ _ => (by kernel_rfl)) ?_
    refine Gx.any_take 6 (.pointer (some ⟨g', 0 + k * 4, none⟩)) rfl (by kernel_rfl) (by kernel_rfl) (by kernel_rfl) (fun _ _ _ h => h) ⟨(b1.ext x2), (b2.ext x2)⟩ (by kernel_rfl) (fun _ _ => Gx.run_indexAddr rfl 31 4 (by kernel_rfl) (by kernel_rfl) 0 l.length ca' (by kernel_rfl) .i64 k (by kernel_rfl) (by omega)) ?_
    refine Gx.any_take 7 (.agg #[.int .i64 (((nxAt l k).kind : Nat) : Int), .int .i64 (((nxAt l k).at_ : Nat) : Int), .string ((nxAt l k).text), .int .i64 (((nxAt l k).n : Nat) : Int)]) rfl (by kernel_rfl) (by kernel_rfl) (by kernel_rfl) (fun _ _ _ h => h) ⟨(b1.ext x2), (b2.ext x2)⟩ (by kernel_rfl) (fun _ hs => Gx.run_load rfl (0 + k * 4) (.agg #[.int .i64 (((nxAt l k).kind : Nat) : Int), .int .i64 (((nxAt l k).at_ : Nat) : Int), .string ((nxAt l k).text), .int .i64 (((nxAt l k).n : Nat) : Int)]) (by kernel_rfl) hs.2 (loadB_tok ⟨_, rfl⟩ (by kernel_rfl) ht' hc' (by omega))) ?_
    refine Gx.any_take 8 (.bool (!(((((nxAt l k).kind : Nat) : Int) == (((nxAt l k).kind : Nat) : Int)) && (((((nxAt l k).at_ : Nat) : Int) == (((nxAt l k).at_ : Nat) : Int)) && ((((nxAt l k).text).toList == ((nxAt l k).text).toList) && (((((nxAt l k).n : Nat) : Int) == (((nxAt l k).n : Nat) : Int)) && true)))))) rfl (by kernel_rfl) (by kernel_rfl) (by kernel_rfl) (fun _ _ _ h => h) ⟨(b1.ext x2), (b2.ext x2)⟩ (by kernel_rfl) (fun _ _ => (Gx.run_neq_struct rfl #[.int .i64 (((nxAt l k).kind : Nat) : Int), .int .i64 (((nxAt l k).at_ : Nat) : Int), .string ((nxAt l k).text), .int .i64 (((nxAt l k).n : Nat) : Int)] #[.int .i64 (((nxAt l k).kind : Nat) : Int), .int .i64 (((nxAt l k).at_ : Nat) : Int), .string ((nxAt l k).text), .int .i64 (((nxAt l k).n : Nat) : Int)] (((((nxAt l k).kind : Nat) : Int) == (((nxAt l k).kind : Nat) : Int)) && (((((nxAt l k).at_ : Nat) : Int) == (((nxAt l k).at_ : Nat) : Int)) && ((((nxAt l k).text).toList == ((nxAt l k).text).toList) && (((((nxAt l k).n : Nat) : Int) == (((nxAt l k).n : Nat) : Int)) && true)))) (by kernel_rfl) (by kernel_rfl) (by kernel_rfl) (by kernel_rfl) (by kernel_rfl) (by kernel_rfl))) ?_
    refine Gx.any_done (by kernel_rfl) ?_
    refine Gx.then_normal ?_
    refine Gx.cond (!(((((nxAt l k).kind : Nat) : Int) == (((nxAt l k).kind : Nat) : Int)) && (((((nxAt l k).at_ : Nat) : Int) == (((nxAt l k).at_ : Nat) : Int)) && ((((nxAt l k).text).toList == ((nxAt l k).text).toList) && (((((nxAt l k).n : Nat) : Int) == (((nxAt l k).n : Nat) : Int)) && true))))) (by kernel_rfl) (fun h_c25 => ?_) (fun h_c25 => ?_)
    · skip
      have p_c25 := h_c25; try simp at p_c25
      try exact absurd h_c25 (by simp)
    refine wp_skip ?_
    refine Gx.block_normal ?_
    refine Gx.then_normal ?_
    refine Gx.reg [0, 1, 2] (by kernel_rfl) ?_
    refine Gx.pure [0] [1, 2] [(15, .int .i64 ((k : Nat) : Int))] rfl (by kernel_rfl) ?_
    have p_c25 := h_c25; try simp at p_c25
    refine Gx.pure_eq [1] [2] [(16, .int .i64 (IntKind.i64.wrap (((k : Nat) : Int) + (1 : Int))))] [(16, .int .i64 ((k + 1 : Nat) : Int))] rfl (by kernel_rfl) (Gx.eqI (Gx.i64n (by omega) (by omega))) ?_
    refine Gx.pure [2] [] [(5, .int .i64 ((k + 1 : Nat) : Int))] rfl (by kernel_rfl) ?_
    refine Gx.ops_nil ?_
    refine Gx.then_normal ?_
    rw [Gx.forget [(0, .slice (some ⟨g, 0, none⟩) l.length ca), (1, .slice (some ⟨g', 0, none⟩) l.length ca'), (5, .int .i64 ((k + 1 : Nat) : Int))] (by kernel_rfl)]
    exact hK1 _ _ _ _ (by omega) ⟨k + 1, rfl, rfl, (((Gx.Ext.refl w).trans x1).trans x2), (b1.ext x2), (b2.ext x2), (by omega)⟩
  refine wp_exit ?_
  refine Gx.then_exit ?_
  refine Gx.then_exit ?_
  refine Gx.block_exit ?_
  refine Gx.then_normal ?_
  refine Gx.seq_run [(4, .bool true)] (by kernel_rfl) ?_
  refine wp_ret ?_
  refine Gx.ret (v := .bool true) (Gx.res1 rfl (by kernel_rfl)) ?_
  have p_c14 := h_c14; try simp at p_c14
  exact Gx.ret_as (v' := .bool true) (by rfl) (hK _ ((Gx.Ext.refl w).trans x1))

theorem same_c (l : List Nx) (va vb : Value) {ba bb : Nat} (w : World) (K : Ending → World → Prop) (ha : w.ownsRow ba 31 4 va l.length (tokCells l)) (hb : w.ownsRow bb 31 4 vb l.length (tokCells l))
    (hK : ∀ w', Gx.Ext w w' → K (.returned (.bool true)) w') : Calls Try.prog 7 #[va, vb] w K := by
  obtain ⟨_, a, ca, rfl, h1⟩ := Gx.own_shape ha
  obtain ⟨_, a', ca', rfl, h2⟩ := Gx.own_shape hb
  by_cases hn : 0 < l.length
  · obtain ⟨g, cs, rfl, _, hg, hc, ht⟩ := h1 hn
    obtain ⟨g', cs', rfl, _, hg', hc', ht'⟩ := h2 hn
    exact same_go l g ca cs g' ca' cs' w K (Gx.own_le ha) hg hc ht hg' hc' ht' hK
  · have e : l.length = 0 := by omega
    rw [e]
    exact same_nil a ca a' ca' w K hK

set_option maxHeartbeats 400000 in
set_option maxRecDepth 10000 in
theorem Tokens_c (s : ByteArray) (w : World) (K : Ending → World → Prop)  (hK : ∀ w', Gx.Ext w w' → K (.returned (.bool true)) w') :
    Calls Try.prog 3 #[.string s] w K := by
  refine Gx.enter 25 Try.func3 rfl rfl (Nat.le_of_ble_eq_true rfl) ?_
  refine Gx.seq_run [(2, .bool false)] (by kernel_rfl) ?_
  refine Gx.seq_reg [0, 1, 2, 3, 4, 5, 6, 7] (by kernel_rfl) ?_
  refine Gx.pure [0] [1, 2, 3, 4, 5, 6, 7] [(8, .string s)] rfl (by kernel_rfl) ?_
  refine Gx.cons (Gx.op_call rfl (by kernel_rfl) (by kernel_rfl) (fun R hR => pTokens_c s _ R  (fun w1 x1 v1 ow1 => hR _ _ ?_)))
  have zw1 := x1.size
  refine Gx.pure [2, 3, 4] [5, 6, 7] [(11, .agg #[.int .i64 (((lex s).2.1 : Nat) : Int), .int .i64 (((lex s).2.2 : Nat) : Int)]), (10, v1), (7, .tuple #[v1, .agg #[.int .i64 (((lex s).2.1 : Nat) : Int), .int .i64 (((lex s).2.2 : Nat) : Int)]])] rfl (by kernel_rfl) ?_
  refine Gx.cons (Gx.op_new (.cells #[.int .i64 0, .int .i64 0] 25) rfl (by kernel_rfl) (by kernel_rfl) (fun k1 w2 l1 x2 b1 => ?_))
  have zw2 := x2.size
  have tb1 := b1.lt
  refine Gx.pure [6] [7] [(3, v1)] rfl (by kernel_rfl) ?_
  refine Gx.cons (Gx.op_store rfl (by kernel_rfl) rfl 0 (.agg #[.int .i64 (((lex s).2.1 : Nat) : Int), .int .i64 (((lex s).2.2 : Nat) : Int)]) (by kernel_rfl) (by kernel_rfl) b1 (by kernel_rfl) (by kernel_rfl) (by kernel_rfl) #[.int .i64 (((lex s).2.1 : Nat) : Int), .int .i64 (((lex s).2.2 : Nat) : Int)] (by kernel_rfl) (fun w3 u1 b2 => ?_))
  have zw3 := u1.size
  refine Gx.ops_end ?_
  refine Gx.seq_reg [0, 1, 2, 3, 4, 5, 6, 7] (by kernel_rfl) ?_
  refine Gx.pure [0] [1, 2, 3, 4, 5, 6, 7] [(13, .string s)] rfl (by kernel_rfl) ?_
  refine Gx.cons (Gx.op_call rfl (by kernel_rfl) (by kernel_rfl) (fun R hR => rTokens_c s _ R  (fun w4 x3 v2 ow2 => hR _ _ ?_)))
  have zw4 := x3.size
  refine Gx.pure [2, 3, 4] [5, 6, 7] [(16, .agg #[.int .i64 (((lex s).2.1 : Nat) : Int), .int .i64 (((lex s).2.2 : Nat) : Int)]), (15, v2), (12, .tuple #[v2, .agg #[.int .i64 (((lex s).2.1 : Nat) : Int), .int .i64 (((lex s).2.2 : Nat) : Int)]])] rfl (by kernel_rfl) ?_
  refine Gx.cons (Gx.op_new (.cells #[.int .i64 0, .int .i64 0] 25) rfl (by kernel_rfl) (by kernel_rfl) (fun k2 w5 l2 x4 b3 => ?_))
  have zw5 := x4.size
  have tb3 := b3.lt
  refine Gx.pure [6] [7] [(5, v2)] rfl (by kernel_rfl) ?_
  refine Gx.cons (Gx.op_store rfl (by kernel_rfl) rfl 0 (.agg #[.int .i64 (((lex s).2.1 : Nat) : Int), .int .i64 (((lex s).2.2 : Nat) : Int)]) (by kernel_rfl) (by kernel_rfl) b3 (by kernel_rfl) (by kernel_rfl) (by kernel_rfl) #[.int .i64 (((lex s).2.1 : Nat) : Int), .int .i64 (((lex s).2.2 : Nat) : Int)] (by kernel_rfl) (fun w6 u2 b4 => ?_))
  have zw6 := u2.size
  refine Gx.ops_end ?_
  refine Gx.cut (d' := []) (n' := 25) (fun l' w' => l' = [(2, .bool ((((((lex s).2.1 : Nat) : Int) == (((lex s).2.1 : Nat) : Int)) && (((((lex s).2.2 : Nat) : Int) == (((lex s).2.2 : Nat) : Int)) && true)) || false))] ∧ Gx.Ext w6 w') (fun K1 hK1 => ?_) (fun bb1 ll1 w7 hI1 => ?_)
  · refine Gx.reg [0, 1, 2, 3, 4, 5, 6, 7, 8] (by kernel_rfl) ?_
    refine Gx.cons (Gx.op_load rfl (by kernel_rfl) rfl 0 (.agg #[.int .i64 (((lex s).2.1 : Nat) : Int), .int .i64 (((lex s).2.2 : Nat) : Int)]) (by kernel_rfl) (((b2.ext x3).ext x4).upd1 u2 (by omega)) (by kernel_rfl) ?_)
    refine Gx.cons (Gx.op_load rfl (by kernel_rfl) rfl 0 (.agg #[.int .i64 (((lex s).2.1 : Nat) : Int), .int .i64 (((lex s).2.2 : Nat) : Int)]) (by kernel_rfl) b4 (by kernel_rfl) ?_)
    refine Gx.cons (Gx.op_val rfl (by kernel_rfl) (Gx.run_eql_struct rfl #[.int .i64 (((lex s).2.1 : Nat) : Int), .int .i64 (((lex s).2.2 : Nat) : Int)] #[.int .i64 (((lex s).2.1 : Nat) : Int), .int .i64 (((lex s).2.2 : Nat) : Int)] (((((lex s).2.1 : Nat) : Int) == (((lex s).2.1 : Nat) : Int)) && (((((lex s).2.2 : Nat) : Int) == (((lex s).2.2 : Nat) : Int)) && true)) (by kernel_rfl) (by kernel_rfl) (by kernel_rfl) (by kernel_rfl) (by kernel_rfl) (by kernel_rfl)) ?_)
    refine Gx.pure [3] [4, 5, 6, 7, 8] [(20, .bool (((((lex s).2.1 : Nat) : Int) == (((lex s).2.1 : Nat) : Int)) && (((((lex s).2.2 : Nat) : Int) == (((lex s).2.2 : Nat) : Int)) && true)))] rfl (by kernel_rfl) ?_
    refine Gx.split (((((lex s).2.1 : Nat) : Int) == (((lex s).2.1 : Nat) : Int)) && (((((lex s).2.2 : Nat) : Int) == (((lex s).2.2 : Nat) : Int)) && true)) (fun h_g20 => ?_) (fun h_g20 => ?_)
    · rw [h_g20]
      refine Gx.pure [4, 5] [6, 7, 8] [(22, v2), (21, v1)] rfl (by kernel_rfl) ?_
      have p_g20 := h_g20; try simp at p_g20
      refine Gx.cons (Gx.op_call rfl (by kernel_rfl) (by kernel_rfl) (fun R hR => same_c (lex s).1 v1 v2 _ R (Gx.own_upd1 (Gx.own_ext (Gx.own_ext (Gx.own_upd1 (Gx.own_ext ow1 x2) u1 (fun q e => by have := ow1.lt q e; omega)) x3) x4) u2 (fun q e => by have := ow1.lt q e; omega)) (Gx.own_upd1 (Gx.own_ext ow2 x4) u2 (fun q e => by have := ow2.lt q e; omega)) (fun w8 x5  => hR _ _ ?_)))
      have zw8 := x5.size
      refine Gx.pure [7, 8] [] [(2, .bool true), (24, .bool true)] rfl (by kernel_rfl) ?_
      refine Gx.ops_end ?_
      rw [Gx.forget [(2, .bool ((((((lex s).2.1 : Nat) : Int) == (((lex s).2.1 : Nat) : Int)) && (((((lex s).2.2 : Nat) : Int) == (((lex s).2.2 : Nat) : Int)) && true)) || false))] (by rw [h_g20]; try kernel_rfl)]
      exact hK1 _ _ _ ⟨rfl, ((Gx.Ext.refl w6).trans x5)⟩
    rw [h_g20]
    refine Gx.pure [4, 5, 6, 7, 8] [] [(2, .bool false), (24, .bool false), (23, undef), (22, undef), (21, undef)] rfl (by kernel_rfl) ?_
    refine Gx.ops_end ?_
    rw [Gx.forget [(2, .bool ((((((lex s).2.1 : Nat) : Int) == (((lex s).2.1 : Nat) : Int)) && (((((lex s).2.2 : Nat) : Int) == (((lex s).2.2 : Nat) : Int)) && true)) || false))] (by rw [h_g20]; try kernel_rfl)]
    exact hK1 _ _ _ ⟨rfl, (Gx.Ext.refl w6)⟩
  obtain ⟨rfl, x6⟩ := hI1
  have zw7 := x6.size
  refine wp_ret ?_
  refine Gx.ret (v := .bool ((((((lex s).2.1 : Nat) : Int) == (((lex s).2.1 : Nat) : Int)) && (((((lex s).2.2 : Nat) : Int) == (((lex s).2.2 : Nat) : Int)) && true)) || false)) (Gx.res1 rfl (by kernel_rfl)) ?_
  exact Gx.ret_as (v' := .bool true) (by simp) (hK _ ((((((((Gx.Ext.refl w).trans x1).trans x2).upd1 u1 (by omega)).trans x3).trans x4).upd1 u2 (by omega)).trans x6))

end Go.Proofs.Ytiimlomgpmgecaa
