/- The walks of the lexer's functions, written by a program of ours (wip/gx/gx.py, wip/lexer/lexgen.py). -/
import Derived.Test.YtiimlomgpmgecaaGy
import Derived.Test.YtiimlomgpmgecaaLexSplit
import Derived.Test.YtiimlomgpmgecaaLexWalks1
import Derived.Test.YtiimlomgpmgecaaLexWalks2
import Derived.Test.YtiimlomgpmgecaaLexWalks3
import Derived.Test.YtiimlomgpmgecaaLexWalks4
import Derived.Test.YtiimlomgpmgecaaLexWalks5
import Derived.Test.YtiimlomgpmgecaaLexWalks6
namespace Go.Proofs.Ytiimlomgpmgecaa
open Go.RowKit Go.Lex
attribute [local irreducible] Go.wpOps Go.Code.wp Go.wpOp Go.wpAnyH Go.Calls
theorem loadB_fld {P : Program} {t : TypeId} {cs : Array Value} {l : List Nx} {k : Nat} (j : Nat) {v : Value} (hu : (∃ kd, P.underlying t = some (.int kd)) ∨ P.underlying t = some .string ∨ P.underlying t = some .bool)
    (hx : cs.toList.take (l.length * 4) = tokCells l) (hk : k < l.length)
    (hv : [Value.int .i64 ((nxAt l k).kind : Int), Value.int .i64 ((nxAt l k).at_ : Int), Value.string (nxAt l k).text, Value.int .i64 ((nxAt l k).n : Int)][j]? = some v) : Gx.loadB P t cs (0 + k * 4 + j) = some v := by
  refine Gx.loadB_cell hu ?_
  have hj : j < 4 := by
    have := (List.getElem?_eq_some_iff.1 hv).1
    simpa using this
  rw [← tokCells_at l k hk, ← hx, List.getElem?_take, if_pos hj, List.getElem?_drop, List.getElem?_take, if_pos (by omega)] at hv
  rw [← Array.getElem?_toList, ← hv]
  congr 1
  omega
theorem tokCells_append (a b : List Nx) : tokCells (a ++ b) = tokCells a ++ tokCells b := by
  induction a with
  | nil => rfl
  | cons x r ih => simp [tokCells, ih]
theorem tokCells_one (l : List Nx) : ∀ u ∈ tokCells l, u.oneCell' = true := by
  induction l with
  | nil => intro u hu; cases hu
  | cons x r ih =>
    intro u hu
    simp only [tokCells, List.mem_cons] at hu
    rcases hu with rfl | rfl | rfl | rfl | hu
    · rfl
    · rfl
    · rfl
    · rfl
    · exact ih u hu
theorem take_toks {cs : Array Value} {l : List Nx} (hx : cs.toList.take (l.length * 4) = tokCells l) : (cs.toList.drop 0).take ((l.length - 1) * 4) = tokCells l.dropLast := by
  rw [List.drop_zero]
  have h : (tokCells l).take ((l.length - 1) * 4) = tokCells l.dropLast := by
    rcases List.eq_nil_or_concat l with rfl | ⟨r, e, rfl⟩
    · rfl
    · rw [List.concat_eq_append, tokCells_append, List.dropLast_concat, List.length_append, List.length_singleton, Nat.add_sub_cancel, ← tokCells_len r, List.take_left]
  rw [← h, ← hx, List.take_take]
  congr 1
  omega
theorem all_toks {cs : Array Value} {l : List Nx} (hx : cs.toList.take (l.length * 4) = tokCells l) : (cs.toList.drop 0).take (l.length * 4) = tokCells l := by
  rw [List.drop_zero]; exact hx
theorem nxAt_sig {la lb : List Nx} (h : la.map sig = lb.map sig) {k : Nat} (hk : k < la.length) : (nxAt la k).kind = (nxAt lb k).kind ∧ (nxAt la k).text = (nxAt lb k).text ∧ (nxAt la k).n = (nxAt lb k).n := by
  have hl : la.length = lb.length := by simpa using congrArg List.length h
  have e : (la.map sig)[k]? = (lb.map sig)[k]? := by rw [h]
  rw [List.getElem?_map, List.getElem?_map, List.getElem?_eq_getElem hk, List.getElem?_eq_getElem (by omega : k < lb.length)] at e
  simp only [Option.map_some, Option.some.injEq, sig, Prod.mk.injEq] at e
  unfold nxAt
  rw [List.getElem?_eq_getElem hk, List.getElem?_eq_getElem (by omega : k < lb.length)]
  exact e
def Tk (w : World) (v : Value) (l : List Nx) : Prop := ∃ g ca cs, v = .slice (some ⟨g, 0, none⟩) l.length ca ∧ Gx.Has w g (.cells cs 31) ∧ l.length * 4 ≤ cs.size ∧ cs.toList.take (l.length * 4) = tokCells l ∧ l.length ≤ 9223372036854775807
theorem Tk.own {w : World} {b n : Nat} {v : Value} {l : List Nx} {xs : List Value} (h : w.ownsRow b 31 4 v n xs) (hn : n = l.length) (hx : xs = tokCells l) (hp : 0 < l.length) : Tk w v l := by
  subst hn hx
  have hle := Gx.own_le h
  obtain ⟨_, a, ca, rfl, h1⟩ := Gx.own_shape h
  obtain ⟨g, cs, rfl, _, hg, hc, ht⟩ := h1 hp
  exact ⟨g, ca, cs, rfl, hg, hc, ht, hle⟩

set_option maxHeartbeats 400000 in
set_option maxRecDepth 10000 in
theorem said_c (x : Nx) (w : World) (K : Ending → World → Prop) (hn : x.n ≤ maxInt) (hK : ∀ w', Gx.Ext w w' → K (.returned (.string (sayB x))) w') :
    Calls Try.prog 8 #[.agg #[.int .i64 ((x.kind : Nat) : Int), .int .i64 ((x.at_ : Nat) : Int), .string x.text, .int .i64 ((x.n : Nat) : Int)]] w K := by
  refine Gx.enter 25 Try.func8 rfl rfl (Nat.le_of_ble_eq_true rfl) ?_
  refine Gx.seq_reg [0, 1] (by kernel_rfl) ?_
  refine Gx.cons (Gx.op_new (.cells #[.int .i64 ((x.kind : Nat) : Int), .int .i64 ((x.at_ : Nat) : Int), .string x.text, .int .i64 ((x.n : Nat) : Int)] 31) rfl (by kernel_rfl) (by kernel_rfl) (fun k1 w1 l1 x1 b1 => ?_))
  have zw1 := x1.size
  have tb1 := b1.lt
  refine Gx.pure [1] [] [(2, .string (⟨#[]⟩ : ByteArray))] rfl (by kernel_rfl) ?_
  refine Gx.ops_end ?_
  refine wp_seq ?_
  refine Gx.seq_reg [0, 1, 2] (by kernel_rfl) ?_
  refine Gx.pure [0] [1, 2] [(5, .pointer (some ⟨k1, 0, none⟩))] rfl (by kernel_rfl) ?_
  refine Gx.cons (Gx.op_load rfl (by kernel_rfl) rfl 0 (.int .i64 ((x.kind : Nat) : Int)) (by kernel_rfl) b1 (by kernel_rfl) ?_)
  refine Gx.pure [2] [] [(7, .bool (((x.kind : Nat) : Int) != (1 : Int)))] rfl (by kernel_rfl) ?_
  refine Gx.ops_end ?_
  refine Gx.cond (((x.kind : Nat) : Int) != (1 : Int)) (by kernel_rfl) (fun h_c7 => ?_) (fun h_c7 => ?_)
  · skip
    refine Gx.seq_reg [0, 1, 2] (by kernel_rfl) ?_
    refine Gx.pure [0] [1, 2] [(8, .pointer (some ⟨k1, 2, none⟩))] rfl (by kernel_rfl) ?_
    refine Gx.cons (Gx.op_load rfl (by kernel_rfl) rfl 2 (.string x.text) (by kernel_rfl) b1 (by kernel_rfl) ?_)
    refine Gx.pure [2] [] [(2, .string x.text)] rfl (by kernel_rfl) ?_
    refine Gx.ops_end ?_
    refine wp_ret ?_
    refine Gx.then_ret ?_
    refine Gx.ret (v := .string x.text) (Gx.res1 rfl (by kernel_rfl)) ?_
    have p_c7 := h_c7; try simp at p_c7
    exact Gx.ret_as (v' := .string (sayB x)) (by unfold sayB; rw [if_neg (by omega)]) (hK _ ((Gx.Ext.refl w).trans x1))
  refine wp_skip ?_
  refine Gx.then_normal ?_
  refine Gx.seq_reg [0, 1, 2] (by kernel_rfl) ?_
  refine Gx.pure [0] [1, 2] [(10, .pointer (some ⟨k1, 3, none⟩))] rfl (by kernel_rfl) ?_
  refine Gx.cons (Gx.op_load rfl (by kernel_rfl) rfl 3 (.int .i64 ((x.n : Nat) : Int)) (by kernel_rfl) b1 (by kernel_rfl) ?_)
  refine Gx.pure [2] [] [(3, .int .i64 ((x.n : Nat) : Int))] rfl (by kernel_rfl) ?_
  refine Gx.ops_end ?_
  refine Gx.seq_run [(4, .string (⟨#[]⟩ : ByteArray))] (by kernel_rfl) ?_
  refine wp_block ?_
  have p_c7 := h_c7; try simp at p_c7
  refine Gx.loop (n' := 25) (d' := []) (fun mz l' w' => ∃ (n : Nat) (s : ByteArray), l' = [(3, .int .i64 ((n : Nat) : Int)), (4, .string s)] ∧ mz = 0 + n ∧ Gx.Ext w w' ∧ Gx.Has w' k1 (.cells #[.int .i64 ((x.kind : Nat) : Int), .int .i64 ((x.at_ : Nat) : Int), .string x.text, .int .i64 ((x.n : Nat) : Int)] 31) ∧ (digB n s = digB x.n ⟨#[]⟩) ∧ (s.size + n ≤ x.n) ∧ (0 < n ∨ s.size = 0)) _ _ [(3, .int .i64 ((x.n : Nat) : Int)), (4, .string (⟨#[]⟩ : ByteArray))] (Gx.forget [(3, .int .i64 ((x.n : Nat) : Int)), (4, .string (⟨#[]⟩ : ByteArray))] (by kernel_rfl)) ⟨x.n, (⟨#[]⟩ : ByteArray), rfl, rfl, ((Gx.Ext.refl w).trans x1), b1, rfl, (by have e1 : (⟨#[]⟩ : ByteArray).size = 0 := rfl; omega), (.inr rfl)⟩ (fun bb1 m1 ll1 w2 hI1 K1 hK1 => ?_)
  obtain ⟨n, s, rfl, rfl, x2, b2, hd, hz, h0⟩ := hI1
  have zw2 := x2.size
  have tb2 := b2.lt
  refine wp_block ?_
  refine Gx.seq_reg [0, 1, 2, 3, 4, 5, 6, 7, 8] (by kernel_rfl) ?_
  refine Gx.pure [0] [1, 2, 3, 4, 5, 6, 7, 8] [(12, .int .i64 ((n : Nat) : Int))] rfl (by kernel_rfl) ?_
  refine Gx.pure_eq [1] [2, 3, 4, 5, 6, 7, 8] [(13, .int .i64 (Int.tmod ((n : Nat) : Int) (10 : Int)))] [(13, .int .i64 ((n % 10 : Nat) : Int))] rfl (by kernel_rfl) (Gx.eqI (by rw [IntWalk.rem_in _ _ (by omega)]; omega)) ?_
  refine Gx.pure_eq [2] [3, 4, 5, 6, 7, 8] [(14, .int .i64 (IntKind.i64.wrap ((48 : Int) + ((n % 10 : Nat) : Int))))] [(14, .int .i64 ((48 + (n % 10) : Nat) : Int))] rfl (by kernel_rfl) (Gx.eqI (Gx.i64n (by omega) (by unfold maxInt at hn; omega))) ?_
  refine Gx.pure_eq [3] [4, 5, 6, 7, 8] [(15, .int .u8 (IntKind.u8.wrap ((48 + (n % 10) : Nat) : Int)))] [(15, .int .u8 ((48 + (n % 10) : Nat) : Int))] rfl (by kernel_rfl) (Gx.eqI (IntWalk.u8_in _ (by unfold maxInt at hn; omega))) ?_
  refine Gx.cons (Gx.op_row (.cells #[.int .u8 ((48 + (n % 10) : Nat) : Int)] 5) 1 1 rfl (by kernel_rfl) (by kernel_rfl) (fun k2 w3 l2 x3 b3 => ?_))
  have zw3 := x3.size
  have tb3 := b3.lt
  refine Gx.cons (Gx.op_bstr rfl (by kernel_rfl) rfl 5 (by kernel_rfl) (by kernel_rfl) (by kernel_rfl) 0 1 1 (by kernel_rfl) b3 [UInt8.ofNat (48 + (n % 10))] rfl (Gx.bstr1 (by unfold maxInt at hn; omega)) ?_)
  refine Gx.pure [6] [7, 8] [(18, .string s)] rfl (by kernel_rfl) ?_
  refine Gx.cons (Gx.op_concat rfl (by kernel_rfl) rfl (⟨#[UInt8.ofNat (48 + (n % 10))]⟩ : ByteArray) s (by kernel_rfl) (by kernel_rfl) (by have e1 : (⟨#[UInt8.ofNat (48 + (n % 10))]⟩ : ByteArray).size = 1 := rfl; rw [e1]; unfold maxInt at hn; omega) ?_)
  refine Gx.pure [8] [] [(4, .string ((⟨#[UInt8.ofNat (48 + (n % 10))]⟩ : ByteArray) ++ s))] rfl (by kernel_rfl) ?_
  refine Gx.ops_end ?_
  refine Gx.seq_reg [0, 1, 2] (by kernel_rfl) ?_
  refine Gx.pure [0] [1, 2] [(20, .int .i64 ((n : Nat) : Int))] rfl (by kernel_rfl) ?_
  refine Gx.pure_eq [1] [2] [(21, .int .i64 (IntKind.i64.wrap (Int.tdiv ((n : Nat) : Int) (10 : Int))))] [(21, .int .i64 ((n / 10 : Nat) : Int))] rfl (by kernel_rfl) (Gx.eqI (IntWalk.i64_quo _ _ (by unfold maxInt at hn; omega))) ?_
  refine Gx.pure [2] [] [(3, .int .i64 ((n / 10 : Nat) : Int))] rfl (by kernel_rfl) ?_
  refine Gx.ops_end ?_
  refine Gx.seq_run [(23, .bool (((n / 10 : Nat) : Int) == (0 : Int))), (22, .int .i64 ((n / 10 : Nat) : Int))] (by kernel_rfl) ?_
  refine Gx.cond (((n / 10 : Nat) : Int) == (0 : Int)) (by kernel_rfl) (fun h_c23 => ?_) (fun h_c23 => ?_)
  · skip
    refine Gx.seq_run [(2, .string ((⟨#[UInt8.ofNat (48 + (n % 10))]⟩ : ByteArray) ++ s)), (24, .string ((⟨#[UInt8.ofNat (48 + (n % 10))]⟩ : ByteArray) ++ s))] (by kernel_rfl) ?_
    refine wp_ret ?_
    refine Gx.block_ret ?_
    refine Gx.then_ret ?_
    refine Gx.block_ret ?_
    refine Gx.ret (v := .string ((⟨#[UInt8.ofNat (48 + (n % 10))]⟩ : ByteArray) ++ s)) (Gx.res1 rfl (by kernel_rfl)) ?_
    have p_c23 := h_c23; try simp at p_c23
    exact Gx.ret_as (v' := .string (sayB x)) (by unfold sayB; rw [if_pos (by omega), ← hd, digB_end (by omega)]) (hK _ (((Gx.Ext.refl w).trans x2).trans x3))
  refine wp_skip ?_
  refine Gx.block_normal ?_
  refine Gx.then_normal ?_
  have p_c23 := h_c23; try simp at p_c23
  rw [Gx.forget [(3, .int .i64 (((n / 10) : Nat) : Int)), (4, .string ((⟨#[UInt8.ofNat (48 + n % 10)]⟩ : ByteArray) ++ s))] (by kernel_rfl)]
  exact hK1 _ _ _ _ (by omega) ⟨(n / 10), ((⟨#[UInt8.ofNat (48 + n % 10)]⟩ : ByteArray) ++ s), rfl, rfl, (((Gx.Ext.refl w).trans x2).trans x3), (b2.ext x3), (by rw [← hd]; exact (digB_go (by omega)).symm), (by have e1 : (⟨#[UInt8.ofNat (48 + n % 10)]⟩ : ByteArray).size = 1 := rfl; rw [ByteArray.size_append, e1]; omega), (.inl (by omega))⟩

set_option maxHeartbeats 400000 in
set_option maxRecDepth 10000 in
theorem alike_go (la lb : List Nx) (g ca : Nat) (cs : Array Value) (g' ca' : Nat) (cs' : Array Value) (w : World) (K : Ending → World → Prop) (he : la.map sig = lb.map sig) (hl0 : la.length ≤ 9223372036854775807) (hg : Gx.Has w g (.cells cs 31)) (hc : la.length * 4 ≤ cs.size) (ht : cs.toList.take (la.length * 4) = tokCells la) (hg' : Gx.Has w g' (.cells cs' 31)) (hc' : lb.length * 4 ≤ cs'.size) (ht' : cs'.toList.take (lb.length * 4) = tokCells lb) (hK : ∀ w', Gx.Ext w w' → K (.returned (.bool true)) w') :
    Calls Try.prog 9 #[.slice (some ⟨g, 0, none⟩) la.length ca, .slice (some ⟨g', 0, none⟩) lb.length ca'] w K := by
  refine Gx.enter 54 Try.func9 rfl rfl (Nat.le_of_ble_eq_true rfl) ?_
  have hl : la.length = lb.length := by simpa using congrArg List.length he
  refine Gx.seq_run [(4, .bool false)] (by kernel_rfl) ?_
  refine wp_seq ?_
  refine Gx.seq_run [(10, .bool (((la.length : Nat) : Int) != ((lb.length : Nat) : Int))), (9, .int .i64 ((lb.length : Nat) : Int)), (8, .slice (some ⟨g', 0, none⟩) lb.length ca'), (7, .int .i64 ((la.length : Nat) : Int)), (6, .slice (some ⟨g, 0, none⟩) la.length ca)] (by kernel_rfl) ?_
  refine Gx.cond (((la.length : Nat) : Int) != ((lb.length : Nat) : Int)) (by kernel_rfl) (fun h_c10 => ?_) (fun h_c10 => ?_)
  · skip
    have p_c10 := h_c10; try simp at p_c10
    exfalso; omega
  refine wp_skip ?_
  refine Gx.then_normal ?_
  refine wp_seq ?_
  refine Gx.seq_run [(5, .int .i64 0)] (by kernel_rfl) ?_
  refine wp_block ?_
  have p_c10 := h_c10; try simp at p_c10
  refine Gx.loop (n' := 54) (d' := []) (fun mz l' w' => ∃ (k : Nat), l' = [(0, .slice (some ⟨g, 0, none⟩) la.length ca), (1, .slice (some ⟨g', 0, none⟩) lb.length ca'), (5, .int .i64 ((k : Nat) : Int))] ∧ mz = la.length - k ∧ Gx.Ext w w' ∧ Gx.Has w' g (.cells cs 31) ∧ Gx.Has w' g' (.cells cs' 31) ∧ (k ≤ la.length)) _ _ [(0, .slice (some ⟨g, 0, none⟩) la.length ca), (1, .slice (some ⟨g', 0, none⟩) lb.length ca'), (5, .int .i64 ((0 : Nat) : Int))] (Gx.forget [(0, .slice (some ⟨g, 0, none⟩) la.length ca), (1, .slice (some ⟨g', 0, none⟩) lb.length ca'), (5, .int .i64 ((0 : Nat) : Int))] (by kernel_rfl)) ⟨0, rfl, rfl, (Gx.Ext.refl w), hg, hg', (by omega)⟩ (fun bb1 m1 ll1 w1 hI1 K1 hK1 => ?_)
  obtain ⟨k, rfl, rfl, x1, b1, b2, hk⟩ := hI1
  have zw1 := x1.size
  have tb1 := b1.lt
  have tb2 := b2.lt
  refine wp_seq ?_
  refine Gx.seq_run [(14, .bool (decide (((k : Nat) : Int) < ((la.length : Nat) : Int)))), (13, .int .i64 ((la.length : Nat) : Int)), (12, .slice (some ⟨g, 0, none⟩) la.length ca), (11, .int .i64 ((k : Nat) : Int))] (by kernel_rfl) ?_
  refine Gx.cond (decide (((k : Nat) : Int) < ((la.length : Nat) : Int))) (by kernel_rfl) (fun h_c14 => ?_) (fun h_c14 => ?_)
  · skip
    refine wp_skip ?_
    refine Gx.then_normal ?_
    refine wp_seq ?_
    refine wp_block ?_
    refine wp_seq ?_
    refine Gx.splitC ((((nxAt la k).kind : Nat) : Int) != (((nxAt lb k).kind : Nat) : Int)) (fun h_d1 => ?_) (fun h_d1 => ?_)
    · skip
      have p_c14 := h_c14; try simp at p_c14
      have p_d1 := h_d1; try simp at p_d1
      obtain ⟨q1, q2, q3⟩ := nxAt_sig he (k := k) (by omega); exfalso; rw [q1] at h_d1; simp at h_d1
    refine Gx.splitC (!(((nxAt la k).text).toList == ((nxAt lb k).text).toList)) (fun h_d2 => ?_) (fun h_d2 => ?_)
    · skip
      have p_c14 := h_c14; try simp at p_c14
      have p_d1 := h_d1; try simp at p_d1
      have p_d2 := h_d2; try simp at p_d2
      obtain ⟨q1, q2, q3⟩ := nxAt_sig he (k := k) (by omega); exfalso; rw [q2] at h_d2; simp at h_d2
    refine Gx.draw (S := fun w' => Gx.Has w' g (.cells cs 31) ∧ Gx.Has w' g' (.cells cs' 31)) (by kernel_rfl) (fun w2 x2 => ?_)
    have zw2 := x2.size
    refine Gx.any_take 0 (.slice (some ⟨g, 0, none⟩) la.length ca) rfl (by kernel_rfl) (by kernel_rfl) (by kernel_rfl) (fun _ _ _ h => h) ⟨(b1.ext x2), (b2.ext x2)⟩ (by kernel_rfl) (fun _ _ => (by kernel_rfl)) ?_
    refine Gx.any_take 1 (.int .i64 ((k : Nat) : Int)) rfl (by kernel_rfl) (by kernel_rfl) (by kernel_rfl) (fun _ _ _ h => h) ⟨(b1.ext x2), (b2.ext x2)⟩ (by kernel_rfl) (fun _ _ => (by kernel_rfl)) ?_
    have p_c14 := h_c14; try simp at p_c14
    have p_d1 := h_d1; try simp at p_d1
    have p_d2 := h_d2; try simp at p_d2
    refine Gx.any_take 2 (.pointer (some ⟨g, 0 + k * 4, none⟩)) rfl (by kernel_rfl) (by kernel_rfl) (by kernel_rfl) (fun _ _ _ h => h) ⟨(b1.ext x2), (b2.ext x2)⟩ (by kernel_rfl) (fun _ _ => Gx.run_indexAddr rfl 31 4 (by kernel_rfl) (by kernel_rfl) 0 la.length ca (by kernel_rfl) .i64 k (by kernel_rfl) (by omega)) ?_
    refine Gx.any_take 3 (.pointer (some ⟨g, 0 + k * 4 + 0, none⟩)) rfl (by kernel_rfl) (by kernel_rfl) (by kernel_rfl) (fun _ _ _ h => h) ⟨(b1.ext x2), (b2.ext x2)⟩ (by kernel_rfl) (fun _ _ => (by kernel_rfl)) ?_
    refine Gx.any_take 4 (.int .i64 (((nxAt la k).kind : Nat) : Int)) rfl (by kernel_rfl) (by kernel_rfl) (by kernel_rfl) (fun _ _ _ h => h) ⟨(b1.ext x2), (b2.ext x2)⟩ (by kernel_rfl) (fun _ hs => Gx.run_load rfl (0 + k * 4 + 0) (.int .i64 (((nxAt la k).kind : Nat) : Int)) (by kernel_rfl) hs.1 (loadB_fld (l := la) (k := k) 0 (.inl ⟨_, rfl⟩) ht (by omega) rfl)) ?_
    refine Gx.any_take 5 (.slice (some ⟨g', 0, none⟩) lb.length ca') rfl (by kernel_rfl) (by kernel_rfl) (by kernel_rfl) (fun _ _ _ h => h) ⟨(b1.ext x2), (b2.ext x2)⟩ (by kernel_rfl) (fun _ _ => (by kernel_rfl)) ?_
    refine Gx.any_take 6 (.int .i64 ((k : Nat) : Int)) rfl (by kernel_rfl) (by kernel_rfl) (by kernel_rfl) (fun _ _ _ h => h) ⟨(b1.ext x2), (b2.ext x2)⟩ (by kernel_rfl) (fun _ _ => (by kernel_rfl)) ?_
    refine Gx.any_take 7 (.pointer (some ⟨g', 0 + k * 4, none⟩)) rfl (by kernel_rfl) (by kernel_rfl) (by kernel_rfl) (fun _ _ _ h => h) ⟨(b1.ext x2), (b2.ext x2)⟩ (by kernel_rfl) (fun _ _ => Gx.run_indexAddr rfl 31 4 (by kernel_rfl) (by kernel_rfl) 0 lb.length ca' (by kernel_rfl) .i64 k (by kernel_rfl) (by omega)) ?_
    refine Gx.any_take 8 (.pointer (some ⟨g', 0 + k * 4 + 0, none⟩)) rfl (by kernel_rfl) (by kernel_rfl) (by kernel_rfl) (fun _ _ _ h => h) ⟨(b1.ext x2), (b2.ext x2)⟩ (by kernel_rfl) (fun _ _ => (by kernel_rfl)) ?_
    refine Gx.any_take 9 (.int .i64 (((nxAt lb k).kind : Nat) : Int)) rfl (by kernel_rfl) (by kernel_rfl) (by kernel_rfl) (fun _ _ _ h => h) ⟨(b1.ext x2), (b2.ext x2)⟩ (by kernel_rfl) (fun _ hs => Gx.run_load rfl (0 + k * 4 + 0) (.int .i64 (((nxAt lb k).kind : Nat) : Int)) (by kernel_rfl) hs.2 (loadB_fld (l := lb) (k := k) 0 (.inl ⟨_, rfl⟩) ht' (by omega) rfl)) ?_
    refine Gx.any_take_as 10 (.bool ((((nxAt la k).kind : Nat) : Int) != (((nxAt lb k).kind : Nat) : Int))) (.bool false) (by rw [h_d1]) rfl (by kernel_rfl) (by kernel_rfl) (by kernel_rfl) (fun _ _ _ h => h) ⟨(b1.ext x2), (b2.ext x2)⟩ (by kernel_rfl) (fun _ _ => (by kernel_rfl)) ?_
    refine Gx.any_take 11 (.bool false) rfl (by kernel_rfl) (by kernel_rfl) (by kernel_rfl) (fun _ _ _ h => h) ⟨(b1.ext x2), (b2.ext x2)⟩ (by kernel_rfl) (fun _ _ => (by kernel_rfl)) ?_
    refine Gx.any_take 12 (.slice (some ⟨g, 0, none⟩) la.length ca) rfl (by kernel_rfl) (by kernel_rfl) (by kernel_rfl) (fun _ _ _ h => h) ⟨(b1.ext x2), (b2.ext x2)⟩ (by kernel_rfl) (fun _ _ => (by kernel_rfl)) ?_
    refine Gx.any_take 13 (.int .i64 ((k : Nat) : Int)) rfl (by kernel_rfl) (by kernel_rfl) (by kernel_rfl) (fun _ _ _ h => h) ⟨(b1.ext x2), (b2.ext x2)⟩ (by kernel_rfl) (fun _ _ => (by kernel_rfl)) ?_
    refine Gx.any_take 14 (.pointer (some ⟨g, 0 + k * 4, none⟩)) rfl (by kernel_rfl) (by kernel_rfl) (by kernel_rfl) (fun _ _ _ h => h) ⟨(b1.ext x2), (b2.ext x2)⟩ (by kernel_rfl) (fun _ _ => Gx.run_indexAddr rfl 31 4 (by kernel_rfl) (by kernel_rfl) 0 la.length ca (by kernel_rfl) .i64 k (by kernel_rfl) (by omega)) ?_
    refine Gx.any_take 15 (.pointer (some ⟨g, 0 + k * 4 + 2, none⟩)) rfl (by kernel_rfl) (by kernel_rfl) (by kernel_rfl) (fun _ _ _ h => h) ⟨(b1.ext x2), (b2.ext x2)⟩ (by kernel_rfl) (fun _ _ => (by kernel_rfl)) ?_
    refine Gx.any_take 16 (.string ((nxAt la k).text)) rfl (by kernel_rfl) (by kernel_rfl) (by kernel_rfl) (fun _ _ _ h => h) ⟨(b1.ext x2), (b2.ext x2)⟩ (by kernel_rfl) (fun _ hs => Gx.run_load rfl (0 + k * 4 + 2) (.string ((nxAt la k).text)) (by kernel_rfl) hs.1 (loadB_fld (l := la) (k := k) 2 (.inr (.inl rfl)) ht (by omega) rfl)) ?_
    refine Gx.any_take 17 (.slice (some ⟨g', 0, none⟩) lb.length ca') rfl (by kernel_rfl) (by kernel_rfl) (by kernel_rfl) (fun _ _ _ h => h) ⟨(b1.ext x2), (b2.ext x2)⟩ (by kernel_rfl) (fun _ _ => (by kernel_rfl)) ?_
    refine Gx.any_take 18 (.int .i64 ((k : Nat) : Int)) rfl (by kernel_rfl) (by kernel_rfl) (by kernel_rfl) (fun _ _ _ h => h) ⟨(b1.ext x2), (b2.ext x2)⟩ (by kernel_rfl) (fun _ _ => (by kernel_rfl)) ?_
    refine Gx.any_take 19 (.pointer (some ⟨g', 0 + k * 4, none⟩)) rfl (by kernel_rfl) (by kernel_rfl) (by kernel_rfl) (fun _ _ _ h => h) ⟨(b1.ext x2), (b2.ext x2)⟩ (by kernel_rfl) (fun _ _ => Gx.run_indexAddr rfl 31 4 (by kernel_rfl) (by kernel_rfl) 0 lb.length ca' (by kernel_rfl) .i64 k (by kernel_rfl) (by omega)) ?_
    refine Gx.any_take 20 (.pointer (some ⟨g', 0 + k * 4 + 2, none⟩)) rfl (by kernel_rfl) (by kernel_rfl) (by kernel_rfl) (fun _ _ _ h => h) ⟨(b1.ext x2), (b2.ext x2)⟩ (by kernel_rfl) (fun _ _ => (by kernel_rfl)) ?_
    refine Gx.any_take 21 (.string ((nxAt lb k).text)) rfl (by kernel_rfl) (by kernel_rfl) (by kernel_rfl) (fun _ _ _ h => h) ⟨(b1.ext x2), (b2.ext x2)⟩ (by kernel_rfl) (fun _ hs => Gx.run_load rfl (0 + k * 4 + 2) (.string ((nxAt lb k).text)) (by kernel_rfl) hs.2 (loadB_fld (l := lb) (k := k) 2 (.inr (.inl rfl)) ht' (by omega) rfl)) ?_
    refine Gx.any_take_as 22 (.bool (!(((nxAt la k).text).toList == ((nxAt lb k).text).toList))) (.bool false) (by rw [h_d2]) rfl (by kernel_rfl) (by kernel_rfl) (by kernel_rfl) (fun _ _ _ h => h) ⟨(b1.ext x2), (b2.ext x2)⟩ (by kernel_rfl) (fun _ _ => (by kernel_rfl)) ?_
    refine Gx.any_take 23 (.bool false) rfl (by kernel_rfl) (by kernel_rfl) (by kernel_rfl) (fun _ _ _ h => h) ⟨(b1.ext x2), (b2.ext x2)⟩ (by kernel_rfl) (fun _ _ => (by kernel_rfl)) ?_
    refine Gx.any_take 24 (.bool false) rfl (by kernel_rfl) (by kernel_rfl) (by kernel_rfl) (fun _ _ _ h => h) ⟨(b1.ext x2), (b2.ext x2)⟩ (by kernel_rfl) (fun _ _ => (by kernel_rfl)) ?_
    refine Gx.any_take 25 (.slice (some ⟨g, 0, none⟩) la.length ca) rfl (by kernel_rfl) (by kernel_rfl) (by kernel_rfl) (fun _ _ _ h => h) ⟨(b1.ext x2), (b2.ext x2)⟩ (by kernel_rfl) (fun _ _ => (by kernel_rfl)) ?_
    refine Gx.any_take 26 (.int .i64 ((k : Nat) : Int)) rfl (by kernel_rfl) (by kernel_rfl) (by kernel_rfl) (fun _ _ _ h => h) ⟨(b1.ext x2), (b2.ext x2)⟩ (by kernel_rfl) (fun _ _ => (by kernel_rfl)) ?_
    refine Gx.any_take 27 (.pointer (some ⟨g, 0 + k * 4, none⟩)) rfl (by kernel_rfl) (by kernel_rfl) (by kernel_rfl) (fun _ _ _ h => h) ⟨(b1.ext x2), (b2.ext x2)⟩ (by kernel_rfl) (fun _ _ => Gx.run_indexAddr rfl 31 4 (by kernel_rfl) (by kernel_rfl) 0 la.length ca (by kernel_rfl) .i64 k (by kernel_rfl) (by omega)) ?_
    refine Gx.any_take 28 (.pointer (some ⟨g, 0 + k * 4 + 3, none⟩)) rfl (by kernel_rfl) (by kernel_rfl) (by kernel_rfl) (fun _ _ _ h => h) ⟨(b1.ext x2), (b2.ext x2)⟩ (by kernel_rfl) (fun _ _ => (by kernel_rfl)) ?_
    refine Gx.any_take 29 (.int .i64 (((nxAt la k).n : Nat) : Int)) rfl (by kernel_rfl) (by kernel_rfl) (by kernel_rfl) (fun _ _ _ h => h) ⟨(b1.ext x2), (b2.ext x2)⟩ (by kernel_rfl) (fun _ hs => Gx.run_load rfl (0 + k * 4 + 3) (.int .i64 (((nxAt la k).n : Nat) : Int)) (by kernel_rfl) hs.1 (loadB_fld (l := la) (k := k) 3 (.inl ⟨_, rfl⟩) ht (by omega) rfl)) ?_
    refine Gx.any_take 30 (.slice (some ⟨g', 0, none⟩) lb.length ca') rfl (by kernel_rfl) (by kernel_rfl) (by kernel_rfl) (fun _ _ _ h => h) ⟨(b1.ext x2), (b2.ext x2)⟩ (by kernel_rfl) (fun _ _ => (by kernel_rfl)) ?_
    refine Gx.any_take 31 (.int .i64 ((k : Nat) : Int)) rfl (by kernel_rfl) (by kernel_rfl) (by kernel_rfl) (fun _ _ _ h => h) ⟨(b1.ext x2), (b2.ext x2)⟩ (by kernel_rfl) (fun _ _ => (by kernel_rfl)) ?_
    refine Gx.any_take 32 (.pointer (some ⟨g', 0 + k * 4, none⟩)) rfl (by kernel_rfl) (by kernel_rfl) (by kernel_rfl) (fun _ _ _ h => h) ⟨(b1.ext x2), (b2.ext x2)⟩ (by kernel_rfl) (fun _ _ => Gx.run_indexAddr rfl 31 4 (by kernel_rfl) (by kernel_rfl) 0 lb.length ca' (by kernel_rfl) .i64 k (by kernel_rfl) (by omega)) ?_
    refine Gx.any_take 33 (.pointer (some ⟨g', 0 + k * 4 + 3, none⟩)) rfl (by kernel_rfl) (by kernel_rfl) (by kernel_rfl) (fun _ _ _ h => h) ⟨(b1.ext x2), (b2.ext x2)⟩ (by kernel_rfl) (fun _ _ => (by kernel_rfl)) ?_
    refine Gx.any_take 34 (.int .i64 (((nxAt lb k).n : Nat) : Int)) rfl (by kernel_rfl) (by kernel_rfl) (by kernel_rfl) (fun _ _ _ h => h) ⟨(b1.ext x2), (b2.ext x2)⟩ (by kernel_rfl) (fun _ hs => Gx.run_load rfl (0 + k * 4 + 3) (.int .i64 (((nxAt lb k).n : Nat) : Int)) (by kernel_rfl) hs.2 (loadB_fld (l := lb) (k := k) 3 (.inl ⟨_, rfl⟩) ht' (by omega) rfl)) ?_
    refine Gx.any_take 35 (.bool ((((nxAt la k).n : Nat) : Int) != (((nxAt lb k).n : Nat) : Int))) rfl (by kernel_rfl) (by kernel_rfl) (by kernel_rfl) (fun _ _ _ h => h) ⟨(b1.ext x2), (b2.ext x2)⟩ (by kernel_rfl) (fun _ _ => (by kernel_rfl)) ?_
    refine Gx.any_take 36 (.bool ((((nxAt la k).n : Nat) : Int) != (((nxAt lb k).n : Nat) : Int))) rfl (by kernel_rfl) (by kernel_rfl) (by kernel_rfl) (fun _ _ _ h => h) ⟨(b1.ext x2), (b2.ext x2)⟩ (by kernel_rfl) (fun _ _ => (by kernel_rfl)) ?_
    refine Gx.any_done (by kernel_rfl) ?_
    refine Gx.then_normal ?_
    refine Gx.cond ((((nxAt la k).n : Nat) : Int) != (((nxAt lb k).n : Nat) : Int)) (by kernel_rfl) (fun h_c53 => ?_) (fun h_c53 => ?_)
    · skip
      have p_c53 := h_c53; try simp at p_c53
      obtain ⟨q1, q2, q3⟩ := nxAt_sig he (k := k) (by omega); exfalso; rw [q3] at h_c53; simp at h_c53
    refine wp_skip ?_
    refine Gx.block_normal ?_
    refine Gx.then_normal ?_
    refine Gx.reg [0, 1, 2] (by kernel_rfl) ?_
    refine Gx.pure [0] [1, 2] [(15, .int .i64 ((k : Nat) : Int))] rfl (by kernel_rfl) ?_
    have p_c53 := h_c53; try simp at p_c53
    refine Gx.pure_eq [1] [2] [(16, .int .i64 (IntKind.i64.wrap (((k : Nat) : Int) + (1 : Int))))] [(16, .int .i64 ((k + 1 : Nat) : Int))] rfl (by kernel_rfl) (Gx.eqI (Gx.i64n (by omega) (by omega))) ?_
    refine Gx.pure [2] [] [(5, .int .i64 ((k + 1 : Nat) : Int))] rfl (by kernel_rfl) ?_
    refine Gx.ops_nil ?_
    refine Gx.then_normal ?_
    rw [Gx.forget [(0, .slice (some ⟨g, 0, none⟩) la.length ca), (1, .slice (some ⟨g', 0, none⟩) lb.length ca'), (5, .int .i64 ((k + 1 : Nat) : Int))] (by kernel_rfl)]
    exact hK1 _ _ _ _ (by omega) ⟨k + 1, rfl, rfl, (((Gx.Ext.refl w).trans x1).trans x2), (b1.ext x2), (b2.ext x2), (by omega)⟩
  refine wp_exit ?_
  refine Gx.then_exit ?_
  refine Gx.then_exit ?_
  refine Gx.block_exit ?_
  refine Gx.then_normal ?_
  refine Gx.seq_run [(4, .bool true)] (by kernel_rfl) ?_
  refine wp_ret ?_
  refine Gx.ret (v := .bool true) (Gx.res1 rfl (by kernel_rfl)) ?_
  have p_c14 := h_c14; try simp at p_c14
  exact Gx.ret_as (v' := .bool true) (by rfl) (hK _ ((Gx.Ext.refl w).trans x1))

theorem alike_c (la lb : List Nx) {va vb : Value} (w : World) (K : Ending → World → Prop) (ha : Tk w va la) (hb : Tk w vb lb) (he : la.map sig = lb.map sig)
    (hK : ∀ w', Gx.Ext w w' → K (.returned (.bool true)) w') : Calls Try.prog 9 #[va, vb] w K := by
  obtain ⟨g, ca, cs, rfl, hg, hc, ht, hle⟩ := ha
  obtain ⟨g', ca', cs', rfl, hg', hc', ht', _⟩ := hb
  exact alike_go la lb g ca cs g' ca' cs' w K he hle hg hc ht hg' hc' ht' hK

end Go.Proofs.Ytiimlomgpmgecaa
