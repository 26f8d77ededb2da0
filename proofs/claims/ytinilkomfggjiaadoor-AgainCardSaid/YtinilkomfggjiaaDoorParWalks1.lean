/- The walks, written by a program of ours (wip/gx/gx.py, parsegen.py). -/
import Derived.Test.YtinilkomfggjiaaDoorRows
import Derived.Test.YtinilkomfggjiaaDoorGs
import Derived.Test.YtinilkomfggjiaaDoorGp
import Derived.Test.YtinilkomfggjiaaDoorZs
import Derived.Test.YtinilkomfggjiaaDoorLexWalks4
set_option linter.unusedVariables false
set_option linter.unusedSimpArgs false
set_option maxHeartbeats 4000000
set_option maxRecDepth 20000
namespace Go.Proofs.YtinilkomfggjiaaDoor
namespace Par
open Go.RowKit Go.Lex Go.Syn
attribute [local irreducible] Go.wpOps Go.Code.wp Go.wpOp Go.wpAnyH Go.Calls
abbrev rdP (S : ByteArray) (q : Rs) : Obj := .cells #[.string S, Z.n q.k, Z.n q.a, .string q.t, Z.n q.n, Z.n q.e, Z.n q.x, Z.n q.y] 54
abbrev flV (k a : Nat) : Value := .iface 27 (.agg #[Z.n k, Z.n a])
abbrev flt (k a : Nat) : List PanicEntry := [{ v := flV k a, recovered := false }]
def psV (ps : List ByteArray) : Array Value := (ps.map Value.string).toArray
theorem loadB_psV (ps : List ByteArray) (i : Nat) (h : i < ps.length) : Gx.loadB Tryd.prog 9 (psV ps) (0 + i * 1) = some (.string (ps.getD i Z.E)) := by
  have hu : Tryd.prog.underlying 9 = some .string := Tryd.underlying9
  simp only [Gx.loadB, hu, Nat.zero_add, Nat.mul_one]
  unfold psV
  rw [List.getElem?_toArray, List.getElem?_map, List.getD_eq_getElem?_getD, List.getElem?_eq_getElem h]
  rfl
theorem must_id {S : ByteArray} {q : Rs} {s : ByteArray} (h : q.fk ≠ 0) : mustR S q s = q := by
  have h1 : ¬ okB q = true := fun e => h ((okB_iff q).1 e)
  have h2 : ¬ isB q s = true := fun e => h (isB_ok e).1
  unfold mustR noR
  rw [if_neg h2, if_neg h1]
theorem no_fault {q : Rs} (h : q.fk = 0) : noR q = { q with fk := 4, fa := q.a } := by unfold noR; rw [if_pos ((okB_iff q).2 h)]
def mustsR (S : ByteArray) (q : Rs) (l : List ByteArray) : Rs := l.foldl (mustR S) q
theorem musts_id {S : ByteArray} {q : Rs} (l : List ByteArray) (h : q.fk ≠ 0) : mustsR S q l = q := by
  induction l with
  | nil => rfl
  | cons a r ih => show mustsR S (mustR S q a) r = q; rw [must_id h]; exact ih
theorem musts_succ {S : ByteArray} {q : Rs} (l : List ByteArray) (i : Nat) (h : i < l.length) : mustsR S q (l.take (i + 1)) = mustR S (mustsR S q (l.take i)) (l.getD i Z.E) := by
  unfold mustsR
  rw [← List.take_append_getElem h, List.foldl_append, List.getD_eq_getElem?_getD, List.getElem?_eq_getElem h]
  rfl
theorem musts_stop {S : ByteArray} {q q1 : Rs} (l : List ByteArray) (i : Nat) (h : mustsR S q (l.take i) = q1) (hf : q1.fk ≠ 0) : mustsR S q l = q1 := by
  have e : mustsR S q l = mustsR S (mustsR S q (l.take i)) (l.drop i) := by unfold mustsR; rw [← List.foldl_append, List.take_append_drop]
  rw [e, h]
  exact musts_id _ hf
theorem musts_tr {S : ByteArray} {q : Rs} (l : List ByteArray) (h : Ok S q) : Tr S q (mustsR S q l) := by
  induction l generalizing q with
  | nil => exact Tr.refl h
  | cons a r ih => exact (must_tr h).trans (ih (must_tr h).ok)
theorem name_no {S : ByteArray} {q : Rs} (f : q.fk = 0) (h : ¬ q.k = 2) : (nameR S q).2 = { q with fk := 4, fa := q.a } := by
  have e : ¬ isNameB q = true := fun e => by simp only [isNameB, Bool.and_eq_true, beq_iff_eq] at e; omega
  unfold nameR
  rw [if_neg e]
  exact no_fault f
theorem name_yes {S : ByteArray} {q : Rs} (f : q.fk = 0) (h : q.k = 2) : nameR S q = ((q.t, q.a), nextR S q) := by
  have e : isNameB q = true := by simp only [isNameB, Bool.and_eq_true, beq_iff_eq]; exact ⟨(okB_iff q).2 f, by omega⟩
  unfold nameR
  rw [if_pos e]
abbrev PQ (w : World) (b : Nat) (K : Ending → World → Prop) (r : Rs) : Prop := ∀ w' q', r = q' → q'.fk ≠ 0 → Gx.G w w' (some b) → K (.panicked (flt q'.fk q'.fa)) w'
abbrev KQ (S : ByteArray) (w : World) (b : Nat) (K : Ending → World → Prop) (r : Nd × Rs) : Prop := ∀ w' t A c q', r = (t, q') → q'.fk = 0 → Gx.G w w' (some b) → Gx.Has w' b (rdP S q') → KV (In w.heap.size w'.heap.size []) w' t.ks A c → K (.returned (.agg (Z.T t A c))) w'
theorem stop_p (b : Nat) (S : ByteArray) (q : Rs) (kind : Nat) (w : World) (K : Ending → World → Prop) (hb : Gx.Has w b (rdP S q)) (hP : K (.panicked (flt kind q.a)) w) :
    Calls Tryd.prog 28 #[Z.P b 0, Z.n kind] w K := by
  refine Z.en 12 Tryd.func28 ?_
  have tbb := hb.lt
  refine Z.g [0, 1, 2, 3, 4, 5, 6, 7, 8] ?_
  refine Z.p [0, 1, 2, 3, 4] [5, 6, 7, 8] [(8, Z.P b 2), (7, Z.P b 1), (6, Z.P b 0), (5, Z.P b 0), (4, Z.n kind)] ?_
  refine Z.L 2 (Z.n q.a) hb ?_
  refine Z.p [6] [7, 8] [(10, .agg #[Z.n kind, Z.n q.a])] ?_
  refine Gx.cons (Gx.op_val (v := .iface 27 (.agg #[Z.n kind, Z.n q.a])) (w' := w) rfl (by kernel_rfl) (by kernel_rfl) ?_)
  refine Gx.cons (Gx.op_panic (v := .iface 27 (.agg #[Z.n kind, Z.n q.a])) (w' := w) rfl (by kernel_rfl) (by kernel_rfl) (And.intro rfl ?_))
  exact hP
structure Ok0 (S : ByteArray) (q : Rs) : Prop where
  size : S.size ≤ 3000
  e : q.e ≤ S.size
theorem advance0_p (b : Nat) (S : ByteArray) (q : Rs) (w : World) (K : Ending → World → Prop) (hb : Gx.Has w b (rdP S q)) (hok : Ok0 S q) (f0 : q.fk = 0) (hP : PQ w b K (nextR S q)) (hK : ∀ w' q', nextR S q = q' → q'.fk = 0 → Gx.G w w' (some b) → Gx.Has w' b (rdP S q') → K (.returned (.tuple #[])) w') :
    Calls Tryd.prog 26 #[Z.P b 0] w K := by
  refine Z.en 31 Tryd.func26 ?_
  have tbb := hb.lt
  refine wp_seq (Z.D (fun w' => Gx.Has w' b (.cells #[.string S, Z.n q.k, Z.n q.a, .string q.t, Z.n q.n, Z.n q.e, Z.n q.x, Z.n q.y] 54)) (fun w1 x1 zw1 => ?_))
  refine Z.h (hb.ext x1) (fun hS1 => ?_)
  refine Z.t 0 (Z.P b 0) hS1 ?_
  refine Z.t 1 (Z.P b 0) hS1 ?_
  refine Z.t 2 (Z.P b 0) hS1 ?_
  refine Z.tl 3 0 (.string S) (fun _ hs => hs) hS1 ?_
  refine Z.t 4 (Z.P b 0) hS1 ?_
  refine Z.t 5 (Z.P b 0) hS1 ?_
  refine Z.t 6 (Z.P b 5) hS1 ?_
  refine Z.tl 7 5 (Z.n q.e) (fun _ hs => hs) hS1 ?_
  refine Gx.any_three 8 13 14 (by kernel_rfl) ?_ ?_ ?_
  · skip
    refine Gx.op_call rfl (by kernel_rfl) (by kernel_rfl) (fun R hR => pNext_c S q.e _ R hok.size hok.e (fun w2 x2  => hR _ _ ⟨((hb.ext x1).ext x2), ?_⟩))
    have zw2 := x2.size
    refine Z.h ((hb.ext x1).ext x2) (fun hS2 => ?_)
    refine Z.t 9 (.tuple #[.agg #[.int .i64 (((next S q.e).kind : Nat) : Int), .int .i64 (((next S q.e).at_ : Nat) : Int), .string ((next S q.e).text), .int .i64 (((next S q.e).n : Nat) : Int)], .int .i64 (((next S q.e).nx : Nat) : Int), .agg #[.int .i64 (((next S q.e).fk : Nat) : Int), .int .i64 (((next S q.e).fa : Nat) : Int)]]) hS2 ?_
    refine Z.t 10 (.agg #[.int .i64 (((next S q.e).kind : Nat) : Int), .int .i64 (((next S q.e).at_ : Nat) : Int), .string ((next S q.e).text), .int .i64 (((next S q.e).n : Nat) : Int)]) hS2 ?_
    refine Z.t 11 (.int .i64 (((next S q.e).nx : Nat) : Int)) hS2 ?_
    refine Z.t 12 (.agg #[.int .i64 (((next S q.e).fk : Nat) : Int), .int .i64 (((next S q.e).fa : Nat) : Int)]) hS2 ?_
    refine Gx.any_two 13 14 (by kernel_rfl) ?_ ?_
    · skip
      refine Gx.op_new (.cells #[.int .i64 0, .int .i64 0, .string Z.E, .int .i64 0] 36) rfl (by kernel_rfl) (by kernel_rfl) (fun k1 w3 l1 x3 b1 => ⟨(((hb.ext x1).ext x2).ext x3), ?_⟩)
      have zw3 := x3.size
      have tb1 := b1.lt
      have y1 := ((hb.ext x1).ext x2).ext x3
      refine Z.oN 14 (.cells #[.int .i64 0, .int .i64 0] 27) (fun k2 w4 l2 x4 b2 => ⟨(y1.ext x4), ?_⟩)
      have zw4 := x4.size
      have tb2 := b2.lt
      refine Z.oSa 15 #[.int .i64 (((next S q.e).kind : Nat) : Int), .int .i64 (((next S q.e).at_ : Nat) : Int), .string ((next S q.e).text), .int .i64 (((next S q.e).n : Nat) : Int)] (b1.ext x4) (fun w5 u1 b3 => ⟨((y1.ext x4).upd1 u1), ?_⟩)
      have zw5 := u1.size
      refine Z.h ((y1.ext x4).upd1 u1) (fun hS3 => ?_)
      refine Z.t 16 (.int .i64 (((next S q.e).nx : Nat) : Int)) hS3 ?_
      refine Z.oSa 17 #[.int .i64 (((next S q.e).fk : Nat) : Int), .int .i64 (((next S q.e).fa : Nat) : Int)] (b2.upd1 u1) (fun w6 u2 b4 => ⟨(((y1.ext x4).upd1 u1).upd1 u2), ?_⟩)
      have zw6 := u2.size
      refine Z.q ?_
      refine Z.x (wp_seq (Z.r [0, 1, 2] ?_))
      refine Z.p [0] [1, 2] [(18, Z.P k2 0)] ?_
      refine Z.L 0 (.int .i64 (((next S q.e).fk : Nat) : Int)) b4 ?_
      refine Z.p [2] [] [(20, .bool ((((next S q.e).fk : Nat) : Int) != (0 : Int)))] ?_
      refine Z.e (Z.c ((((next S q.e).fk : Nat) : Int) != (0 : Int)) (fun h_c20 => ?_) (fun h_c20 => ?_))
      · skip
        refine Z.g [0, 1, 2] ?_
        refine Z.L 0 (.agg #[.int .i64 (((next S q.e).fk : Nat) : Int), .int .i64 (((next S q.e).fa : Nat) : Int)]) b4 ?_
        refine Gx.cons (Gx.op_val (v := .iface 27 (.agg #[.int .i64 (((next S q.e).fk : Nat) : Int), .int .i64 (((next S q.e).fa : Nat) : Int)])) (w' := w6) rfl (by kernel_rfl) (by kernel_rfl) ?_)
        refine Gx.cons (Gx.op_panic (v := .iface 27 (.agg #[.int .i64 (((next S q.e).fk : Nat) : Int), .int .i64 (((next S q.e).fa : Nat) : Int)])) (w' := w6) rfl (by kernel_rfl) (by kernel_rfl) (And.intro rfl ?_))
        have n_c20 : ((((next S q.e).fk : Nat) : Int) == (0 : Int)) = false := by simpa using h_c20
        have p_c20 := h_c20; try simp at p_c20
        exact hP _ (⟨(next S q.e).kind, (next S q.e).at_, (next S q.e).text, (next S q.e).n, (next S q.e).nx, (next S q.e).fk, (next S q.e).fa, q.x, q.y⟩ : Rs) (by unfold nextR; rw [if_pos ((okB_iff q).2 f0)]) (by show (next S q.e).fk ≠ 0; omega) (gb_new (gb_new (gb_ext (gb_ext (gb_ext (gb_ext (gb_refl w b) x1) x2) x3) x4) u1) u2)
      refine wp_skip (Z.x (Z.g [0, 1, 2, 3, 4, 5, 6, 7, 8, 9] ?_))
      refine Z.p [0, 1] [2, 3, 4, 5, 6, 7, 8, 9] [(24, Z.P b 0), (23, Z.P b 0)] ?_
      have n_c20 : ((((next S q.e).fk : Nat) : Int) == (0 : Int)) = true := by simpa using h_c20
      have p_c20 := h_c20; try simp at p_c20
      refine Z.L 0 (.agg #[.int .i64 (((next S q.e).kind : Nat) : Int), .int .i64 (((next S q.e).at_ : Nat) : Int), .string ((next S q.e).text), .int .i64 (((next S q.e).n : Nat) : Int)]) (b3.upd1 u2) ?_
      refine Z.p [3, 4, 5] [6, 7, 8, 9] [(28, Z.P b 1), (27, Z.P b 0), (26, .int .i64 (((next S q.e).nx : Nat) : Int))] ?_
      refine Z.S 1 (.agg #[.int .i64 (((next S q.e).kind : Nat) : Int), .int .i64 (((next S q.e).at_ : Nat) : Int), .string ((next S q.e).text), .int .i64 (((next S q.e).n : Nat) : Int)]) (((y1.ext x4).upd1 u1).upd1 u2) #[.string S, .int .i64 (((next S q.e).kind : Nat) : Int), .int .i64 (((next S q.e).at_ : Nat) : Int), .string ((next S q.e).text), .int .i64 (((next S q.e).n : Nat) : Int), Z.n q.e, Z.n q.x, Z.n q.y] (fun w7 u3 b5 zw7 => ?_)
      refine Z.p [7, 8] [9] [(30, Z.P b 5), (29, Z.P b 0)] ?_
      refine Z.S 5 (.int .i64 (((next S q.e).nx : Nat) : Int)) b5 #[.string S, .int .i64 (((next S q.e).kind : Nat) : Int), .int .i64 (((next S q.e).at_ : Nat) : Int), .string ((next S q.e).text), .int .i64 (((next S q.e).n : Nat) : Int), .int .i64 (((next S q.e).nx : Nat) : Int), Z.n q.x, Z.n q.y] (fun w8 u4 b6 zw8 => ?_)
      refine Gx.ops_nil (Gx.ret_n (Gx.res0 rfl) ?_)
      exact hK _ (⟨(next S q.e).kind, (next S q.e).at_, (next S q.e).text, (next S q.e).n, (next S q.e).nx, (next S q.e).fk, (next S q.e).fa, q.x, q.y⟩ : Rs) (by unfold nextR; rw [if_pos ((okB_iff q).2 f0)]) (by show (next S q.e).fk = 0; omega) (gb_upd (gb_upd (gb_new (gb_new (gb_ext (gb_ext (gb_ext (gb_ext (gb_refl w b) x1) x2) x3) x4) u1) u2) u3) u4) b6
    refine Gx.op_new (.cells #[.int .i64 0, .int .i64 0] 27) rfl (by kernel_rfl) (by kernel_rfl) (fun k3 w9 l3 x5 b7 => ⟨(((hb.ext x1).ext x2).ext x5), ?_⟩)
    have zw9 := x5.size
    have tb7 := b7.lt
    have y2 := ((hb.ext x1).ext x2).ext x5
    refine Z.oN 13 (.cells #[.int .i64 0, .int .i64 0, .string Z.E, .int .i64 0] 36) (fun k4 w10 l4 x6 b8 => ⟨(y2.ext x6), ?_⟩)
    have zw10 := x6.size
    have tb8 := b8.lt
    refine Z.oSa 15 #[.int .i64 (((next S q.e).kind : Nat) : Int), .int .i64 (((next S q.e).at_ : Nat) : Int), .string ((next S q.e).text), .int .i64 (((next S q.e).n : Nat) : Int)] b8 (fun w11 u5 b9 => ⟨((y2.ext x6).upd1 u5), ?_⟩)
    have zw11 := u5.size
    refine Z.h ((y2.ext x6).upd1 u5) (fun hS4 => ?_)
    refine Z.t 16 (.int .i64 (((next S q.e).nx : Nat) : Int)) hS4 ?_
    refine Z.oSa 17 #[.int .i64 (((next S q.e).fk : Nat) : Int), .int .i64 (((next S q.e).fa : Nat) : Int)] ((b7.ext x6).upd1 u5) (fun w12 u6 b10 => ⟨(((y2.ext x6).upd1 u5).upd1 u6), ?_⟩)
    have zw12 := u6.size
    refine Z.q ?_
    refine Z.x (wp_seq (Z.r [0, 1, 2] ?_))
    refine Z.p [0] [1, 2] [(18, Z.P k3 0)] ?_
    refine Z.L 0 (.int .i64 (((next S q.e).fk : Nat) : Int)) b10 ?_
    refine Z.p [2] [] [(20, .bool ((((next S q.e).fk : Nat) : Int) != (0 : Int)))] ?_
    refine Z.e (Z.c ((((next S q.e).fk : Nat) : Int) != (0 : Int)) (fun h_c20 => ?_) (fun h_c20 => ?_))
    · skip
      refine Z.g [0, 1, 2] ?_
      refine Z.L 0 (.agg #[.int .i64 (((next S q.e).fk : Nat) : Int), .int .i64 (((next S q.e).fa : Nat) : Int)]) b10 ?_
      refine Gx.cons (Gx.op_val (v := .iface 27 (.agg #[.int .i64 (((next S q.e).fk : Nat) : Int), .int .i64 (((next S q.e).fa : Nat) : Int)])) (w' := w12) rfl (by kernel_rfl) (by kernel_rfl) ?_)
      refine Gx.cons (Gx.op_panic (v := .iface 27 (.agg #[.int .i64 (((next S q.e).fk : Nat) : Int), .int .i64 (((next S q.e).fa : Nat) : Int)])) (w' := w12) rfl (by kernel_rfl) (by kernel_rfl) (And.intro rfl ?_))
      have n_c20 : ((((next S q.e).fk : Nat) : Int) == (0 : Int)) = false := by simpa using h_c20
      have p_c20 := h_c20; try simp at p_c20
      exact hP _ (⟨(next S q.e).kind, (next S q.e).at_, (next S q.e).text, (next S q.e).n, (next S q.e).nx, (next S q.e).fk, (next S q.e).fa, q.x, q.y⟩ : Rs) (by unfold nextR; rw [if_pos ((okB_iff q).2 f0)]) (by show (next S q.e).fk ≠ 0; omega) (gb_new (gb_new (gb_ext (gb_ext (gb_ext (gb_ext (gb_refl w b) x1) x2) x5) x6) u5) u6)
    refine wp_skip (Z.x (Z.g [0, 1, 2, 3, 4, 5, 6, 7, 8, 9] ?_))
    refine Z.p [0, 1] [2, 3, 4, 5, 6, 7, 8, 9] [(24, Z.P b 0), (23, Z.P b 0)] ?_
    have n_c20 : ((((next S q.e).fk : Nat) : Int) == (0 : Int)) = true := by simpa using h_c20
    have p_c20 := h_c20; try simp at p_c20
    refine Z.L 0 (.agg #[.int .i64 (((next S q.e).kind : Nat) : Int), .int .i64 (((next S q.e).at_ : Nat) : Int), .string ((next S q.e).text), .int .i64 (((next S q.e).n : Nat) : Int)]) (b9.upd1 u6) ?_
    refine Z.p [3, 4, 5] [6, 7, 8, 9] [(28, Z.P b 1), (27, Z.P b 0), (26, .int .i64 (((next S q.e).nx : Nat) : Int))] ?_
    refine Z.S 1 (.agg #[.int .i64 (((next S q.e).kind : Nat) : Int), .int .i64 (((next S q.e).at_ : Nat) : Int), .string ((next S q.e).text), .int .i64 (((next S q.e).n : Nat) : Int)]) (((y2.ext x6).upd1 u5).upd1 u6) #[.string S, .int .i64 (((next S q.e).kind : Nat) : Int), .int .i64 (((next S q.e).at_ : Nat) : Int), .string ((next S q.e).text), .int .i64 (((next S q.e).n : Nat) : Int), Z.n q.e, Z.n q.x, Z.n q.y] (fun w13 u7 b11 zw13 => ?_)
    refine Z.p [7, 8] [9] [(30, Z.P b 5), (29, Z.P b 0)] ?_
    refine Z.S 5 (.int .i64 (((next S q.e).nx : Nat) : Int)) b11 #[.string S, .int .i64 (((next S q.e).kind : Nat) : Int), .int .i64 (((next S q.e).at_ : Nat) : Int), .string ((next S q.e).text), .int .i64 (((next S q.e).n : Nat) : Int), .int .i64 (((next S q.e).nx : Nat) : Int), Z.n q.x, Z.n q.y] (fun w14 u8 b12 zw14 => ?_)
    refine Gx.ops_nil (Gx.ret_n (Gx.res0 rfl) ?_)
    exact hK _ (⟨(next S q.e).kind, (next S q.e).at_, (next S q.e).text, (next S q.e).n, (next S q.e).nx, (next S q.e).fk, (next S q.e).fa, q.x, q.y⟩ : Rs) (by unfold nextR; rw [if_pos ((okB_iff q).2 f0)]) (by show (next S q.e).fk = 0; omega) (gb_upd (gb_upd (gb_new (gb_new (gb_ext (gb_ext (gb_ext (gb_ext (gb_refl w b) x1) x2) x5) x6) u5) u6) u7) u8) b12
  · skip
    refine Gx.op_new (.cells #[.int .i64 0, .int .i64 0, .string Z.E, .int .i64 0] 36) rfl (by kernel_rfl) (by kernel_rfl) (fun k5 w15 l5 x7 b13 => ⟨((hb.ext x1).ext x7), ?_⟩)
    have zw15 := x7.size
    have tb13 := b13.lt
    refine Gx.any_two 8 14 (by kernel_rfl) ?_ ?_
    · skip
      refine Gx.op_call rfl (by kernel_rfl) (by kernel_rfl) (fun R hR => pNext_c S q.e _ R hok.size hok.e (fun w16 x8  => hR _ _ ⟨(((hb.ext x1).ext x7).ext x8), ?_⟩))
      have zw16 := x8.size
      have y3 := ((hb.ext x1).ext x7).ext x8
      refine Z.h y3 (fun hS5 => ?_)
      refine Z.t 9 (.tuple #[.agg #[.int .i64 (((next S q.e).kind : Nat) : Int), .int .i64 (((next S q.e).at_ : Nat) : Int), .string ((next S q.e).text), .int .i64 (((next S q.e).n : Nat) : Int)], .int .i64 (((next S q.e).nx : Nat) : Int), .agg #[.int .i64 (((next S q.e).fk : Nat) : Int), .int .i64 (((next S q.e).fa : Nat) : Int)]]) hS5 ?_
      refine Z.t 10 (.agg #[.int .i64 (((next S q.e).kind : Nat) : Int), .int .i64 (((next S q.e).at_ : Nat) : Int), .string ((next S q.e).text), .int .i64 (((next S q.e).n : Nat) : Int)]) hS5 ?_
      refine Z.t 11 (.int .i64 (((next S q.e).nx : Nat) : Int)) hS5 ?_
      refine Z.t 12 (.agg #[.int .i64 (((next S q.e).fk : Nat) : Int), .int .i64 (((next S q.e).fa : Nat) : Int)]) hS5 ?_
      refine Z.oN 14 (.cells #[.int .i64 0, .int .i64 0] 27) (fun k6 w17 l6 x9 b14 => ⟨(y3.ext x9), ?_⟩)
      have zw17 := x9.size
      have tb14 := b14.lt
      refine Z.oSa 15 #[.int .i64 (((next S q.e).kind : Nat) : Int), .int .i64 (((next S q.e).at_ : Nat) : Int), .string ((next S q.e).text), .int .i64 (((next S q.e).n : Nat) : Int)] ((b13.ext x8).ext x9) (fun w18 u9 b15 => ⟨((y3.ext x9).upd1 u9), ?_⟩)
      have zw18 := u9.size
      refine Z.h ((y3.ext x9).upd1 u9) (fun hS6 => ?_)
      refine Z.t 16 (.int .i64 (((next S q.e).nx : Nat) : Int)) hS6 ?_
      refine Z.oSa 17 #[.int .i64 (((next S q.e).fk : Nat) : Int), .int .i64 (((next S q.e).fa : Nat) : Int)] (b14.upd1 u9) (fun w19 u10 b16 => ⟨(((y3.ext x9).upd1 u9).upd1 u10), ?_⟩)
      have zw19 := u10.size
      refine Z.q ?_
      refine Z.x (wp_seq (Z.r [0, 1, 2] ?_))
      refine Z.p [0] [1, 2] [(18, Z.P k6 0)] ?_
      refine Z.L 0 (.int .i64 (((next S q.e).fk : Nat) : Int)) b16 ?_
      refine Z.p [2] [] [(20, .bool ((((next S q.e).fk : Nat) : Int) != (0 : Int)))] ?_
      refine Z.e (Z.c ((((next S q.e).fk : Nat) : Int) != (0 : Int)) (fun h_c20 => ?_) (fun h_c20 => ?_))
      · skip
        refine Z.g [0, 1, 2] ?_
        refine Z.L 0 (.agg #[.int .i64 (((next S q.e).fk : Nat) : Int), .int .i64 (((next S q.e).fa : Nat) : Int)]) b16 ?_
        refine Gx.cons (Gx.op_val (v := .iface 27 (.agg #[.int .i64 (((next S q.e).fk : Nat) : Int), .int .i64 (((next S q.e).fa : Nat) : Int)])) (w' := w19) rfl (by kernel_rfl) (by kernel_rfl) ?_)
        refine Gx.cons (Gx.op_panic (v := .iface 27 (.agg #[.int .i64 (((next S q.e).fk : Nat) : Int), .int .i64 (((next S q.e).fa : Nat) : Int)])) (w' := w19) rfl (by kernel_rfl) (by kernel_rfl) (And.intro rfl ?_))
        have n_c20 : ((((next S q.e).fk : Nat) : Int) == (0 : Int)) = false := by simpa using h_c20
        have p_c20 := h_c20; try simp at p_c20
        exact hP _ (⟨(next S q.e).kind, (next S q.e).at_, (next S q.e).text, (next S q.e).n, (next S q.e).nx, (next S q.e).fk, (next S q.e).fa, q.x, q.y⟩ : Rs) (by unfold nextR; rw [if_pos ((okB_iff q).2 f0)]) (by show (next S q.e).fk ≠ 0; omega) (gb_new (gb_new (gb_ext (gb_ext (gb_ext (gb_ext (gb_refl w b) x1) x7) x8) x9) u9) u10)
      refine wp_skip (Z.x (Z.g [0, 1, 2, 3, 4, 5, 6, 7, 8, 9] ?_))
      refine Z.p [0, 1] [2, 3, 4, 5, 6, 7, 8, 9] [(24, Z.P b 0), (23, Z.P b 0)] ?_
      have n_c20 : ((((next S q.e).fk : Nat) : Int) == (0 : Int)) = true := by simpa using h_c20
      have p_c20 := h_c20; try simp at p_c20
      refine Z.L 0 (.agg #[.int .i64 (((next S q.e).kind : Nat) : Int), .int .i64 (((next S q.e).at_ : Nat) : Int), .string ((next S q.e).text), .int .i64 (((next S q.e).n : Nat) : Int)]) (b15.upd1 u10) ?_
      refine Z.p [3, 4, 5] [6, 7, 8, 9] [(28, Z.P b 1), (27, Z.P b 0), (26, .int .i64 (((next S q.e).nx : Nat) : Int))] ?_
      refine Z.S 1 (.agg #[.int .i64 (((next S q.e).kind : Nat) : Int), .int .i64 (((next S q.e).at_ : Nat) : Int), .string ((next S q.e).text), .int .i64 (((next S q.e).n : Nat) : Int)]) (((y3.ext x9).upd1 u9).upd1 u10) #[.string S, .int .i64 (((next S q.e).kind : Nat) : Int), .int .i64 (((next S q.e).at_ : Nat) : Int), .string ((next S q.e).text), .int .i64 (((next S q.e).n : Nat) : Int), Z.n q.e, Z.n q.x, Z.n q.y] (fun w20 u11 b17 zw20 => ?_)
      refine Z.p [7, 8] [9] [(30, Z.P b 5), (29, Z.P b 0)] ?_
      refine Z.S 5 (.int .i64 (((next S q.e).nx : Nat) : Int)) b17 #[.string S, .int .i64 (((next S q.e).kind : Nat) : Int), .int .i64 (((next S q.e).at_ : Nat) : Int), .string ((next S q.e).text), .int .i64 (((next S q.e).n : Nat) : Int), .int .i64 (((next S q.e).nx : Nat) : Int), Z.n q.x, Z.n q.y] (fun w21 u12 b18 zw21 => ?_)
      refine Gx.ops_nil (Gx.ret_n (Gx.res0 rfl) ?_)
      exact hK _ (⟨(next S q.e).kind, (next S q.e).at_, (next S q.e).text, (next S q.e).n, (next S q.e).nx, (next S q.e).fk, (next S q.e).fa, q.x, q.y⟩ : Rs) (by unfold nextR; rw [if_pos ((okB_iff q).2 f0)]) (by show (next S q.e).fk = 0; omega) (gb_upd (gb_upd (gb_new (gb_new (gb_ext (gb_ext (gb_ext (gb_ext (gb_refl w b) x1) x7) x8) x9) u9) u10) u11) u12) b18
    refine Gx.op_new (.cells #[.int .i64 0, .int .i64 0] 27) rfl (by kernel_rfl) (by kernel_rfl) (fun k7 w22 l7 x10 b19 => ⟨(((hb.ext x1).ext x7).ext x10), ?_⟩)
    have zw22 := x10.size
    have tb19 := b19.lt
    have y4 := ((hb.ext x1).ext x7).ext x10
    refine Z.o 8 (fun R hR => pNext_c S q.e _ R hok.size hok.e (fun w23 x11  => hR _ _ ⟨(y4.ext x11), fun hS7 => ?_⟩))
    have zw23 := x11.size
    refine Z.t 9 (.tuple #[.agg #[.int .i64 (((next S q.e).kind : Nat) : Int), .int .i64 (((next S q.e).at_ : Nat) : Int), .string ((next S q.e).text), .int .i64 (((next S q.e).n : Nat) : Int)], .int .i64 (((next S q.e).nx : Nat) : Int), .agg #[.int .i64 (((next S q.e).fk : Nat) : Int), .int .i64 (((next S q.e).fa : Nat) : Int)]]) hS7 ?_
    refine Z.t 10 (.agg #[.int .i64 (((next S q.e).kind : Nat) : Int), .int .i64 (((next S q.e).at_ : Nat) : Int), .string ((next S q.e).text), .int .i64 (((next S q.e).n : Nat) : Int)]) hS7 ?_
    refine Z.t 11 (.int .i64 (((next S q.e).nx : Nat) : Int)) hS7 ?_
    refine Z.t 12 (.agg #[.int .i64 (((next S q.e).fk : Nat) : Int), .int .i64 (((next S q.e).fa : Nat) : Int)]) hS7 ?_
    refine Z.oSa 15 #[.int .i64 (((next S q.e).kind : Nat) : Int), .int .i64 (((next S q.e).at_ : Nat) : Int), .string ((next S q.e).text), .int .i64 (((next S q.e).n : Nat) : Int)] ((b13.ext x10).ext x11) (fun w24 u13 b20 => ⟨((y4.ext x11).upd1 u13), ?_⟩)
    have zw24 := u13.size
    refine Z.h ((y4.ext x11).upd1 u13) (fun hS8 => ?_)
    refine Z.t 16 (.int .i64 (((next S q.e).nx : Nat) : Int)) hS8 ?_
    refine Z.oSa 17 #[.int .i64 (((next S q.e).fk : Nat) : Int), .int .i64 (((next S q.e).fa : Nat) : Int)] ((b19.ext x11).upd1 u13) (fun w25 u14 b21 => ⟨(((y4.ext x11).upd1 u13).upd1 u14), ?_⟩)
    have zw25 := u14.size
    refine Z.q ?_
    refine Z.x (wp_seq (Z.r [0, 1, 2] ?_))
    refine Z.p [0] [1, 2] [(18, Z.P k7 0)] ?_
    refine Z.L 0 (.int .i64 (((next S q.e).fk : Nat) : Int)) b21 ?_
    refine Z.p [2] [] [(20, .bool ((((next S q.e).fk : Nat) : Int) != (0 : Int)))] ?_
    refine Z.e (Z.c ((((next S q.e).fk : Nat) : Int) != (0 : Int)) (fun h_c20 => ?_) (fun h_c20 => ?_))
    · skip
      refine Z.g [0, 1, 2] ?_
      refine Z.L 0 (.agg #[.int .i64 (((next S q.e).fk : Nat) : Int), .int .i64 (((next S q.e).fa : Nat) : Int)]) b21 ?_
      refine Gx.cons (Gx.op_val (v := .iface 27 (.agg #[.int .i64 (((next S q.e).fk : Nat) : Int), .int .i64 (((next S q.e).fa : Nat) : Int)])) (w' := w25) rfl (by kernel_rfl) (by kernel_rfl) ?_)
      refine Gx.cons (Gx.op_panic (v := .iface 27 (.agg #[.int .i64 (((next S q.e).fk : Nat) : Int), .int .i64 (((next S q.e).fa : Nat) : Int)])) (w' := w25) rfl (by kernel_rfl) (by kernel_rfl) (And.intro rfl ?_))
      have n_c20 : ((((next S q.e).fk : Nat) : Int) == (0 : Int)) = false := by simpa using h_c20
      have p_c20 := h_c20; try simp at p_c20
      exact hP _ (⟨(next S q.e).kind, (next S q.e).at_, (next S q.e).text, (next S q.e).n, (next S q.e).nx, (next S q.e).fk, (next S q.e).fa, q.x, q.y⟩ : Rs) (by unfold nextR; rw [if_pos ((okB_iff q).2 f0)]) (by show (next S q.e).fk ≠ 0; omega) (gb_new (gb_new (gb_ext (gb_ext (gb_ext (gb_ext (gb_refl w b) x1) x7) x10) x11) u13) u14)
    refine wp_skip (Z.x (Z.g [0, 1, 2, 3, 4, 5, 6, 7, 8, 9] ?_))
    refine Z.p [0, 1] [2, 3, 4, 5, 6, 7, 8, 9] [(24, Z.P b 0), (23, Z.P b 0)] ?_
    have n_c20 : ((((next S q.e).fk : Nat) : Int) == (0 : Int)) = true := by simpa using h_c20
    have p_c20 := h_c20; try simp at p_c20
    refine Z.L 0 (.agg #[.int .i64 (((next S q.e).kind : Nat) : Int), .int .i64 (((next S q.e).at_ : Nat) : Int), .string ((next S q.e).text), .int .i64 (((next S q.e).n : Nat) : Int)]) (b20.upd1 u14) ?_
    refine Z.p [3, 4, 5] [6, 7, 8, 9] [(28, Z.P b 1), (27, Z.P b 0), (26, .int .i64 (((next S q.e).nx : Nat) : Int))] ?_
    refine Z.S 1 (.agg #[.int .i64 (((next S q.e).kind : Nat) : Int), .int .i64 (((next S q.e).at_ : Nat) : Int), .string ((next S q.e).text), .int .i64 (((next S q.e).n : Nat) : Int)]) (((y4.ext x11).upd1 u13).upd1 u14) #[.string S, .int .i64 (((next S q.e).kind : Nat) : Int), .int .i64 (((next S q.e).at_ : Nat) : Int), .string ((next S q.e).text), .int .i64 (((next S q.e).n : Nat) : Int), Z.n q.e, Z.n q.x, Z.n q.y] (fun w26 u15 b22 zw26 => ?_)
    refine Z.p [7, 8] [9] [(30, Z.P b 5), (29, Z.P b 0)] ?_
    refine Z.S 5 (.int .i64 (((next S q.e).nx : Nat) : Int)) b22 #[.string S, .int .i64 (((next S q.e).kind : Nat) : Int), .int .i64 (((next S q.e).at_ : Nat) : Int), .string ((next S q.e).text), .int .i64 (((next S q.e).n : Nat) : Int), .int .i64 (((next S q.e).nx : Nat) : Int), Z.n q.x, Z.n q.y] (fun w27 u16 b23 zw27 => ?_)
    refine Gx.ops_nil (Gx.ret_n (Gx.res0 rfl) ?_)
    exact hK _ (⟨(next S q.e).kind, (next S q.e).at_, (next S q.e).text, (next S q.e).n, (next S q.e).nx, (next S q.e).fk, (next S q.e).fa, q.x, q.y⟩ : Rs) (by unfold nextR; rw [if_pos ((okB_iff q).2 f0)]) (by show (next S q.e).fk = 0; omega) (gb_upd (gb_upd (gb_new (gb_new (gb_ext (gb_ext (gb_ext (gb_ext (gb_refl w b) x1) x7) x10) x11) u13) u14) u15) u16) b23
  refine Gx.op_new (.cells #[.int .i64 0, .int .i64 0] 27) rfl (by kernel_rfl) (by kernel_rfl) (fun k8 w28 l8 x12 b24 => ⟨((hb.ext x1).ext x12), ?_⟩)
  have zw28 := x12.size
  have tb24 := b24.lt
  refine Gx.any_two 8 13 (by kernel_rfl) ?_ ?_
  · skip
    refine Gx.op_call rfl (by kernel_rfl) (by kernel_rfl) (fun R hR => pNext_c S q.e _ R hok.size hok.e (fun w29 x13  => hR _ _ ⟨(((hb.ext x1).ext x12).ext x13), ?_⟩))
    have zw29 := x13.size
    have y5 := ((hb.ext x1).ext x12).ext x13
    refine Z.h y5 (fun hS9 => ?_)
    refine Z.t 9 (.tuple #[.agg #[.int .i64 (((next S q.e).kind : Nat) : Int), .int .i64 (((next S q.e).at_ : Nat) : Int), .string ((next S q.e).text), .int .i64 (((next S q.e).n : Nat) : Int)], .int .i64 (((next S q.e).nx : Nat) : Int), .agg #[.int .i64 (((next S q.e).fk : Nat) : Int), .int .i64 (((next S q.e).fa : Nat) : Int)]]) hS9 ?_
    refine Z.t 10 (.agg #[.int .i64 (((next S q.e).kind : Nat) : Int), .int .i64 (((next S q.e).at_ : Nat) : Int), .string ((next S q.e).text), .int .i64 (((next S q.e).n : Nat) : Int)]) hS9 ?_
    refine Z.t 11 (.int .i64 (((next S q.e).nx : Nat) : Int)) hS9 ?_
    refine Z.t 12 (.agg #[.int .i64 (((next S q.e).fk : Nat) : Int), .int .i64 (((next S q.e).fa : Nat) : Int)]) hS9 ?_
    refine Z.oN 13 (.cells #[.int .i64 0, .int .i64 0, .string Z.E, .int .i64 0] 36) (fun k9 w30 l9 x14 b25 => ⟨(y5.ext x14), ?_⟩)
    have zw30 := x14.size
    have tb25 := b25.lt
    refine Z.oSa 15 #[.int .i64 (((next S q.e).kind : Nat) : Int), .int .i64 (((next S q.e).at_ : Nat) : Int), .string ((next S q.e).text), .int .i64 (((next S q.e).n : Nat) : Int)] b25 (fun w31 u17 b26 => ⟨((y5.ext x14).upd1 u17), ?_⟩)
    have zw31 := u17.size
    refine Z.h ((y5.ext x14).upd1 u17) (fun hS10 => ?_)
    refine Z.t 16 (.int .i64 (((next S q.e).nx : Nat) : Int)) hS10 ?_
    refine Z.oSa 17 #[.int .i64 (((next S q.e).fk : Nat) : Int), .int .i64 (((next S q.e).fa : Nat) : Int)] (((b24.ext x13).ext x14).upd1 u17) (fun w32 u18 b27 => ⟨(((y5.ext x14).upd1 u17).upd1 u18), ?_⟩)
    have zw32 := u18.size
    refine Z.q ?_
    refine Z.x (wp_seq (Z.r [0, 1, 2] ?_))
    refine Z.p [0] [1, 2] [(18, Z.P k8 0)] ?_
    refine Z.L 0 (.int .i64 (((next S q.e).fk : Nat) : Int)) b27 ?_
    refine Z.p [2] [] [(20, .bool ((((next S q.e).fk : Nat) : Int) != (0 : Int)))] ?_
    refine Z.e (Z.c ((((next S q.e).fk : Nat) : Int) != (0 : Int)) (fun h_c20 => ?_) (fun h_c20 => ?_))
    · skip
      refine Z.g [0, 1, 2] ?_
      refine Z.L 0 (.agg #[.int .i64 (((next S q.e).fk : Nat) : Int), .int .i64 (((next S q.e).fa : Nat) : Int)]) b27 ?_
      refine Gx.cons (Gx.op_val (v := .iface 27 (.agg #[.int .i64 (((next S q.e).fk : Nat) : Int), .int .i64 (((next S q.e).fa : Nat) : Int)])) (w' := w32) rfl (by kernel_rfl) (by kernel_rfl) ?_)
      refine Gx.cons (Gx.op_panic (v := .iface 27 (.agg #[.int .i64 (((next S q.e).fk : Nat) : Int), .int .i64 (((next S q.e).fa : Nat) : Int)])) (w' := w32) rfl (by kernel_rfl) (by kernel_rfl) (And.intro rfl ?_))
      have n_c20 : ((((next S q.e).fk : Nat) : Int) == (0 : Int)) = false := by simpa using h_c20
      have p_c20 := h_c20; try simp at p_c20
      exact hP _ (⟨(next S q.e).kind, (next S q.e).at_, (next S q.e).text, (next S q.e).n, (next S q.e).nx, (next S q.e).fk, (next S q.e).fa, q.x, q.y⟩ : Rs) (by unfold nextR; rw [if_pos ((okB_iff q).2 f0)]) (by show (next S q.e).fk ≠ 0; omega) (gb_new (gb_new (gb_ext (gb_ext (gb_ext (gb_ext (gb_refl w b) x1) x12) x13) x14) u17) u18)
    refine wp_skip (Z.x (Z.g [0, 1, 2, 3, 4, 5, 6, 7, 8, 9] ?_))
    refine Z.p [0, 1] [2, 3, 4, 5, 6, 7, 8, 9] [(24, Z.P b 0), (23, Z.P b 0)] ?_
    have n_c20 : ((((next S q.e).fk : Nat) : Int) == (0 : Int)) = true := by simpa using h_c20
    have p_c20 := h_c20; try simp at p_c20
    refine Z.L 0 (.agg #[.int .i64 (((next S q.e).kind : Nat) : Int), .int .i64 (((next S q.e).at_ : Nat) : Int), .string ((next S q.e).text), .int .i64 (((next S q.e).n : Nat) : Int)]) (b26.upd1 u18) ?_
    refine Z.p [3, 4, 5] [6, 7, 8, 9] [(28, Z.P b 1), (27, Z.P b 0), (26, .int .i64 (((next S q.e).nx : Nat) : Int))] ?_
    refine Z.S 1 (.agg #[.int .i64 (((next S q.e).kind : Nat) : Int), .int .i64 (((next S q.e).at_ : Nat) : Int), .string ((next S q.e).text), .int .i64 (((next S q.e).n : Nat) : Int)]) (((y5.ext x14).upd1 u17).upd1 u18) #[.string S, .int .i64 (((next S q.e).kind : Nat) : Int), .int .i64 (((next S q.e).at_ : Nat) : Int), .string ((next S q.e).text), .int .i64 (((next S q.e).n : Nat) : Int), Z.n q.e, Z.n q.x, Z.n q.y] (fun w33 u19 b28 zw33 => ?_)
    refine Z.p [7, 8] [9] [(30, Z.P b 5), (29, Z.P b 0)] ?_
    refine Z.S 5 (.int .i64 (((next S q.e).nx : Nat) : Int)) b28 #[.string S, .int .i64 (((next S q.e).kind : Nat) : Int), .int .i64 (((next S q.e).at_ : Nat) : Int), .string ((next S q.e).text), .int .i64 (((next S q.e).n : Nat) : Int), .int .i64 (((next S q.e).nx : Nat) : Int), Z.n q.x, Z.n q.y] (fun w34 u20 b29 zw34 => ?_)
    refine Gx.ops_nil (Gx.ret_n (Gx.res0 rfl) ?_)
    exact hK _ (⟨(next S q.e).kind, (next S q.e).at_, (next S q.e).text, (next S q.e).n, (next S q.e).nx, (next S q.e).fk, (next S q.e).fa, q.x, q.y⟩ : Rs) (by unfold nextR; rw [if_pos ((okB_iff q).2 f0)]) (by show (next S q.e).fk = 0; omega) (gb_upd (gb_upd (gb_new (gb_new (gb_ext (gb_ext (gb_ext (gb_ext (gb_refl w b) x1) x12) x13) x14) u17) u18) u19) u20) b29
  refine Gx.op_new (.cells #[.int .i64 0, .int .i64 0, .string Z.E, .int .i64 0] 36) rfl (by kernel_rfl) (by kernel_rfl) (fun k10 w35 l10 x15 b30 => ⟨(((hb.ext x1).ext x12).ext x15), ?_⟩)
  have zw35 := x15.size
  have tb30 := b30.lt
  have y6 := ((hb.ext x1).ext x12).ext x15
  refine Z.o 8 (fun R hR => pNext_c S q.e _ R hok.size hok.e (fun w36 x16  => hR _ _ ⟨(y6.ext x16), fun hS11 => ?_⟩))
  have zw36 := x16.size
  refine Z.t 9 (.tuple #[.agg #[.int .i64 (((next S q.e).kind : Nat) : Int), .int .i64 (((next S q.e).at_ : Nat) : Int), .string ((next S q.e).text), .int .i64 (((next S q.e).n : Nat) : Int)], .int .i64 (((next S q.e).nx : Nat) : Int), .agg #[.int .i64 (((next S q.e).fk : Nat) : Int), .int .i64 (((next S q.e).fa : Nat) : Int)]]) hS11 ?_
  refine Z.t 10 (.agg #[.int .i64 (((next S q.e).kind : Nat) : Int), .int .i64 (((next S q.e).at_ : Nat) : Int), .string ((next S q.e).text), .int .i64 (((next S q.e).n : Nat) : Int)]) hS11 ?_
  refine Z.t 11 (.int .i64 (((next S q.e).nx : Nat) : Int)) hS11 ?_
  refine Z.t 12 (.agg #[.int .i64 (((next S q.e).fk : Nat) : Int), .int .i64 (((next S q.e).fa : Nat) : Int)]) hS11 ?_
  refine Z.oSa 15 #[.int .i64 (((next S q.e).kind : Nat) : Int), .int .i64 (((next S q.e).at_ : Nat) : Int), .string ((next S q.e).text), .int .i64 (((next S q.e).n : Nat) : Int)] (b30.ext x16) (fun w37 u21 b31 => ⟨((y6.ext x16).upd1 u21), ?_⟩)
  have zw37 := u21.size
  refine Z.h ((y6.ext x16).upd1 u21) (fun hS12 => ?_)
  refine Z.t 16 (.int .i64 (((next S q.e).nx : Nat) : Int)) hS12 ?_
  refine Z.oSa 17 #[.int .i64 (((next S q.e).fk : Nat) : Int), .int .i64 (((next S q.e).fa : Nat) : Int)] (((b24.ext x15).ext x16).upd1 u21) (fun w38 u22 b32 => ⟨(((y6.ext x16).upd1 u21).upd1 u22), ?_⟩)
  have zw38 := u22.size
  refine Z.q ?_
  refine Z.x (wp_seq (Z.r [0, 1, 2] ?_))
  refine Z.p [0] [1, 2] [(18, Z.P k8 0)] ?_
  refine Z.L 0 (.int .i64 (((next S q.e).fk : Nat) : Int)) b32 ?_
  refine Z.p [2] [] [(20, .bool ((((next S q.e).fk : Nat) : Int) != (0 : Int)))] ?_
  refine Z.e (Z.c ((((next S q.e).fk : Nat) : Int) != (0 : Int)) (fun h_c20 => ?_) (fun h_c20 => ?_))
  · skip
    refine Z.g [0, 1, 2] ?_
    refine Z.L 0 (.agg #[.int .i64 (((next S q.e).fk : Nat) : Int), .int .i64 (((next S q.e).fa : Nat) : Int)]) b32 ?_
    refine Gx.cons (Gx.op_val (v := .iface 27 (.agg #[.int .i64 (((next S q.e).fk : Nat) : Int), .int .i64 (((next S q.e).fa : Nat) : Int)])) (w' := w38) rfl (by kernel_rfl) (by kernel_rfl) ?_)
    refine Gx.cons (Gx.op_panic (v := .iface 27 (.agg #[.int .i64 (((next S q.e).fk : Nat) : Int), .int .i64 (((next S q.e).fa : Nat) : Int)])) (w' := w38) rfl (by kernel_rfl) (by kernel_rfl) (And.intro rfl ?_))
    have n_c20 : ((((next S q.e).fk : Nat) : Int) == (0 : Int)) = false := by simpa using h_c20
    have p_c20 := h_c20; try simp at p_c20
    exact hP _ (⟨(next S q.e).kind, (next S q.e).at_, (next S q.e).text, (next S q.e).n, (next S q.e).nx, (next S q.e).fk, (next S q.e).fa, q.x, q.y⟩ : Rs) (by unfold nextR; rw [if_pos ((okB_iff q).2 f0)]) (by show (next S q.e).fk ≠ 0; omega) (gb_new (gb_new (gb_ext (gb_ext (gb_ext (gb_ext (gb_refl w b) x1) x12) x15) x16) u21) u22)
  refine wp_skip (Z.x (Z.g [0, 1, 2, 3, 4, 5, 6, 7, 8, 9] ?_))
  refine Z.p [0, 1] [2, 3, 4, 5, 6, 7, 8, 9] [(24, Z.P b 0), (23, Z.P b 0)] ?_
  have n_c20 : ((((next S q.e).fk : Nat) : Int) == (0 : Int)) = true := by simpa using h_c20
  have p_c20 := h_c20; try simp at p_c20
  refine Z.L 0 (.agg #[.int .i64 (((next S q.e).kind : Nat) : Int), .int .i64 (((next S q.e).at_ : Nat) : Int), .string ((next S q.e).text), .int .i64 (((next S q.e).n : Nat) : Int)]) (b31.upd1 u22) ?_
  refine Z.p [3, 4, 5] [6, 7, 8, 9] [(28, Z.P b 1), (27, Z.P b 0), (26, .int .i64 (((next S q.e).nx : Nat) : Int))] ?_
  refine Z.S 1 (.agg #[.int .i64 (((next S q.e).kind : Nat) : Int), .int .i64 (((next S q.e).at_ : Nat) : Int), .string ((next S q.e).text), .int .i64 (((next S q.e).n : Nat) : Int)]) (((y6.ext x16).upd1 u21).upd1 u22) #[.string S, .int .i64 (((next S q.e).kind : Nat) : Int), .int .i64 (((next S q.e).at_ : Nat) : Int), .string ((next S q.e).text), .int .i64 (((next S q.e).n : Nat) : Int), Z.n q.e, Z.n q.x, Z.n q.y] (fun w39 u23 b33 zw39 => ?_)
  refine Z.p [7, 8] [9] [(30, Z.P b 5), (29, Z.P b 0)] ?_
  refine Z.S 5 (.int .i64 (((next S q.e).nx : Nat) : Int)) b33 #[.string S, .int .i64 (((next S q.e).kind : Nat) : Int), .int .i64 (((next S q.e).at_ : Nat) : Int), .string ((next S q.e).text), .int .i64 (((next S q.e).n : Nat) : Int), .int .i64 (((next S q.e).nx : Nat) : Int), Z.n q.x, Z.n q.y] (fun w40 u24 b34 zw40 => ?_)
  refine Gx.ops_nil (Gx.ret_n (Gx.res0 rfl) ?_)
  exact hK _ (⟨(next S q.e).kind, (next S q.e).at_, (next S q.e).text, (next S q.e).n, (next S q.e).nx, (next S q.e).fk, (next S q.e).fa, q.x, q.y⟩ : Rs) (by unfold nextR; rw [if_pos ((okB_iff q).2 f0)]) (by show (next S q.e).fk = 0; omega) (gb_upd (gb_upd (gb_new (gb_new (gb_ext (gb_ext (gb_ext (gb_ext (gb_refl w b) x1) x12) x15) x16) u21) u22) u23) u24) b34
theorem advance_p (b : Nat) (S : ByteArray) (q : Rs) (w : World) (K : Ending → World → Prop) (hb : Gx.Has w b (rdP S q)) (hok : Ok S q) (f0 : q.fk = 0) (hP : PQ w b K (nextR S q)) (hK : ∀ w' q', nextR S q = q' → q'.fk = 0 → Gx.G w w' (some b) → Gx.Has w' b (rdP S q') → K (.returned (.tuple #[])) w') : Calls Tryd.prog 26 #[Z.P b 0] w K := advance0_p b S q w K hb ⟨hok.size, hok.e⟩ f0 hP hK
theorem at_p (b : Nat) (S : ByteArray) (q : Rs) (s : ByteArray) (w : World) (K : Ending → World → Prop) (hb : Gx.Has w b (rdP S q)) (f0 : q.fk = 0) (hK : K (.returned (.bool (isB q s))) w) :
    Calls Tryd.prog 73 #[Z.P b 0, .string s] w K := by
  refine Z.en 28 Tryd.func73 ?_
  have tbb := hb.lt
  refine Z.s [(4, .bool false)] ?_
  refine Z.r [0, 1, 2, 3, 4, 5, 6, 7, 8, 9, 10, 11, 12, 13, 14, 15, 16, 17, 18, 19, 20, 21, 22, 23] ?_
  refine Z.p [0, 1, 2, 3] [4, 5, 6, 7, 8, 9, 10, 11, 12, 13, 14, 15, 16, 17, 18, 19, 20, 21, 22, 23] [(8, Z.P b 1), (7, Z.P b 1), (6, Z.P b 0), (5, Z.P b 0)] ?_
  refine Z.L 1 (Z.n q.k) hb ?_
  refine Z.p [5, 6] [7, 8, 9, 10, 11, 12, 13, 14, 15, 16, 17, 18, 19, 20, 21, 22, 23] [(11, .bool (((q.k : Nat) : Int) == (3 : Int))), (10, .bool (((q.k : Nat) : Int) == (3 : Int)))] ?_
  refine Gx.split (((q.k : Nat) : Int) == (3 : Int)) (fun h_g11 => ?_) (fun h_g11 => ?_)
  · rw [h_g11]
    refine Z.p [7, 8, 9, 10, 11, 12, 13, 14, 15, 16, 17, 18] [19, 20, 21, 22, 23] [(23, Z.P b 3), (22, Z.P b 1), (21, Z.P b 0), (20, Z.P b 0), (19, .bool true), (18, .bool true), (17, undef), (16, undef), (15, undef), (14, undef), (13, undef), (12, undef)] ?_
    refine Z.L 3 (.string q.t) hb ?_
    refine Z.p [20, 21, 22, 23] [] [(4, .bool (q.t.toList == s.toList)), (27, .bool (q.t.toList == s.toList)), (26, .bool (q.t.toList == s.toList)), (25, .string s)] ?_
    refine Z.e (wp_ret (Z.v (.bool (q.t.toList == s.toList)) ?_))
    have p_g11 := Gx.k1 h_g11
    exact Gx.ret_as (v' := .bool (isB q s)) (by simp only [isB, (okB_iff q).2 f0, h_g11, Bool.true_and, Bool.false_and, Bool.true_or, Bool.false_or, Bool.or_true, Bool.or_false, Bool.and_true, Bool.and_false]) hK
  rw [h_g11]
  refine Z.p [7, 8, 9, 10] [11, 12, 13, 14, 15, 16, 17, 18, 19, 20, 21, 22, 23] [(15, Z.P b 1), (14, Z.P b 1), (13, Z.P b 0), (12, Z.P b 0)] ?_
  refine Z.L 1 (Z.n q.k) hb ?_
  refine Z.p [12, 13, 14] [15, 16, 17, 18, 19, 20, 21, 22, 23] [(19, .bool (((q.k : Nat) : Int) == (4 : Int))), (18, .bool (((q.k : Nat) : Int) == (4 : Int))), (17, .bool (((q.k : Nat) : Int) == (4 : Int)))] ?_
  refine Gx.split (((q.k : Nat) : Int) == (4 : Int)) (fun h_g19 => ?_) (fun h_g19 => ?_)
  · rw [h_g19]
    refine Z.p [15, 16, 17, 18] [19, 20, 21, 22, 23] [(23, Z.P b 3), (22, Z.P b 1), (21, Z.P b 0), (20, Z.P b 0)] ?_
    refine Z.L 3 (.string q.t) hb ?_
    refine Z.p [20, 21, 22, 23] [] [(4, .bool (q.t.toList == s.toList)), (27, .bool (q.t.toList == s.toList)), (26, .bool (q.t.toList == s.toList)), (25, .string s)] ?_
    refine Z.e (wp_ret (Z.v (.bool (q.t.toList == s.toList)) ?_))
    have p_g11 := Gx.k0 h_g11
    have p_g19 := Gx.k1 h_g19
    exact Gx.ret_as (v' := .bool (isB q s)) (by simp only [isB, (okB_iff q).2 f0, h_g11, h_g19, Bool.true_and, Bool.false_and, Bool.true_or, Bool.false_or, Bool.or_true, Bool.or_false, Bool.and_true, Bool.and_false]) hK
  rw [h_g19]
  refine Z.p [15, 16, 17, 18, 19, 20, 21, 22, 23] [] [(4, .bool false), (27, .bool false), (26, undef), (25, undef), (24, undef), (23, undef), (22, undef), (21, undef), (20, undef)] ?_
  refine Z.e (wp_ret (Z.v (.bool false) ?_))
  have p_g11 := Gx.k0 h_g11
  have p_g19 := Gx.k0 h_g19
  exact Gx.ret_as (v' := .bool (isB q s)) (by simp only [isB, (okB_iff q).2 f0, h_g11, h_g19, Bool.true_and, Bool.false_and, Bool.true_or, Bool.false_or, Bool.or_true, Bool.or_false, Bool.and_true, Bool.and_false]) hK
theorem eat_p (b : Nat) (S : ByteArray) (q : Rs) (s : ByteArray) (w : World) (K : Ending → World → Prop) (hb : Gx.Has w b (rdP S q)) (hok : Ok S q) (f0 : q.fk = 0) (hP : PQ w b K (hasR S q s)) (hK : ∀ w' q', hasR S q s = q' → q'.fk = 0 → Gx.G w w' (some b) → Gx.Has w' b (rdP S q') → K (.returned (.bool (isB q s))) w') :
    Calls Tryd.prog 45 #[Z.P b 0, .string s] w K := by
  refine Z.en 11 Tryd.func45 ?_
  have tbb := hb.lt
  refine Z.s [(4, .bool false)] ?_
  refine wp_seq (Z.r [0, 1, 2, 3] ?_)
  refine Z.p [0, 1] [2, 3] [(6, .string s), (5, Z.P b 0)] ?_
  refine Z.k (fun R hR => at_p b S q s _ R hb f0 (hR _ _ ?_))
  refine Z.p [3] [] [(8, .bool (!(isB q s)))] ?_
  refine Z.e (Z.c (!(isB q s)) (fun h_c8 => ?_) (fun h_c8 => ?_))
  · skip
    refine Z.s [(4, .bool false)] ?_
    refine wp_ret (Gx.then_ret (Z.v (.bool false) ?_))
    have n_c8 : isB q s = false := by simpa using h_c8
    rw [n_c8] at hK; exact hK _ q (by simp only [hasR, h_c8, n_c8, Z.ifs, reduceIte, if_true, if_false, Bool.false_eq_true, reduceIte]) f0 (gb_refl w b) hb
  refine wp_skip (Z.x (Z.r [0, 1] ?_))
  refine Z.p [0] [1] [(9, Z.P b 0)] ?_
  have n_c8 : isB q s = true := by simpa using h_c8
  refine Z.kP (fun R hR hE => advance_p b S q _ R hb hok f0 (fun w1 q1 e1 f1 x1 => hE _ _ (And.intro rfl (hP _ _ (by simp only [hasR, h_c8, n_c8, Z.ifs, reduceIte, if_true]; exact e1) f1 (gb_upd (gb_refl w b) x1)))) (fun w1 q1 e1 f1 x1 b1 => hR _ _ ?_))
  have zw1 := x1.size
  have tb1 := b1.lt
  obtain ⟨ok1, ok1m, ok1x, ok1y⟩ : Tr S q q1 := e1 ▸ next_tr hok
  refine Z.e (Z.s [(4, .bool true)] ?_)
  refine wp_ret (Z.v (.bool true) ?_)
  rw [n_c8] at hK; exact hK _ q1 (by simp only [hasR, e1, h_c8, n_c8, Z.ifs, reduceIte, if_true, if_false, Bool.false_eq_true, reduceIte]) f1 (gb_upd (gb_refl w b) x1) b1
theorem named_p (b : Nat) (S : ByteArray) (q : Rs) (kind : Int) (w : World) (K : Ending → World → Prop) (hb : Gx.Has w b (rdP S q)) (hok : Ok S q) (f0 : q.fk = 0) (hP : PQ w b K ((nameR S q).2)) (hK : ∀ w' q', nameR S q = ((q.t, q.a), q') → q'.fk = 0 → Gx.G w w' (some b) → Gx.Has w' b (rdP S q') → K (.returned (.agg #[.int .i64 kind, Z.n q.a, .string q.t, .int .i64 0, .slice none 0 0])) w') :
    Calls Tryd.prog 47 #[Z.P b 0, .int .i64 kind] w K := by
  refine Z.en 29 Tryd.func47 ?_
  have tbb := hb.lt
  refine Z.r [0] ?_
  refine Z.N Z.c0 (fun k1 w1 l1 x1 b1 zw1 tb1 => ?_)
  refine Z.e (wp_seq (Z.r [0, 1, 2, 3, 4, 5] ?_))
  refine Z.p [0, 1, 2, 3] [4, 5] [(9, Z.P b 1), (8, Z.P b 1), (7, Z.P b 0), (6, Z.P b 0)] ?_
  refine Z.L 1 (Z.n q.k) (hb.ext x1) ?_
  refine Z.p [5] [] [(11, .bool (((q.k : Nat) : Int) != (2 : Int)))] ?_
  refine Z.e (Z.c (((q.k : Nat) : Int) != (2 : Int)) (fun h_c11 => ?_) (fun h_c11 => ?_))
  · skip
    refine Z.g [0, 1] ?_
    refine Z.p [0] [1] [(12, Z.P b 0)] ?_
    have n_c11 : (((q.k : Nat) : Int) == (2 : Int)) = false := by simpa using h_c11
    have p_c11 := h_c11; try simp at p_c11
    refine Z.kP (fun R hR hE => stop_p b S q 4 _ R (hb.ext x1) (hE _ _ (And.intro rfl (hP _ { q with fk := 4, fa := q.a } (name_no f0 (by omega)) (by show (4 : Nat) ≠ 0; decide) (gb_ext (gb_refl w b) x1)))))
  refine wp_skip (Z.x (wp_seq (Z.D (fun w' => Gx.Has w' b (.cells #[.string S, Z.n q.k, Z.n q.a, .string q.t, Z.n q.n, Z.n q.e, Z.n q.x, Z.n q.y] 54)) (fun w2 x2 zw2 => ?_))))
  refine Z.h ((hb.ext x1).ext x2) (fun hS1 => ?_)
  refine Z.t 0 (.int .i64 kind) hS1 ?_
  refine Z.t 1 (Z.P b 0) hS1 ?_
  refine Z.t 2 (Z.P b 0) hS1 ?_
  refine Z.t 3 (Z.P b 1) hS1 ?_
  refine Z.t 4 (Z.P b 2) hS1 ?_
  refine Z.tl 5 2 (Z.n q.a) (fun _ hs => hs) hS1 ?_
  refine Z.t 6 (Z.P b 0) hS1 ?_
  refine Z.t 7 (Z.P b 0) hS1 ?_
  refine Z.t 8 (Z.P b 1) hS1 ?_
  refine Z.t 9 (Z.P b 3) hS1 ?_
  refine Z.tl 10 3 (.string q.t) (fun _ hs => hs) hS1 ?_
  refine Z.t 11 (.agg #[.int .i64 kind, Z.n q.a, .string q.t, .int .i64 0, .slice none 0 0]) hS1 ?_
  refine Z.oN 12 Z.c0 (fun k2 w3 l2 x3 b2 => ⟨(((hb.ext x1).ext x2).ext x3), ?_⟩)
  have zw3 := x3.size
  have tb2 := b2.lt
  have n_c11 : (((q.k : Nat) : Int) == (2 : Int)) = true := by simpa using h_c11
  have p_c11 := h_c11; try simp at p_c11
  have y1 := ((hb.ext x1).ext x2).ext x3
  refine Z.oSa 13 #[.int .i64 kind, Z.n q.a, .string q.t, .int .i64 0, .slice none 0 0] b2 (fun w4 u1 b3 => ⟨(y1.upd1 u1), ?_⟩)
  have zw4 := u1.size
  refine Z.q ?_
  refine Z.x (Z.r [0, 1] ?_)
  refine Z.p [0] [1] [(26, Z.P b 0)] ?_
  have y2 := gb_new (gb_ext (gb_ext (gb_ext (gb_refl w b) x1) x2) x3) u1
  refine Z.kP (fun R hR hE => advance_p b S q _ R (y1.upd1 u1) hok f0 (fun w5 q1 e1 f1 x4 => hE _ _ (And.intro rfl (hP _ _ (by rw [name_yes f0 (by omega)]; exact e1) f1 (gb_upd y2 x4)))) (fun w5 q1 e1 f1 x4 b4 => hR _ _ ?_))
  have zw5 := x4.size
  have tb4 := b4.lt
  obtain ⟨ok1, ok1m, ok1x, ok1y⟩ : Tr S q q1 := e1 ▸ next_tr hok
  refine Z.e (Z.r [0, 1] ?_)
  refine Z.L 0 (.agg #[.int .i64 kind, Z.n q.a, .string q.t, .int .i64 0, .slice none 0 0]) (b3.upd1 x4) ?_
  refine Z.Sa #[.int .i64 kind, Z.n q.a, .string q.t, .int .i64 0, .slice none 0 0] ((((b1.ext x2).ext x3).upd1 u1).upd1 x4) (fun w6 u2 b5 zw6 => ?_)
  refine Z.e (wp_ret (Gx.ret (Gx.res_c (u := .agg #[.int .i64 kind, Z.n q.a, .string q.t, .int .i64 0, .slice none 0 0]) rfl (by kernel_rfl) b5 (by kernel_rfl)) ?_))
  exact hK _ q1 (by rw [name_yes f0 (by omega), e1]) f1 (gb_new (gb_upd y2 x4) u2) (b4.upd1 u2)
theorem must_eat {S : ByteArray} {q q' : Rs} {s : ByteArray} (e : hasR S q s = q') (f : q'.fk ≠ 0) (f0 : q.fk = 0) : mustR S q s = q' := by
  unfold hasR at e
  unfold mustR
  split at e
  · rename_i h; rw [if_pos h]; exact e
  · subst e; exact absurd f0 f
theorem must_eat0 {S : ByteArray} {q q' : Rs} {s : ByteArray} (e : hasR S q s = q') (h : isB q s = true) : mustR S q s = q' := by
  unfold hasR at e
  unfold mustR
  rw [if_pos h] at e ⊢
  exact e
theorem must_not {S : ByteArray} {q : Rs} {s : ByteArray} (f0 : q.fk = 0) (h : isB q s = false) : mustR S q s = { q with fk := 4, fa := q.a } := by
  unfold mustR
  rw [if_neg (by rw [h]; exact Bool.false_ne_true)]
  exact no_fault f0
theorem has_not {S : ByteArray} {q q' : Rs} {s : ByteArray} (e : hasR S q s = q') (h : isB q s = false) : q' = q := by
  unfold hasR at e
  rw [if_neg (by rw [h]; exact Bool.false_ne_true)] at e
  exact e.symm
theorem need_p (b : Nat) (S : ByteArray) (q : Rs) (ps : List ByteArray) (kb cap : Nat) (w : World) (K : Ending → World → Prop) (hb : Gx.Has w b (rdP S q)) (hok : Ok S q) (f0 : q.fk = 0) (hkb : Gx.Has w kb (.cells (psV ps) 9)) (hne : kb ≠ b) (hps : ps.length ≤ 1000) (hP : PQ w b K (mustsR S q ps)) (hK : ∀ w' q', mustsR S q ps = q' → q'.fk = 0 → Gx.G w w' (some b) → Gx.Has w' b (rdP S q') → K (.returned (.tuple #[])) w') :
    Calls Tryd.prog 46 #[Z.P b 0, .slice (some ⟨kb, 0, none⟩) ps.length cap] w K := by
  refine Z.en 19 Tryd.func46 ?_
  have tbb := hb.lt
  have tkb := hkb.lt
  refine Z.s [(8, .int .i64 0), (7, Z.n ps.length), (6, .slice (some ⟨kb, 0, none⟩) ps.length cap)] ?_
  refine wp_block (Gx.loop (n' := 19) (d' := []) (fun mz l' w' => ∃ (i : Nat) (qi : Rs), l' = [(0, Z.P b 0), (6, .slice (some ⟨kb, 0, none⟩) ps.length cap), (7, Z.n ps.length), (8, Z.n i)] ∧ mz = ps.length - i ∧ Gx.G w w' (some b) ∧ Gx.Has w' b (.cells #[.string S, Z.n qi.k, Z.n qi.a, .string qi.t, Z.n qi.n, Z.n qi.e, Z.n qi.x, Z.n qi.y] 54) ∧ Gx.Has w' kb (.cells (psV ps) 9) ∧ (i ≤ ps.length) ∧ (mustsR S q (ps.take i) = qi) ∧ (qi.fk = 0) ∧ (Ok S qi)) _ _ [(0, Z.P b 0), (6, .slice (some ⟨kb, 0, none⟩) ps.length cap), (7, Z.n ps.length), (8, Z.n 0)] (Gx.forget [(0, Z.P b 0), (6, .slice (some ⟨kb, 0, none⟩) ps.length cap), (7, Z.n ps.length), (8, Z.n 0)] (by kernel_rfl)) ⟨0, q, rfl, rfl, (gb_refl w b), hb, hkb, (Nat.zero_le _), rfl, f0, hok⟩ (fun bb1 m1 ll1 w1 hI1 K1 hK1 => ?_))
  obtain ⟨i, qi, rfl, rfl, x1, b1, b2, hi, hq, fq, oq⟩ := hI1
  have zw1 := x1.size
  have tb1 := b1.lt
  have tb2 := b2.lt
  refine Z.s [(9, .bool (decide (((i : Nat) : Int) < ((ps.length : Nat) : Int))))] ?_
  refine wp_seq (Z.c (decide (((i : Nat) : Int) < ((ps.length : Nat) : Int))) (fun h_c9 => ?_) (fun h_c9 => ?_))
  · skip
    refine wp_skip (Z.x (wp_seq (wp_block (Z.r [0, 1, 2] ?_))))
    have p_c9 := of_decide_eq_true h_c9
    refine Gx.cons (Gx.op_indexAddr (bk := kb) rfl (by kernel_rfl) rfl 9 1 (by kernel_rfl) (by kernel_rfl) 0 ps.length cap (by kernel_rfl) .i64 i (by kernel_rfl) (by omega) ?_)
    refine Gx.cons (Gx.op_load rfl (by kernel_rfl) rfl (0 + i * 1) (.string (ps.getD i Z.E)) (by kernel_rfl) b2 (loadB_psV ps i (by omega)) ?_)
    refine Z.p [2] [] [(5, .string (ps.getD i Z.E))] ?_
    refine Z.e (Z.r [0, 1, 2, 3] ?_)
    refine Z.p [0, 1] [2, 3] [(13, .string (ps.getD i Z.E)), (12, Z.P b 0)] ?_
    have y1 := gb_upd (gb_refl w b) x1
    refine Z.kP (fun R hR hE => eat_p b S qi (ps.getD i Z.E) _ R b1 oq fq (fun w2 q1 e1 f1 x2 => hE _ _ (And.intro rfl (hP _ _ (musts_stop ps (i + 1) (by rw [musts_succ ps i (by omega), hq]; exact must_eat e1 f1 fq) f1) f1 (gb_upd y1 x2)))) (fun w2 q1 e1 f1 x2 b3 => hR _ _ ?_))
    have zw2 := x2.size
    have tb3 := b3.lt
    obtain ⟨ok1, ok1m, ok1x, ok1y⟩ : Tr S qi q1 := e1 ▸ has_tr oq
    refine Z.p [3] [] [(15, .bool (!(isB qi (ps.getD i Z.E))))] ?_
    refine Z.e (Z.c (!(isB qi (ps.getD i Z.E))) (fun h_c15 => ?_) (fun h_c15 => ?_))
    · skip
      refine Z.g [0, 1] ?_
      refine Z.p [0] [1] [(16, Z.P b 0)] ?_
      have n_c15 : isB qi (ps.getD i Z.E) = false := by simpa using h_c15
      refine Z.kP (fun R hR hE => stop_p b S q1 4 _ R b3 (hE _ _ (And.intro rfl (by have z := has_not e1 n_c15; subst z; exact hP _ { q1 with fk := 4, fa := q1.a } (musts_stop ps (i + 1) (by rw [musts_succ ps i (by omega), hq]; exact must_not fq n_c15) (by show (4 : Nat) ≠ 0; decide)) (by show (4 : Nat) ≠ 0; decide) (gb_upd y1 x2)))))
    refine wp_skip (Gx.block_normal (Z.x (Z.g [0, 1] ?_)))
    have n_c15 : isB qi (ps.getD i Z.E) = true := by simpa using h_c15
    refine Gx.pure_eq [0] [1] [(18, .int .i64 (IntKind.i64.wrap (((i : Nat) : Int) + (1 : Int))))] [(18, .int .i64 ((i + 1 : Nat) : Int))] rfl (by kernel_rfl) (Gx.eqI (Gx.i64n (by omega) (by omega))) ?_
    refine Z.p [1] [] [(8, .int .i64 ((i + 1 : Nat) : Int))] ?_
    refine Gx.ops_nil (Z.x ?_)
    rw [Gx.forget [(0, Z.P b 0), (6, .slice (some ⟨kb, 0, none⟩) ps.length cap), (7, Z.n ps.length), (8, .int .i64 (((i + 1) : Nat) : Int))] (by kernel_rfl)]
    exact hK1 _ _ _ _ (by omega) ⟨(i + 1), q1, rfl, rfl, (gb_upd y1 x2), b3, (b2.upd1 x2), (by omega), (by rw [musts_succ ps i (by omega), hq]; exact must_eat0 e1 n_c15), f1, ok1⟩
  refine wp_exit (Gx.then_exit (Gx.then_exit (Gx.block_exit (Gx.ret_n (Gx.res0 rfl) ?_))))
  have p_c9 := of_decide_eq_false h_c9
  obtain rfl : i = ps.length := by omega
  rw [List.take_length] at hq
  exact hK _ qi hq fq (gb_upd (gb_refl w b) x1) b1
end Par
end Go.Proofs.YtinilkomfggjiaaDoor
