/- The walks, written by a program of ours (wip/gx/gx.py, parsegen.py). -/
import Derived.Test.YtinilkomfggjiaaDoorRows
import Derived.Test.YtinilkomfggjiaaDoorGs
import Derived.Test.YtinilkomfggjiaaDoorGp
import Derived.Test.YtinilkomfggjiaaDoorZs
import Derived.Test.YtinilkomfggjiaaDoorLexWalks4
import Derived.Test.YtinilkomfggjiaaDoorParWalks1
set_option linter.unusedVariables false
set_option linter.unusedSimpArgs false
set_option maxHeartbeats 4000000
set_option maxRecDepth 20000
namespace Go.Proofs.YtinilkomfggjiaaDoor
namespace Par
open Go.RowKit Go.Lex Go.Syn
attribute [local irreducible] Go.wpOps Go.Code.wp Go.wpOp Go.wpAnyH Go.Calls
theorem id_ok {q : Rs} (f : q.fk ≠ 0) : okB q = false := by
  by_cases h : okB q = true
  · exact absurd ((okB_iff q).1 h) f
  · simpa using h
theorem id_is {q : Rs} (f : q.fk ≠ 0) (s : ByteArray) : isB q s = false := by unfold isB; rw [id_ok f]; simp
theorem id_nm {q : Rs} (f : q.fk ≠ 0) : isNameB q = false := by unfold isNameB; rw [id_ok f]; simp
theorem id_bg {q : Rs} (f : q.fk ≠ 0) : begB q = false := by unfold begB; rw [id_ok f]; simp
theorem id_nx {q : Rs} (f : q.fk ≠ 0) (S : ByteArray) : nextR S q = q := by unfold nextR; rw [id_ok f]; simp
theorem id_no {q : Rs} (f : q.fk ≠ 0) : noR q = q := by unfold noR; rw [id_ok f]; simp
theorem id_hs {q : Rs} (f : q.fk ≠ 0) (S s : ByteArray) : hasR S q s = q := by unfold hasR; rw [id_is f]; simp
theorem id_ms {q : Rs} (f : q.fk ≠ 0) (S s : ByteArray) : mustR S q s = q := by unfold mustR; rw [id_is f, id_no f]; simp
theorem id_na {q : Rs} (f : q.fk ≠ 0) (S : ByteArray) : nameR S q = ((Z.E, 0), q) := by unfold nameR; rw [id_nm f, id_no f]; simp
theorem id_run {S : ByteArray} {q : Rs} (f : q.fk ≠ 0) (k : Nat) : ∀ nt, (run S k nt q).2 = q := by
  induction k with
  | zero => exact fun _ => id_no f
  | succ k ih =>
    intro nt
    rw [run_succ]
    cases nt <;> simp only [stepN, typS, pairS, someS, listLS, namesLS, exprS, anyS, paramS, paramsS, letT, letS, casesS, handT, handleS, handLS, compS, consS, sumS, sumLS, mulS, mulLS, appS, appLS, numS, atomS, roundS, squareS, squareLS, opsT, opsLS, defsT, defsLS, progS, fnS, id_ok f, id_is f, id_nm f, id_bg f, id_nx f, id_no f, id_hs f, id_ms f, id_na f, ih, Bool.false_eq_true, if_false, reduceIte, ite_self]
    all_goals (repeat' split)
    all_goals (first | rfl | exact ih _)
theorem idl {q : Rs} (f : q.fk ≠ 0) : okB q = false ∧ (∀ s, isB q s = false) ∧ isNameB q = false ∧ begB q = false ∧ (∀ S, nextR S q = q) ∧ noR q = q ∧ (∀ S s, hasR S q s = q) ∧ (∀ S s, mustR S q s = q) ∧ (∀ S, nameR S q = ((Z.E, 0), q)) ∧ (∀ S k nt, (run S k nt q).2 = q) :=
  ⟨id_ok f, id_is f, id_nm f, id_bg f, fun S => id_nx f S, id_no f, fun S s => id_hs f S s, fun S s => id_ms f S s, fun S => id_na f S, fun S k nt => id_run f k nt⟩
theorem has_pan {S : ByteArray} {q q' : Rs} {s : ByteArray} (e : hasR S q s = q') (f : q'.fk ≠ 0) (f0 : q.fk = 0) : isB q s = true := by
  by_cases h : isB q s = true
  · exact h
  · have := has_not e (by simpa using h)
    subst this
    exact absurd f0 f
theorem must_pan {S : ByteArray} {q q' : Rs} {s : ByteArray} (e : mustR S q s = q') (f0 : q.fk = 0) : (isB q s = true ∧ hasR S q s = q' ∧ nextR S q = q') ∨ (isB q s = false ∧ hasR S q s = q ∧ noR q = q') := by
  by_cases h : isB q s = true
  · unfold mustR at e; rw [if_pos h] at e; unfold hasR; rw [if_pos h]; exact .inl ⟨h, e, e⟩
  · unfold mustR at e; rw [if_neg h] at e; unfold hasR; rw [if_neg h]; exact .inr ⟨by simpa using h, rfl, e⟩
theorem must_ok {S : ByteArray} {q q' : Rs} {s : ByteArray} (e : mustR S q s = q') (f0 : q.fk = 0) (f : q'.fk = 0) : isB q s = true ∧ hasR S q s = q' ∧ nextR S q = q' := by
  rcases must_pan e f0 with h | ⟨_, _, h⟩
  · exact h
  · rw [no_fault f0] at h; subst h; cases f
theorem has_is {S : ByteArray} {q : Rs} {s : ByteArray} (h : isB q s = true) : hasR S q s = nextR S q := by unfold hasR; rw [if_pos h]
theorem flat_app (L M : List (Nd × Option Addr × Nat)) : flat (L ++ M) = flat L ++ flat M := by simp [flat]
theorem own_slice {w : World} {base n : Nat} {e : TypeId} {v : Value} {xs : List Value} (h : w.ownsRow base e 5 v n xs) : ∃ A c, v = .slice A n c := by
  obtain ⟨_, A, c, e, _⟩ := Gx.own_shape h
  exact ⟨A, c, e⟩
section
variable {w w' w'' : World} {r : Option Nat} {j : Nat}
theorem gr_refl (w : World) (r : Option Nat) : Gx.G w w r := ⟨rfl, rfl, rfl, Nat.le_refl _, fun _ _ _ => rfl⟩
theorem gr_same (h : Gx.G w w' r) (k : Gx.G w' w'' r) : Gx.G w w'' r :=
  ⟨k.os.trans h.os, k.tape.trans h.tape, k.output.trans h.output, Nat.le_trans h.size k.size, fun i hi hn => (k.block i (Nat.lt_of_lt_of_le hi h.size) hn).trans (h.block i hi hn)⟩
theorem gr_ext (h : Gx.G w w' r) (k : Gx.Ext w' w'') : Gx.G w w'' r :=
  ⟨k.os.trans h.os, k.tape.trans h.tape, k.output.trans h.output, Nat.le_trans h.size k.size, fun i hi hn => (k.block i (Nat.lt_of_lt_of_le hi h.size) (by simp)).trans (h.block i hi hn)⟩
theorem gr_new (h : Gx.G w w' r) (k : Gx.G w' w'' (some j)) (hj : w.heap.size ≤ j := by omega) : Gx.G w w'' r :=
  ⟨k.os.trans h.os, k.tape.trans h.tape, k.output.trans h.output, Nat.le_trans h.size k.size, fun i hi hn => (k.block i (Nat.lt_of_lt_of_le hi h.size) (fun e => by cases e; omega)).trans (h.block i hi hn)⟩
end
theorem _root_.Go.Syn.KV.otherV {lo hi : Nat} {X : List Nat} {v : Value} {w w' : World} {ks : List Nd} {A : Option Addr} {c : Nat} {r : Option Nat} (h : KV (InV lo hi X v) w ks A c) (x : Gx.G w w' r) (hk : ∀ j, r = some j → j < lo ∨ hi ≤ j) : KV (InV lo hi X v) w' ks A c :=
  h.frame (fun j hj hs => x.block j hs (fun e => by
    obtain ⟨⟨h1, h2, h3⟩, _⟩ := hj
    rcases hk j e.symm with q | q <;> omega))
def arrowR (S : ByteArray) (k : Nat) (q : Rs) : Nd × Rs := fnS S (run S k) (run S k .pair q).1 (run S k .pair q).2
def numR (S : ByteArray) (q : Rs) : Rs := if (((q.k : Nat) : Int) != (1 : Int)) = true then nextR S (noR q) else nextR S q
theorem num_2 {S : ByteArray} {q q1 : Rs} (h : okB q1 = true) : (numS S q q1).2 = numR S q1 := by unfold numS numR; rw [if_pos h]; split <;> rfl
theorem num_yes {S : ByteArray} {q : Rs} (h : q.k = 1) : numR S q = nextR S q := by unfold numR; rw [if_neg (by simp [h])]
theorem num_no {S : ByteArray} {q : Rs} (f0 : q.fk = 0) (h : ¬ q.k = 1) : numR S q = { q with fk := 4, fa := q.a } := by
  unfold numR
  rw [if_pos (by simp; omega), no_fault f0]
  exact id_nx (q := { q with fk := 4, fa := q.a }) (by show (4 : Nat) ≠ 0; decide) S
theorem num_1 {S : ByteArray} {q q1 : Rs} (h : okB q1 = true) (hk : q1.k = 1) : numS S q q1 = (.mk 3 q.a Z.E (-((q1.n : Nat) : Int)) [], nextR S q1) := by unfold numS; rw [if_pos h, if_neg (by simp [hk])]
theorem nm_next {S : ByteArray} {q q' : Rs} {x : (ByteArray × Nat)} (f0 : q.fk = 0) (f : q'.fk = 0) (e : nameR S q = (x, q')) : nextR S q = q' := by
  by_cases h : q.k = 2
  · rw [name_yes f0 h] at e; cases e; rfl
  · have := name_no (S := S) f0 h
    rw [e] at this
    dsimp only at this
    subst this
    cases f
theorem nm_nextp {S : ByteArray} {q q' : Rs} (f0 : q.fk = 0) (h : q.k = 2) (e : (nameR S q).2 = q') : nextR S q = q' := by
  rw [name_yes f0 h] at e
  exact e
def ifR (S : ByteArray) (R : NT → Rs → Nd × Rs) (at_ : Nat) (q3 : Rs) : Nd × Rs :=
  let ra := R .expr q3
  let qa := mustR S ra.2 Z.k45
  let rb := R .expr qa
  let qb := mustR S rb.2 Z.k46
  let rc := R .expr qb
  (.mk 11 at_ Z.E 0 [ra.1, rb.1, rc.1], rc.2)
def nmT (S : ByteArray) (R : NT → Rs → Nd × Rs) (l : List Nd) (p : Rs) : Nd × Rs :=
  let q1 := hasR S p Z.k16
  if isB p Z.k16 = true then R (.namesL l) q1 else (.mk 0 0 Z.E 0 l, q1)
def sqT (S : ByteArray) (R : NT → Rs → Nd × Rs) (l : List Nd) (p : Rs) : Nd × Rs :=
  let q1 := hasR S p Z.k16
  if isB p Z.k16 = true then R (.squareL l) q1 else (.mk 0 0 Z.E 0 l, q1)
theorem hand_sh {S : ByteArray} {R : NT → Rs → Nd × Rs} {a : Nat} {q q' : Rs} {t : Nd} (e : handT S R a 0 q = (t, q')) : handT S R a 1 q = (.mk t.k t.a t.nm 1 t.ks, q') := by
  unfold handT at e ⊢
  cases e
  rfl
theorem kw_no {S : ByteArray} {q : Rs} {s : ByteArray} (h : Ok S q) (hk : ¬ q.k = 3) (hl : letterB (Gx.byteAt s 0) = true) : isB q s = false := by
  by_cases e : isB q s = true
  · have p := isB_ok e
    have := h.sg p.1 (by omega)
    rw [p.2.2, hl] at this
    cases this
  · simpa using e
theorem kw_ne {q : Rs} {s t : ByteArray} (h : (q.t.toList == t.toList) = true) (hn : (t.toList == s.toList) = false) : isB q s = false := by
  have e : q.t.toList = t.toList := by simpa using h
  unfold isB
  rw [e, hn, Bool.and_false]
theorem kw_ne' {q : Rs} {s : ByteArray} (h : (q.t.toList == s.toList) = false) : isB q s = false := by
  unfold isB
  rw [h, Bool.and_false]
theorem kw_yes {q : Rs} {s : ByteArray} (f0 : q.fk = 0) (hk : q.k = 3) (h : (q.t.toList == s.toList) = true) : isB q s = true := by
  unfold isB
  rw [(okB_iff q).2 f0, h, hk]
  rfl
theorem par_nm {S : ByteArray} {k : Nat} {q : Rs} {sign : ByteArray} (h : isNameB q = true) : run S (k + 1) (.params sign false) q = run S (k + 1) (.params sign true) q := by
  simp only [run_succ, stepN, paramsS, h, if_true, reduceIte]
  simp
theorem par_no {S : ByteArray} {k : Nat} {q : Rs} {sign : ByteArray} (h : isNameB q = false) : run S (k + 1) (.params sign false) q = run S k .expr (mustR S q sign) := by
  simp only [run_succ, stepN, paramsS, h, if_false, reduceIte, Bool.false_eq_true]
theorem with_p (base kb c : Nat) (L M : List (Nd × Option Addr × Nat)) (A : Option Addr) (cc : Nat) (cs : Array Value) (k a n : Int) (nm : ByteArray) (w : World) (K : Ending → World → Prop) (hown : w.ownsRow base 24 5 (.slice A L.length cc) L.length (flat L)) (hkb : Gx.Has w kb (.cells cs 24)) (hcs : cs.toList = flat M) (hlen : L.length + M.length ≤ 9000) (hbase : base ≤ w.heap.size) (hK : ∀ A' c' w' j, w'.ownsRow base 24 5 (.slice A' (L ++ M).length c') (L ++ M).length (flat (L ++ M)) → ((.slice A' (L ++ M).length c' : Value).ownBlock = ((.slice A L.length cc) : Value).ownBlock ∨ (.slice A' (L ++ M).length c' : Value).ownBlock = some j) → w.heap.size ≤ j → Gx.G w w' ((.slice A L.length cc) : Value).ownBlock → K (.returned (.agg #[.int .i64 k, .int .i64 a, .string nm, .int .i64 n, .slice A' (L ++ M).length c'])) w') :
    Calls Tryd.prog 48 #[.agg #[.int .i64 k, .int .i64 a, .string nm, .int .i64 n, (.slice A L.length cc)], .slice (some ⟨kb, 0, none⟩) M.length c] w K := by
  refine Z.en 11 Tryd.func48 ?_
  have tkb := hkb.lt
  refine Z.r [0, 1] ?_
  refine Z.N (.cells #[.int .i64 k, .int .i64 a, .string nm, .int .i64 n, (.slice A L.length cc)] 24) (fun k1 w1 l1 x1 b1 zw1 tb1 => ?_)
  refine Z.N Z.c0 (fun k2 w2 l2 x2 b2 zw2 tb2 => ?_)
  refine Z.e (Z.r [0, 1, 2, 3, 4, 5] ?_)
  refine Z.p [0] [1, 2, 3, 4, 5] [(5, Z.P k1 4)] ?_
  refine Z.L 4 ((.slice A L.length cc)) (b1.ext x2) ?_
  refine Z.p [2] [3, 4, 5] [(7, .slice (some ⟨kb, 0, none⟩) M.length c)] ?_
  refine Gx.cons (Gx.op_appendAt rfl (by kernel_rfl) rfl 24 5 64 (by kernel_rfl) (by kernel_rfl) (by kernel_rfl) base (by kernel_rfl) (Gx.own_ext (Gx.own_ext hown x1) x2) 0 M.length c (by kernel_rfl) ((hkb.ext x1).ext x2) (flat M) (by rw [hcs, List.drop_zero, List.take_of_length_le (by rw [flat_len]; exact Nat.le_refl _)]) (flat_len _) (flat_one _) (by unfold maxLen; omega) (by omega) (by omega) (fun v1 w3 ow1 g1 nl1 => ?_))
  have zw3 := g1.size
  obtain ⟨A1, c1, rfl⟩ := own_slice ow1
  have hbw1 : ∀ j, (.slice A1 (L.length + M.length) c1 : Value).ownBlock = some j → j < w.heap.size ∨ w2.heap.size ≤ j := fun j e => by rcases nl1 with q | q; (rw [q] at e; have := hown.lt j e; exact .inl (by omega)); (rw [q] at e; cases e; exact .inr (Nat.le_refl _))
  refine Z.p [4] [5] [(9, Z.P k1 4)] ?_
  refine Gx.cons (Gx.op_storeO rfl (by kernel_rfl) rfl 4 ((.slice A1 (L.length + M.length) c1 : Value)) (by kernel_rfl) (by kernel_rfl) ((b1.ext x2).upd g1 (fun e => by have := (hown).lt _ e.symm; omega)) (by kernel_rfl) (Gx.own_cells' ow1) (by kernel_rfl) #[.int .i64 k, .int .i64 a, .string nm, .int .i64 n, (.slice A1 (L.length + M.length) c1 : Value)] (by kernel_rfl) (fun w4 u1 b3 => ?_))
  have zw4 := u1.size
  refine Z.e (Z.r [0, 1] ?_)
  refine Z.L 0 (.agg #[.int .i64 k, .int .i64 a, .string nm, .int .i64 n, (.slice A1 (L.length + M.length) c1 : Value)]) b3 ?_
  refine Z.Sa #[.int .i64 k, .int .i64 a, .string nm, .int .i64 n, (.slice A1 (L.length + M.length) c1 : Value)] ((b2.upd g1 (fun e => by have := (hown).lt _ e.symm; omega)).upd1 u1) (fun w5 u2 b4 zw5 => ?_)
  refine Z.e (wp_ret (Gx.ret (Gx.res_c (u := .agg #[.int .i64 k, .int .i64 a, .string nm, .int .i64 n, (.slice A1 (L.length + M.length) c1 : Value)]) rfl (by kernel_rfl) b4 (by kernel_rfl)) ?_))
  rw [List.length_append, flat_app] at hK; exact hK _ _ _ w2.heap.size (Gx.own_upd1 (Gx.own_upd1 ow1 u1 (fun q e => by rcases hbw1 q e with z | z <;> omega)) u2 (fun q e => by rcases hbw1 q e with z | z <;> omega)) nl1 (by omega) (gr_new (gr_new (gr_same (gr_ext (gr_ext (gr_refl w ((.slice A L.length cc) : Value).ownBlock) x1) x2) g1) u1) u2)
theorem number_p (b : Nat) (S : ByteArray) (q : Rs) (w : World) (K : Ending → World → Prop) (hb : Gx.Has w b (rdP S q)) (hok : Ok S q) (f0 : q.fk = 0) (hP : PQ w b K (numR S q)) (hK : ∀ w' q', q.k = 1 → nextR S q = q' → q'.fk = 0 → Gx.G w w' (some b) → Gx.Has w' b (rdP S q') → K (.returned (Z.n q.n)) w') :
    Calls Tryd.prog 120 #[Z.P b 0] w K := by
  refine Z.en 20 Tryd.func120 ?_
  have tbb := hb.lt
  refine Z.s [(2, .int .i64 0)] ?_
  refine wp_seq (Z.r [0, 1, 2, 3, 4, 5] ?_)
  refine Z.p [0, 1, 2, 3] [4, 5] [(7, Z.P b 1), (6, Z.P b 1), (5, Z.P b 0), (4, Z.P b 0)] ?_
  refine Z.L 1 (Z.n q.k) hb ?_
  refine Z.p [5] [] [(9, .bool (((q.k : Nat) : Int) != (1 : Int)))] ?_
  refine Z.e (Z.c (((q.k : Nat) : Int) != (1 : Int)) (fun h_c9 => ?_) (fun h_c9 => ?_))
  · skip
    refine Z.g [0, 1] ?_
    refine Z.p [0] [1] [(10, Z.P b 0)] ?_
    have n_c9 : (((q.k : Nat) : Int) == (1 : Int)) = false := by simpa using h_c9
    have p_c9 := h_c9; try simp at p_c9
    refine Z.kP (fun R hR hE => stop_p b S q 4 _ R hb (hE _ _ (And.intro rfl (hP _ { q with fk := 4, fa := q.a } (num_no f0 (by omega)) (by show (4 : Nat) ≠ 0; decide) (gb_refl w b)))))
  refine wp_skip (Z.x (Z.r [0, 1, 2, 3, 4, 5] ?_))
  refine Z.p [0, 1, 2, 3] [4, 5] [(15, Z.P b 4), (14, Z.P b 1), (13, Z.P b 0), (12, Z.P b 0)] ?_
  refine Z.L 4 (Z.n q.n) hb ?_
  refine Z.p [5] [] [(3, Z.n q.n)] ?_
  refine Z.e (Z.r [0, 1] ?_)
  refine Z.p [0] [1] [(17, Z.P b 0)] ?_
  have n_c9 : (((q.k : Nat) : Int) == (1 : Int)) = true := by simpa using h_c9
  have p_c9 := h_c9; try simp at p_c9
  refine Z.kP (fun R hR hE => advance_p b S q _ R hb hok f0 (fun w1 q1 e1 f1 x1 => hE _ _ (And.intro rfl (hP _ _ (by rw [num_yes (by omega)]; exact e1) f1 (gb_upd (gb_refl w b) x1)))) (fun w1 q1 e1 f1 x1 b1 => hR _ _ ?_))
  have zw1 := x1.size
  have tb1 := b1.lt
  obtain ⟨ok1, ok1m, ok1x, ok1y⟩ : Tr S q q1 := e1 ▸ next_tr hok
  have kbq1 := (okB_iff q1).2 f1
  refine Z.e (Z.s [(2, Z.n q.n), (19, Z.n q.n)] ?_)
  refine wp_ret (Z.v (Z.n q.n) ?_)
  exact hK _ q1 (by omega) e1 f1 (gb_upd (gb_refl w b) x1) b1
def plainV (s : ByteArray) : Value := if (s.toList == Z.k23.toList) = true then .int .i64 24 else if (s.toList == Z.k26.toList) = true then .int .i64 25 else if (s.toList == Z.k31.toList) = true then .int .i64 26 else .int .i64 0
def keywordV (s : ByteArray) : Value := if (s.toList == Z.k12.toList) = true then .func (.func 98) #[] #[] else if (s.toList == Z.k25.toList) = true then .func (.func 99) #[] #[] else if (s.toList == Z.k28.toList) = true then .func (.func 100) #[] #[] else if (s.toList == Z.k32.toList) = true then .func (.func 101) #[] #[] else if (s.toList == Z.k27.toList) = true then .func (.func 102) #[] #[] else if (s.toList == Z.k33.toList) = true then .func (.func 103) #[] #[] else .nilFunc
theorem plain_p (s : ByteArray) (w : World) (K : Ending → World → Prop)  (hK : K (.returned (plainV s)) w) :
    Calls Tryd.prog 112 #[.string s] w K := by
  refine Z.en 10 Tryd.func112 ?_
  refine Z.s [(2, .int .i64 0)] ?_
  refine wp_seq (Z.s [(3, .string s)] ?_)
  refine wp_block (Z.s [(4, .bool (s.toList == Z.k23.toList)), (5, .bool (s.toList == Z.k23.toList))] ?_)
  refine Z.c (s.toList == Z.k23.toList) (fun h_c4 => ?_) (fun h_c4 => ?_)
  · skip
    refine Z.s [(2, .int .i64 24)] ?_
    refine wp_ret (Gx.block_ret (Gx.then_ret (Z.v (.int .i64 24) ?_)))
    have p_c4 := h_c4; try simp at p_c4
    exact Gx.ret_as (v' := plainV s) (by simp only [plainV, h_c4, if_true, if_false, Bool.false_eq_true, reduceIte]) hK
  refine Z.s [(6, .bool (s.toList == Z.k26.toList)), (7, .bool (s.toList == Z.k26.toList))] ?_
  refine Z.c (s.toList == Z.k26.toList) (fun h_c6 => ?_) (fun h_c6 => ?_)
  · skip
    refine Z.s [(2, .int .i64 25)] ?_
    refine wp_ret (Gx.block_ret (Gx.then_ret (Z.v (.int .i64 25) ?_)))
    have p_c4 := h_c4; try simp at p_c4
    have p_c6 := h_c6; try simp at p_c6
    exact Gx.ret_as (v' := plainV s) (by simp only [plainV, h_c4, h_c6, if_true, if_false, Bool.false_eq_true, reduceIte]) hK
  refine Z.s [(8, .bool (s.toList == Z.k31.toList)), (9, .bool (s.toList == Z.k31.toList))] ?_
  refine Z.c (s.toList == Z.k31.toList) (fun h_c8 => ?_) (fun h_c8 => ?_)
  · skip
    refine Z.s [(2, .int .i64 26)] ?_
    refine wp_ret (Gx.block_ret (Gx.then_ret (Z.v (.int .i64 26) ?_)))
    have p_c4 := h_c4; try simp at p_c4
    have p_c6 := h_c6; try simp at p_c6
    have p_c8 := h_c8; try simp at p_c8
    exact Gx.ret_as (v' := plainV s) (by simp only [plainV, h_c4, h_c6, h_c8, if_true, if_false, Bool.false_eq_true, reduceIte]) hK
  refine wp_skip (Gx.block_normal (Z.x (Z.s [(2, .int .i64 0)] ?_)))
  refine wp_ret (Z.v (.int .i64 0) ?_)
  have p_c4 := h_c4; try simp at p_c4
  have p_c6 := h_c6; try simp at p_c6
  have p_c8 := h_c8; try simp at p_c8
  exact Gx.ret_as (v' := plainV s) (by simp only [plainV, h_c4, h_c6, h_c8, if_true, if_false, Bool.false_eq_true, reduceIte]) hK
theorem keyword_p (s : ByteArray) (w : World) (K : Ending → World → Prop)  (hK : K (.returned (keywordV s)) w) :
    Calls Tryd.prog 91 #[.string s] w K := by
  refine Z.en 16 Tryd.func91 ?_
  refine Z.s [(2, .nilFunc)] ?_
  refine wp_seq (Z.s [(3, .string s)] ?_)
  refine wp_block (Z.s [(4, .bool (s.toList == Z.k12.toList)), (5, .bool (s.toList == Z.k12.toList))] ?_)
  refine Z.c (s.toList == Z.k12.toList) (fun h_c4 => ?_) (fun h_c4 => ?_)
  · skip
    refine Z.s [(2, .func (.func 98) #[] #[])] ?_
    refine wp_ret (Gx.block_ret (Gx.then_ret (Z.v (.func (.func 98) #[] #[]) ?_)))
    have p_c4 := h_c4; try simp at p_c4
    exact Gx.ret_as (v' := keywordV s) (by simp only [keywordV, h_c4, if_true, if_false, Bool.false_eq_true, reduceIte]) hK
  refine Z.s [(6, .bool (s.toList == Z.k25.toList)), (7, .bool (s.toList == Z.k25.toList))] ?_
  refine Z.c (s.toList == Z.k25.toList) (fun h_c6 => ?_) (fun h_c6 => ?_)
  · skip
    refine Z.s [(2, .func (.func 99) #[] #[])] ?_
    refine wp_ret (Gx.block_ret (Gx.then_ret (Z.v (.func (.func 99) #[] #[]) ?_)))
    have p_c4 := h_c4; try simp at p_c4
    have p_c6 := h_c6; try simp at p_c6
    exact Gx.ret_as (v' := keywordV s) (by simp only [keywordV, h_c4, h_c6, if_true, if_false, Bool.false_eq_true, reduceIte]) hK
  refine Z.s [(8, .bool (s.toList == Z.k28.toList)), (9, .bool (s.toList == Z.k28.toList))] ?_
  refine Z.c (s.toList == Z.k28.toList) (fun h_c8 => ?_) (fun h_c8 => ?_)
  · skip
    refine Z.s [(2, .func (.func 100) #[] #[])] ?_
    refine wp_ret (Gx.block_ret (Gx.then_ret (Z.v (.func (.func 100) #[] #[]) ?_)))
    have p_c4 := h_c4; try simp at p_c4
    have p_c6 := h_c6; try simp at p_c6
    have p_c8 := h_c8; try simp at p_c8
    exact Gx.ret_as (v' := keywordV s) (by simp only [keywordV, h_c4, h_c6, h_c8, if_true, if_false, Bool.false_eq_true, reduceIte]) hK
  refine Z.s [(10, .bool (s.toList == Z.k32.toList)), (11, .bool (s.toList == Z.k32.toList))] ?_
  refine Z.c (s.toList == Z.k32.toList) (fun h_c10 => ?_) (fun h_c10 => ?_)
  · skip
    refine Z.s [(2, .func (.func 101) #[] #[])] ?_
    refine wp_ret (Gx.block_ret (Gx.then_ret (Z.v (.func (.func 101) #[] #[]) ?_)))
    have p_c4 := h_c4; try simp at p_c4
    have p_c6 := h_c6; try simp at p_c6
    have p_c8 := h_c8; try simp at p_c8
    have p_c10 := h_c10; try simp at p_c10
    exact Gx.ret_as (v' := keywordV s) (by simp only [keywordV, h_c4, h_c6, h_c8, h_c10, if_true, if_false, Bool.false_eq_true, reduceIte]) hK
  refine Z.s [(12, .bool (s.toList == Z.k27.toList)), (13, .bool (s.toList == Z.k27.toList))] ?_
  refine Z.c (s.toList == Z.k27.toList) (fun h_c12 => ?_) (fun h_c12 => ?_)
  · skip
    refine Z.s [(2, .func (.func 102) #[] #[])] ?_
    refine wp_ret (Gx.block_ret (Gx.then_ret (Z.v (.func (.func 102) #[] #[]) ?_)))
    have p_c4 := h_c4; try simp at p_c4
    have p_c6 := h_c6; try simp at p_c6
    have p_c8 := h_c8; try simp at p_c8
    have p_c10 := h_c10; try simp at p_c10
    have p_c12 := h_c12; try simp at p_c12
    exact Gx.ret_as (v' := keywordV s) (by simp only [keywordV, h_c4, h_c6, h_c8, h_c10, h_c12, if_true, if_false, Bool.false_eq_true, reduceIte]) hK
  refine Z.s [(14, .bool (s.toList == Z.k33.toList)), (15, .bool (s.toList == Z.k33.toList))] ?_
  refine Z.c (s.toList == Z.k33.toList) (fun h_c14 => ?_) (fun h_c14 => ?_)
  · skip
    refine Z.s [(2, .func (.func 103) #[] #[])] ?_
    refine wp_ret (Gx.block_ret (Gx.then_ret (Z.v (.func (.func 103) #[] #[]) ?_)))
    have p_c4 := h_c4; try simp at p_c4
    have p_c6 := h_c6; try simp at p_c6
    have p_c8 := h_c8; try simp at p_c8
    have p_c10 := h_c10; try simp at p_c10
    have p_c12 := h_c12; try simp at p_c12
    have p_c14 := h_c14; try simp at p_c14
    exact Gx.ret_as (v' := keywordV s) (by simp only [keywordV, h_c4, h_c6, h_c8, h_c10, h_c12, h_c14, if_true, if_false, Bool.false_eq_true, reduceIte]) hK
  refine wp_skip (Gx.block_normal (Z.x (Z.s [(2, .nilFunc)] ?_)))
  refine wp_ret (Z.v (.nilFunc) ?_)
  have p_c4 := h_c4; try simp at p_c4
  have p_c6 := h_c6; try simp at p_c6
  have p_c8 := h_c8; try simp at p_c8
  have p_c10 := h_c10; try simp at p_c10
  have p_c12 := h_c12; try simp at p_c12
  have p_c14 := h_c14; try simp at p_c14
  exact Gx.ret_as (v' := keywordV s) (by simp only [keywordV, h_c4, h_c6, h_c8, h_c10, h_c12, h_c14, if_true, if_false, Bool.false_eq_true, reduceIte]) hK
theorem signs_p0  (w : World) (K : Ending → World → Prop)  (hK : ∀ w' kb, Gx.Ext w w' → w.heap.size ≤ kb → Gx.Has w' kb (.cells #[.string Z.k8, .string Z.k17] 9) → K (.returned (.slice (some ⟨kb, 0, none⟩) 2 2)) w') :
    Calls Tryd.prog 105 #[.int .i64 0] w K := by
  refine Z.en 10 Tryd.func105 ?_
  refine Z.s [(2, .slice none 0 0)] ?_
  refine Z.r [0, 1, 2, 3, 4, 5, 6, 7] ?_
  refine Z.R (.cells #[.string Z.k8, .string Z.k17] 9) 2 2 (fun k1 w1 l1 x1 b1 zw1 tb1 => ?_)
  refine Z.R (.cells #[.string Z.k9] 9) 1 1 (fun k2 w2 l2 x2 b2 zw2 tb2 => ?_)
  refine Z.R (.cells #[.string Z.k10, .string Z.k5] 9) 2 2 (fun k3 w3 l3 x3 b3 zw3 tb3 => ?_)
  refine Z.R (.cells #[.string Z.k6] 9) 1 1 (fun k4 w4 l4 x4 b4 zw4 tb4 => ?_)
  refine Z.p [4, 5, 6, 7] [] [(2, .slice (some ⟨k1, 0, none⟩) 2 2), (9, .slice (some ⟨k1, 0, none⟩) 2 2), (8, .int .i64 0), (7, .agg #[.slice (some ⟨k1, 0, none⟩) 2 2, .slice (some ⟨k2, 0, none⟩) 1 1, .slice (some ⟨k3, 0, none⟩) 2 2, .slice (some ⟨k4, 0, none⟩) 1 1])] ?_
  refine Z.e (wp_ret (Z.v (.slice (some ⟨k1, 0, none⟩) 2 2) ?_))
  exact hK _ k1 (((((Gx.Ext.refl w).trans x1).trans x2).trans x3).trans x4) (by omega) (((b1.ext x2).ext x3).ext x4)
theorem signs_p1  (w : World) (K : Ending → World → Prop)  (hK : ∀ w' kb, Gx.Ext w w' → w.heap.size ≤ kb → Gx.Has w' kb (.cells #[.string Z.k9] 9) → K (.returned (.slice (some ⟨kb, 0, none⟩) 1 1)) w') :
    Calls Tryd.prog 105 #[.int .i64 1] w K := by
  refine Z.en 10 Tryd.func105 ?_
  refine Z.s [(2, .slice none 0 0)] ?_
  refine Z.r [0, 1, 2, 3, 4, 5, 6, 7] ?_
  refine Z.R (.cells #[.string Z.k8, .string Z.k17] 9) 2 2 (fun k1 w1 l1 x1 b1 zw1 tb1 => ?_)
  refine Z.R (.cells #[.string Z.k9] 9) 1 1 (fun k2 w2 l2 x2 b2 zw2 tb2 => ?_)
  refine Z.R (.cells #[.string Z.k10, .string Z.k5] 9) 2 2 (fun k3 w3 l3 x3 b3 zw3 tb3 => ?_)
  refine Z.R (.cells #[.string Z.k6] 9) 1 1 (fun k4 w4 l4 x4 b4 zw4 tb4 => ?_)
  refine Z.p [4, 5, 6, 7] [] [(2, .slice (some ⟨k2, 0, none⟩) 1 1), (9, .slice (some ⟨k2, 0, none⟩) 1 1), (8, .int .i64 1), (7, .agg #[.slice (some ⟨k1, 0, none⟩) 2 2, .slice (some ⟨k2, 0, none⟩) 1 1, .slice (some ⟨k3, 0, none⟩) 2 2, .slice (some ⟨k4, 0, none⟩) 1 1])] ?_
  refine Z.e (wp_ret (Z.v (.slice (some ⟨k2, 0, none⟩) 1 1) ?_))
  exact hK _ k2 (((((Gx.Ext.refl w).trans x1).trans x2).trans x3).trans x4) (by omega) ((b2.ext x3).ext x4)
theorem signs_p2  (w : World) (K : Ending → World → Prop)  (hK : ∀ w' kb, Gx.Ext w w' → w.heap.size ≤ kb → Gx.Has w' kb (.cells #[.string Z.k10, .string Z.k5] 9) → K (.returned (.slice (some ⟨kb, 0, none⟩) 2 2)) w') :
    Calls Tryd.prog 105 #[.int .i64 2] w K := by
  refine Z.en 10 Tryd.func105 ?_
  refine Z.s [(2, .slice none 0 0)] ?_
  refine Z.r [0, 1, 2, 3, 4, 5, 6, 7] ?_
  refine Z.R (.cells #[.string Z.k8, .string Z.k17] 9) 2 2 (fun k1 w1 l1 x1 b1 zw1 tb1 => ?_)
  refine Z.R (.cells #[.string Z.k9] 9) 1 1 (fun k2 w2 l2 x2 b2 zw2 tb2 => ?_)
  refine Z.R (.cells #[.string Z.k10, .string Z.k5] 9) 2 2 (fun k3 w3 l3 x3 b3 zw3 tb3 => ?_)
  refine Z.R (.cells #[.string Z.k6] 9) 1 1 (fun k4 w4 l4 x4 b4 zw4 tb4 => ?_)
  refine Z.p [4, 5, 6, 7] [] [(2, .slice (some ⟨k3, 0, none⟩) 2 2), (9, .slice (some ⟨k3, 0, none⟩) 2 2), (8, .int .i64 2), (7, .agg #[.slice (some ⟨k1, 0, none⟩) 2 2, .slice (some ⟨k2, 0, none⟩) 1 1, .slice (some ⟨k3, 0, none⟩) 2 2, .slice (some ⟨k4, 0, none⟩) 1 1])] ?_
  refine Z.e (wp_ret (Z.v (.slice (some ⟨k3, 0, none⟩) 2 2) ?_))
  exact hK _ k3 (((((Gx.Ext.refl w).trans x1).trans x2).trans x3).trans x4) (by omega) (b3.ext x4)
theorem signs_p3  (w : World) (K : Ending → World → Prop)  (hK : ∀ w' kb, Gx.Ext w w' → w.heap.size ≤ kb → Gx.Has w' kb (.cells #[.string Z.k6] 9) → K (.returned (.slice (some ⟨kb, 0, none⟩) 1 1)) w') :
    Calls Tryd.prog 105 #[.int .i64 3] w K := by
  refine Z.en 10 Tryd.func105 ?_
  refine Z.s [(2, .slice none 0 0)] ?_
  refine Z.r [0, 1, 2, 3, 4, 5, 6, 7] ?_
  refine Z.R (.cells #[.string Z.k8, .string Z.k17] 9) 2 2 (fun k1 w1 l1 x1 b1 zw1 tb1 => ?_)
  refine Z.R (.cells #[.string Z.k9] 9) 1 1 (fun k2 w2 l2 x2 b2 zw2 tb2 => ?_)
  refine Z.R (.cells #[.string Z.k10, .string Z.k5] 9) 2 2 (fun k3 w3 l3 x3 b3 zw3 tb3 => ?_)
  refine Z.R (.cells #[.string Z.k6] 9) 1 1 (fun k4 w4 l4 x4 b4 zw4 tb4 => ?_)
  refine Z.p [4, 5, 6, 7] [] [(2, .slice (some ⟨k4, 0, none⟩) 1 1), (9, .slice (some ⟨k4, 0, none⟩) 1 1), (8, .int .i64 3), (7, .agg #[.slice (some ⟨k1, 0, none⟩) 2 2, .slice (some ⟨k2, 0, none⟩) 1 1, .slice (some ⟨k3, 0, none⟩) 2 2, .slice (some ⟨k4, 0, none⟩) 1 1])] ?_
  refine Z.e (wp_ret (Z.v (.slice (some ⟨k4, 0, none⟩) 1 1) ?_))
  exact hK _ k4 (((((Gx.Ext.refl w).trans x1).trans x2).trans x3).trans x4) (by omega) b4
theorem plain_v {s : ByteArray} {v : Value} (hv : plainV s = v) (w : World) (K : Ending → World → Prop) (hK : K (.returned v) w) : Calls Tryd.prog 112 #[.string s] w K := plain_p s w K (by rw [hv]; exact hK)
theorem keyword_v {s : ByteArray} {v : Value} (hv : keywordV s = v) (w : World) (K : Ending → World → Prop) (hK : K (.returned v) w) : Calls Tryd.prog 91 #[.string s] w K := keyword_p s w K (by rw [hv]; exact hK)
end Par
end Go.Proofs.YtinilkomfggjiaaDoor
