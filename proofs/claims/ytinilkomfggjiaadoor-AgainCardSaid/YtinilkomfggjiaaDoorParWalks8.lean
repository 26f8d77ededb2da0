/- The walks, written by a program of ours (wip/gx/gx.py, parsegen.py). -/
import Derived.Test.YtinilkomfggjiaaDoorRows
import Derived.Test.YtinilkomfggjiaaDoorGs
import Derived.Test.YtinilkomfggjiaaDoorGp
import Derived.Test.YtinilkomfggjiaaDoorZs
import Derived.Test.YtinilkomfggjiaaDoorLexWalks4
import Derived.Test.YtinilkomfggjiaaDoorGq
import Derived.Test.YtinilkomfggjiaaDoorParWalks7
set_option linter.unusedVariables false
set_option linter.unusedSimpArgs false
set_option maxHeartbeats 4000000
set_option maxRecDepth 20000
namespace Go.Proofs.YtinilkomfggjiaaDoor
namespace Par
open Go.RowKit Go.Lex Go.Syn
attribute [local irreducible] Go.wpOps Go.Code.wp Go.wpOp Go.wpAnyH Go.Calls
theorem spec_upto (k : Nat) : ∀ j, j ≤ k → SpecP j := by
  induction k with
  | zero =>
    intro j hj
    obtain rfl : j = 0 := by omega
    exact { f_typ := fun b S q  w K _ _ _ h _ _ => absurd h (by omega), f_pair := fun b S q  w K _ _ _ h _ _ => absurd h (by omega), f_some := fun b S q  w K _ _ _ h _ _ => absurd h (by omega), f_expr := fun b S q  w K _ _ _ h _ _ => absurd h (by omega), f_any := fun b S q  w K _ _ _ h _ _ => absurd h (by omega), f_params := fun b S q sign w K _ _ _ h _ _ => absurd h (by omega), f_letN := fun b S q at_ w K _ _ _ h _ _ => absurd h (by omega), f_cases := fun b S q at_ w K _ _ _ h _ _ => absurd h (by omega), f_b0 := fun b S q  w K _ _ _ h _ _ => absurd h (by omega), f_b1 := fun b S q  w K _ _ _ h _ _ => absurd h (by omega), f_b2 := fun b S q  w K _ _ _ h _ _ => absurd h (by omega), f_b3 := fun b S q  w K _ _ _ h _ _ => absurd h (by omega), f_b4 := fun b S q  w K _ _ _ h _ _ => absurd h (by omega), f_atom := fun b S q  w K _ _ _ h _ _ => absurd h (by omega) }
  | succ k ih =>
    intro j hj
    by_cases e : j = k + 1
    · subst e
      exact { f_typ := fun b S q  w K hb hok f0 hmu hP hK => typ_p k b S q  w K ih hb hok f0 hmu hP hK, f_pair := fun b S q  w K hb hok f0 hmu hP hK => pair_p k b S q  w K ih hb hok f0 hmu hP hK, f_some := fun b S q  w K hb hok f0 hmu hP hK => some_p k b S q  w K ih hb hok f0 hmu hP hK, f_expr := fun b S q  w K hb hok f0 hmu hP hK => expr_p k b S q  w K ih hb hok f0 hmu hP hK, f_any := fun b S q  w K hb hok f0 hmu hP hK => any_p k b S q  w K ih hb hok f0 hmu hP hK, f_params := fun b S q sign w K hb hok f0 hmu hP hK => params_p k b S q sign w K ih hb hok f0 hmu hP hK, f_letN := fun b S q at_ w K hb hok f0 hmu hP hK => letN_p k b S q at_ w K ih hb hok f0 hmu hP hK, f_cases := fun b S q at_ w K hb hok f0 hmu hP hK => cases_p k b S q at_ w K ih hb hok f0 hmu hP hK, f_b0 := fun b S q  w K hb hok f0 hmu hP hK => b0_p k b S q  w K ih hb hok f0 hmu hP hK, f_b1 := fun b S q  w K hb hok f0 hmu hP hK => b1_p k b S q  w K ih hb hok f0 hmu hP hK, f_b2 := fun b S q  w K hb hok f0 hmu hP hK => b2_p k b S q  w K ih hb hok f0 hmu hP hK, f_b3 := fun b S q  w K hb hok f0 hmu hP hK => b3_p k b S q  w K ih hb hok f0 hmu hP hK, f_b4 := fun b S q  w K hb hok f0 hmu hP hK => b4_p k b S q  w K ih hb hok f0 hmu hP hK, f_atom := fun b S q  w K hb hok f0 hmu hP hK => atom_p k b S q  w K ih hb hok f0 hmu hP hK }
    · exact ih j (by omega)
theorem rec7 (kn kf k a : Nat) (c0 c1 c2 c3 c4 d0 d1 : Value) (w : World) (K : World → Prop) (hn : Gx.Has w kn (.cells #[c0, c1, c2, c3, c4] 24)) (hf : Gx.Has w kf (.cells #[d0, d1] 27)) (hne : kn ≠ kf)
    (hK : ∀ w3, (∀ w0, Gx.Ext w0 w → w0.heap.size ≤ kn → w0.heap.size ≤ kf → Gx.Ext w0 w3) → Gx.Has w3 kn Z.c0 → Gx.Has w3 kf (.cells #[Z.n k, Z.n a] 27) → K w3) :
    CallsD Tryd.prog 25 #[Z.P kn 0, Z.P kf 0] (.panicking (flt k a)) w (fun e u' w' => e = .returned (.tuple #[]) ∧ u' = .panicking [{ v := flV k a, recovered := true }] ∧ K w') := by
  refine Gq.enterS 13 Tryd.func25 rfl rfl (Nat.le_of_ble_eq_true rfl) (fun c₀ cs hu => ?_)
  refine Gq.rec_some (v := flV k a) rfl (by kernel_rfl) hu ?_
  have tkn := hn.lt; have tkf := hf.lt
  refine wp_block (Z.sf [(7, .bool false)] ?_)
  refine Z.st [(10, .agg #[Z.n k, Z.n a]), (9, .bool true), (8, .tuple #[.agg #[Z.n k, Z.n a], .bool true])] ?_
  refine Z.r [0, 1] ?_
  refine Z.N (.cells #[.int .i64 0, .int .i64 0] 27) (fun k1 w1 l1 x1 b1 zw1 tb1 => ?_)
  refine Z.Sa #[Z.n k, Z.n a] b1 (fun w2 u1 b2 zw2 => ?_)
  refine Z.e (Z.D (fun w' => Gx.Has w' k1 (.cells #[Z.n k, Z.n a] 27)) (fun w3 x2 zw3 => ?_))
  refine Z.h (b2.ext x2) (fun hS1 => ?_)
  refine Z.t 0 (.agg Z.t0) hS1 ?_
  refine Z.tl 1 0 (.agg #[Z.n k, Z.n a]) (fun _ hs => hs) hS1 ?_
  refine Z.oSa 2 Z.t0 (((hn.ext x1).upd1 u1).ext x2) (fun w4 u2 b3 => ⟨((b2.ext x2).upd1 u2), ?_⟩)
  have zw4 := u2.size
  refine Z.oSa 3 #[Z.n k, Z.n a] ((((hf.ext x1).upd1 u1).ext x2).upd1 u2) (fun w5 u3 b4 => ⟨(((b2.ext x2).upd1 u2).upd1 u3), ?_⟩)
  have zw5 := u3.size
  refine Z.q ?_
  refine Gx.block_normal ?_
  exact Gq.retS rfl ⟨rfl, rfl, hK _ (fun w0 h ln lf => (((((h.trans x1).upd1 u1).trans x2).upd1 u2).upd1 u3)) (b3.upd1 u3) b4⟩
theorem idle7 (kn kf : Nat) (w : World) (K : World → Prop) (hK : K w) :
    CallsD Tryd.prog 25 #[Z.P kn 0, Z.P kf 0] .returning w (fun e u' w' => e = .returned (.tuple #[]) ∧ u' = .returning ∧ K w') := by
  refine Gq.enterS 13 Tryd.func25 rfl rfl (Nat.le_of_ble_eq_true rfl) (fun c₀ cs hu => ?_)
  refine Gq.rec_none rfl (by kernel_rfl) hu ?_
  refine wp_block (Z.st [(7, .bool true)] ?_)
  refine Z.u [(2, .nilIface)] ?_
  refine Gx.block_normal ?_
  exact Gq.retS0 hu rfl ⟨rfl, rfl, hK⟩
theorem parse_pan {s : ByteArray} {kn kf k a : Nat} {c0 c1 c2 c3 c4 d0 d1 : Value} {w w1 : World} {K : Ending → World → Prop} {b : Nat → Value} {n : Nat} {l : List (Nat × Value)}
    (e : parseP s = (nd0, k, a)) (hn : Gx.Has w1 kn (.cells #[c0, c1, c2, c3, c4] 24)) (hf : Gx.Has w1 kf (.cells #[d0, d1] 27)) (hne : kn ≠ kf) (ln : w.heap.size ≤ kn) (lf : w.heap.size ≤ kf) (hx : Gx.Ext w w1)
    (h2 : Gx.ev b n l (.tmp 2) = Z.P kn 0) (h3 : Gx.ev b n l (.tmp 3) = Z.P kf 0) (hK : ∀ w' t A c fk fa, parseP s = (t, fk, fa) → Gx.Ext w w' → KV (In w.heap.size w'.heap.size []) w' t.ks A c → K (.returned (.tuple #[.agg (Z.T t A c), .agg #[Z.n fk, Z.n fa]])) w') :
    bodyPostD Tryd.prog Tryd.f8 K (.panic (flt k a)) (Gx.Fr b n l [{ target := .fn (.func 25) #[Z.P kn 0, Z.P kf 0], args := #[] }]) w1 := by
  refine Gq.panicD1 (args := #[Z.P kn 0, Z.P kf 0]) (by kernel_rfl) (rec7 kn kf k a c0 c1 c2 c3 c4 d0 d1 w1 _ hn hf hne (fun w4 x g1 g2 => ?_))
  refine ⟨_, Gx.res_cc (u := .agg Z.t0) (v := .agg #[Z.n k, Z.n a]) rfl h2 g1 (by kernel_rfl) h3 g2 (by kernel_rfl), ?_⟩
  exact hK w4 nd0 none 0 k a e (x _ hx ln lf) KV.nil
theorem parse_ret {kn kf : Nat} {w1 : World} {K : Ending → World → Prop} {b : Nat → Value} {n : Nat} {l : List (Nat × Value)} {r : Value}
    (hr : (results Tryd.f8 (Gx.Fr b n l [{ target := .fn (.func 25) #[Z.P kn 0, Z.P kf 0], args := #[] }]).tmps).run Tryd.prog w1 = .ok r w1) (hK : K (.returned r) w1) :
    bodyPostD Tryd.prog Tryd.f8 K .ret (Gx.Fr b n l [{ target := .fn (.func 25) #[Z.P kn 0, Z.P kf 0], args := #[] }]) w1 :=
  Gq.retD1 (args := #[Z.P kn 0, Z.P kf 0]) (by kernel_rfl) (idle7 kn kf w1 _ ⟨r, hr, hK⟩)
theorem Parse_p (s : ByteArray) (w : World) (K : Ending → World → Prop)  (hK : ∀ w' t A c fk fa, parseP s = (t, fk, fa) → Gx.Ext w w' → KV (In w.heap.size w'.heap.size []) w' t.ks A c → K (.returned (.tuple #[.agg (Z.T t A c), .agg #[Z.n fk, Z.n fa]])) w') :
    Calls Tryd.prog 8 #[.string s] w K := by
  refine Gq.enterDef 28 Tryd.func8 rfl rfl (Nat.le_of_ble_eq_true rfl) ?_
  refine Z.r [0, 1] ?_
  refine Z.N Z.c0 (fun k1 w1 l1 x1 b1 zw1 tb1 => ?_)
  refine Z.N (.cells #[.int .i64 0, .int .i64 0] 27) (fun k2 w2 l2 x2 b2 zw2 tb2 => ?_)
  refine Z.e (wp_seq (Z.s [(7, .bool (decide (((s.size : Nat) : Int) > (3000 : Int)))), (6, Z.n s.size), (5, .string s)] ?_))
  refine Z.c (decide (((s.size : Nat) : Int) > (3000 : Int))) (fun h_c7 => ?_) (fun h_c7 => ?_)
  · skip
    refine Z.r [0, 1, 2, 3] ?_
    refine Z.L 0 (.agg Z.t0) (b1.ext x2) ?_
    refine Z.p [1] [2, 3] [(9, .agg #[.int .i64 1, .int .i64 0])] ?_
    refine Z.Sa Z.t0 (b1.ext x2) (fun w3 u1 b3 zw3 => ?_)
    have p_c7 := of_decide_eq_true h_c7
    refine Z.Sa #[.int .i64 1, .int .i64 0] (b2.upd1 u1) (fun w4 u2 b4 zw4 => ?_)
    refine Z.e (wp_ret (Gx.then_ret (Gq.retD (Gx.res_cc (u := .agg Z.t0) (v := .agg #[.int .i64 1, .int .i64 0]) rfl (by kernel_rfl) (b3.upd1 u2) (by kernel_rfl) (by kernel_rfl) b4 (by kernel_rfl)) ?_)))
    exact hK _ nd0 none 0 1 0 (by unfold parseP; rw [if_pos (show s.size > 3000 by omega)]) (((((Gx.Ext.refl w).trans x1).trans x2).upd1 u1).upd1 u2) KV.nil
  refine wp_skip (Z.x ?_)
  have p_c7 := of_decide_eq_false h_c7
  have hbig : ¬ s.size > 3000 := by omega
  refine Z.r [0, 1] ?_
  refine Z.p [0] [1] [(10, .func (.func 25) #[] #[Z.P k1 0, Z.P k2 0])] ?_
  refine Gx.cons (Gq.op_defer { target := .fn (.func 25) #[Z.P k1 0, Z.P k2 0], args := #[] } rfl (by kernel_rfl) (by kernel_rfl) ?_)
  refine Z.e (Z.r [0, 1, 2, 3] ?_)
  refine Z.p [0, 1] [2, 3] [(12, .agg #[.string s, .int .i64 0, .int .i64 0, .string Z.E, .int .i64 0, .int .i64 0, .int .i64 0, .int .i64 0]), (11, .string s)] ?_
  refine Z.N (.cells #[.string s, .int .i64 0, .int .i64 0, .string Z.E, .int .i64 0, .int .i64 0, .int .i64 0, .int .i64 0] 54) (fun b w5 l3 x3 b5 zw5 tb5 => ?_)
  refine Z.p [3] [] [(4, Z.P b 0)] ?_
  refine Z.e (Z.r [0, 1] ?_)
  refine Z.p [0] [1] [(14, Z.P b 0)] ?_
  have y1 := (((Gx.Ext.refl w).trans x1).trans x2).trans x3
  refine Z.kP (fun R hR hE => advance0_p b s q00 _ R b5 ⟨by omega, Nat.zero_le _⟩ rfl (fun w6 q1 e1 f1 x4 => hE _ _ (parse_pan (by unfold parseP; rw [if_neg hbig]; simp only [lastR, h_c7, Z.ifs, reduceIte, e1, idl f1, id_run f1 fuelP, if_true, if_false, Bool.false_eq_true, reduceIte]) (((b1.ext x2).ext x3).upd1 x4) ((b2.ext x3).upd1 x4) (by omega) (by omega) (by omega) (y1.upd1 x4) (by kernel_rfl) (by kernel_rfl) hK)) (fun w6 q1 e1 f1 x4 b6 => hR _ _ ?_))
  have zw6 := x4.size
  have tb6 := b6.lt
  have ok1 : Ok s q1 := by rw [← e1]; exact first_ok (by omega)
  have hM0 := M_le ok1
  have kbq1 := (okB_iff q1).2 f1
  refine Z.e (Z.r [0, 1, 2] ?_)
  refine Z.p [0] [1, 2] [(16, Z.P b 0)] ?_
  have y2 := ((b1.ext x2).ext x3).upd1 x4
  refine Z.kP (fun R hR hE => prog_p 48099 b s q1 _ R  (fun j hj => spec_upto 48099 j hj) b6 ok1 f1 (by omega) (fun w7 q2 e2 f2 x5 => hE _ _ (id (parse_pan (by unfold parseP; rw [if_neg hbig]; simp only [lastR, e1, kbq1, h_c7, Z.ifs, reduceIte, (show (run s fuelP .prog q1).2 = q2 from e2), idl f2, id_run f2 fuelP, if_true, if_false, Bool.false_eq_true, reduceIte]) (y2.upd1 x5) (((b2.ext x3).upd1 x4).upd1 x5) (by omega) (by omega) (by omega) ((y1.upd1 x4).upd1 x5) (by kernel_rfl) (by kernel_rfl) hK))) (fun w7 t1 A1 c1 q2 e2 f2 x5 b7 kv1 => hR _ _ ?_))
  have zw7 := x5.size
  have tb7 := b7.lt
  have kbq2 := (okB_iff q2).2 f2
  have e2 := (show run s fuelP .prog q1 = (t1, q2) from e2)
  obtain ⟨ok2, ok2m, ok2x, ok2y⟩ : Tr s q1 q2 := run_facts ok1 e2
  refine Z.Sa (Z.T t1 A1 c1) (y2.upd1 x5) (fun w8 u3 b8 zw8 => ?_)
  refine Z.e (wp_seq (Z.r [0, 1, 2, 3, 4, 5] ?_))
  refine Z.p [0, 1, 2, 3] [4, 5] [(21, Z.P b 1), (20, Z.P b 1), (19, Z.P b 0), (18, Z.P b 0)] ?_
  refine Z.L 1 (Z.n q2.k) (b7.upd1 u3) ?_
  refine Z.p [5] [] [(23, .bool (((q2.k : Nat) : Int) != (0 : Int)))] ?_
  refine Z.e (Z.c (((q2.k : Nat) : Int) != (0 : Int)) (fun h_c23 => ?_) (fun h_c23 => ?_))
  · skip
    refine Z.g [0, 1] ?_
    refine Z.p [0] [1] [(24, Z.P b 0)] ?_
    have p_c23 := h_c23; try simp at p_c23
    refine Z.kP (fun R hR hE => stop_p b s q2 4 _ R (b7.upd1 u3) (hE _ _ (id (parse_pan (by unfold parseP; rw [if_neg hbig]; simp only [lastR, e1, kbq1, e2, kbq2, h_c7, h_c23, Z.ifs, reduceIte, no_fault f2, id_ok (q := { q2 with fk := 4, fa := q2.a }) (show (4 : Nat) ≠ 0 by decide), if_true, if_false, Bool.false_eq_true, reduceIte]) b8 ((((b2.ext x3).upd1 x4).upd1 x5).upd1 u3) (by omega) (by omega) (by omega) (((y1.upd1 x4).upd1 x5).upd1 u3) (by kernel_rfl) (by kernel_rfl) hK))))
  refine wp_skip (Z.x (wp_seq (Gq.noPanic ?_)))
  refine Z.D (fun w' => Gx.Has w' k1 (.cells (Z.T t1 A1 c1) 24) ∧ Gx.Has w' k2 (.cells #[.int .i64 0, .int .i64 0] 27)) (fun w9 x6 zw9 => ?_)
  have p_c23 := h_c23; try simp at p_c23
  have y3 := ((((b2.ext x3).upd1 x4).upd1 x5).upd1 u3).ext x6
  refine Z.h ⟨(b8.ext x6), y3⟩ (fun hS1 => ?_)
  refine Z.tl 0 0 (.agg (Z.T t1 A1 c1)) (fun _ hs => hs.1) hS1 ?_
  refine Z.tl 1 0 (.agg #[.int .i64 0, .int .i64 0]) (fun _ hs => hs.2) hS1 ?_
  refine Z.oSa 2 (Z.T t1 A1 c1) (b8.ext x6) (fun w10 u4 b9 => ⟨⟨b9, (y3.upd1 u4)⟩, ?_⟩)
  have zw10 := u4.size
  refine Z.oSa 3 #[.int .i64 0, .int .i64 0] (y3.upd1 u4) (fun w11 u5 b10 => ⟨⟨(b9.upd1 u5), b10⟩, ?_⟩)
  have zw11 := u5.size
  refine Z.q ?_
  refine Z.x (wp_ret (parse_ret (Gx.res_cc (u := .agg (Z.T t1 A1 c1)) (v := .agg #[.int .i64 0, .int .i64 0]) rfl (by kernel_rfl) (b9.upd1 u5) (by kernel_rfl) (by kernel_rfl) b10 (by kernel_rfl)) ?_))
  exact hK _ t1 A1 c1 0 0 (by unfold parseP; rw [if_neg hbig]; simp only [lastR, e1, kbq1, e2, kbq2, h_c7, h_c23, Z.ifs, reduceIte, if_true, if_false, Bool.false_eq_true, reduceIte]) ((((((y1.upd1 x4).upd1 x5).upd1 u3).trans x6).upd1 u4).upd1 u5) (KV.top ((((kv1.upd u3).ext x6).upd u4).upd u5))
end Par
end Go.Proofs.YtinilkomfggjiaaDoor
