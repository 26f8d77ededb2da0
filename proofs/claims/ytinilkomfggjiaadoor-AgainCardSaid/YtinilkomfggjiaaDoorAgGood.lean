/- What the reader gives are trees with good tokens: plain laws. -/
import Derived.Test.YtinilkomfggjiaaDoorZk
import Derived.Test.YtinilkomfggjiaaDoorAgRead
set_option linter.unusedVariables false
set_option linter.unusedSimpArgs false
namespace Go.Ag
open Go.Gx (byteAt)
open Go.Lex Go.Syn
theorem tok_shape {s : ByteArray} {j : Nat} : ((tokAt s j).kind = 1 → (tokAt s j).text = e0) ∧ ((tokAt s j).kind = 2 → (tokAt s j).n = 0) := by
  unfold tokAt
  split
  · unfold numAt; split
    · exact ⟨fun _ => rfl, fun h => by cases h⟩
    · exact ⟨fun h => (by cases h), fun h => (by cases h)⟩
  · split
    · unfold nameAt; split
      · exact ⟨fun h => (by cases h), fun h => (by cases h)⟩
      · refine ⟨fun h => ?_, fun _ => rfl⟩
        dsimp only at h; split at h <;> cases h
    · split
      · exact ⟨fun h => (by cases h), fun h => (by cases h)⟩
      · exact ⟨fun h => (by cases h), fun h => (by cases h)⟩
structure TF (k : Nat) (t : ByteArray) (n : Nat) : Prop where
  gt : GT (k, t, n)
  le : n ≤ 9223372036854775807
  num : k = 1 → t = e0
  nam : k = 2 → n = 0
def Gq (S : ByteArray) (q : Rs) : Prop := q.fk = 0 → q.e ≤ S.size ∧ (q.k ≠ 0 → TF q.k q.t q.n)
theorem next_tf {S : ByteArray} {i : Nat} (hi : i ≤ S.size) (h : (next S i).fk = 0) : (next S i).nx ≤ S.size ∧ ((next S i).kind ≠ 0 → TF (next S i).kind (next S i).text (next S i).n) := by
  by_cases hk : (next S i).kind = 0
  · exact ⟨next_nx h hk hi, fun g => absurd hk g⟩
  · have hp := next_prog hi h hk
    refine ⟨hp.2, fun _ => ?_⟩
    have hlt : pass S i < S.size := by
      rcases Nat.lt_or_ge (pass S i) S.size with q | q
      · exact q
      · exfalso; apply hk; unfold next; rw [if_neg (by omega)]
    have e1 : next S i = tokAt S (pass S i) := by unfold next; rw [if_pos hlt]
    rw [e1] at h ⊢
    have g := self_tok hlt h
    exact ⟨GT.of g, g.num, tok_shape.1, tok_shape.2⟩
section
variable {S : ByteArray} {q : Rs} {s : ByteArray}
theorem gq_next (h : Gq S q) : Gq S (nextR S q) := by
  unfold nextR
  split
  · rename_i ho
    exact fun f => next_tf (h ((okB_iff q).1 ho)).1 f
  · exact h
theorem gq_no (h : Gq S q) : Gq S (noR q) := by
  unfold noR
  split
  · exact fun f => by cases f
  · exact h
theorem gq_has (h : Gq S q) : Gq S (hasR S q s) := by unfold hasR; split; exact gq_next h; exact h
theorem gq_must (h : Gq S q) : Gq S (mustR S q s) := by unfold mustR; split; exact gq_next h; exact gq_no h
theorem gq_name (h : Gq S q) : Gq S (nameR S q).2 := by unfold nameR; split; exact gq_next h; exact gq_no h
def Gk (S : ByteArray) (q : Rs) : Prop := Ok S q ∧ Gq S q
theorem gk_next (h : Gk S q) : Gk S (nextR S q) := ⟨(next_tr h.1).ok, gq_next h.2⟩
theorem gk_has (h : Gk S q) : Gk S (hasR S q s) := ⟨(has_tr h.1).ok, gq_has h.2⟩
theorem gk_must (h : Gk S q) : Gk S (mustR S q s) := ⟨(must_tr h.1).ok, gq_must h.2⟩
theorem gk_no (h : Gk S q) : Gk S (noR q) := ⟨(no_tr h.1).ok, gq_no h.2⟩
theorem gk_name (h : Gk S q) : Gk S (nameR S q).2 := ⟨(name_tr h.1).ok, gq_name h.2⟩
theorem bk_next0 (f : (nextR S q).fk = 0) : q.fk = 0 := by
  by_cases g : q.fk = 0
  · exact g
  · unfold nextR at f; rw [if_neg (fun e => g ((okB_iff q).1 e))] at f; exact f
theorem bk_no (f : (noR q).fk = 0) : q.fk = 0 := by
  by_cases g : q.fk = 0
  · exact g
  · unfold noR at f; rw [if_neg (fun e => g ((okB_iff q).1 e))] at f; exact f
theorem no_not (f : (noR q).fk = 0) : False := by
  have g := bk_no f
  unfold noR at f
  rw [if_pos ((okB_iff q).2 g)] at f
  cases f
theorem k_has (h : Gk S q) (i : isB q s = true) : Gk S (hasR S q s) ∧ ((hasR S q s).fk = 0 → q.fk = 0 ∧ M S (hasR S q s) < M S q) := ⟨gk_has h, fun _ => ⟨(isB_ok i).1, has_lt h.1 i⟩⟩
theorem k_must (h : Gk S q) : Gk S (mustR S q s) ∧ ((mustR S q s).fk = 0 → q.fk = 0 ∧ M S (mustR S q s) < M S q) := by
  refine ⟨gk_must h, fun f => ?_⟩
  by_cases i : isB q s = true
  · refine ⟨(isB_ok i).1, ?_⟩
    have := is_lt h.1 i
    unfold mustR; rw [if_pos i]; exact this
  · unfold mustR at f; rw [if_neg i] at f; exact (no_not f).elim
theorem k_name (h : Gk S q) : Gk S (nameR S q).2 ∧ ((nameR S q).2.fk = 0 → q.fk = 0 ∧ M S (nameR S q).2 < M S q ∧ GT (nmT (nameR S q).1.1) ∧ (nameR S q).1.1.size ≤ 3000) := by
  refine ⟨gk_name h, fun f => ?_⟩
  have l := name_lt h.1 ((okB_iff _).2 f)
  by_cases i : isNameB q = true
  · have i' := i
    simp only [isNameB, Bool.and_eq_true, beq_iff_eq] at i'
    have f0 := (okB_iff q).1 i'.1
    have hk : q.k = 2 := by omega
    have z := (h.2 f0).2 (by omega)
    have g1 := z.gt
    have e2 := z.nam hk
    rw [hk, e2] at g1
    have hz := Nat.le_trans h.1.t h.1.size
    refine ⟨f0, l, ?_⟩
    unfold nameR; rw [if_pos i]
    exact ⟨g1, hz⟩
  · unfold nameR at f; rw [if_neg i] at f; exact (no_not f).elim
theorem has_f {S : ByteArray} {q : Rs} {s : ByteArray} (h : isB q s = false) : hasR S q s = q := by unfold hasR; rw [h, if_neg (by decide)]
end
mutual
def sz : Nd → Nat
  | .mk _ _ nm _ ks => 60 + nm.size + szL ks
def szL : List Nd → Nat
  | [] => 0
  | x :: r => sz x + szL r
end
def OkD (c : Cd) : Prop := GT (nmT c.nm) ∧ GT (nmT c.pn) ∧ GT (nmT c.qn) ∧ Tw c.e c.le
def Tst (nt : NT) (t : Nd) : Prop :=
  match nt with
  | .typ | .pair | .some => ∃ L, Ty t L
  | .listL a => (∃ L, Ty a L) → ∃ L, Ty t L
  | .namesL l => ∃ ps : List (Nat × ByteArray), t.ks = l ++ ps.map pNd ∧ ∀ p ∈ ps, GT (nmT p.2)
  | .sumL a | .mulL a | .appL a => (∃ L, Tw a L) → ∃ L, Tw t L
  | .params _ f => (∃ L, Tw t L) ∧ (f = true → ∃ fa fx x lx, t = .mk 7 fa fx 0 [x] ∧ GT (nmT fx) ∧ Tw x lx)
  | .handL l => ∃ cs : List Cd, t.ks = l ++ cs.map Cd.node ∧ ∀ c ∈ cs, OkD c
  | .squareL l => ∃ es, t.ks = l ++ es ∧ ∀ x ∈ es, ∃ L, Tw x L
  | .opsL l => ∃ os : List OpD, t.ks = l ++ os.map OpD.node ∧ ∀ o ∈ os, o.Ok
  | .defsL _ l => ∃ ds : List DfD, t.ks = l ++ ds.map DfD.node ∧ ∀ o ∈ ds, o.Ok
  | .prog => ∃ p : PgD, p.Ok ∧ t = p.node
  | _ => ∃ L, Tw t L
def szA (nt : NT) (t : Nd) : Nat :=
  match nt with
  | .namesL _ | .handL _ | .opsL _ | .defsL _ _ => szL t.ks
  | .squareL _ => szL t.ks + 100 * t.ks.length
  | _ => sz t + 200
def szB (nt : NT) : Nat :=
  match nt with
  | .listL a | .sumL a | .mulL a | .appL a => sz a + 200
  | .namesL l | .handL l | .opsL l | .defsL _ l => szL l
  | .squareL l => szL l + 100 * l.length
  | _ => 0
def Pst (S : ByteArray) (nt : NT) (q : Rs) (r : Nd × Rs) : Prop := Tst nt r.1 ∧ szA nt r.1 + 100000 * M S r.2 ≤ szB nt + 100000 * M S q
def IH (S : ByteArray) (R : NT → Rs → Nd × Rs) : Prop := ∀ nt q, Gk S q → Gk S (R nt q).2 ∧ ((R nt q).2.fk = 0 → q.fk = 0 ∧ Pst S nt q (R nt q))
theorem szl (l : List UInt8) : (⟨l.toArray⟩ : ByteArray).size = l.length := by simp [ByteArray.size]
theorem szL_app (l m : List Nd) : szL (l ++ m) = szL l + szL m := by
  induction l with
  | nil => simp [szL]
  | cons x r ih => simp only [List.cons_append, szL, ih]; omega
section
variable {S : ByteArray} {R : NT → Rs → Nd × Rs}
theorem g_fn (ih : IH S R) {a : Nd} {q : Rs} {m : Nat} (g0 : Gk S q) (ha : q.fk = 0 → (∃ L, Ty a L) ∧ sz a + 200 + 100000 * M S q ≤ m) (hf : (fnS S R a q).2.fk = 0) : (∃ L, Ty (fnS S R a q).1 L) ∧ sz (fnS S R a q).1 + 200 + 100000 * M S (fnS S R a q).2 ≤ m := by
  unfold fnS at hf ⊢
  dsimp only at hf ⊢
  rcases Bool.eq_false_or_eq_true (isB q Z.k15) with h1 | h1
  · simp only [h1, Bool.false_eq_true, if_true, if_false, reduceIte] at hf ⊢
    obtain ⟨gq2, bq2⟩ := k_has g0 h1; generalize hasR S q Z.k15 = q2 at gq2 bq2 hf ⊢
    obtain ⟨gr, br⟩ := ih (.typ) q2 gq2; generalize R (.typ) q2 = r at gr br hf ⊢
    obtain ⟨fr, pr, sr⟩ := br hf
    obtain ⟨fq2, mq2⟩ := bq2 fr
    obtain ⟨lr, wr⟩ := pr
    obtain ⟨⟨la, wa⟩, sa⟩ := ha fq2
    exact ⟨⟨_, Ty.tfn a.a a r.1 la lr [] (fun p h => by cases h) wa wr⟩, (by simp only [szA, szB, sz, szL, szL_app, szl, List.length_cons, List.length_nil, List.length_append] at sr ⊢; omega)⟩
  · simp only [h1, has_f (S := S) h1, Bool.false_eq_true, if_true, if_false, reduceIte] at hf ⊢
    rcases Bool.eq_false_or_eq_true (isB q Z.k5) with h2 | h2
    · simp only [h2, Bool.false_eq_true, if_true, if_false, reduceIte] at hf ⊢
      obtain ⟨gq3, bq3⟩ := k_has g0 h2; generalize hasR S q Z.k5 = q3 at gq3 bq3 hf ⊢
      obtain ⟨gq4, bq4⟩ := k_must (s := Z.k20) gq3; generalize mustR S q3 Z.k20 = q4 at gq4 bq4 hf ⊢
      obtain ⟨gr4, br4⟩ := ih (.namesL []) q4 gq4; generalize R (.namesL []) q4 = r4 at gr4 br4 hf ⊢
      obtain ⟨gq5, bq5⟩ := k_must (s := Z.k11) gr4; generalize mustR S r4.2 Z.k11 = q5 at gq5 bq5 hf ⊢
      obtain ⟨gq6, bq6⟩ := k_must (s := Z.k15) gq5; generalize mustR S q5 Z.k15 = q6 at gq6 bq6 hf ⊢
      obtain ⟨gr6, br6⟩ := ih (.typ) q6 gq6; generalize R (.typ) q6 = r6 at gr6 br6 hf ⊢
      obtain ⟨fr6, pr6, sr6⟩ := br6 hf
      obtain ⟨fq6, mq6⟩ := bq6 fr6
      obtain ⟨fq5, mq5⟩ := bq5 fq6
      obtain ⟨fr4, pr4, sr4⟩ := br4 fq5
      obtain ⟨fq4, mq4⟩ := bq4 fr4
      obtain ⟨fq3, mq3⟩ := bq3 fq4
      obtain ⟨lr6, wr6⟩ := pr6
      obtain ⟨⟨la, wa⟩, sa⟩ := ha fq3
      refine ⟨?_, (by simp only [szA, szB, sz, szL, szL_app, szl, List.length_cons, List.length_nil, List.length_append] at sr6 sr4 ⊢; omega)⟩
      obtain ⟨ps, ek, gp⟩ := pr4
      rw [ek]
      exact ⟨_, Ty.tfn a.a a r6.1 la lr6 ps gp wa wr6⟩
    · simp only [h2, has_f (S := S) h2, Bool.false_eq_true, if_true, if_false, reduceIte] at hf ⊢
      exact ha hf
theorem g_typ (ih : IH S R) {q : Rs} (g0 : Gk S q) (hf : (typS S R q).2.fk = 0) : Pst S (.typ) q (typS S R q) := by
  unfold typS at hf ⊢
  split at hf
  · rename_i ho
    split at hf
    · cases hf
    · rename_i hy
      rw [if_pos ho, if_neg hy]
      have hy' : q.y < 200 := by simp at hy; omega
      have gq : Gk S { q with y := q.y + 1 } := ⟨⟨g0.1.size, g0.1.e, g0.1.x, hy', g0.1.a, g0.1.n, g0.1.t, g0.1.k, g0.1.end_, g0.1.nm, g0.1.sg⟩, g0.2⟩
      have z := g_fn ih (ih .pair _ gq).1 (fun f => ((ih .pair _ gq).2 f).2) hf
      exact ⟨z.1, by have := z.2; simp only [szA, szB, M] at this ⊢; exact this⟩
  · rename_i ho
    exact absurd ((okB_iff q).2 hf) ho
theorem g_names (ih : IH S R) {l : List Nd} {q : Rs} (g0 : Gk S q) (hf : (namesLS S R l q).2.fk = 0) : Pst S (.namesL l) q (namesLS S R l q) := by
  unfold namesLS at hf ⊢
  dsimp only at hf ⊢
  obtain ⟨gn1, bn1⟩ := k_name g0; generalize nameR S q = n1 at gn1 bn1 hf ⊢
  rcases Bool.eq_false_or_eq_true (isB n1.2 Z.k16) with h1 | h1
  · simp only [h1, Bool.false_eq_true, if_true, if_false, reduceIte] at hf ⊢
    obtain ⟨gq1, bq1⟩ := k_has gn1 h1; generalize hasR S n1.2 Z.k16 = q1 at gq1 bq1 hf ⊢
    obtain ⟨gr, br⟩ := ih (.namesL (l ++ [.mk 23 n1.1.2 n1.1.1 0 []])) q1 gq1; generalize R (.namesL (l ++ [.mk 23 n1.1.2 n1.1.1 0 []])) q1 = r at gr br hf ⊢
    obtain ⟨fr, pr, sr⟩ := br hf
    obtain ⟨fq1, mq1⟩ := bq1 fr
    obtain ⟨fn1, mn1, nn1, zn1⟩ := bn1 fq1
    refine ⟨?_, (by simp only [szA, szB, sz, szL, szL_app, szl, List.length_cons, List.length_nil, List.length_append] at sr ⊢; omega)⟩
    obtain ⟨ps, ek, gp⟩ := pr
    refine ⟨(n1.1.2, n1.1.1) :: ps, by rw [ek]; simp [pNd], fun p hp => ?_⟩
    rcases List.mem_cons.1 hp with rfl | hp
    · exact nn1
    · exact gp p hp
  · simp only [h1, has_f (S := S) h1, Bool.false_eq_true, if_true, if_false, reduceIte] at hf ⊢
    obtain ⟨fn1, mn1, nn1, zn1⟩ := bn1 hf
    exact ⟨⟨[(n1.1.2, n1.1.1)], rfl, fun p hp => by simp only [List.mem_cons, List.not_mem_nil, or_false] at hp; subst hp; exact nn1⟩, (by simp only [szA, szB, sz, szL, szL_app, szl, List.length_cons, List.length_nil, List.length_append, Nd.ks]; omega)⟩
theorem g_pair (ih : IH S R) {q : Rs} (g0 : Gk S q) (hf : (pairS S R q).2.fk = 0) : Pst S (.pair) q (pairS S R q) := by
  unfold pairS at hf ⊢
  dsimp only at hf ⊢
  obtain ⟨gr, br⟩ := ih (.some) q g0; generalize R (.some) q = r at gr br hf ⊢
  rcases Bool.eq_false_or_eq_true (isB r.2 Z.k6) with h1 | h1
  · simp only [h1, Bool.false_eq_true, if_true, if_false, reduceIte] at hf ⊢
    obtain ⟨gq1, bq1⟩ := k_has gr h1; generalize hasR S r.2 Z.k6 = q1 at gq1 bq1 hf ⊢
    obtain ⟨gr2, br2⟩ := ih (.pair) q1 gq1; generalize R (.pair) q1 = r2 at gr2 br2 hf ⊢
    obtain ⟨fr2, pr2, sr2⟩ := br2 hf
    obtain ⟨fq1, mq1⟩ := bq1 fr2
    obtain ⟨fr, pr, sr⟩ := br fq1
    obtain ⟨lr, wr⟩ := pr
    obtain ⟨lr2, wr2⟩ := pr2
    exact ⟨⟨_, Ty.tpair r.1.a r.1 r2.1 lr lr2 wr wr2⟩, (by simp only [szA, szB, sz, szL, szL_app, szl, List.length_cons, List.length_nil, List.length_append] at sr2 sr ⊢; omega)⟩
  · simp only [h1, has_f (S := S) h1, Bool.false_eq_true, if_true, if_false, reduceIte] at hf ⊢
    exact (br hf).2
theorem g_some (ih : IH S R) {q : Rs} (g0 : Gk S q) (hf : (someS S R q).2.fk = 0) : Pst S (.some) q (someS S R q) := by
  unfold someS at hf ⊢
  dsimp only at hf ⊢
  rcases Bool.eq_false_or_eq_true (isB q Z.k23) with h1 | h1
  · simp only [h1, Bool.false_eq_true, if_true, if_false, reduceIte] at hf ⊢
    obtain ⟨gq1, bq1⟩ := k_has g0 h1; generalize hasR S q Z.k23 = q1 at gq1 bq1 hf ⊢
    obtain ⟨gr, br⟩ := ih (.listL (.mk 24 q.a Z.E 0 [])) q1 gq1; generalize R (.listL (.mk 24 q.a Z.E 0 [])) q1 = r at gr br hf ⊢
    obtain ⟨fr, pr, sr⟩ := br hf
    obtain ⟨fq1, mq1⟩ := bq1 fr
    exact ⟨pr ⟨_, Ty.tint q.a⟩, (by simp only [szA, szB, sz, szL, szL_app, szl, List.length_cons, List.length_nil, List.length_append] at sr ⊢; omega)⟩
  · simp only [h1, has_f (S := S) h1, Bool.false_eq_true, if_true, if_false, reduceIte] at hf ⊢
    rcases Bool.eq_false_or_eq_true (isB q Z.k26) with h2 | h2
    · simp only [h2, Bool.false_eq_true, if_true, if_false, reduceIte] at hf ⊢
      obtain ⟨gq1, bq1⟩ := k_has g0 h2; generalize hasR S q Z.k26 = q1 at gq1 bq1 hf ⊢
      obtain ⟨gr, br⟩ := ih (.listL (.mk 25 q.a Z.E 0 [])) q1 gq1; generalize R (.listL (.mk 25 q.a Z.E 0 [])) q1 = r at gr br hf ⊢
      obtain ⟨fr, pr, sr⟩ := br hf
      obtain ⟨fq1, mq1⟩ := bq1 fr
      exact ⟨pr ⟨_, Ty.tbool q.a⟩, (by simp only [szA, szB, sz, szL, szL_app, szl, List.length_cons, List.length_nil, List.length_append] at sr ⊢; omega)⟩
    · simp only [h2, has_f (S := S) h2, Bool.false_eq_true, if_true, if_false, reduceIte] at hf ⊢
      rcases Bool.eq_false_or_eq_true (isB q Z.k31) with h3 | h3
      · simp only [h3, Bool.false_eq_true, if_true, if_false, reduceIte] at hf ⊢
        obtain ⟨gq1, bq1⟩ := k_has g0 h3; generalize hasR S q Z.k31 = q1 at gq1 bq1 hf ⊢
        obtain ⟨gr, br⟩ := ih (.listL (.mk 26 q.a Z.E 0 [])) q1 gq1; generalize R (.listL (.mk 26 q.a Z.E 0 [])) q1 = r at gr br hf ⊢
        obtain ⟨fr, pr, sr⟩ := br hf
        obtain ⟨fq1, mq1⟩ := bq1 fr
        exact ⟨pr ⟨_, Ty.tunit q.a⟩, (by simp only [szA, szB, sz, szL, szL_app, szl, List.length_cons, List.length_nil, List.length_append] at sr ⊢; omega)⟩
      · simp only [h3, has_f (S := S) h3, Bool.false_eq_true, if_true, if_false, reduceIte] at hf ⊢
        rcases Bool.eq_false_or_eq_true (isB q Z.k4) with h4 | h4
        · simp only [h4, Bool.false_eq_true, if_true, if_false, reduceIte] at hf ⊢
          obtain ⟨gq1, bq1⟩ := k_has g0 h4; generalize hasR S q Z.k4 = q1 at gq1 bq1 hf ⊢
          obtain ⟨gr, br⟩ := ih (.typ) q1 gq1; generalize R (.typ) q1 = r at gr br hf ⊢
          obtain ⟨gq2, bq2⟩ := k_must (s := Z.k2) gr; generalize mustR S r.2 Z.k2 = q2 at gq2 bq2 hf ⊢
          obtain ⟨gr2, br2⟩ := ih (.listL r.1) q2 gq2; generalize R (.listL r.1) q2 = r2 at gr2 br2 hf ⊢
          obtain ⟨fr2, pr2, sr2⟩ := br2 hf
          obtain ⟨fq2, mq2⟩ := bq2 fr2
          obtain ⟨fr, pr, sr⟩ := br fq2
          obtain ⟨fq1, mq1⟩ := bq1 fr
          exact ⟨pr2 pr, (by simp only [szA, szB, sz, szL, szL_app, szl, List.length_cons, List.length_nil, List.length_append] at sr2 sr ⊢; omega)⟩
        · simp only [h4, has_f (S := S) h4, Bool.false_eq_true, if_true, if_false, reduceIte] at hf ⊢
          exact (no_not ((ih _ _ (gk_no g0)).2 hf).1).elim
theorem g_list (ih : IH S R) {a : Nd} {q : Rs} (g0 : Gk S q) (hf : (listLS S R a q).2.fk = 0) : Pst S (.listL a) q (listLS S R a q) := by
  unfold listLS at hf ⊢
  dsimp only at hf ⊢
  rcases Bool.eq_false_or_eq_true (isB q Z.k41) with h1 | h1
  · simp only [h1, Bool.false_eq_true, if_true, if_false, reduceIte] at hf ⊢
    obtain ⟨gq1, bq1⟩ := k_has g0 h1; generalize hasR S q Z.k41 = q1 at gq1 bq1 hf ⊢
    obtain ⟨gr, br⟩ := ih (.listL (.mk 27 a.a Z.E 0 [a])) q1 gq1; generalize R (.listL (.mk 27 a.a Z.E 0 [a])) q1 = r at gr br hf ⊢
    obtain ⟨fr, pr, sr⟩ := br hf
    obtain ⟨fq1, mq1⟩ := bq1 fr
    exact ⟨fun ha => (by obtain ⟨la, wa⟩ := ha; exact pr ⟨_, Ty.tlist a.a a la wa⟩), (by simp only [szA, szB, sz, szL, szL_app, szl, List.length_cons, List.length_nil, List.length_append] at sr ⊢; omega)⟩
  · simp only [h1, has_f (S := S) h1, Bool.false_eq_true, if_true, if_false, reduceIte] at hf ⊢
    exact ⟨id, Nat.le_refl _⟩
theorem g_expr (ih : IH S R) {q : Rs} (g0 : Gk S q) (hf : (exprS R q).2.fk = 0) : Pst S (.expr) q (exprS R q) := by
  unfold exprS at hf ⊢
  split at hf
  · rename_i ho
    split at hf
    · cases hf
    · rename_i hy
      rw [if_pos ho, if_neg hy]
      have hy' : q.x < 200 := by simp at hy; omega
      have gq : Gk S { q with x := q.x + 1 } := ⟨⟨g0.1.size, g0.1.e, hy', g0.1.y, g0.1.a, g0.1.n, g0.1.t, g0.1.k, g0.1.end_, g0.1.nm, g0.1.sg⟩, g0.2⟩
      have z := ((ih .any _ gq).2 hf).2
      exact ⟨z.1, by have := z.2; simp only [szA, szB, M] at this ⊢; exact this⟩
  · rename_i ho
    exact absurd ((okB_iff q).2 hf) ho
theorem g_any (ih : IH S R) {q : Rs} (g0 : Gk S q) (hf : (anyS S R q).2.fk = 0) : Pst S (.any) q (anyS S R q) := by
  unfold anyS at hf ⊢
  dsimp only at hf ⊢
  rcases Bool.eq_false_or_eq_true (isB q Z.k12) with h1 | h1
  · simp only [h1, Bool.false_eq_true, if_true, if_false, reduceIte] at hf ⊢
    obtain ⟨gq1, bq1⟩ := k_has g0 h1; generalize hasR S q Z.k12 = q1 at gq1 bq1 hf ⊢
    obtain ⟨gr, br⟩ := ih (.letN q.a) q1 gq1; generalize R (.letN q.a) q1 = r at gr br hf ⊢
    obtain ⟨fr, pr, sr⟩ := br hf
    obtain ⟨fq1, mq1⟩ := bq1 fr
    exact ⟨pr, (by simp only [szA, szB, sz, szL, szL_app, szl, List.length_cons, List.length_nil, List.length_append] at sr ⊢; omega)⟩
  · simp only [h1, has_f (S := S) h1, Bool.false_eq_true, if_true, if_false, reduceIte] at hf ⊢
    rcases Bool.eq_false_or_eq_true (isB q Z.k25) with h2 | h2
    · simp only [h2, Bool.false_eq_true, if_true, if_false, reduceIte] at hf ⊢
      obtain ⟨gq1, bq1⟩ := k_has g0 h2; generalize hasR S q Z.k25 = q1 at gq1 bq1 hf ⊢
      obtain ⟨gr, br⟩ := ih (.params Z.k1 true) q1 gq1; generalize R (.params Z.k1 true) q1 = r at gr br hf ⊢
      obtain ⟨fr, pr, sr⟩ := br hf
      obtain ⟨fq1, mq1⟩ := bq1 fr
      obtain ⟨fa, fx, x, lx, e1, g1, w1⟩ := pr.2 rfl
      rw [e1] at sr ⊢
      exact ⟨⟨_, Tw.efn q.a fx x lx g1 w1⟩, (by simp only [szA, szB, sz, szL, szL_app, szl, List.length_cons, List.length_nil, List.length_append, Nd.nm, Nd.ks] at sr ⊢; omega)⟩
    · simp only [h2, has_f (S := S) h2, Bool.false_eq_true, if_true, if_false, reduceIte] at hf ⊢
      rcases Bool.eq_false_or_eq_true (isB q Z.k28) with h3 | h3
      · simp only [h3, Bool.false_eq_true, if_true, if_false, reduceIte] at hf ⊢
        obtain ⟨gq1, bq1⟩ := k_has g0 h3; generalize hasR S q Z.k28 = q1 at gq1 bq1 hf ⊢
        obtain ⟨gra, bra⟩ := ih (.expr) q1 gq1; generalize R (.expr) q1 = ra at gra bra hf ⊢
        obtain ⟨gqa, bqa⟩ := k_must (s := Z.k45) gra; generalize mustR S ra.2 Z.k45 = qa at gqa bqa hf ⊢
        obtain ⟨grb, brb⟩ := ih (.expr) qa gqa; generalize R (.expr) qa = rb at grb brb hf ⊢
        obtain ⟨gqb, bqb⟩ := k_must (s := Z.k46) grb; generalize mustR S rb.2 Z.k46 = qb at gqb bqb hf ⊢
        obtain ⟨grc, brc⟩ := ih (.expr) qb gqb; generalize R (.expr) qb = rc at grc brc hf ⊢
        obtain ⟨frc, prc, src⟩ := brc hf
        obtain ⟨fqb, mqb⟩ := bqb frc
        obtain ⟨frb, prb, srb⟩ := brb fqb
        obtain ⟨fqa, mqa⟩ := bqa frb
        obtain ⟨fra, pra, sra⟩ := bra fqa
        obtain ⟨fq1, mq1⟩ := bq1 fra
        obtain ⟨lra, wra⟩ := pra
        obtain ⟨lrb, wrb⟩ := prb
        obtain ⟨lrc, wrc⟩ := prc
        exact ⟨⟨_, Tw.eif q.a ra.1 rb.1 rc.1 lra lrb lrc wra wrb wrc⟩, (by simp only [szA, szB, sz, szL, szL_app, szl, List.length_cons, List.length_nil, List.length_append] at src srb sra ⊢; omega)⟩
      · simp only [h3, has_f (S := S) h3, Bool.false_eq_true, if_true, if_false, reduceIte] at hf ⊢
        rcases Bool.eq_false_or_eq_true (isB q Z.k32) with h4 | h4
        · simp only [h4, Bool.false_eq_true, if_true, if_false, reduceIte] at hf ⊢
          obtain ⟨gq1, bq1⟩ := k_has g0 h4; generalize hasR S q Z.k32 = q1 at gq1 bq1 hf ⊢
          obtain ⟨gr, br⟩ := ih (.cases q.a) q1 gq1; generalize R (.cases q.a) q1 = r at gr br hf ⊢
          obtain ⟨fr, pr, sr⟩ := br hf
          obtain ⟨fq1, mq1⟩ := bq1 fr
          exact ⟨pr, (by simp only [szA, szB, sz, szL, szL_app, szl, List.length_cons, List.length_nil, List.length_append] at sr ⊢; omega)⟩
        · simp only [h4, has_f (S := S) h4, Bool.false_eq_true, if_true, if_false, reduceIte] at hf ⊢
          rcases Bool.eq_false_or_eq_true (isB q Z.k27) with h5 | h5
          · simp only [h5, Bool.false_eq_true, if_true, if_false, reduceIte] at hf ⊢
            exact ((ih _ _ g0).2 hf).2
          · simp only [h5, Bool.false_eq_true, if_true, if_false, reduceIte] at hf ⊢
            rcases Bool.eq_false_or_eq_true (isB q Z.k33) with h6 | h6
            · simp only [h6, Bool.false_eq_true, if_true, if_false, reduceIte] at hf ⊢
              exact ((ih _ _ g0).2 hf).2
            · simp only [h6, Bool.false_eq_true, if_true, if_false, reduceIte] at hf ⊢
              obtain ⟨gr, br⟩ := ih (.comp) q g0; generalize R (.comp) q = r at gr br hf ⊢
              rcases Bool.eq_false_or_eq_true (isB r.2 Z.k48) with h7 | h7
              · simp only [h7, Bool.false_eq_true, if_true, if_false, reduceIte] at hf ⊢
                obtain ⟨gq5, bq5⟩ := k_has gr h7; generalize hasR S r.2 Z.k48 = q5 at gq5 bq5 hf ⊢
                obtain ⟨gr2, br2⟩ := ih (.expr) q5 gq5; generalize R (.expr) q5 = r2 at gr2 br2 hf ⊢
                obtain ⟨fr2, pr2, sr2⟩ := br2 hf
                obtain ⟨fq5, mq5⟩ := bq5 fr2
                obtain ⟨fr, pr, sr⟩ := br fq5
                obtain ⟨lr, wr⟩ := pr
                obtain ⟨lr2, wr2⟩ := pr2
                exact ⟨⟨_, Tw.eseq r.1.a r.1 r2.1 lr lr2 wr wr2⟩, (by simp only [szA, szB, sz, szL, szL_app, szl, List.length_cons, List.length_nil, List.length_append] at sr2 sr ⊢; omega)⟩
              · simp only [h7, has_f (S := S) h7, Bool.false_eq_true, if_true, if_false, reduceIte] at hf ⊢
                exact (br hf).2
theorem g_param (ih : IH S R) {sign : ByteArray} {q : Rs} (g0 : Gk S q) (hf : (paramS S R sign q).2.fk = 0) : (∃ fa fx x lx, (paramS S R sign q).1 = .mk 7 fa fx 0 [x] ∧ GT (nmT fx) ∧ Tw x lx) ∧ sz (paramS S R sign q).1 + 200 + 100000 * M S (paramS S R sign q).2 ≤ 100000 * M S q := by
  unfold paramS at hf ⊢
  dsimp only at hf ⊢
  obtain ⟨gn1, bn1⟩ := k_name g0; generalize nameR S q = n1 at gn1 bn1 hf ⊢
  split at hf
  · rename_i ho; rw [if_pos ho]
    obtain ⟨gr, br⟩ := ih (.params sign false) n1.2 gn1; generalize R (.params sign false) n1.2 = r at gr br hf ⊢
    obtain ⟨fr, pr, sr⟩ := br hf
    obtain ⟨fn1, mn1, nn1, zn1⟩ := bn1 fr
    obtain ⟨⟨lx, wx⟩, _⟩ := pr
    exact ⟨⟨n1.1.2, n1.1.1, r.1, lx, rfl, nn1, wx⟩, (by simp only [szA, szB, sz, szL, szL_app, szl, List.length_cons, List.length_nil, List.length_append] at sr ⊢; omega)⟩
  · rename_i ho; exact absurd ((okB_iff _).2 hf) ho
theorem g_params (ih : IH S R) {sign : ByteArray} {f : Bool} {q : Rs} (g0 : Gk S q) (hf : (paramsS S R sign f q).2.fk = 0) : Pst S (.params sign f) q (paramsS S R sign f q) := by
  have one : ∀ f, (paramS S R sign q).2.fk = 0 → Pst S (.params sign f) q (paramS S R sign q) := fun f h => by
    obtain ⟨⟨fa, fx, x, lx, e1, g1, w1⟩, z⟩ := g_param ih g0 h
    exact ⟨⟨⟨_, by rw [e1]; exact Tw.efn fa fx x lx g1 w1⟩, fun _ => ⟨fa, fx, x, lx, e1, g1, w1⟩⟩, by simp only [szA, szB]; omega⟩
  unfold paramsS at hf ⊢
  split at hf
  · rename_i h1
    rw [if_pos h1]
    exact one f hf
  · rename_i h1
    rw [if_neg h1]
    have h1' : f = false := by simpa using h1
    subst h1'
    split at hf
    · rename_i h2
      rw [if_pos h2]
      exact one _ hf
    · rename_i h2
      rw [if_neg h2]
      obtain ⟨gq2, bq2⟩ := k_must (s := sign) g0; generalize mustR S q sign = q2 at gq2 bq2 hf ⊢
      obtain ⟨gr, br⟩ := ih (.expr) q2 gq2; generalize R (.expr) q2 = r at gr br hf ⊢
      obtain ⟨fr, pr, sr⟩ := br hf
      obtain ⟨fq2, mq2⟩ := bq2 fr
      exact ⟨⟨pr, fun h => by cases h⟩, (by simp only [szA, szB, sz, szL, szL_app, szl, List.length_cons, List.length_nil, List.length_append] at sr ⊢; omega)⟩
theorem g_let_true (ih : IH S R) {at_ : Nat} {q : Rs} (g0 : Gk S q) (hf : (letT S R at_ 1 true q).2.fk = 0) : Pst S (.letN at_) q (letT S R at_ 1 true q) := by
  unfold letT at hf ⊢
  dsimp only at hf ⊢
  obtain ⟨gn1, bn1⟩ := k_name g0; generalize nameR S q = n1 at gn1 bn1 hf ⊢
  obtain ⟨gr2, br2⟩ := ih (.params Z.k7 true) n1.2 gn1; generalize R (.params Z.k7 true) n1.2 = r2 at gr2 br2 hf ⊢
  obtain ⟨gq3, bq3⟩ := k_must (s := Z.k21) gr2; generalize mustR S r2.2 Z.k21 = q3 at gq3 bq3 hf ⊢
  obtain ⟨gr4, br4⟩ := ih (.expr) q3 gq3; generalize R (.expr) q3 = r4 at gr4 br4 hf ⊢
  obtain ⟨fr4, pr4, sr4⟩ := br4 hf
  obtain ⟨fq3, mq3⟩ := bq3 fr4
  obtain ⟨fr2, pr2, sr2⟩ := br2 fq3
  obtain ⟨fn1, mn1, nn1, zn1⟩ := bn1 fr2
  obtain ⟨lr4, wr4⟩ := pr4
  obtain ⟨fa, fx, x, lx, e1, g1, w1⟩ := pr2.2 rfl
  refine ⟨?_, (by simp only [szA, szB, sz, szL, szL_app, szl, List.length_cons, List.length_nil, List.length_append] at sr4 sr2 ⊢; omega)⟩
  rw [e1]; exact ⟨_, Tw.elet1 at_ n1.1.1 fa fx x r4.1 lx lr4 nn1 g1 w1 wr4⟩
theorem g_let_false (ih : IH S R) {at_ : Nat} {q : Rs} (g0 : Gk S q) (hf : (letT S R at_ 0 false q).2.fk = 0) : Pst S (.letN at_) q (letT S R at_ 0 false q) := by
  unfold letT at hf ⊢
  dsimp only at hf ⊢
  obtain ⟨gn1, bn1⟩ := k_name g0; generalize nameR S q = n1 at gn1 bn1 hf ⊢
  obtain ⟨gr2, br2⟩ := ih (.params Z.k7 false) n1.2 gn1; generalize R (.params Z.k7 false) n1.2 = r2 at gr2 br2 hf ⊢
  obtain ⟨gq3, bq3⟩ := k_must (s := Z.k21) gr2; generalize mustR S r2.2 Z.k21 = q3 at gq3 bq3 hf ⊢
  obtain ⟨gr4, br4⟩ := ih (.expr) q3 gq3; generalize R (.expr) q3 = r4 at gr4 br4 hf ⊢
  obtain ⟨fr4, pr4, sr4⟩ := br4 hf
  obtain ⟨fq3, mq3⟩ := bq3 fr4
  obtain ⟨fr2, pr2, sr2⟩ := br2 fq3
  obtain ⟨fn1, mn1, nn1, zn1⟩ := bn1 fr2
  obtain ⟨lr4, wr4⟩ := pr4
  obtain ⟨⟨lx, wx⟩, _⟩ := pr2
  exact ⟨⟨_, Tw.elet0 at_ n1.1.1 r2.1 r4.1 lx lr4 nn1 wx wr4⟩, (by simp only [szA, szB, sz, szL, szL_app, szl, List.length_cons, List.length_nil, List.length_append] at sr4 sr2 ⊢; omega)⟩
theorem g_letN (ih : IH S R) {at_ : Nat} {q : Rs} (g0 : Gk S q) (hf : (letS S R at_ q).2.fk = 0) : Pst S (.letN at_) q (letS S R at_ q) := by
  unfold letS at hf ⊢
  dsimp only at hf ⊢
  rcases Bool.eq_false_or_eq_true (isB q Z.k19) with h1 | h1
  · simp only [h1, Bool.false_eq_true, if_true, if_false, reduceIte] at hf ⊢
    have z := g_let_true ih (k_has g0 h1).1 hf; have m := (has_tr (s := Z.k19) g0.1).m
    exact ⟨z.1, Nat.le_trans z.2 (by simp only [szB]; omega)⟩
  · simp only [h1, has_f (S := S) h1, Bool.false_eq_true, if_true, if_false, reduceIte] at hf ⊢
    exact g_let_false ih g0 hf
theorem g_cases (ih : IH S R) {at_ : Nat} {q : Rs} (g0 : Gk S q) (hf : (casesS S R at_ q).2.fk = 0) : Pst S (.cases at_) q (casesS S R at_ q) := by
  unfold casesS at hf ⊢
  dsimp only at hf ⊢
  obtain ⟨gr, br⟩ := ih (.expr) q g0; generalize R (.expr) q = r at gr br hf ⊢
  obtain ⟨gq1, bq1⟩ := k_must (s := Z.k49) gr; generalize mustR S r.2 Z.k49 = q1 at gq1 bq1 hf ⊢
  obtain ⟨gq2, bq2⟩ := k_must (s := Z.k18) gq1; generalize mustR S q1 Z.k18 = q2 at gq2 bq2 hf ⊢
  obtain ⟨gq3, bq3⟩ := k_must (s := Z.k22) gq2; generalize mustR S q2 Z.k22 = q3 at gq3 bq3 hf ⊢
  obtain ⟨gq4, bq4⟩ := k_must (s := Z.k1) gq3; generalize mustR S q3 Z.k1 = q4 at gq4 bq4 hf ⊢
  obtain ⟨gr5, br5⟩ := ih (.expr) q4 gq4; generalize R (.expr) q4 = r5 at gr5 br5 hf ⊢
  obtain ⟨gq6, bq6⟩ := k_must (s := Z.k24) gr5; generalize mustR S r5.2 Z.k24 = q6 at gq6 bq6 hf ⊢
  obtain ⟨gn7, bn7⟩ := k_name gq6; generalize nameR S q6 = n7 at gn7 bn7 hf ⊢
  obtain ⟨gq8, bq8⟩ := k_must (s := Z.k9) gn7; generalize mustR S n7.2 Z.k9 = q8 at gq8 bq8 hf ⊢
  obtain ⟨gn9, bn9⟩ := k_name gq8; generalize nameR S q8 = n9 at gn9 bn9 hf ⊢
  obtain ⟨gq10, bq10⟩ := k_must (s := Z.k1) gn9; generalize mustR S n9.2 Z.k1 = q10 at gq10 bq10 hf ⊢
  obtain ⟨gr11, br11⟩ := ih (.expr) q10 gq10; generalize R (.expr) q10 = r11 at gr11 br11 hf ⊢
  obtain ⟨gq12, bq12⟩ := k_must (s := Z.k50) gr11; generalize mustR S r11.2 Z.k50 = q12 at gq12 bq12 hf ⊢
  obtain ⟨fq12, mq12⟩ := bq12 hf
  obtain ⟨fr11, pr11, sr11⟩ := br11 fq12
  obtain ⟨fq10, mq10⟩ := bq10 fr11
  obtain ⟨fn9, mn9, nn9, zn9⟩ := bn9 fq10
  obtain ⟨fq8, mq8⟩ := bq8 fn9
  obtain ⟨fn7, mn7, nn7, zn7⟩ := bn7 fq8
  obtain ⟨fq6, mq6⟩ := bq6 fn7
  obtain ⟨fr5, pr5, sr5⟩ := br5 fq6
  obtain ⟨fq4, mq4⟩ := bq4 fr5
  obtain ⟨fq3, mq3⟩ := bq3 fq4
  obtain ⟨fq2, mq2⟩ := bq2 fq3
  obtain ⟨fq1, mq1⟩ := bq1 fq2
  obtain ⟨fr, pr, sr⟩ := br fq1
  obtain ⟨lr, wr⟩ := pr
  obtain ⟨lr5, wr5⟩ := pr5
  obtain ⟨lr11, wr11⟩ := pr11
  exact ⟨⟨_, Tw.ecase at_ r.1 r5.1 r11.1 n7.1.2 n9.1.2 n7.1.1 n9.1.1 lr lr5 lr11 nn7 nn9 wr wr5 wr11⟩, (by simp only [szA, szB, sz, szL, szL_app, szl, List.length_cons, List.length_nil, List.length_append] at sr11 sr5 sr ⊢; omega)⟩
theorem g_handT (ih : IH S R) {at_ : Nat} {n : Int} (hn : n = 0 ∨ n = 1) {q : Rs} (g0 : Gk S q) (hf : (handT S R at_ n q).2.fk = 0) : Pst S (.handle at_) q (handT S R at_ n q) := by
  unfold handT at hf ⊢
  dsimp only at hf ⊢
  obtain ⟨gr, br⟩ := ih (.expr) q g0; generalize R (.expr) q = r at gr br hf ⊢
  obtain ⟨gq2, bq2⟩ := k_must (s := Z.k34) gr; generalize mustR S r.2 Z.k34 = q2 at gq2 bq2 hf ⊢
  obtain ⟨gq3, bq3⟩ := k_must (s := Z.k20) gq2; generalize mustR S q2 Z.k20 = q3 at gq3 bq3 hf ⊢
  obtain ⟨gq4, bq4⟩ := k_must (s := Z.k35) gq3; generalize mustR S q3 Z.k35 = q4 at gq4 bq4 hf ⊢
  obtain ⟨gn5, bn5⟩ := k_name gq4; generalize nameR S q4 = n5 at gn5 bn5 hf ⊢
  obtain ⟨gq6, bq6⟩ := k_must (s := Z.k1) gn5; generalize mustR S n5.2 Z.k1 = q6 at gq6 bq6 hf ⊢
  obtain ⟨gr7, br7⟩ := ih (.expr) q6 gq6; generalize R (.expr) q6 = r7 at gr7 br7 hf ⊢
  obtain ⟨gr8, br8⟩ := ih (.handL [r.1, .mk 21 q3.a n5.1.1 0 [r7.1]]) r7.2 gr7; generalize R (.handL [r.1, .mk 21 q3.a n5.1.1 0 [r7.1]]) r7.2 = r8 at gr8 br8 hf ⊢
  obtain ⟨gq9, bq9⟩ := k_must (s := Z.k11) gr8; generalize mustR S r8.2 Z.k11 = q9 at gq9 bq9 hf ⊢
  obtain ⟨fq9, mq9⟩ := bq9 hf
  obtain ⟨fr8, pr8, sr8⟩ := br8 fq9
  obtain ⟨fr7, pr7, sr7⟩ := br7 fr8
  obtain ⟨fq6, mq6⟩ := bq6 fr7
  obtain ⟨fn5, mn5, nn5, zn5⟩ := bn5 fq6
  obtain ⟨fq4, mq4⟩ := bq4 fn5
  obtain ⟨fq3, mq3⟩ := bq3 fq4
  obtain ⟨fq2, mq2⟩ := bq2 fq3
  obtain ⟨fr, pr, sr⟩ := br fq2
  obtain ⟨lr, wr⟩ := pr
  obtain ⟨lr7, wr7⟩ := pr7
  refine ⟨?_, (by simp only [szA, szB, sz, szL, szL_app, szl, List.length_cons, List.length_nil, List.length_append] at sr8 sr7 sr ⊢; omega)⟩
  obtain ⟨cs, ek, hc⟩ := pr8
  rw [ek]
  exact ⟨_, Tw.ehandle at_ n r.1 r7.1 q3.a n5.1.1 lr lr7 cs hn nn5 (fun c h => ⟨(hc c h).1, (hc c h).2.1, (hc c h).2.2.1⟩) wr wr7 (fun c h => (hc c h).2.2.2)⟩
theorem g_handle (ih : IH S R) {at_ : Nat} {q : Rs} (g0 : Gk S q) (hf : (handleS S R at_ q).2.fk = 0) : Pst S (.handle at_) q (handleS S R at_ q) := by
  unfold handleS at hf ⊢
  dsimp only at hf ⊢
  rcases Bool.eq_false_or_eq_true (isB q Z.k27) with h1 | h1
  · simp only [h1, Bool.false_eq_true, if_true, if_false, reduceIte] at hf ⊢
    have z := g_handT ih (.inl rfl) (gk_has g0) hf
    exact ⟨z.1, Nat.le_trans z.2 (by simp only [szB]; have := (has_tr (s := Z.k27) g0.1).m; omega)⟩
  · simp only [h1, has_f (S := S) h1, Bool.false_eq_true, if_true, if_false, reduceIte] at hf ⊢
    have z := g_handT ih (.inr rfl) (gk_next g0) hf
    exact ⟨z.1, Nat.le_trans z.2 (by simp only [szB]; have := (next_tr g0.1).m; omega)⟩
theorem g_handL (ih : IH S R) {l : List Nd} {q : Rs} (g0 : Gk S q) (hf : (handLS S R l q).2.fk = 0) : Pst S (.handL l) q (handLS S R l q) := by
  unfold handLS at hf ⊢
  dsimp only at hf ⊢
  rcases Bool.eq_false_or_eq_true (isB q Z.k24) with h1 | h1
  · simp only [h1, Bool.false_eq_true, if_true, if_false, reduceIte] at hf ⊢
    obtain ⟨gq1, bq1⟩ := k_has g0 h1; generalize hasR S q Z.k24 = q1 at gq1 bq1 hf ⊢
    obtain ⟨gn2, bn2⟩ := k_name gq1; generalize nameR S q1 = n2 at gn2 bn2 hf ⊢
    obtain ⟨gn3, bn3⟩ := k_name gn2; generalize nameR S n2.2 = n3 at gn3 bn3 hf ⊢
    obtain ⟨gn4, bn4⟩ := k_name gn3; generalize nameR S n3.2 = n4 at gn4 bn4 hf ⊢
    obtain ⟨gq5, bq5⟩ := k_must (s := Z.k1) gn4; generalize mustR S n4.2 Z.k1 = q5 at gq5 bq5 hf ⊢
    obtain ⟨gr6, br6⟩ := ih (.expr) q5 gq5; generalize R (.expr) q5 = r6 at gr6 br6 hf ⊢
    obtain ⟨gr7, br7⟩ := ih (.handL (l ++ [.mk 22 n2.1.2 n2.1.1 0 [.mk 23 n3.1.2 n3.1.1 0 [], .mk 23 n4.1.2 n4.1.1 0 [], r6.1]])) r6.2 gr6; generalize R (.handL (l ++ [.mk 22 n2.1.2 n2.1.1 0 [.mk 23 n3.1.2 n3.1.1 0 [], .mk 23 n4.1.2 n4.1.1 0 [], r6.1]])) r6.2 = r7 at gr7 br7 hf ⊢
    obtain ⟨fr7, pr7, sr7⟩ := br7 hf
    obtain ⟨fr6, pr6, sr6⟩ := br6 fr7
    obtain ⟨fq5, mq5⟩ := bq5 fr6
    obtain ⟨fn4, mn4, nn4, zn4⟩ := bn4 fq5
    obtain ⟨fn3, mn3, nn3, zn3⟩ := bn3 fn4
    obtain ⟨fn2, mn2, nn2, zn2⟩ := bn2 fn3
    obtain ⟨fq1, mq1⟩ := bq1 fn2
    refine ⟨?_, (by simp only [szA, szB, sz, szL, szL_app, szl, List.length_cons, List.length_nil, List.length_append] at sr7 sr6 ⊢; omega)⟩
    obtain ⟨lr6, wr6⟩ := pr6
    obtain ⟨cs, ek, hc⟩ := pr7
    refine ⟨⟨n2.1.2, n2.1.1, n3.1.2, n3.1.1, n4.1.2, n4.1.1, r6.1, lr6⟩ :: cs, by rw [ek]; simp [Cd.node], fun c h => ?_⟩
    rcases List.mem_cons.1 h with rfl | h
    · exact ⟨nn2, nn3, nn4, wr6⟩
    · exact hc c h
  · simp only [h1, has_f (S := S) h1, Bool.false_eq_true, if_true, if_false, reduceIte] at hf ⊢
    exact ⟨⟨[], by simp [Nd.ks], fun c h => by cases h⟩, Nat.le_refl _⟩
theorem g_comp (ih : IH S R) {q : Rs} (g0 : Gk S q) (hf : (compS S R q).2.fk = 0) : Pst S (.comp) q (compS S R q) := by
  unfold compS at hf ⊢
  dsimp only at hf ⊢
  obtain ⟨gr, br⟩ := ih (.cons) q g0; generalize R (.cons) q = r at gr br hf ⊢
  rcases Bool.eq_false_or_eq_true (isB r.2 Z.k8) with h1 | h1
  · simp only [h1, Bool.false_eq_true, if_true, if_false, reduceIte] at hf ⊢
    obtain ⟨gq1, bq1⟩ := k_has gr h1; generalize hasR S r.2 Z.k8 = q1 at gq1 bq1 hf ⊢
    obtain ⟨gr2, br2⟩ := ih (.cons) q1 gq1; generalize R (.cons) q1 = r2 at gr2 br2 hf ⊢
    obtain ⟨fr2, pr2, sr2⟩ := br2 hf
    obtain ⟨fq1, mq1⟩ := bq1 fr2
    obtain ⟨fr, pr, sr⟩ := br fq1
    obtain ⟨lr, wr⟩ := pr
    obtain ⟨lr2, wr2⟩ := pr2
    exact ⟨⟨_, Tw.eop r.1.a Z.k8 r.1 r2.1 lr lr2 (by simp) wr wr2⟩, (by simp only [szA, szB, sz, szL, szL_app, szl, List.length_cons, List.length_nil, List.length_append, two] at sr2 sr ⊢; omega)⟩
  · simp only [h1, has_f (S := S) h1, Bool.false_eq_true, if_true, if_false, reduceIte] at hf ⊢
    rcases Bool.eq_false_or_eq_true (isB r.2 Z.k17) with h2 | h2
    · simp only [h2, Bool.false_eq_true, if_true, if_false, reduceIte] at hf ⊢
      obtain ⟨gq1, bq1⟩ := k_has gr h2; generalize hasR S r.2 Z.k17 = q1 at gq1 bq1 hf ⊢
      obtain ⟨gr2, br2⟩ := ih (.cons) q1 gq1; generalize R (.cons) q1 = r2 at gr2 br2 hf ⊢
      obtain ⟨fr2, pr2, sr2⟩ := br2 hf
      obtain ⟨fq1, mq1⟩ := bq1 fr2
      obtain ⟨fr, pr, sr⟩ := br fq1
      obtain ⟨lr, wr⟩ := pr
      obtain ⟨lr2, wr2⟩ := pr2
      exact ⟨⟨_, Tw.eop r.1.a Z.k17 r.1 r2.1 lr lr2 (by simp) wr wr2⟩, (by simp only [szA, szB, sz, szL, szL_app, szl, List.length_cons, List.length_nil, List.length_append, two] at sr2 sr ⊢; omega)⟩
    · simp only [h2, has_f (S := S) h2, Bool.false_eq_true, if_true, if_false, reduceIte] at hf ⊢
      exact (br hf).2
theorem g_cons (ih : IH S R) {q : Rs} (g0 : Gk S q) (hf : (consS S R q).2.fk = 0) : Pst S (.cons) q (consS S R q) := by
  unfold consS at hf ⊢
  dsimp only at hf ⊢
  obtain ⟨gr, br⟩ := ih (.sum) q g0; generalize R (.sum) q = r at gr br hf ⊢
  rcases Bool.eq_false_or_eq_true (isB r.2 Z.k9) with h1 | h1
  · simp only [h1, Bool.false_eq_true, if_true, if_false, reduceIte] at hf ⊢
    obtain ⟨gq1, bq1⟩ := k_has gr h1; generalize hasR S r.2 Z.k9 = q1 at gq1 bq1 hf ⊢
    obtain ⟨gr2, br2⟩ := ih (.cons) q1 gq1; generalize R (.cons) q1 = r2 at gr2 br2 hf ⊢
    obtain ⟨fr2, pr2, sr2⟩ := br2 hf
    obtain ⟨fq1, mq1⟩ := bq1 fr2
    obtain ⟨fr, pr, sr⟩ := br fq1
    obtain ⟨lr, wr⟩ := pr
    obtain ⟨lr2, wr2⟩ := pr2
    exact ⟨⟨_, Tw.econs r.1.a r.1 r2.1 lr lr2 wr wr2⟩, (by simp only [szA, szB, sz, szL, szL_app, szl, List.length_cons, List.length_nil, List.length_append, two] at sr2 sr ⊢; omega)⟩
  · simp only [h1, has_f (S := S) h1, Bool.false_eq_true, if_true, if_false, reduceIte] at hf ⊢
    exact (br hf).2
theorem g_sum (ih : IH S R) {q : Rs} (g0 : Gk S q) (hf : (sumS R q).2.fk = 0) : Pst S (.sum) q (sumS R q) := by
  unfold sumS at hf ⊢
  dsimp only at hf ⊢
  obtain ⟨gr, br⟩ := ih (.mul) q g0; generalize R (.mul) q = r at gr br hf ⊢
  obtain ⟨gr2, br2⟩ := ih (.sumL r.1) r.2 gr; generalize R (.sumL r.1) r.2 = r2 at gr2 br2 hf ⊢
  obtain ⟨fr2, pr2, sr2⟩ := br2 hf
  obtain ⟨fr, pr, sr⟩ := br fr2
  exact ⟨pr2 pr, (by simp only [szA, szB, sz, szL, szL_app, szl, List.length_cons, List.length_nil, List.length_append] at sr2 sr ⊢; omega)⟩
theorem g_mul (ih : IH S R) {q : Rs} (g0 : Gk S q) (hf : (mulS R q).2.fk = 0) : Pst S (.mul) q (mulS R q) := by
  unfold mulS at hf ⊢
  dsimp only at hf ⊢
  obtain ⟨gr, br⟩ := ih (.app) q g0; generalize R (.app) q = r at gr br hf ⊢
  obtain ⟨gr2, br2⟩ := ih (.mulL r.1) r.2 gr; generalize R (.mulL r.1) r.2 = r2 at gr2 br2 hf ⊢
  obtain ⟨fr2, pr2, sr2⟩ := br2 hf
  obtain ⟨fr, pr, sr⟩ := br fr2
  exact ⟨pr2 pr, (by simp only [szA, szB, sz, szL, szL_app, szl, List.length_cons, List.length_nil, List.length_append] at sr2 sr ⊢; omega)⟩
theorem g_sumL (ih : IH S R) {a : Nd} {q : Rs} (g0 : Gk S q) (hf : (sumLS S R a q).2.fk = 0) : Pst S (.sumL a) q (sumLS S R a q) := by
  unfold sumLS at hf ⊢
  dsimp only at hf ⊢
  rcases Bool.eq_false_or_eq_true (isB q Z.k10) with h1 | h1
  · simp only [h1, Bool.false_eq_true, if_true, if_false, reduceIte] at hf ⊢
    rw [(isB_ok h1).2.2] at hf ⊢
    obtain ⟨gq1, bq1⟩ := k_has g0 h1; generalize hasR S q Z.k10 = q1 at gq1 bq1 hf ⊢
    obtain ⟨gr, br⟩ := ih (.mul) q1 gq1; generalize R (.mul) q1 = r at gr br hf ⊢
    obtain ⟨gr2, br2⟩ := ih (.sumL (two Z.k10 a r.1)) r.2 gr; generalize R (.sumL (two Z.k10 a r.1)) r.2 = r2 at gr2 br2 hf ⊢
    obtain ⟨fr2, pr2, sr2⟩ := br2 hf
    obtain ⟨fr, pr, sr⟩ := br fr2
    obtain ⟨fq1, mq1⟩ := bq1 fr
    obtain ⟨lr, wr⟩ := pr
    exact ⟨fun ha => (by obtain ⟨la, wa⟩ := ha; exact pr2 ⟨_, Tw.eop a.a Z.k10 a r.1 la lr (by simp) wa wr⟩), (by simp only [szA, szB, sz, szL, szL_app, szl, List.length_cons, List.length_nil, List.length_append, two] at sr2 sr ⊢; omega)⟩
  · simp only [h1, has_f (S := S) h1, Bool.false_eq_true, if_true, if_false, reduceIte] at hf ⊢
    rcases Bool.eq_false_or_eq_true (isB q Z.k5) with h2 | h2
    · simp only [h2, Bool.false_eq_true, if_true, if_false, reduceIte] at hf ⊢
      rw [(isB_ok h2).2.2] at hf ⊢
      obtain ⟨gq1, bq1⟩ := k_has g0 h2; generalize hasR S q Z.k5 = q1 at gq1 bq1 hf ⊢
      obtain ⟨gr, br⟩ := ih (.mul) q1 gq1; generalize R (.mul) q1 = r at gr br hf ⊢
      obtain ⟨gr2, br2⟩ := ih (.sumL (two Z.k5 a r.1)) r.2 gr; generalize R (.sumL (two Z.k5 a r.1)) r.2 = r2 at gr2 br2 hf ⊢
      obtain ⟨fr2, pr2, sr2⟩ := br2 hf
      obtain ⟨fr, pr, sr⟩ := br fr2
      obtain ⟨fq1, mq1⟩ := bq1 fr
      obtain ⟨lr, wr⟩ := pr
      exact ⟨fun ha => (by obtain ⟨la, wa⟩ := ha; exact pr2 ⟨_, Tw.eop a.a Z.k5 a r.1 la lr (by simp) wa wr⟩), (by simp only [szA, szB, sz, szL, szL_app, szl, List.length_cons, List.length_nil, List.length_append, two] at sr2 sr ⊢; omega)⟩
    · simp only [h2, has_f (S := S) h2, Bool.false_eq_true, if_true, if_false, reduceIte] at hf ⊢
      exact ⟨id, Nat.le_refl _⟩
theorem g_mulL (ih : IH S R) {a : Nd} {q : Rs} (g0 : Gk S q) (hf : (mulLS S R a q).2.fk = 0) : Pst S (.mulL a) q (mulLS S R a q) := by
  unfold mulLS at hf ⊢
  dsimp only at hf ⊢
  rcases Bool.eq_false_or_eq_true (isB q Z.k6) with h1 | h1
  · simp only [h1, Bool.false_eq_true, if_true, if_false, reduceIte] at hf ⊢
    obtain ⟨gq1, bq1⟩ := k_has g0 h1; generalize hasR S q Z.k6 = q1 at gq1 bq1 hf ⊢
    obtain ⟨gr, br⟩ := ih (.app) q1 gq1; generalize R (.app) q1 = r at gr br hf ⊢
    obtain ⟨gr2, br2⟩ := ih (.mulL (two Z.k6 a r.1)) r.2 gr; generalize R (.mulL (two Z.k6 a r.1)) r.2 = r2 at gr2 br2 hf ⊢
    obtain ⟨fr2, pr2, sr2⟩ := br2 hf
    obtain ⟨fr, pr, sr⟩ := br fr2
    obtain ⟨fq1, mq1⟩ := bq1 fr
    obtain ⟨lr, wr⟩ := pr
    exact ⟨fun ha => (by obtain ⟨la, wa⟩ := ha; exact pr2 ⟨_, Tw.eop a.a Z.k6 a r.1 la lr (by simp) wa wr⟩), (by simp only [szA, szB, sz, szL, szL_app, szl, List.length_cons, List.length_nil, List.length_append, two] at sr2 sr ⊢; omega)⟩
  · simp only [h1, has_f (S := S) h1, Bool.false_eq_true, if_true, if_false, reduceIte] at hf ⊢
    exact ⟨id, Nat.le_refl _⟩
theorem g_app (ih : IH S R) {q : Rs} (g0 : Gk S q) (hf : (appS S R q).2.fk = 0) : Pst S (.app) q (appS S R q) := by
  unfold appS at hf ⊢
  dsimp only at hf ⊢
  rcases Bool.eq_false_or_eq_true (isB q Z.k38) with h1 | h1
  · simp only [h1, Bool.false_eq_true, if_true, if_false, reduceIte] at hf ⊢
    obtain ⟨gq1, bq1⟩ := k_has g0 h1; generalize hasR S q Z.k38 = q1 at gq1 bq1 hf ⊢
    obtain ⟨gn1, bn1⟩ := k_name gq1; generalize nameR S q1 = n1 at gn1 bn1 hf ⊢
    obtain ⟨gr, br⟩ := ih (.atom) n1.2 gn1; generalize R (.atom) n1.2 = r at gr br hf ⊢
    obtain ⟨fr, pr, sr⟩ := br hf
    obtain ⟨fn1, mn1, nn1, zn1⟩ := bn1 fr
    obtain ⟨fq1, mq1⟩ := bq1 fn1
    obtain ⟨lr, wr⟩ := pr
    exact ⟨⟨_, Tw.edo q.a n1.1.1 r.1 lr nn1 wr⟩, (by simp only [szA, szB, sz, szL, szL_app, szl, List.length_cons, List.length_nil, List.length_append] at sr ⊢; omega)⟩
  · simp only [h1, has_f (S := S) h1, Bool.false_eq_true, if_true, if_false, reduceIte] at hf ⊢
    rcases Bool.eq_false_or_eq_true (isB q Z.k36) with h2 | h2
    · simp only [h2, Bool.false_eq_true, if_true, if_false, reduceIte] at hf ⊢
      obtain ⟨gq1, bq1⟩ := k_has g0 h2; generalize hasR S q Z.k36 = q1 at gq1 bq1 hf ⊢
      obtain ⟨gr, br⟩ := ih (.atom) q1 gq1; generalize R (.atom) q1 = r at gr br hf ⊢
      obtain ⟨fr, pr, sr⟩ := br hf
      obtain ⟨fq1, mq1⟩ := bq1 fr
      obtain ⟨lr, wr⟩ := pr
      exact ⟨⟨_, Tw.efst q.a  r.1 lr  wr⟩, (by simp only [szA, szB, sz, szL, szL_app, szl, List.length_cons, List.length_nil, List.length_append] at sr ⊢; omega)⟩
    · simp only [h2, has_f (S := S) h2, Bool.false_eq_true, if_true, if_false, reduceIte] at hf ⊢
      rcases Bool.eq_false_or_eq_true (isB q Z.k37) with h3 | h3
      · simp only [h3, Bool.false_eq_true, if_true, if_false, reduceIte] at hf ⊢
        obtain ⟨gq1, bq1⟩ := k_has g0 h3; generalize hasR S q Z.k37 = q1 at gq1 bq1 hf ⊢
        obtain ⟨gr, br⟩ := ih (.atom) q1 gq1; generalize R (.atom) q1 = r at gr br hf ⊢
        obtain ⟨fr, pr, sr⟩ := br hf
        obtain ⟨fq1, mq1⟩ := bq1 fr
        obtain ⟨lr, wr⟩ := pr
        exact ⟨⟨_, Tw.esnd q.a  r.1 lr  wr⟩, (by simp only [szA, szB, sz, szL, szL_app, szl, List.length_cons, List.length_nil, List.length_append] at sr ⊢; omega)⟩
      · simp only [h3, has_f (S := S) h3, Bool.false_eq_true, if_true, if_false, reduceIte] at hf ⊢
        obtain ⟨gr, br⟩ := ih (.atom) q g0; generalize R (.atom) q = r at gr br hf ⊢
        obtain ⟨gr2, br2⟩ := ih (.appL r.1) r.2 gr; generalize R (.appL r.1) r.2 = r2 at gr2 br2 hf ⊢
        obtain ⟨fr2, pr2, sr2⟩ := br2 hf
        obtain ⟨fr, pr, sr⟩ := br fr2
        exact ⟨pr2 pr, (by simp only [szA, szB, sz, szL, szL_app, szl, List.length_cons, List.length_nil, List.length_append] at sr2 sr ⊢; omega)⟩
theorem g_appL (ih : IH S R) {a : Nd} {q : Rs} (g0 : Gk S q) (hf : (appLS R a q).2.fk = 0) : Pst S (.appL a) q (appLS R a q) := by
  unfold appLS at hf ⊢
  dsimp only at hf ⊢
  split at hf
  · rename_i hb; rw [if_pos hb]
    obtain ⟨gr, br⟩ := ih (.atom) q g0; generalize R (.atom) q = r at gr br hf ⊢
    obtain ⟨gr2, br2⟩ := ih (.appL (.mk 8 a.a Z.E 0 [a, r.1])) r.2 gr; generalize R (.appL (.mk 8 a.a Z.E 0 [a, r.1])) r.2 = r2 at gr2 br2 hf ⊢
    obtain ⟨fr2, pr2, sr2⟩ := br2 hf
    obtain ⟨fr, pr, sr⟩ := br fr2
    obtain ⟨lr, wr⟩ := pr
    exact ⟨fun ha => (by obtain ⟨la, wa⟩ := ha; exact pr2 ⟨_, Tw.eapp a.a a r.1 la lr wa wr⟩), (by simp only [szA, szB, sz, szL, szL_app, szl, List.length_cons, List.length_nil, List.length_append] at sr2 sr ⊢; omega)⟩
  · rename_i hb; rw [if_neg hb]; exact ⟨id, Nat.le_refl _⟩
theorem g_int {q : Rs} (h : Gk S q) (f : q.fk = 0) (hk : q.k = 1) : GT (nuT q.n) ∧ q.n ≤ 9223372036854775807 := by
  have z := (h.2 f).2 (by omega)
  have g1 := z.gt
  rw [hk, z.num hk] at g1
  exact ⟨g1, z.le⟩
theorem g_atom (ih : IH S R) {q : Rs} (g0 : Gk S q) (hf : (atomS S R q).2.fk = 0) : Pst S (.atom) q (atomS S R q) := by
  have f0 : q.fk = 0 := by
    by_cases ho : okB q = true
    · exact (okB_iff q).1 ho
    · unfold atomS at hf; rw [if_neg ho] at hf; exact hf
  have ho := (okB_iff q).2 f0
  unfold atomS at hf ⊢
  rw [if_pos ho] at hf ⊢
  dsimp only at hf ⊢
  split at hf
  · rename_i h2
    rw [if_pos h2]
    have zk : ((q.k : Nat) : Int) = (2 : Int) := by simpa using h2
    have hk : q.k = 2 := by omega
    have z := (g0.2 f0).2 (by omega)
    have g1 := z.gt
    rw [hk, z.nam hk] at g1
    have l := next_lt g0.1 f0 (by omega); have t := Nat.le_trans g0.1.t g0.1.size
    exact ⟨⟨_, Tw.evar q.a q.t g1⟩, (by simp only [szA, szB, sz, szL, szL_app, szl, List.length_cons, List.length_nil, List.length_append]; omega)⟩
  · rename_i h2
    rw [if_neg h2]
    split at hf
    · rename_i h1
      rw [if_pos h1]
      have zk : ((q.k : Nat) : Int) = (1 : Int) := by simpa using h1
      have hk : q.k = 1 := by omega
      have z := g_int g0 f0 hk
      have l := next_lt g0.1 f0 (by omega)
      exact ⟨⟨_, Tw.eint q.a ((q.n : Nat) : Int) (by omega) (by omega) (by rw [Int.natAbs_natCast]; exact z.1)⟩, (by simp only [szA, szB, sz, szL, szL_app, szl, List.length_cons, List.length_nil, List.length_append]; omega)⟩
    · rename_i h1
      rw [if_neg h1]
      rcases Bool.eq_false_or_eq_true (isB q Z.k29) with h3 | h3
      · simp only [h3, Bool.false_eq_true, if_true, if_false, reduceIte] at hf ⊢
        obtain ⟨gq1, bq1⟩ := k_has g0 h3; generalize hasR S q Z.k29 = q1 at gq1 bq1 hf ⊢
        unfold numS at hf ⊢
        split at hf
        · rename_i hq
          rw [if_pos hq]
          have f1 := (okB_iff _).1 hq
          split at hf
          · exact (no_not (bk_next0 hf)).elim
          · rename_i h5
            rw [if_neg h5]
            have hk : q1.k = 1 := by first | omega | (have z : ((q1.k : Nat) : Int) = (1 : Int) := by simpa using h5; omega) | (simp at h5; omega)
            have z := g_int gq1 f1 hk
            have l := next_lt gq1.1 f1 (by omega); have m := (bq1 f1).2
            exact ⟨⟨_, Tw.eint q.a (-((q1.n : Nat) : Int)) (by omega) (by omega) (by rw [Int.natAbs_neg, Int.natAbs_natCast]; exact z.1)⟩, (by simp only [szA, szB, sz, szL, szL_app, szl, List.length_cons, List.length_nil, List.length_append]; omega)⟩
        · rename_i hq
          exact absurd ((okB_iff _).2 (bk_next0 hf)) hq
      · simp only [h3, has_f (S := S) h3, Bool.false_eq_true, if_true, if_false, reduceIte] at hf ⊢
        rcases Bool.eq_false_or_eq_true (isB q Z.k13) with h4 | h4
        · simp only [h4, Bool.false_eq_true, if_true, if_false, reduceIte] at hf ⊢
          obtain ⟨gq1, bq1⟩ := k_has g0 h4; generalize hasR S q Z.k13 = q1 at gq1 bq1 hf ⊢
          obtain ⟨fq1, mq1⟩ := bq1 hf
          exact ⟨⟨_, Tw.ebool q.a 1 (.inr rfl)⟩, (by simp only [szA, szB, sz, szL, szL_app, szl, List.length_cons, List.length_nil, List.length_append]; omega)⟩
        · simp only [h4, has_f (S := S) h4, Bool.false_eq_true, if_true, if_false, reduceIte] at hf ⊢
          rcases Bool.eq_false_or_eq_true (isB q Z.k14) with h5 | h5
          · simp only [h5, Bool.false_eq_true, if_true, if_false, reduceIte] at hf ⊢
            obtain ⟨gq1, bq1⟩ := k_has g0 h5; generalize hasR S q Z.k14 = q1 at gq1 bq1 hf ⊢
            obtain ⟨fq1, mq1⟩ := bq1 hf
            exact ⟨⟨_, Tw.ebool q.a 0 (.inl rfl)⟩, (by simp only [szA, szB, sz, szL, szL_app, szl, List.length_cons, List.length_nil, List.length_append]; omega)⟩
          · simp only [h5, has_f (S := S) h5, Bool.false_eq_true, if_true, if_false, reduceIte] at hf ⊢
            rcases Bool.eq_false_or_eq_true (isB q Z.k4) with h6 | h6
            · simp only [h6, Bool.false_eq_true, if_true, if_false, reduceIte] at hf ⊢
              obtain ⟨gq1, bq1⟩ := k_has g0 h6; generalize hasR S q Z.k4 = q1 at gq1 bq1 hf ⊢
              obtain ⟨gr, br⟩ := ih (.round q.a) q1 gq1; generalize R (.round q.a) q1 = r at gr br hf ⊢
              obtain ⟨fr, pr, sr⟩ := br hf
              obtain ⟨fq1, mq1⟩ := bq1 fr
              exact ⟨pr, (by simp only [szA, szB, sz, szL, szL_app, szl, List.length_cons, List.length_nil, List.length_append] at sr ⊢; omega)⟩
            · simp only [h6, has_f (S := S) h6, Bool.false_eq_true, if_true, if_false, reduceIte] at hf ⊢
              rcases Bool.eq_false_or_eq_true (isB q Z.k18) with h7 | h7
              · simp only [h7, Bool.false_eq_true, if_true, if_false, reduceIte] at hf ⊢
                obtain ⟨gq1, bq1⟩ := k_has g0 h7; generalize hasR S q Z.k18 = q1 at gq1 bq1 hf ⊢
                obtain ⟨gr, br⟩ := ih (.square q.a) q1 gq1; generalize R (.square q.a) q1 = r at gr br hf ⊢
                obtain ⟨fr, pr, sr⟩ := br hf
                obtain ⟨fq1, mq1⟩ := bq1 fr
                exact ⟨pr, (by simp only [szA, szB, sz, szL, szL_app, szl, List.length_cons, List.length_nil, List.length_append] at sr ⊢; omega)⟩
              · simp only [h7, has_f (S := S) h7, Bool.false_eq_true, if_true, if_false, reduceIte] at hf ⊢
                exact (no_not hf).elim
theorem g_round (ih : IH S R) {at_ : Nat} {q : Rs} (g0 : Gk S q) (hf : (roundS S R at_ q).2.fk = 0) : Pst S (.round at_) q (roundS S R at_ q) := by
  unfold roundS at hf ⊢
  dsimp only at hf ⊢
  rcases Bool.eq_false_or_eq_true (isB q Z.k2) with h1 | h1
  · simp only [h1, Bool.false_eq_true, if_true, if_false, reduceIte] at hf ⊢
    obtain ⟨gq1, bq1⟩ := k_has g0 h1; generalize hasR S q Z.k2 = q1 at gq1 bq1 hf ⊢
    obtain ⟨fq1, mq1⟩ := bq1 hf
    exact ⟨⟨_, Tw.eunit at_⟩, (by simp only [szA, szB, sz, szL, szL_app, szl, List.length_cons, List.length_nil, List.length_append]; omega)⟩
  · simp only [h1, has_f (S := S) h1, Bool.false_eq_true, if_true, if_false, reduceIte] at hf ⊢
    obtain ⟨gr, br⟩ := ih (.expr) q g0; generalize R (.expr) q = r at gr br hf ⊢
    rcases Bool.eq_false_or_eq_true (isB r.2 Z.k16) with h2 | h2
    · simp only [h2, Bool.false_eq_true, if_true, if_false, reduceIte] at hf ⊢
      obtain ⟨gq2, bq2⟩ := k_has gr h2; generalize hasR S r.2 Z.k16 = q2 at gq2 bq2 hf ⊢
      obtain ⟨gr2, br2⟩ := ih (.expr) q2 gq2; generalize R (.expr) q2 = r2 at gr2 br2 hf ⊢
      obtain ⟨gq3, bq3⟩ := k_must (s := Z.k2) gr2; generalize mustR S r2.2 Z.k2 = q3 at gq3 bq3 hf ⊢
      obtain ⟨fq3, mq3⟩ := bq3 hf
      obtain ⟨fr2, pr2, sr2⟩ := br2 fq3
      obtain ⟨fq2, mq2⟩ := bq2 fr2
      obtain ⟨fr, pr, sr⟩ := br fq2
      obtain ⟨lr, wr⟩ := pr
      obtain ⟨lr2, wr2⟩ := pr2
      exact ⟨⟨_, Tw.epair at_ r.1 r2.1 lr lr2 wr wr2⟩, (by simp only [szA, szB, sz, szL, szL_app, szl, List.length_cons, List.length_nil, List.length_append] at sr2 sr ⊢; omega)⟩
    · simp only [h2, has_f (S := S) h2, Bool.false_eq_true, if_true, if_false, reduceIte] at hf ⊢
      obtain ⟨gq3, bq3⟩ := k_must (s := Z.k2) gr; generalize mustR S r.2 Z.k2 = q3 at gq3 bq3 hf ⊢
      obtain ⟨fq3, mq3⟩ := bq3 hf
      obtain ⟨fr, pr, sr⟩ := br fq3
      exact ⟨pr, (by simp only [szA, szB, sz, szL, szL_app, szl, List.length_cons, List.length_nil, List.length_append] at sr ⊢; omega)⟩
theorem cons_tw {l : List Nd} (a : Nat) (h : ∀ x ∈ l, ∃ L, Tw x L) : (∃ L, Tw (consAll a l) L) ∧ sz (consAll a l) = szL l + 60 * l.length + 60 := by
  induction l with
  | nil => exact ⟨⟨_, Tw.enil a⟩, rfl⟩
  | cons x r ih =>
    obtain ⟨lx, wx⟩ := h x List.mem_cons_self
    obtain ⟨⟨lr, wr⟩, e⟩ := ih (fun z hz => h z (List.mem_cons_of_mem _ hz))
    have e1 : consAll a (x :: r) = .mk 16 x.a Z.E 0 [x, consAll a r] := rfl
    refine ⟨⟨_, Tw.econs x.a x (consAll a r) lx lr wx wr⟩, ?_⟩
    rw [e1]; simp only [sz, szL, szl, e, List.length_nil, List.length_cons]; omega
theorem g_square (ih : IH S R) {at_ : Nat} {q : Rs} (g0 : Gk S q) (hf : (squareS S R at_ q).2.fk = 0) : Pst S (.square at_) q (squareS S R at_ q) := by
  unfold squareS at hf ⊢
  dsimp only at hf ⊢
  rcases Bool.eq_false_or_eq_true (isB q Z.k22) with h1 | h1
  · simp only [h1, Bool.false_eq_true, if_true, if_false, reduceIte] at hf ⊢
    obtain ⟨gq1, bq1⟩ := k_has g0 h1; generalize hasR S q Z.k22 = q1 at gq1 bq1 hf ⊢
    obtain ⟨fq1, mq1⟩ := bq1 hf
    exact ⟨⟨_, Tw.enil at_⟩, (by simp only [szA, szB, sz, szL, szL_app, szl, List.length_cons, List.length_nil, List.length_append]; omega)⟩
  · simp only [h1, has_f (S := S) h1, Bool.false_eq_true, if_true, if_false, reduceIte] at hf ⊢
    obtain ⟨gr, br⟩ := ih (.squareL []) q g0; generalize R (.squareL []) q = r at gr br hf ⊢
    obtain ⟨gq2, bq2⟩ := k_must (s := Z.k22) gr; generalize mustR S r.2 Z.k22 = q2 at gq2 bq2 hf ⊢
    obtain ⟨fq2, mq2⟩ := bq2 hf
    obtain ⟨fr, pr, sr⟩ := br fq2
    obtain ⟨es, ek, he⟩ := pr
    have z := cons_tw at_ he
    rw [List.nil_append] at ek; rw [← ek] at z
    exact ⟨z.1, (by simp only [szA, szB, sz, szL, szL_app, szl, List.length_cons, List.length_nil, List.length_append, z.2] at sr ⊢; omega)⟩
theorem g_squareL (ih : IH S R) {l : List Nd} {q : Rs} (g0 : Gk S q) (hf : (squareLS S R l q).2.fk = 0) : Pst S (.squareL l) q (squareLS S R l q) := by
  unfold squareLS at hf ⊢
  dsimp only at hf ⊢
  obtain ⟨gr, br⟩ := ih (.expr) q g0; generalize R (.expr) q = r at gr br hf ⊢
  rcases Bool.eq_false_or_eq_true (isB r.2 Z.k16) with h1 | h1
  · simp only [h1, Bool.false_eq_true, if_true, if_false, reduceIte] at hf ⊢
    obtain ⟨gq1, bq1⟩ := k_has gr h1; generalize hasR S r.2 Z.k16 = q1 at gq1 bq1 hf ⊢
    obtain ⟨gr2, br2⟩ := ih (.squareL (l ++ [r.1])) q1 gq1; generalize R (.squareL (l ++ [r.1])) q1 = r2 at gr2 br2 hf ⊢
    obtain ⟨fr2, pr2, sr2⟩ := br2 hf
    obtain ⟨fq1, mq1⟩ := bq1 fr2
    obtain ⟨fr, pr, sr⟩ := br fq1
    refine ⟨?_, (by simp only [szA, szB, sz, szL, szL_app, szl, List.length_cons, List.length_nil, List.length_append] at sr2 sr ⊢; omega)⟩
    obtain ⟨es, ek, he⟩ := pr2
    refine ⟨r.1 :: es, by rw [ek]; simp, fun x hx => ?_⟩
    rcases List.mem_cons.1 hx with rfl | hx
    · exact pr
    · exact he x hx
  · simp only [h1, has_f (S := S) h1, Bool.false_eq_true, if_true, if_false, reduceIte] at hf ⊢
    obtain ⟨fr, pr, sr⟩ := br hf
    exact ⟨⟨[r.1], rfl, fun x hx => by simp only [List.mem_cons, List.not_mem_nil, or_false] at hx; subst hx; exact pr⟩, (by simp only [szA, szB, sz, szL, szL_app, szl, List.length_cons, List.length_nil, List.length_append, Nd.ks] at sr ⊢; omega)⟩
theorem g_opsT (ih : IH S R) {l : List Nd} {at_ : Nat} {n : Int} (hn : n = 0 ∨ n = 1) {q : Rs} (g0 : Gk S q) (hf : (opsT S R l at_ n q).2.fk = 0) : Pst S (.opsL l) q (opsT S R l at_ n q) := by
  unfold opsT at hf ⊢
  dsimp only at hf ⊢
  obtain ⟨gn1, bn1⟩ := k_name g0; generalize nameR S q = n1 at gn1 bn1 hf ⊢
  obtain ⟨gq3, bq3⟩ := k_must (s := Z.k47) gn1; generalize mustR S n1.2 Z.k47 = q3 at gq3 bq3 hf ⊢
  obtain ⟨gra, bra⟩ := ih (.typ) q3 gq3; generalize R (.typ) q3 = ra at gra bra hf ⊢
  obtain ⟨gq4, bq4⟩ := k_must (s := Z.k1) gra; generalize mustR S ra.2 Z.k1 = q4 at gq4 bq4 hf ⊢
  obtain ⟨grb, brb⟩ := ih (.typ) q4 gq4; generalize R (.typ) q4 = rb at grb brb hf ⊢
  obtain ⟨gr, br⟩ := ih (.opsL (l ++ [.mk 1 at_ n1.1.1 n [ra.1, rb.1]])) rb.2 grb; generalize R (.opsL (l ++ [.mk 1 at_ n1.1.1 n [ra.1, rb.1]])) rb.2 = r at gr br hf ⊢
  obtain ⟨fr, pr, sr⟩ := br hf
  obtain ⟨frb, prb, srb⟩ := brb fr
  obtain ⟨fq4, mq4⟩ := bq4 frb
  obtain ⟨fra, pra, sra⟩ := bra fq4
  obtain ⟨fq3, mq3⟩ := bq3 fra
  obtain ⟨fn1, mn1, nn1, zn1⟩ := bn1 fq3
  refine ⟨?_, (by simp only [szA, szB, sz, szL, szL_app, szl, List.length_cons, List.length_nil, List.length_append] at sr srb sra ⊢; omega)⟩
  obtain ⟨lra, wra⟩ := pra
  obtain ⟨lrb, wrb⟩ := prb
  obtain ⟨os, ek, ho⟩ := pr
  refine ⟨⟨at_, n1.1.1, n, ra.1, rb.1, lra, lrb⟩ :: os, by rw [ek]; simp [OpD.node], fun o h => ?_⟩
  rcases List.mem_cons.1 h with rfl | h
  · exact ⟨hn, nn1, wra, wrb⟩
  · exact ho o h
theorem g_opsL (ih : IH S R) {l : List Nd} {q : Rs} (g0 : Gk S q) (hf : (opsLS S R l q).2.fk = 0) : Pst S (.opsL l) q (opsLS S R l q) := by
  unfold opsLS at hf ⊢
  dsimp only at hf ⊢
  split at hf
  · rename_i h1
    rw [if_pos h1]
    have m1 := (next_tr g0.1).m; have m2 := (next_tr (gk_next g0).1).m
    split at hf
    · rename_i h2; rw [if_pos h2]; have z := g_opsT ih (.inr rfl) (gk_next (gk_next g0)) hf; exact ⟨z.1, Nat.le_trans z.2 (by simp only [szB]; omega)⟩
    · rename_i h2
      rw [if_neg h2]
      split at hf
      · rename_i h3; rw [if_pos h3]; have z := g_opsT ih (.inl rfl) (gk_next (gk_next g0)) hf; exact ⟨z.1, Nat.le_trans z.2 (by simp only [szB]; omega)⟩
      · rename_i h3
        rw [if_neg h3]
        have z := g_opsT ih (.inl rfl) (gk_no (gk_next g0)) hf; have m3 := (no_tr (gk_next g0).1).m; exact ⟨z.1, Nat.le_trans z.2 (by simp only [szB]; omega)⟩
  · rename_i h1
    rw [if_neg h1]
    exact ⟨⟨[], by simp [Nd.ks], fun o h => by cases h⟩, Nat.le_refl _⟩
theorem g_defsT (ih : IH S R) {N : Nat} {l : List Nd} {at_ : Nat} {n : Int} (hn : n = 0 ∨ n = 1) {q : Rs} (g0 : Gk S q) (hf : (defsT S R N l at_ n q).2.fk = 0) : Pst S (.defsL N l) q (defsT S R N l at_ n q) := by
  unfold defsT at hf ⊢
  dsimp only at hf ⊢
  obtain ⟨gn1, bn1⟩ := k_name g0; generalize nameR S q = n1 at gn1 bn1 hf ⊢
  obtain ⟨gr2, br2⟩ := ih (.params Z.k7 true) n1.2 gn1; generalize R (.params Z.k7 true) n1.2 = r2 at gr2 br2 hf ⊢
  obtain ⟨gr, br⟩ := ih (.defsL N (l ++ [.mk 2 at_ n1.1.1 n [r2.1]])) r2.2 gr2; generalize R (.defsL N (l ++ [.mk 2 at_ n1.1.1 n [r2.1]])) r2.2 = r at gr br hf ⊢
  obtain ⟨fr, pr, sr⟩ := br hf
  obtain ⟨fr2, pr2, sr2⟩ := br2 fr
  obtain ⟨fn1, mn1, nn1, zn1⟩ := bn1 fr2
  refine ⟨?_, (by simp only [szA, szB, sz, szL, szL_app, szl, List.length_cons, List.length_nil, List.length_append] at sr sr2 ⊢; omega)⟩
  obtain ⟨fa, fx, x, lx, e1, g1, w1⟩ := pr2.2 rfl
  obtain ⟨ds, ek, hd⟩ := pr
  refine ⟨⟨at_, n1.1.1, n, fa, fx, x, lx⟩ :: ds, by rw [ek, e1]; simp [DfD.node], fun o h => ?_⟩
  rcases List.mem_cons.1 h with rfl | h
  · exact ⟨hn, nn1, g1, w1⟩
  · exact hd o h
theorem g_defsL (ih : IH S R) {N : Nat} {l : List Nd} {q : Rs} (g0 : Gk S q) (hf : (defsLS S R N l q).2.fk = 0) : Pst S (.defsL N l) q (defsLS S R N l q) := by
  unfold defsLS at hf ⊢
  dsimp only at hf ⊢
  split at hf
  · rename_i h1
    rw [if_pos h1]
    have m1 := (next_tr g0.1).m; have m2 := (has_tr (s := Z.k19) (gk_next g0).1).m
    split at hf
    · rename_i h2; rw [if_pos h2]; have z := g_defsT ih (.inr rfl) (gk_has (gk_next g0)) hf; exact ⟨z.1, Nat.le_trans z.2 (by simp only [szB]; omega)⟩
    · rename_i h2; rw [if_neg h2]; have z := g_defsT ih (.inl rfl) (gk_has (gk_next g0)) hf; exact ⟨z.1, Nat.le_trans z.2 (by simp only [szB]; omega)⟩
  · rename_i h1
    rw [if_neg h1]
    exact ⟨⟨[], by simp [Nd.ks], fun o h => by cases h⟩, Nat.le_refl _⟩
theorem g_prog (ih : IH S R) {q : Rs} (g0 : Gk S q) (hf : (progS S R q).2.fk = 0) : Pst S (.prog) q (progS S R q) := by
  unfold progS at hf ⊢
  dsimp only at hf ⊢
  obtain ⟨gr, br⟩ := ih (.opsL []) q g0; generalize R (.opsL []) q = r at gr br hf ⊢
  obtain ⟨gr2, br2⟩ := ih (.defsL r.1.ks.length r.1.ks) r.2 gr; generalize R (.defsL r.1.ks.length r.1.ks) r.2 = r2 at gr2 br2 hf ⊢
  obtain ⟨gq3, bq3⟩ := k_must (s := Z.k44) gr2; generalize mustR S r2.2 Z.k44 = q3 at gq3 bq3 hf ⊢
  obtain ⟨gq4, bq4⟩ := k_must (s := Z.k7) gq3; generalize mustR S q3 Z.k7 = q4 at gq4 bq4 hf ⊢
  obtain ⟨gr5, br5⟩ := ih (.expr) q4 gq4; generalize R (.expr) q4 = r5 at gr5 br5 hf ⊢
  obtain ⟨fr5, pr5, sr5⟩ := br5 hf
  obtain ⟨fq4, mq4⟩ := bq4 fr5
  obtain ⟨fq3, mq3⟩ := bq3 fq4
  obtain ⟨fr2, pr2, sr2⟩ := br2 fq3
  obtain ⟨fr, pr, sr⟩ := br fr2
  refine ⟨?_, (by simp only [szA, szB, sz, szL, szL_app, szl, List.length_cons, List.length_nil, List.length_append] at sr5 sr2 sr ⊢; omega)⟩
  obtain ⟨os, e1, ho⟩ := pr; obtain ⟨ds, e2, hd⟩ := pr2
  obtain ⟨lr5, wr5⟩ := pr5
  rw [List.nil_append] at e1; rw [e2, e1, List.length_map]
  exact ⟨⟨os, ds, r5.1, lr5⟩, ⟨ho, hd, wr5⟩, rfl⟩
end
theorem id_ok {q : Rs} (f : q.fk ≠ 0) : okB q = false := by
  by_cases h : okB q = true
  · exact absurd ((okB_iff q).1 h) f
  · simpa using h
theorem id_is {q : Rs} (f : q.fk ≠ 0) (s : ByteArray) : isB q s = false := by unfold isB; rw [id_ok f]; simp
theorem id_nm {q : Rs} (f : q.fk ≠ 0) : isNameB q = false := by unfold isNameB; rw [id_ok f]; simp
theorem id_bg {q : Rs} (f : q.fk ≠ 0) : begB q = false := by unfold begB; rw [id_ok f]; simp
theorem id_nx {q : Rs} (f : q.fk ≠ 0) (S : ByteArray) : nextR S q = q := by unfold nextR; rw [id_ok f]; simp
theorem id_no {q : Rs} (f : q.fk ≠ 0) : noR q = q := by unfold noR; rw [id_ok f]; simp
theorem id_hs {q : Rs} (f : q.fk ≠ 0) (S s : ByteArray) : hasR S q s = q := by unfold hasR; rw [id_is f]; simp
theorem id_ms {q : Rs} (f : q.fk ≠ 0) (S s : ByteArray) : mustR S q s = q := by unfold mustR; rw [id_is f, id_no f]; simp
theorem id_na {q : Rs} (f : q.fk ≠ 0) (S : ByteArray) : nameR S q = ((Z.E, 0), q) := by unfold nameR; rw [id_nm f, id_no f]; simp
theorem id_run {S : ByteArray} {q : Rs} (f : q.fk ≠ 0) (k : Nat) : ∀ nt, (run S k nt q).2 = q := by
  induction k with
  | zero => exact fun _ => id_no f
  | succ k ih =>
    intro nt
    rw [run_succ]
    cases nt <;> simp only [stepN, typS, pairS, someS, listLS, namesLS, exprS, anyS, paramS, paramsS, letT, letS, casesS, handT, handleS, handLS, compS, consS, sumS, sumLS, mulS, mulLS, appS, appLS, numS, atomS, roundS, squareS, squareLS, opsT, opsLS, defsT, defsLS, progS, fnS, id_ok f, id_is f, id_nm f, id_bg f, id_nx f, id_no f, id_hs f, id_ms f, id_na f, ih, Bool.false_eq_true, if_false, reduceIte, ite_self]
    all_goals (repeat' split)
    all_goals (first | rfl | exact ih _)
theorem bk_run {S : ByteArray} {k : Nat} {nt : NT} {q : Rs} (f : (run S k nt q).2.fk = 0) : q.fk = 0 := by
  by_cases g : q.fk = 0
  · exact g
  · rw [id_run g k nt] at f; exact f
section
variable {S : ByteArray} {R : NT → Rs → Nd × Rs}
theorem gR (hG : ∀ nt q, Gq S q → Gq S (R nt q).2) {nt : NT} {q : Rs} (h : Gq S q) : Gq S (R nt q).2 := hG nt q h
theorem fn_gq (hG : ∀ nt q, Gq S q → Gq S (R nt q).2) {a : Nd} {q : Rs} (h : Gq S q) : Gq S (fnS S R a q).2 := by
  unfold fnS
  dsimp only
  repeat' split
  all_goals (with_reducible (repeat (first | exact h | apply gR hG | apply gq_must | apply gq_has | apply gq_name)))
theorem step_gq (hG : ∀ nt q, Gq S q → Gq S (R nt q).2) (nt : NT) (q : Rs) (h : Gq S q) : Gq S (stepN S R nt q).2 := by
  cases nt
  case typ =>
    show Gq S (typS S R q).2
    unfold typS
    split
    · split
      · exact fun f => by cases f
      · have gq : Gq S { q with y := q.y + 1 } := h
        exact fn_gq hG (hG .pair _ gq)
    · exact h
  case expr =>
    show Gq S (exprS R q).2
    unfold exprS
    split
    · split
      · exact fun f => by cases f
      · have gq : Gq S { q with x := q.x + 1 } := h
        exact hG .any _ gq
    · exact h
  all_goals (simp only [stepN, pairS, someS, listLS, namesLS, anyS, paramS, paramsS, letT, letS, casesS, handT, handleS, handLS, compS, consS, sumS, sumLS, mulS, mulLS, appS, appLS, numS, atomS, roundS, squareS, squareLS, opsT, opsLS, defsT, defsLS, progS])
  all_goals (repeat' split)
  all_goals (with_reducible (repeat (first | exact h | apply gR hG | apply gq_must | apply gq_has | apply gq_name | apply gq_next | apply gq_no)))
end
theorem run_gq {S : ByteArray} (k : Nat) : ∀ (nt : NT) (q : Rs), Gq S q → Gq S (run S k nt q).2 := by
  induction k with
  | zero => exact fun _ _ h => gq_no h
  | succ k ih => exact fun nt q h => step_gq ih nt q h
theorem run_ih {S : ByteArray} (k : Nat) : IH S (run S k) := by
  induction k with
  | zero => intro nt q g; exact ⟨gk_no g, fun f => (no_not f).elim⟩
  | succ k ih =>
    intro nt q g
    refine ⟨⟨(run_tr _ nt q g.1).ok, run_gq _ nt q g.2⟩, fun f => ⟨bk_run f, ?_⟩⟩
    rw [run_succ] at f ⊢
    cases nt with
    | typ  => exact g_typ ih g f
    | pair  => exact g_pair ih g f
    | some  => exact g_some ih g f
    | listL a => exact g_list ih g f
    | namesL l => exact g_names ih g f
    | expr  => exact g_expr ih g f
    | any  => exact g_any ih g f
    | params s f => exact g_params ih g f
    | letN a => exact g_letN ih g f
    | cases a => exact g_cases ih g f
    | handle a => exact g_handle ih g f
    | handL l => exact g_handL ih g f
    | comp  => exact g_comp ih g f
    | cons  => exact g_cons ih g f
    | sum  => exact g_sum ih g f
    | sumL a => exact g_sumL ih g f
    | mul  => exact g_mul ih g f
    | mulL a => exact g_mulL ih g f
    | app  => exact g_app ih g f
    | appL a => exact g_appL ih g f
    | atom  => exact g_atom ih g f
    | round a => exact g_round ih g f
    | square a => exact g_square ih g f
    | squareL l => exact g_squareL ih g f
    | prog  => exact g_prog ih g f
    | opsL l => exact g_opsL ih g f
    | defsL n l => exact g_defsL ih g f
end Go.Ag
