/- Solve of both programs tells the same (plain law). -/
import Derived.Test.YtfkkocjheeoobaaSd
set_option linter.unusedVariables false
set_option linter.unusedSimpArgs false
set_option linter.unusedVariables false
set_option linter.unusedSimpArgs false
namespace Go.Slv
open Go.Inf Go.Urw Go.Ucl
/-! ### Types that are proper -/
/-- A proper type with so many parts. -/
inductive Fine : Nat → Ty → Prop
  | v (n : Nat) (h : 1 ≤ n) : Fine 1 (.mk 0 n 0 [] [])
  | c (kd : Nat) (h : kd = 1 ∨ kd = 2 ∨ kd = 3) : Fine 1 (.mk kd 0 0 [] [])
  | l {c t} (h : Fine c t) : Fine (c + 1) (.mk 4 0 0 [] [t])
  | p {c t c' u} (h : Fine c t) (k : Fine c' u) : Fine (c + c' + 1) (.mk 5 0 0 [] [t, u])
  | f {c t c' u} (row : Nat) (ops : List Nm) (ho : ∀ o ∈ ops, o.data.toList ≠ []) (hs : Srt ops) (h : Fine c t) (k : Fine c' u) : Fine (c + c' + 1 + ops.length) (.mk 6 0 row ops [t, u])
theorem Fine.pos {c : Nat} {t : Ty} (h : Fine c t) : 1 ≤ c := by cases h <;> omega
def ofkid (f : G → Ty → Option (G × Nat)) (g : G) (x : Option Ty) : Option (G × Option Nat) := match x with
  | none => some (g, none)
  | some t => match f g t with
    | some (g, m) => some (g, some m)
    | none => none
def ofnx (g : G) (row : Nat) : Option (G × Nat) := if 0 < row then (match lookI row g.rv with
  | some m => some (g, m)
  | none => match g.opn with
    | some (g, m) => some ({ g with rv := g.rv ++ [((row : Int), m)] }, m)
    | none => none) else some (g, 0)
def ofX : Nat → G → Ty → Option (G × Nat)
  | 0, _, _ => none
  | k + 1, g, .mk kd n row ops args =>
    if kd = 0 then (match lookI n g.tv with
      | some m => some (g, m)
      | none => match g.var with
        | some (g, m) => some ({ g with tv := g.tv ++ [((n : Int), m)] }, m)
        | none => none)
    else
      match ofkid (ofX k) g args[0]? with
      | some (g, a) => match ofkid (ofX k) g args[1]? with
        | some (g, b) =>
          if kd = 6 then
            match ofnx g row with
            | some (g, m) => match g.putRow ops (some m) with
              | some (g, r) => g.put kd a b r
              | none => none
            | none => none
          else g.put kd a b 0
        | none => none
      | none => none
theorem of_X : ∀ k, ofT k = ofX k
  | 0 => by funext g t; cases t; rfl
  | k + 1 => by funext g t; cases t; unfold ofT ofX; rw [of_X k]; rfl
/-- The variables that there are. -/
structure OC (A : AG) (e d : List Nat) (g f : G) : Prop where
  tv : g.tv = f.tv
  tl : ∀ n m, lookI n g.tv = some m → m < A.kind.length
  rv : ∀ n, (∃ j x y : Nat, lookI n g.rv = some x ∧ lookI n f.rv = some y ∧ e[j]? = some x ∧ d[j]? = some y ∧ x ≠ 0 ∧ y ≠ 0) ∨ (lookI n g.rv = none ∧ lookI n f.rv = none)
  z : e[0]? = some 0 ∧ d[0]? = some 0
structure Bd (b : Nat) (A : AG) (T T' : Nat) (g f : G) : Prop where
  k : A.kind.length ≤ b
  t : T ≤ b
  t' : T' ≤ b
  o : g.ops.length + U g.link ≤ b
  o' : f.ops.length + U f.link ≤ b
theorem Bd.le {b b' : Nat} {A : AG} {T T' : Nat} {g f : G} (h : Bd b A T T' g f) (k : b ≤ b') : Bd b' A T T' g f :=
  ⟨Nat.le_trans h.k k, Nat.le_trans h.t k, Nat.le_trans h.t' k, Nat.le_trans h.o k, Nat.le_trans h.o' k⟩
/-- Everything that holds of two graphs at all times. -/
structure St2 (b : Nat) (A : AG) (e d : List Nat) (T T' : Nat) (g f : G) : Prop where
  two : Two A e d T T' g f
  oc : OC A e d g f
  bd : Bd b A T T' g f
theorem U_app (l : List (Option Nat)) : U (l ++ [none]) = U l + 1 := by simp [U]
section
variable {A : AG} {e d : List Nat} {T T' b : Nat} {g f : G}
theorem app_some {α : Type} {l : List α} {j : Nat} {x : α} (h : l[j]? = some x) (z : α) : (l ++ [z])[j]? = some x := by rw [app_l (List.getElem?_eq_some_iff.1 h).1]; exact h
theorem St2.putN (h : St2 b A e d T T' g f) {kd j r s : Nat} {x y : Option Nat} (k : NewNd A e.length kd x y j) (hr : e[j]? = some r) (hs : d[j]? = some s) : St2 (b + 1) (A.app kd x y j) e d T T' (gput g kd x y r) (gput f kd x y s) := by
  refine ⟨h.two.putN k hr hs, ⟨h.oc.tv, fun n m hm => ?_, h.oc.rv, h.oc.z⟩, ⟨?_, ?_, ?_, ?_, ?_⟩⟩
  · have := h.oc.tl n m hm; simp [AG.app]; omega
  · have := h.bd.k; simp [AG.app]; omega
  · have := h.bd.t; omega
  · have := h.bd.t'; omega
  · have := h.bd.o; simp only [gput, U_app]; omega
  · have := h.bd.o'; simp only [gput, U_app]; omega
theorem St2.rowN (h : St2 b A e d T T' g f) (l : List Nm) {q q' : Nat} {v : Option Nat} (hq : Nxt e v q) (hq' : Nxt d v q') :
    St2 (b + 1 + l.length) A (e ++ [g.next.length]) (d ++ [f.next.length]) (T + l.length) (T' + l.length) (gopn g l (some q)) (gopn f l (some q')) := by
  refine ⟨h.two.row l hq hq', ⟨h.oc.tv, h.oc.tl, fun n => ?_, app_some h.oc.z.1 _, app_some h.oc.z.2 _⟩, ⟨?_, ?_, ?_, ?_, ?_⟩⟩
  · rcases h.oc.rv n with ⟨j, x, y, h1, h2, h3, h4, h5⟩ | q
    · exact .inl ⟨j, x, y, h1, h2, app_some h3 _, app_some h4 _, h5⟩
    · exact .inr q
  · have := h.bd.k; omega
  · have := h.bd.t; omega
  · have := h.bd.t'; omega
  · have := h.bd.o; simp only [gopn, List.length_append, List.length_singleton]; omega
  · have := h.bd.o'; simp only [gopn, List.length_append, List.length_singleton]; omega
def gtv (g : G) (n : Int) (m : Nat) : G := { g with tv := g.tv ++ [(n, m)] }
def grv (g : G) (n : Int) (m : Nat) : G := { g with rv := g.rv ++ [(n, m)] }
theorem Two.gtv (h : Two A e d T T' g f) (n : Int) (m : Nat) : Two A e d T T' (gtv g n m) (gtv f n m) :=
  ⟨⟨h.ig.kind, h.ig.a, h.ig.b, h.ig.row, h.ig.ll, h.ig.all, h.ig.ri, h.ig.el, h.ig.wf, h.ig.vr⟩, ⟨h.jf.kind, h.jf.a, h.jf.b, h.jf.row, h.jf.ll, h.jf.all, h.jf.ri, h.jf.el, h.jf.wf, h.jf.vr⟩, h.n, h.E, h.S, h.up⟩
theorem Two.grv (h : Two A e d T T' g f) (n : Int) (m m' : Nat) : Two A e d T T' (grv g n m) (grv f n m') :=
  ⟨⟨h.ig.kind, h.ig.a, h.ig.b, h.ig.row, h.ig.ll, h.ig.all, h.ig.ri, h.ig.el, h.ig.wf, h.ig.vr⟩, ⟨h.jf.kind, h.jf.a, h.jf.b, h.jf.row, h.jf.ll, h.jf.all, h.jf.ri, h.jf.el, h.jf.wf, h.jf.vr⟩, h.n, h.E, h.S, h.up⟩
theorem St2.opnR (h : St2 b A e d T T' g f) (n : Int) (hn : lookI n g.rv = none ∧ lookI n f.rv = none) :
    St2 (b + 1) A (e ++ [g.next.length]) (d ++ [f.next.length]) T T' (grv (gopn g [] none) n g.next.length) (grv (gopn f [] none) n f.next.length) := by
  refine ⟨h.two.opn.grv n _ _, ⟨h.oc.tv, h.oc.tl, fun i => ?_, app_some h.oc.z.1 _, app_some h.oc.z.2 _⟩, ⟨?_, ?_, ?_, ?_, ?_⟩⟩
  · show (∃ j x y : Nat, lookI i (g.rv ++ [(n, g.next.length)]) = some x ∧ lookI i (f.rv ++ [(n, f.next.length)]) = some y ∧ _) ∨ (lookI i (g.rv ++ [(n, g.next.length)]) = none ∧ lookI i (f.rv ++ [(n, f.next.length)]) = none)
    rcases h.oc.rv i with ⟨j, x, y, h1, h2, h3, h4, h5⟩ | ⟨h1, h2⟩
    · exact .inl ⟨j, x, y, by rw [lookI_app, h1], by rw [lookI_app, h2], app_some h3 _, app_some h4 _, h5⟩
    · by_cases q : n = i
      · exact .inl ⟨e.length, g.next.length, f.next.length, by rw [lookI_app, h1]; simp [q], by rw [lookI_app, h2]; simp [q], by simp, by rw [h.two.n]; simp, by have := h.two.ig.ri.zpos; omega, by have := h.two.jf.ri.zpos; omega⟩
      · exact .inr ⟨by rw [lookI_app, h1]; simp [q], by rw [lookI_app, h2]; simp [q]⟩
  · have := h.bd.k; omega
  · have := h.bd.t; omega
  · have := h.bd.t'; omega
  · have := h.bd.o; simp only [gopn, grv, List.length_append, List.length_singleton]; omega
  · have := h.bd.o'; simp only [gopn, grv, List.length_append, List.length_singleton]; omega
theorem St2.varN (h : St2 b A e d T T' g f) (n : Int) : St2 (b + 1) (A.app 0 none none 0) e d T T' (gtv (gput g 0 none none 0) n A.kind.length) (gtv (gput f 0 none none 0) n A.kind.length) := by
  have k := h.putN (kd := 0) (j := 0) (x := none) (y := none) ⟨by simp, fun _ => rfl, by simp, fun _ => rfl, (List.getElem?_eq_some_iff.1 h.oc.z.1).1⟩ h.oc.z.1 h.oc.z.2
  refine ⟨k.two.gtv n _, ⟨by show g.tv ++ _ = f.tv ++ _; rw [h.oc.tv], fun i m hm => ?_, k.oc.rv, k.oc.z⟩, ⟨k.bd.k, k.bd.t, k.bd.t', k.bd.o, k.bd.o'⟩⟩
  change lookI i (g.tv ++ [(n, A.kind.length)]) = some m at hm
  rw [lookI_app] at hm
  cases hl : lookI i g.tv with
  | some k' => rw [hl] at hm; cases hm; exact k.oc.tl i _ hl
  | none =>
    rw [hl] at hm
    simp only at hm
    split at hm
    · cases hm; simp [AG.app]
    · cases hm
theorem of_spec {c : Nat} {t : Ty} (ht : Fine c t) : ∀ {A : AG} {e d : List Nat} {T T' b : Nat} {g f : G}, St2 b A e d T T' g f → b + 3 * c < big →
    ∃ A' e' d' T1 T1' g' f' n, Ev (fun k => ofX k g t) (g', n) ∧ Ev (fun k => ofX k f t) (f', n) ∧ St2 (b + 3 * c) A' e' d' T1 T1' g' f' ∧ n < A'.kind.length ∧ A.kind.length ≤ A'.kind.length := by
  have lb : ∀ {b : Nat} {A : AG} {e d : List Nat} {T T' : Nat} {g f : G}, St2 b A e d T T' g f → b < big → g.kind.length < big ∧ f.kind.length < big ∧ g.ops.length < big ∧ f.ops.length < big := fun h hb => by
    have a := h.bd.k
    have b := h.bd.o
    have c := h.bd.o'
    rw [h.two.ig.kind, h.two.jf.kind]
    omega
  induction ht with
  | v n hn =>
    intro A e d T T' b g f h hb
    obtain ⟨l1, l2, l3, l4⟩ := lb h (by omega)
    cases hl : lookI n g.tv with
    | some m =>
      have hl2 : lookI n f.tv = some m := by rw [← h.oc.tv]; exact hl
      exact ⟨A, e, d, T, T', g, f, m, enter 0 fun k _ => by unfold ofX; simp only [if_true, hl], enter 0 fun k _ => by unfold ofX; simp only [if_true, hl2], ⟨h.two, h.oc, h.bd.le (by omega)⟩, h.oc.tl _ _ hl, Nat.le_refl _⟩
    | none =>
      have hl2 : lookI n f.tv = none := by rw [← h.oc.tv]; exact hl
      have h2 := h.varN n
      refine ⟨_, e, d, T, T', _, _, A.kind.length, enter 0 fun k _ => ?_, enter 0 fun k _ => ?_, ⟨h2.two, h2.oc, h2.bd.le (by omega)⟩, by simp [AG.app], by simp [AG.app]⟩
      · unfold ofX; simp only [if_true, hl, G.var, put_ev g 0 none none 0 l1]; rw [h.two.ig.kind]; rfl
      · unfold ofX; simp only [if_true, hl2, G.var, put_ev f 0 none none 0 l2]; rw [h.two.jf.kind]; rfl
  | c kd hk =>
    intro A e d T T' b g f h hb
    obtain ⟨l1, l2, l3, l4⟩ := lb h (by omega)
    have z : kd ≠ 0 := by omega
    have z6 : kd ≠ 6 := by omega
    have h2 := h.putN (kd := kd) (j := 0) (x := none) (y := none) ⟨by omega, fun _ => rfl, by omega, fun _ => rfl, (List.getElem?_eq_some_iff.1 h.oc.z.1).1⟩ h.oc.z.1 h.oc.z.2
    refine ⟨_, e, d, T, T', _, _, A.kind.length, enter 0 fun k _ => ?_, enter 0 fun k _ => ?_, ⟨h2.two, h2.oc, h2.bd.le (by omega)⟩, by simp [AG.app], by simp [AG.app]⟩
    · unfold ofX; simp only [if_neg z, if_neg z6, List.getElem?_nil, ofkid, put_ev g kd none none 0 l1]; rw [h.two.ig.kind]
    · unfold ofX; simp only [if_neg z, if_neg z6, List.getElem?_nil, ofkid, put_ev f kd none none 0 l2]; rw [h.two.jf.kind]
  | @l c t ht ih =>
    intro A e d T T' b g f h hb
    obtain ⟨A1, e1, d1, T1, T1', g1, f1, n, ⟨k1, h1⟩, ⟨k2, h2⟩, S1, hn, hA⟩ := ih h (by omega)
    obtain ⟨l1, l2, l3, l4⟩ := lb S1 (by omega)
    have S2 := S1.putN (kd := 4) (j := 0) (x := some n) (y := none) ⟨fun _ => ⟨n, rfl, hn⟩, by simp, by simp, fun _ => rfl, (List.getElem?_eq_some_iff.1 S1.oc.z.1).1⟩ S1.oc.z.1 S1.oc.z.2
    refine ⟨_, e1, d1, T1, T1', _, _, A1.kind.length, enter k1 fun k hk => ?_, enter k2 fun k hk => ?_, ⟨S2.two, S2.oc, S2.bd.le (by omega)⟩, by simp [AG.app], by simp [AG.app]; omega⟩
    · unfold ofX; simp only [Nat.reduceEqDiff, if_false, List.getElem?_cons_zero, List.getElem?_cons_succ, List.getElem?_nil, ofkid, h1 k hk, put_ev g1 4 _ none 0 l1]; rw [S1.two.ig.kind]
    · unfold ofX; simp only [Nat.reduceEqDiff, if_false, List.getElem?_cons_zero, List.getElem?_cons_succ, List.getElem?_nil, ofkid, h2 k hk, put_ev f1 4 _ none 0 l2]; rw [S1.two.jf.kind]
  | @p c t c' u ht hu ih ih' =>
    intro A e d T T' b g f h hb
    obtain ⟨A1, e1, d1, T1, T1', g1, f1, n, ⟨k1, h1⟩, ⟨k2, h2⟩, S1, hn, hA⟩ := ih h (by omega)
    obtain ⟨A2, e2, d2, T2, T2', g2, f2, m, ⟨k3, h3⟩, ⟨k4, h4⟩, S2, hm, hA2⟩ := ih' S1 (by omega)
    obtain ⟨l1, l2, l3, l4⟩ := lb S2 (by omega)
    have S3 := S2.putN (kd := 5) (j := 0) (x := some n) (y := some m) ⟨fun _ => ⟨n, rfl, by omega⟩, by simp, fun _ => ⟨m, rfl, hm⟩, by simp, (List.getElem?_eq_some_iff.1 S2.oc.z.1).1⟩ S2.oc.z.1 S2.oc.z.2
    refine ⟨_, e2, d2, T2, T2', _, _, A2.kind.length, enter (k1 + k3) fun k hk => ?_, enter (k2 + k4) fun k hk => ?_, ⟨S3.two, S3.oc, S3.bd.le (by omega)⟩, by simp [AG.app], by simp [AG.app]; omega⟩
    · unfold ofX; simp only [Nat.reduceEqDiff, if_false, List.getElem?_cons_zero, List.getElem?_cons_succ, ofkid, h1 k (by omega), h3 k (by omega), put_ev g2 5 _ _ 0 l1]; rw [S2.two.ig.kind]
    · unfold ofX; simp only [Nat.reduceEqDiff, if_false, List.getElem?_cons_zero, List.getElem?_cons_succ, ofkid, h2 k (by omega), h4 k (by omega), put_ev f2 5 _ _ 0 l2]; rw [S2.two.jf.kind]
  | @f c t c' u row ops ho hs ht hu ih ih' =>
    intro A e d T T' b g f h hb
    obtain ⟨A1, e1, d1, T1, T1', g1, f1, n, ⟨k1, h1⟩, ⟨k2, h2⟩, S1, hn, hA⟩ := ih h (by omega)
    obtain ⟨A2, e2, d2, T2, T2', g2, f2, m, ⟨k3, h3⟩, ⟨k4, h4⟩, S2, hm, hA2⟩ := ih' S1 (by omega)
    obtain ⟨e3, d3, g3, f3, q, q', v, x1, x2, S3, n1, n2⟩ : ∃ e3 d3 g3 f3 q q' v, ofnx g2 row = some (g3, q) ∧ ofnx f2 row = some (f3, q') ∧ St2 (b + 3 * c + 3 * c' + 1) A2 e3 d3 T2 T2' g3 f3 ∧ Nxt e3 v q ∧ Nxt d3 v q' := by
      obtain ⟨l1, l2, l3, l4⟩ := lb S2 (by omega)
      unfold ofnx
      by_cases r0 : 0 < row
      · simp only [if_pos r0]
        rcases S2.oc.rv row with ⟨j, x, y, q1, q2, q3, q4, q5, q6⟩ | ⟨q1, q2⟩
        · rw [q1, q2]
          exact ⟨e2, d2, g2, f2, x, y, some j, rfl, rfl, ⟨S2.two, S2.oc, S2.bd.le (by omega)⟩, ⟨q5, q3⟩, ⟨q6, q4⟩⟩
        · rw [q1, q2]
          refine ⟨_, _, _, _, g2.next.length, f2.next.length, some e2.length, ?_, ?_, S2.opnR row ⟨q1, q2⟩, ⟨by have := S2.two.ig.ri.zpos; omega, by simp⟩, ⟨by have := S2.two.jf.ri.zpos; omega, by rw [S2.two.n]; simp⟩⟩
          · simp only [G.opn, putRow_ev g2 [] none l3]; rw [S2.two.ig.ri.len]; rfl
          · simp only [G.opn, putRow_ev f2 [] none l4]; rw [S2.two.jf.ri.len]; rfl
      · simp only [if_neg r0]
        exact ⟨e2, d2, g2, f2, 0, 0, none, rfl, rfl, ⟨S2.two, S2.oc, S2.bd.le (by omega)⟩, rfl, rfl⟩
    obtain ⟨_, _, l3, l4⟩ := lb S3 (by omega)
    have S4 := S3.rowN ops n1 n2
    obtain ⟨l1, l2, _, _⟩ := lb S4 (by have := S3.bd.t; omega)
    have S5 := S4.putN (kd := 6) (j := e3.length) (r := g3.next.length) (s := f3.next.length) (x := some n) (y := some m) ⟨fun _ => ⟨n, rfl, by omega⟩, by simp, fun _ => ⟨m, rfl, hm⟩, by simp, by simp⟩ (by simp) (by rw [S3.two.n]; simp)
    refine ⟨_, _, _, _, _, _, _, A2.kind.length, enter (k1 + k3) fun k hk => ?_, enter (k2 + k4) fun k hk => ?_, ⟨S5.two, S5.oc, S5.bd.le (by omega)⟩, by simp [AG.app], by simp [AG.app]; omega⟩
    · unfold ofX; simp only [Nat.reduceEqDiff, if_false, if_true, List.getElem?_cons_zero, List.getElem?_cons_succ, ofkid, h1 k (by omega), h3 k (by omega), x1, putRow_ev g3 ops _ l3, put_ev _ 6 _ _ _ l1]
      rw [S4.two.ig.kind, S3.two.ig.ri.len]
    · unfold ofX; simp only [Nat.reduceEqDiff, if_false, if_true, List.getElem?_cons_zero, List.getElem?_cons_succ, ofkid, h2 k (by omega), h4 k (by omega), x2, putRow_ev f3 ops _ l4, put_ev _ 6 _ _ _ l2]
      rw [S4.two.jf.kind, S3.two.jf.ri.len]
end
section
variable {A : AG} {e d : List Nat} {T T' b : Nat} {g f : G}
theorem St2.same (h : St2 b A e d T T' g f) (hb : b < big) {m n : Nat} (hm : m < A.kind.length) (hn : n < A.kind.length) :
    ∃ g' f' t, Ev (fun k => sameX false k g m n) (g', t) ∧ Ev (fun k => sameX true k f m n) (f', t) ∧ (t = true → St2 b A e d T T' g' f') := by
  have h2 := h.two
  have hT : T < big := by have := h.bd.t; omega
  have hT' : T' < big := by have := h.bd.t'; omega
  obtain ⟨g', t, ev, P⟩ := same_spec hT false _ g m n h2.ig (Nat.le_refl _) (by have := h.bd.o; omega) hm hn
  obtain ⟨f', t', ev', P'⟩ := same_spec hT' true _ f m n h2.jf (Nat.le_refl _) (by have := h.bd.o'; omega) hm hn
  have e1 : ES e g = ES d f := funext fun ρ => propext (h2.S ρ)
  obtain ⟨E1, S1, R1, q1⟩ : ∃ E1 S1, Run (grA A) (Eq1 g.link) (ES e g) [.ty m n] t E1 S1 ∧ (t = true → E1 = Eq1 g'.link ∧ S1 = ES e g') := by
    cases t with
    | true => exact ⟨_, _, P.q.yes rfl [] true _ _ (.nil _ _), fun _ => ⟨rfl, rfl⟩⟩
    | false => obtain ⟨E, S, R⟩ := P.q.no rfl []; exact ⟨E, S, R, fun q => by cases q⟩
  obtain ⟨E2, S2, R2, q2⟩ : ∃ E2 S2, Run (grA A) (Eq1 g.link) (ES e g) [.ty m n] t' E2 S2 ∧ (t' = true → E2 = Eq1 f'.link ∧ S2 = ES d f') := by
    rw [e1, h2.E]
    cases t' with
    | true => exact ⟨_, _, P'.q.yes rfl [] true _ _ (.nil _ _), fun _ => ⟨rfl, rfl⟩⟩
    | false => obtain ⟨E, S, R⟩ := P'.q.no rfl []; exact ⟨E, S, R, fun q => by cases q⟩
  have hU : Upto (grA A) (Eq1 g.link) (ES e g) [.ty m n] := ⟨h2.up.eqv, h2.up.kd, fun F ρ hF hE hS _ => h2.up.al F ρ hF hE hS (fun t ht => by cases ht)⟩
  obtain ⟨rt, rr⟩ := R1.both R2 hU (fun q => by rw [(q1 q).2]; exact P.inv.ne) (fun q => by rw [(q2 q).2]; exact P'.inv.ne)
  subst rt
  refine ⟨g', f', t, ev, ev', fun ht => ?_⟩
  obtain ⟨a1, a2⟩ := q1 ht
  obtain ⟨b1, b2⟩ := q2 ht
  obtain ⟨c1, c2⟩ := rr ht
  have cl := (R1.closed ht hU).1
  rw [a1, a2] at cl
  refine ⟨⟨P.inv, P'.inv, h2.n, ?_, fun ρ => ?_, cl⟩, ⟨by rw [P.tv, P'.tv]; exact h.oc.tv, by rw [P.tv]; exact h.oc.tl, by rw [P.rv, P'.rv]; exact h.oc.rv, h.oc.z⟩, ⟨h.bd.k, h.bd.t, h.bd.t', Nat.le_trans P.o h.bd.o, Nat.le_trans P'.o h.bd.o'⟩⟩
  · funext x y; rw [← a1, ← b1]; exact propext (c1 x y)
  · rw [← a2, ← b2]; exact c2 ρ
end
/-! ### What is looked for at the types told so far -/
def roundsX (k : Nat) (g : G) : List Nat → Option Bool
  | [] => some false
  | n :: l => match roundX k g n [] with
    | some (true, _) => some true
    | some (false, _) => roundsX k g l
    | none => none
def bigsX (k : Nat) (g : G) : List Nat → Option Bool
  | [] => some false
  | n :: l => match partsX k g n [] with
    | some (c, _) => if 300 < c then some true else bigsX k g l
    | none => none
/-- The program's loop: whether all is well, whether one is too great. -/
def cntsX (k : Nat) (g : G) : List Nat → Bool → Bool → Option (Bool × Bool)
  | [], ok, b => some (ok, b)
  | n :: l, ok, b => if ok then match cnt k g n [] false with
    | some (c, _, fl) => cntsX k g l (!fl) (b || decide (300 < c))
    | none => none else some (ok, b)
def toldsX (k : Nat) (g : G) : List Nat → Nams → Option (List Ty)
  | [], _ => some []
  | n :: l, m => match toldX k g n m with
    | some (t, m) => (toldsX k g l m).map (t :: ·)
    | none => none
theorem cnts_false (k : Nat) (g : G) (l : List Nat) (b : Bool) : cntsX k g l false b = some (false, b) := by cases l <;> rfl
section
variable {A : AG} {e d : List Nat} {T T' : Nat} {g f : G}
theorem node_ac (h : Two A e d T T' g f) (hT : T < big) (hT' : T' < big) {n : Nat} (hn : n < A.kind.length) (ha : Ac A (Eq1 g.link) n) :
    ∃ c s s2 sP, Ev (fun k => roundX k g n []) (false, s) ∧ Ev (fun k => partsX k g n []) (c, s2) ∧ Ev (fun k => cnt k f n [] false) (c, sP, false) := by
  obtain ⟨H, hH⟩ := ha
  obtain ⟨s, h1, _⟩ := round_ac h.ig H n [] hH (fun x hx => by cases hx) hn
  obtain ⟨c, s2, sP, h2, h3, _⟩ := count_ac h hT hT' H n n [] [] hH (.inl rfl) (fun x r s _ _ => ⟨rfl, Nat.zero_le _⟩) (fun x hx => by cases hx) hn hn
  exact ⟨c, s, s2, sP, h1, h2, h3⟩
theorem node_no (h : Two A e d T T' g f) (hT' : T' < big) {n : Nat} (hn : n < A.kind.length) (ha : ¬ Ac A (Eq1 g.link) n) :
    ∃ s c sP, Ev (fun k => roundX k g n []) (true, s) ∧ Ev (fun k => cnt k f n [] false) (c, sP, true) := by
  obtain ⟨b, s, h1, _, h2⟩ := round_tot h.ig h.up _ n [] (Nat.le_refl _) hn (fun x hx => by cases hx)
  obtain ⟨c, sP, fl, h3, _, _, _, h4⟩ := cnt_tot h.jf hT' h.symm.up _ n [] false (Nat.le_refl _) hn ⟨fun x c hx => (by cases hx), fun _ x c hx => (by cases hx)⟩
  rw [← h.E] at h4
  refine ⟨s, c, sP, ?_, ?_⟩
  · cases b with
    | true => exact h1
    | false => exact absurd (h2 rfl).2 ha
  · cases fl with
    | true => exact h3
    | false => exact absurd (h4 rfl).2 ha
theorem list_ac (h : Two A e d T T' g f) (hT : T < big) (hT' : T' < big) : ∀ l : List Nat, (∀ n ∈ l, n < A.kind.length) → (∀ n ∈ l, Ac A (Eq1 g.link) n) →
    ∃ bg, Ev (fun k => roundsX k g l) false ∧ Ev (fun k => bigsX k g l) bg ∧ ∀ b, Ev (fun k => cntsX k f l true b) (true, b || bg)
  | [], _, _ => ⟨false, Ev.pure _, Ev.pure _, fun b => by rw [Bool.or_false]; exact Ev.pure _⟩
  | n :: l, hl, ha => by
    obtain ⟨c, s, s2, sP, h1, h2, h3⟩ := node_ac h hT hT' (hl n (.head _)) (ha n (.head _))
    obtain ⟨bg, i1, i2, i3⟩ := list_ac h hT hT' l (fun m hm => hl m (.tail _ hm)) (fun m hm => ha m (.tail _ hm))
    refine ⟨decide (300 < c) || bg, h1.of2 i1 fun k x y => by unfold roundsX; rw [x]; exact y, h2.of2 i2 fun k x y => ?_, fun b => h3.of2 (i3 (b || decide (300 < c))) fun k x y => ?_⟩
    · unfold bigsX; rw [x]
      by_cases q : 300 < c
      · simp [q]
      · simp only [if_neg q, decide_false, q, Bool.false_or]; exact y
    · unfold cntsX; rw [x, if_pos rfl, ← Bool.or_assoc]; exact y
theorem list_no (h : Two A e d T T' g f) (hT : T < big) (hT' : T' < big) : ∀ l : List Nat, (∀ n ∈ l, n < A.kind.length) → (¬ ∀ n ∈ l, Ac A (Eq1 g.link) n) →
    Ev (fun k => roundsX k g l) true ∧ ∀ b, ∃ bg, Ev (fun k => cntsX k f l true b) (false, bg)
  | [], _, ha => absurd (fun n hn => by cases hn) ha
  | n :: l, hl, ha => by
    by_cases hn : Ac A (Eq1 g.link) n
    · obtain ⟨c, s, s2, sP, h1, h2, h3⟩ := node_ac h hT hT' (hl n (.head _)) hn
      obtain ⟨i1, i2⟩ := list_no h hT hT' l (fun m hm => hl m (.tail _ hm)) (fun hm => ha fun m q => by
        rcases List.mem_cons.1 q with rfl | q
        · exact hn
        · exact hm m q)
      refine ⟨h1.of2 i1 fun k x y => by unfold roundsX; rw [x]; exact y, fun b => ?_⟩
      obtain ⟨bg, i3⟩ := i2 (b || decide (300 < c))
      exact ⟨bg, h3.of2 i3 fun k x y => by unfold cntsX; rw [x, if_pos rfl]; exact y⟩
    · obtain ⟨s, c, sP, h1, h2⟩ := node_no h hT' (hl n (.head _)) hn
      refine ⟨h1.of fun k x => by unfold roundsX; rw [x], fun b => ⟨b || decide (300 < c), h2.of fun k x => ?_⟩⟩
      unfold cntsX; rw [x, if_pos rfl]; exact cnts_false _ _ _ _
theorem tolds_ac (h : Two A e d T T' g f) (hT : T < big) (hT' : T' < big) (hn1 : A.kind.length < big) (hn2 : g.next.length < big) (hn3 : f.next.length < big) : ∀ (l : List Nat) (m m' : Nams), NC A e d g f m m' → (∀ n ∈ l, n < A.kind.length) → (∀ n ∈ l, Ac A (Eq1 g.link) n) →
    ∃ ts, Ev (fun k => toldsX k g l m) ts ∧ Ev (fun k => toldsX k f l m') ts
  | [], _, _, _, _, _ => ⟨[], Ev.pure _, Ev.pure _⟩
  | n :: l, m, m', hm, hl, ha => by
    obtain ⟨H, hH⟩ := ha n (.head _)
    obtain ⟨t, m1, m1', h1, h2, h3⟩ := told_ac h hT hT' hn1 hn2 hn3 H n n m m' hH (.inl rfl) hm (hl n (.head _)) (hl n (.head _))
    obtain ⟨ts, i1, i2⟩ := tolds_ac h hT hT' hn1 hn2 hn3 l m1 m1' h3 (fun m hm => hl m (.tail _ hm)) (fun m hm => ha m (.tail _ hm))
    exact ⟨t :: ts, h1.of2 i1 fun k x y => by unfold toldsX; rw [x]; simp [y], h2.of2 i2 fun k x y => by unfold toldsX; rw [x]; simp [y]⟩
end
/-! ### Solve -/
abbrev Fl := Nat × Nat
def loopD (k : Nat) : List (Ty × Ty) → Nat → G → List Nat → Option (Fl ⊕ G × List Nat)
  | [], _, g, l => some (.inr (g, l))
  | (p, q) :: r, i, g, l => match ofX k g p with
    | some (g, a) => match ofX k g q with
      | some (g, b) => match sameX false k g a b with
        | some (g, true) => match roundsX k g (l ++ [a]) with
          | some true => some (.inl (8, i))
          | some false => match bigsX k g (l ++ [a]) with
            | some true => some (.inl (10, i))
            | some false => loopD k r (i + 1) g (l ++ [a])
            | none => none
          | none => none
        | some (_, false) => some (.inl (8, i))
        | none => none
      | none => none
    | none => none
def solveD (k : Nat) (l : List (Ty × Ty)) : Option (Fl ⊕ List Ty) := match loopD k l 0 G.new [] with
  | some (.inl f) => some (.inl f)
  | some (.inr (g, l)) => (toldsX k g l ⟨[], []⟩).map .inr
  | none => none
def loopP (k : Nat) : List (Ty × Ty) → Nat → G → List Nat → Option (Fl ⊕ G × List Nat)
  | [], _, g, l => some (.inr (g, l))
  | (p, q) :: r, i, g, l => match ofX k g p with
    | some (g, a) => match ofX k g q with
      | some (g, b) => match sameX true k g a b with
        | some (g, ok) => match cntsX k g (l ++ [a]) ok false with
          | some (false, _) => some (.inl (8, i))
          | some (true, true) => some (.inl (10, i))
          | some (true, false) => loopP k r (i + 1) g (l ++ [a])
          | none => none
        | none => none
      | none => none
    | none => none
def solveP (k : Nat) (l : List (Ty × Ty)) : Option (Fl ⊕ List Ty) := match loopP k l 0 G.new [] with
  | some (.inl f) => some (.inl f)
  | some (.inr (g, l)) => (toldsX k g l ⟨[], []⟩).map .inr
  | none => none
/-- Pairs of proper types. -/
def FineP (p : Ty × Ty) : Prop := ∃ c c', Fine c p.1 ∧ Fine c' p.2 ∧ c ≤ 300 ∧ c' ≤ 300
theorem loop_spec : ∀ (r : List (Ty × Ty)) (i : Nat) {A : AG} {e d : List Nat} {T T' b : Nat} {g f : G} (l : List Nat), (∀ p ∈ r, FineP p) → St2 b A e d T T' g f → b + 1800 * r.length < big → (∀ n ∈ l, n < A.kind.length) → (∀ n ∈ l, Ac A (Eq1 g.link) n) →
    (∃ x, Ev (fun k => loopD k r i g l) (.inl x) ∧ Ev (fun k => loopP k r i f l) (.inl x)) ∨
    ∃ A' e' d' T1 T1' g' f' l', Ev (fun k => loopD k r i g l) (.inr (g', l')) ∧ Ev (fun k => loopP k r i f l) (.inr (f', l')) ∧ St2 (b + 1800 * r.length) A' e' d' T1 T1' g' f' ∧ (∀ n ∈ l', n < A'.kind.length) ∧ (∀ n ∈ l', Ac A' (Eq1 g'.link) n)
  | [], i, A, e, d, T, T', b, g, f, l, _, h, _, hl, ha => .inr ⟨A, e, d, T, T', g, f, l, Ev.pure _, Ev.pure _, h, hl, ha⟩
  | (p, q) :: r, i, A, e, d, T, T', b, g, f, l, hp, h, hb, hl, _ => by
    obtain ⟨c, c', fp, fq, hc, hc'⟩ := hp (p, q) (.head _)
    rw [List.length_cons] at hb
    obtain ⟨A1, e1, d1, T1, T1', g1, f1, n, ⟨p1, h1⟩, ⟨q1, k1⟩, S1, hn, hA1⟩ := of_spec fp h (by omega)
    obtain ⟨A2, e2, d2, T2, T2', g2, f2, m, ⟨p2, h2⟩, ⟨q2, k2⟩, S2, hm, hA2⟩ := of_spec fq S1 (by omega)
    obtain ⟨g3, f3, t, ⟨p3, h3⟩, ⟨q3, k3⟩, S3⟩ := S2.same (by omega) (m := n) (n := m) (by omega) hm
    cases t with
    | false =>
      refine .inl ⟨(8, i), ⟨p1 + p2 + p3, fun k hk => ?_⟩, ⟨q1 + q2 + q3, fun k hk => ?_⟩⟩
      · unfold loopD; simp only [h1 k (by omega), h2 k (by omega), h3 k (by omega)]
      · unfold loopP; simp only [k1 k (by omega), k2 k (by omega), k3 k (by omega), cnts_false]
    | true =>
      have S3 := S3 rfl
      have hT : T2 < big := by have := S3.bd.t; omega
      have hT' : T2' < big := by have := S3.bd.t'; omega
      have hl2 : ∀ x ∈ l ++ [n], x < A2.kind.length := fun x hx => by
        rcases List.mem_append.1 hx with q | q
        · have := hl x q; omega
        · rw [List.mem_singleton.1 q]; omega
      by_cases hac : ∀ x ∈ l ++ [n], Ac A2 (Eq1 g3.link) x
      · obtain ⟨bg, ⟨p4, h4⟩, ⟨p5, h5⟩, k4⟩ := list_ac S3.two hT hT' _ hl2 hac
        obtain ⟨q4, k4⟩ := k4 false
        rw [Bool.false_or] at k4
        cases bg with
        | true =>
          refine .inl ⟨(10, i), ⟨p1 + p2 + p3 + p4 + p5, fun k hk => ?_⟩, ⟨q1 + q2 + q3 + q4, fun k hk => ?_⟩⟩
          · unfold loopD; simp only [h1 k (by omega), h2 k (by omega), h3 k (by omega), h4 k (by omega), h5 k (by omega)]
          · unfold loopP; simp only [k1 k (by omega), k2 k (by omega), k3 k (by omega), k4 k (by omega)]
        | false =>
          have hb' : b + 3 * c + 3 * c' ≤ b + 1800 := by omega
          have S4 : St2 (b + 1800) A2 e2 d2 T2 T2' g3 f3 := ⟨S3.two, S3.oc, S3.bd.le hb'⟩
          have dd : ∀ {R}, Ev (fun k => loopD k r (i + 1) g3 (l ++ [n])) R → Ev (fun k => loopD k ((p, q) :: r) i g l) R := fun {R} ⟨p6, h6⟩ => ⟨p1 + p2 + p3 + p4 + p5 + p6, fun k hk => by
            show loopD k ((p, q) :: r) i g l = _
            unfold loopD; simp only [h1 k (by omega), h2 k (by omega), h3 k (by omega), h4 k (by omega), h5 k (by omega)]; exact h6 k (by omega)⟩
          have dp : ∀ {R}, Ev (fun k => loopP k r (i + 1) f3 (l ++ [n])) R → Ev (fun k => loopP k ((p, q) :: r) i f l) R := fun {R} ⟨p6, h6⟩ => ⟨q1 + q2 + q3 + q4 + p6, fun k hk => by
            show loopP k ((p, q) :: r) i f l = _
            unfold loopP; simp only [k1 k (by omega), k2 k (by omega), k3 k (by omega), k4 k (by omega)]; exact h6 k (by omega)⟩
          rcases loop_spec r (i + 1) (l ++ [n]) (fun x hx => hp x (.tail _ hx)) S4 (by omega) hl2 hac with ⟨x, a1, a2⟩ | ⟨A', e', d', U1, U1', g', f', l', a1, a2, a3, a4, a5⟩
          · exact .inl ⟨x, dd a1, dp a2⟩
          · refine .inr ⟨A', e', d', U1, U1', g', f', l', dd a1, dp a2, ⟨a3.two, a3.oc, a3.bd.le ?_⟩, a4, a5⟩
            rw [List.length_cons]; omega
      · obtain ⟨⟨p4, h4⟩, k4⟩ := list_no S3.two hT hT' _ hl2 hac
        obtain ⟨bg, q4, k4⟩ := k4 false
        refine .inl ⟨(8, i), ⟨p1 + p2 + p3 + p4, fun k hk => ?_⟩, ⟨q1 + q2 + q3 + q4, fun k hk => ?_⟩⟩
        · unfold loopD; simp only [h1 k (by omega), h2 k (by omega), h3 k (by omega), h4 k (by omega)]
        · unfold loopP; simp only [k1 k (by omega), k2 k (by omega), k3 k (by omega), k4 k (by omega)]
theorem st0 : St2 1 ⟨[], [], [], []⟩ [0] [0] 0 0 G.new G.new := by
  have nx : ∀ {r : Nat} {o : Option Nat}, [some 0][r]? = some o → r = 0 ∧ o = some 0 := fun {r o} h => by
    cases r with
    | zero => exact ⟨rfl, (Option.some.inj h).symm⟩
    | succ r => cases h
  have hw : ∀ {r l v}, WhL [[]] [some 0] r l v → l = [] := fun h => by
    cases h with
    | nil h ho => obtain ⟨rfl, _⟩ := nx h; exact (Option.some.inj ho).symm
    | opn h _ => rfl
    | row h _ _ => have := (nx h).2; cases this
  have ri : RI [[]] [some 0] 0 := ⟨rfl, rfl, fun r hr => (by have := (nx hr).2; cases this), fun r hr => (by
      have : r = 0 := by simpa using hr
      subst this; exact ⟨_, _, .nil rfl rfl⟩), ⟨fun _ => 0, fun r l v h => (by rw [hw h]; exact Nat.le_refl _), Nat.le_refl _⟩⟩
  have inv : Inv ⟨[], [], [], []⟩ [0] 0 G.new := ⟨rfl, rfl, rfl, rfl, rfl, fun n hn => absurd hn (Nat.not_lt_zero _), ri, fun x hx => (by rw [List.mem_singleton.1 hx]; exact Nat.zero_lt_one), ⟨rfl, rfl, rfl, fun x k h => (by cases h), fun x k h => (by cases h), fun x k h => (by cases h), fun x k h => (by cases h), fun x j h => (by cases h)⟩, fun x z h => absurd h.lt (Nat.not_lt_zero _)⟩
  have eq : ∀ x y, Eq1 G.new.link x y → x = y := fun x y h => h.lt.resolve_right fun q => absurd q.1 (Nat.not_lt_zero _)
  refine ⟨⟨inv, inv, rfl, rfl, fun _ => Iff.rfl, ⟨eq1_eqv _, fun x y _ _ h => (by rw [eq x y h]), fun F ρ hF _ _ _ x y _ _ h => (by rw [eq x y h]; exact alike_refl hF y)⟩⟩, ⟨rfl, fun n m h => (by cases h), fun n => .inr ⟨rfl, rfl⟩, rfl, rfl⟩, ⟨by decide, by decide, by decide, by decide, by decide⟩⟩
/-- Both programs tell the same. -/
theorem solve_same {l : List (Ty × Ty)} (hl : ∀ p ∈ l, FineP p) (hn : l.length ≤ 20) : ∃ R, Ev (fun k => solveD k l) R ∧ Ev (fun k => solveP k l) R := by
  have hb : 1 + 1800 * l.length < big := by unfold big; omega
  rcases loop_spec l 0 [] hl st0 hb (fun n h => by cases h) (fun n h => by cases h) with ⟨x, a1, a2⟩ | ⟨A', e', d', U1, U1', g', f', l', a1, a2, a3, a4, a5⟩
  · exact ⟨.inl x, a1.of fun k h => by unfold solveD; rw [h], a2.of fun k h => by unfold solveP; rw [h]⟩
  · have bk := a3.bd.k
    have bt := a3.bd.t
    have bt' := a3.bd.t'
    have bo := a3.bd.o
    have bo' := a3.bd.o'
    have n1 := a3.two.ig.ri.len
    have n2 := a3.two.jf.ri.len
    obtain ⟨ts, c1, c2⟩ := tolds_ac a3.two (by omega) (by omega) (by omega) (by omega) (by omega) l' ⟨[], []⟩ ⟨[], []⟩ ⟨fun _ _ _ _ _ => rfl, rfl, fun _ _ _ _ _ _ => rfl, rfl, NB_nil _, NB_nil _, NB_nil _, NB_nil _⟩ a4 a5
    exact ⟨.inr ts, a1.of2 c1 fun k h i => by unfold solveD; rw [h]; simp only [i]; rfl, a2.of2 c2 fun k h i => by unfold solveP; rw [h]; simp only [i]; rfl⟩
end Go.Slv
