/- Two nodes are made the same, by either program: it comes to an end, and is a run of the unification (plain law). -/
import Derived.Test.YtfkkocjheeoobaaGraph
set_option linter.unusedVariables false
set_option linter.unusedSimpArgs false
set_option linter.unusedVariables false
set_option linter.unusedSimpArgs false
namespace Go.Slv
open Go.Inf Go.Urw Go.Ucl
/-- Whether the second or the first of two nodes is kept. -/
def lkX (d : Bool) (g : G) (m n : Nat) : G := if d then g.lnk n m else g.lnk m n
def argX (f : G → Nat → Nat → Option (G × Bool)) (g : G) (x y : Option (Option Nat)) : Option (G × Bool) := match x, y with
  | some none, _ => some (g, true)
  | some (some p), some (some q) => f g p q
  | _, _ => none
def rwX (k : Nat) (g : G) (km : Nat) (m n : Nat) : Option (G × Bool) := if km = 6 then (match g.row[m]?, g.row[n]? with
  | some r, some s => sameRow k g r s
  | _, _ => none) else some (g, true)
/-- Both programs' Same: they keep different nodes. -/
def sameX (d : Bool) : Nat → G → Nat → Nat → Option (G × Bool)
  | 0, _, _, _ => none
  | k + 1, g, m, n => match find k g m, find k g n with
    | some m, some n =>
      if m = n then some (g, true) else
      match g.kind[m]?, g.kind[n]? with
      | some km, some kn =>
        if km = 0 then some (g.lnk m n, true)
        else if kn = 0 then some (g.lnk n m, true)
        else if km ≠ kn then some (g, false)
        else
          let g := lkX d g m n
          match argX (sameX d k) g g.a[m]? g.a[n]? with
          | some (g, false) => some (g, false)
          | some (g, true) => match argX (sameX d k) g g.b[m]? g.b[n]? with
            | some (g, false) => some (g, false)
            | some (g, true) => rwX k g km m n
            | none => none
          | none => none
      | _, _ => none
    | _, _ => none
theorem same_X : ∀ k, same k = sameX false k
  | 0 => by funext g m n; rfl
  | k + 1 => by
    funext g m n
    unfold same sameX
    rw [same_X k]
    rfl
/-! ### What does not change -/
structure AG where
  kind : List Nat
  a : List (Option Nat)
  b : List (Option Nat)
  rj : List Nat
def AG.kd (A : AG) (x : Nat) : Nat := (A.kind[x]?).getD 0
def AG.pa (A : AG) (x : Nat) : Nat := ((A.a[x]?).getD none).getD 0
def AG.pb (A : AG) (x : Nat) : Nat := ((A.b[x]?).getD none).getD 0
def kidsK (k p q : Nat) : List Nat := if k = 4 then [p] else if k = 5 ∨ k = 6 then [p, q] else []
def grA (A : AG) : Gr where
  var x := A.kd x = 0
  kd := A.kd
  kids x := kidsK (A.kd x) (A.pa x) (A.pb x)
  row x := if A.kd x = 6 then some ((A.rj[x]?).getD 0) else none
  ar x y _ _ h := by
    simp only [h]
    refine ⟨by unfold kidsK; repeat' split
               all_goals rfl, by split <;> rfl⟩
structure AG.WF (A : AG) (nj : Nat) : Prop where
  la : A.a.length = A.kind.length
  lb : A.b.length = A.kind.length
  lr : A.rj.length = A.kind.length
  a1 : ∀ (x k : Nat), A.kind[x]? = some k → (k = 4 ∨ k = 5 ∨ k = 6) → ∃ p, A.a[x]? = some (some p) ∧ p < x
  a0 : ∀ (x k : Nat), A.kind[x]? = some k → ¬ (k = 4 ∨ k = 5 ∨ k = 6) → A.a[x]? = some none
  b1 : ∀ (x k : Nat), A.kind[x]? = some k → (k = 5 ∨ k = 6) → ∃ p, A.b[x]? = some (some p) ∧ p < x
  b0 : ∀ (x k : Nat), A.kind[x]? = some k → ¬ (k = 5 ∨ k = 6) → A.b[x]? = some none
  rj : ∀ (x j : Nat), A.rj[x]? = some j → j < nj
/-- How a graph lies to what does not change: the rows that there were at first have the numbers e. -/
structure Inv (A : AG) (e : List Nat) (T : Nat) (g : G) : Prop where
  kind : g.kind = A.kind
  a : g.a = A.a
  b : g.b = A.b
  row : g.row = A.rj.map fun j => (e[j]?).getD 0
  ll : g.link.length = A.kind.length
  all : All g.link
  ri : RI g.ops g.next T
  el : ∀ x ∈ e, x < g.next.length
  wf : A.WF e.length
  vr : ∀ x z, En g.link x z → A.kd z = 0 → A.kd x = 0
def U (l : List (Option Nat)) : Nat := l.countP fun o => o.isNone
theorem U_set {l : List (Option Nat)} {a b : Nat} (h : l[a]? = some none) : U (l.set a (some b)) + 1 = U l := by
  have hl := (List.getElem?_eq_some_iff.1 h).1
  have h2 : l[a] = none := by rw [List.getElem?_eq_getElem hl] at h; exact Option.some.inj h
  unfold U
  rw [List.countP_set hl, h2]
  have : 0 < l.countP fun o => o.isNone := List.countP_pos_iff.2 ⟨none, h2 ▸ List.getElem_mem hl, rfl⟩
  simp; omega
theorem join_congr {E : Rel} (h : Eqv E) {a b a' b' : Nat} (ha : E a a') (hb : E b b') : join E a b = join E a' b' := by
  funext x y
  apply propext
  have e1 : ∀ z, E z a ↔ E z a' := fun z => ⟨fun k => h.trans _ _ _ k ha, fun k => h.trans _ _ _ k (h.symm _ _ ha)⟩
  have e2 : ∀ z, E b z ↔ E b' z := fun z => ⟨fun k => h.trans _ _ _ (h.symm _ _ hb) k, fun k => h.trans _ _ _ hb k⟩
  have e3 : ∀ z, E z b ↔ E z b' := fun z => ⟨fun k => h.trans _ _ _ k hb, fun k => h.trans _ _ _ k (h.symm _ _ hb)⟩
  have e4 : ∀ z, E a z ↔ E a' z := fun z => ⟨fun k => h.trans _ _ _ (h.symm _ _ ha) k, fun k => h.trans _ _ _ ha k⟩
  unfold join
  rw [e1, e2, e3, e4]
theorem join_comm (E : Rel) (a b : Nat) : join E a b = join E b a := by
  funext x y
  apply propext
  unfold join
  have : ∀ p q r : Prop, p ∨ q ∨ r → p ∨ r ∨ q := fun _ _ _ h => h.imp_right Or.symm
  exact ⟨this _ _ _, this _ _ _⟩
abbrev ES (e : List Nat) (g : G) : (Nat → Bag Nm) → Prop := SolR g.ops g.next e
/-- From a graph to the next one: these tasks are done. -/
structure Q (A : AG) (e : List Nat) (g g' : G) (t : Bool) (ts : List Tk) : Prop where
  yes : t = true → ∀ us r E S, Run (grA A) (Eq1 g'.link) (ES e g') us r E S → Run (grA A) (Eq1 g.link) (ES e g) (ts ++ us) r E S
  no : t = false → ∀ us, ∃ E S, Run (grA A) (Eq1 g.link) (ES e g) (ts ++ us) false E S
structure Post (A : AG) (e : List Nat) (T c : Nat) (g g' : G) (t : Bool) (ts : List Tk) : Prop where
  inv : Inv A e T g'
  tv : g'.tv = g.tv
  rv : g'.rv = g.rv
  u : U g'.link ≤ U g.link
  o : g'.ops.length + U g'.link ≤ g.ops.length + U g.link + c
  q : Q A e g g' t ts
section
variable {A : AG} {e : List Nat} {T : Nat}
theorem Q.seq {g g1 g2 : G} {t : Bool} {ts us : List Tk} (h : Q A e g g1 true ts) (k : Q A e g1 g2 t us) : Q A e g g2 t (ts ++ us) :=
  ⟨fun ht vs r E S hr => by rw [List.append_assoc]; exact h.yes rfl _ _ _ _ (k.yes ht vs r E S hr), fun ht vs => by
    obtain ⟨E, S, hr⟩ := k.no ht vs
    exact ⟨E, S, by rw [List.append_assoc]; exact h.yes rfl _ _ _ _ hr⟩⟩
theorem Q.cut {g g1 : G} {ts : List Tk} (h : Q A e g g1 false ts) (us : List Tk) : Q A e g g1 false (ts ++ us) :=
  ⟨fun q => (by cases q), fun _ vs => by rw [List.append_assoc]; exact h.no rfl _⟩
theorem Post.refl {g : G} (h : Inv A e T g) : Post A e T 0 g g true [] := ⟨h, rfl, rfl, Nat.le_refl _, Nat.le_refl _, ⟨fun _ us r E S hr => hr, fun q => by cases q⟩⟩
theorem Post.seq {g g1 g2 : G} {c c' : Nat} {t : Bool} {ts us : List Tk} (h : Post A e T c g g1 true ts) (k : Post A e T c' g1 g2 t us) : Post A e T (c + c') g g2 t (ts ++ us) :=
  ⟨k.inv, k.tv.trans h.tv, k.rv.trans h.rv, Nat.le_trans k.u h.u, by have := h.o; have := k.o; omega, h.q.seq k.q⟩
theorem Post.cut {g g1 : G} {c c' : Nat} {ts : List Tk} (h : Post A e T c g g1 false ts) (us : List Tk) (hc : c ≤ c') : Post A e T c' g g1 false (ts ++ us) :=
  ⟨h.inv, h.tv, h.rv, h.u, by have := h.o; omega, h.q.cut us⟩
theorem Inv.lnk {g : G} (h : Inv A e T g) {m n : Nat} (hm : g.link[m]? = some none) (hn : g.link[n]? = some none) (hne : m ≠ n) (hk : A.kd n = 0 → A.kd m = 0) : Inv A e T (g.lnk m n) ∧ Eq1 (g.lnk m n).link = join (Eq1 g.link) m n ∧ U (g.lnk m n).link + 1 = U g.link ∧ (g.lnk m n).ops = g.ops ∧ (g.lnk m n).next = g.next ∧ (g.lnk m n).tv = g.tv ∧ (g.lnk m n).rv = g.rv := by
  simp only [G.lnk, wN_eq, wL_eq]
  refine ⟨⟨h.kind, h.a, h.b, h.row, by rw [List.length_set]; exact h.ll, h.all.link hm hn hne, h.ri, h.el, h.wf, fun x z hz k0 => ?_⟩, eq1_link hm hn hne, U_set hm, trivial, trivial, trivial, trivial⟩
  obtain ⟨y, h1, h2⟩ := hz.unlink hm hn hne
  by_cases q : y = m
  · subst q; rw [if_pos rfl] at h2; subst h2; exact h.vr x _ h1 (hk k0)
  · rw [if_neg q] at h2; subst h2; exact h.vr x _ h1 k0
theorem Inv.lkX {g : G} (h : Inv A e T g) (d : Bool) {m n : Nat} (hm : g.link[m]? = some none) (hn : g.link[n]? = some none) (hne : m ≠ n) (km : A.kd m ≠ 0) (kn : A.kd n ≠ 0) : Inv A e T (lkX d g m n) ∧ Eq1 (lkX d g m n).link = join (Eq1 g.link) m n ∧ U (lkX d g m n).link + 1 = U g.link ∧ (lkX d g m n).ops = g.ops ∧ (lkX d g m n).next = g.next ∧ (lkX d g m n).tv = g.tv ∧ (lkX d g m n).rv = g.rv := by
  cases d with
  | false => exact h.lnk hm hn hne (fun q => absurd q kn)
  | true => rw [join_comm]; exact h.lnk hn hm (Ne.symm hne) (fun q => absurd q km)
theorem AG.WF.pa1 (h : A.WF e.length) {x : Nat} (hx : A.kd x = 4 ∨ A.kd x = 5 ∨ A.kd x = 6) : A.a[x]? = some (some (A.pa x)) ∧ A.pa x < x := by
  cases hk : A.kind[x]? with
  | none => simp [AG.kd, hk] at hx
  | some k =>
    obtain ⟨p, h1, h2⟩ := h.a1 x k hk (by simpa [AG.kd, hk] using hx)
    simp [AG.pa, h1, h2]
theorem AG.WF.pb1 (h : A.WF e.length) {x : Nat} (hx : A.kd x = 5 ∨ A.kd x = 6) : A.b[x]? = some (some (A.pb x)) ∧ A.pb x < x := by
  cases hk : A.kind[x]? with
  | none => simp [AG.kd, hk] at hx
  | some k =>
    obtain ⟨p, h1, h2⟩ := h.b1 x k hk (by simpa [AG.kd, hk] using hx)
    simp [AG.pb, h1, h2]
theorem AG.WF.pa0 (h : A.WF e.length) {x : Nat} (hl : x < A.kind.length) (hx : ¬ (A.kd x = 4 ∨ A.kd x = 5 ∨ A.kd x = 6)) : A.a[x]? = some none :=
  h.a0 x _ (List.getElem?_eq_getElem hl) (by simpa [AG.kd, hl] using hx)
theorem AG.WF.pb0 (h : A.WF e.length) {x : Nat} (hl : x < A.kind.length) (hx : ¬ (A.kd x = 5 ∨ A.kd x = 6)) : A.b[x]? = some none :=
  h.b0 x _ (List.getElem?_eq_getElem hl) (by simpa [AG.kd, hl] using hx)
theorem AG.kd_some {x : Nat} (hl : x < A.kind.length) : A.kind[x]? = some (A.kd x) := by simp [AG.kd, hl]
end
/-- What is asked of two nodes of one kind. -/
abbrev tsA (A : AG) (m n : Nat) : List Tk := if A.kd m = 4 ∨ A.kd m = 5 ∨ A.kd m = 6 then [.ty (A.pa m) (A.pa n)] else []
abbrev tsB (A : AG) (m n : Nat) : List Tk := if A.kd m = 5 ∨ A.kd m = 6 then [.ty (A.pb m) (A.pb n)] else []
abbrev tsC (A : AG) (m n : Nat) : List Tk := if A.kd m = 6 then [.rw ((A.rj[m]?).getD 0) ((A.rj[n]?).getD 0)] else []
theorem kts_eq {A : AG} {m n : Nat} (h : A.kd m = A.kd n) : kts (grA A) m n = tsA A m n ++ tsB A m n ++ tsC A m n := by
  unfold kts
  show List.map _ (List.zip (kidsK (A.kd m) (A.pa m) (A.pb m)) (kidsK (A.kd n) (A.pa n) (A.pb n))) ++ (match (if A.kd m = 6 then some ((A.rj[m]?).getD 0) else none), (if A.kd n = 6 then some ((A.rj[n]?).getD 0) else none) with | some r, some s => [Tk.rw r s] | _, _ => []) = _
  rw [← h]
  unfold tsA tsB tsC kidsK
  by_cases h4 : A.kd m = 4
  · simp [h4]
  · by_cases h5 : A.kd m = 5
    · simp [h5]
    · by_cases h6 : A.kd m = 6
      · simp [h6]
      · simp [h4, h5, h6]
section
variable {A : AG} {e : List Nat} {T : Nat}
def Good (A : AG) (e : List Nat) (T : Nat) (d : Bool) (N : Nat) : Prop := ∀ (g : G) (m n : Nat), Inv A e T g → U g.link ≤ N → g.ops.length + U g.link < big → m < A.kind.length → n < A.kind.length →
  ∃ g' t, Ev (fun k => sameX d k g m n) (g', t) ∧ Post A e T 0 g g' t [.ty m n]
theorem argA_spec {d : Bool} {N : Nat} (ih : Good A e T d N) {g : G} (h : Inv A e T g) (hu : U g.link ≤ N) (hb : g.ops.length + U g.link < big) {m n : Nat} (hm : m < A.kind.length) (hn : n < A.kind.length) (hk : A.kd m = A.kd n) :
    ∃ g' t, Ev (fun k => argX (sameX d k) g g.a[m]? g.a[n]?) (g', t) ∧ Post A e T 0 g g' t (tsA A m n) := by
  unfold tsA
  by_cases q : A.kd m = 4 ∨ A.kd m = 5 ∨ A.kd m = 6
  · rw [if_pos q, h.a, (h.wf.pa1 q).1, (h.wf.pa1 (hk ▸ q)).1]
    exact ih g _ _ h hu hb (by have := (h.wf.pa1 q).2; omega) (by have := (h.wf.pa1 (x := n) (hk ▸ q)).2; omega)
  · rw [if_neg q, h.a, h.wf.pa0 hm q]
    exact ⟨g, true, Ev.pure _, Post.refl h⟩
theorem argB_spec {d : Bool} {N : Nat} (ih : Good A e T d N) {g : G} (h : Inv A e T g) (hu : U g.link ≤ N) (hb : g.ops.length + U g.link < big) {m n : Nat} (hm : m < A.kind.length) (hn : n < A.kind.length) (hk : A.kd m = A.kd n) :
    ∃ g' t, Ev (fun k => argX (sameX d k) g g.b[m]? g.b[n]?) (g', t) ∧ Post A e T 0 g g' t (tsB A m n) := by
  unfold tsB
  by_cases q : A.kd m = 5 ∨ A.kd m = 6
  · rw [if_pos q, h.b, (h.wf.pb1 q).1, (h.wf.pb1 (hk ▸ q)).1]
    exact ih g _ _ h hu hb (by have := (h.wf.pb1 q).2; omega) (by have := (h.wf.pb1 (x := n) (hk ▸ q)).2; omega)
  · rw [if_neg q, h.b, h.wf.pb0 hm q]
    exact ⟨g, true, Ev.pure _, Post.refl h⟩
theorem rwX_spec {g : G} (h : Inv A e T g) (hT : T < big) (hb : g.ops.length < big) {m n : Nat} (hm : m < A.kind.length) (hn : n < A.kind.length) :
    ∃ g' t, Ev (fun k => rwX k g (A.kd m) m n) (g', t) ∧ Post A e T 1 g g' t (tsC A m n) := by
  unfold tsC rwX
  by_cases q : A.kd m = 6
  · simp only [if_pos q]
    have hx : ∀ {x}, x < A.kind.length → A.rj[x]? = some ((A.rj[x]?).getD 0) ∧ ∃ r, e[(A.rj[x]?).getD 0]? = some r ∧ g.row[x]? = some r ∧ r < g.next.length := fun {x} hx => by
      have hl : x < A.rj.length := by rw [h.wf.lr]; exact hx
      have h1 : A.rj[x]? = some A.rj[x] := List.getElem?_eq_getElem hl
      have h2 := h.wf.rj x _ h1
      refine ⟨by simp [hl], e[A.rj[x]], by simp [hl, h2], ?_, h.el _ (List.getElem_mem h2)⟩
      rw [h.row, List.getElem?_map, h1]; simp [h2]
    obtain ⟨_, r, hr1, hr2, hr3⟩ := hx hm
    obtain ⟨_, s, hs1, hs2, hs3⟩ := hx hn
    rw [hr2, hs2]
    obtain ⟨o, nn, t, hE, hR, hlen, hel, hh⟩ := sameRow_spec h.ri hT hb hr3 hs3 h.el
    obtain ⟨h1, h2⟩ := hh _ _ hr1 hs1
    refine ⟨_, t, hE, ⟨h.kind, h.a, h.b, h.row, h.ll, h.all, hR, hel, h.wf, h.vr⟩, rfl, rfl, Nat.le_refl _, (by show o.length + U g.link ≤ _; omega), fun ht us r' E S hr => ?_, fun ht us => ?_⟩
    · refine .rowOk ?_
      have : (fun ρ => ES e g ρ ∧ ρ ((A.rj[m]?).getD 0) = ρ ((A.rj[n]?).getD 0)) = ES e { g with ops := o, next := nn } := by
        funext ρ; exact propext (h1 ht ρ).symm
      rw [this]; exact hr
    · exact ⟨_, _, .rowNo (h2 ht).2.2⟩
  · simp only [if_neg q]
    obtain ⟨a, b, c, d, f, i⟩ := Post.refl h
    exact ⟨g, true, Ev.pure _, a, b, c, d, by omega, i⟩
theorem same_spec (hT : T < big) (d : Bool) : ∀ N, Good A e T d N := by
  intro N
  induction N using Nat.strongRecOn with
  | _ N ih =>
  intro g m n h hu hb hm hn
  obtain ⟨m1, hm1⟩ := h.all m (by rw [h.ll]; exact hm)
  obtain ⟨n1, hn1⟩ := h.all n (by rw [h.ll]; exact hn)
  have fm := hm1.find
  have fn := hn1.find
  have eqv := eq1_eqv g.link
  have Em := hm1.eq1
  have En1 := hn1.eq1
  by_cases e1 : m1 = n1
  · subst e1
    refine ⟨g, true, (fm.of2 fn fun k h1 h2 => ?_ : Ev (fun k => sameX d (k + 1) g m n) (g, true)).step fun _ => rfl, ?_⟩
    · unfold sameX; rw [h1, h2]; simp
    · exact ⟨h, rfl, rfl, Nat.le_refl _, Nat.le_refl _, fun _ us r E S hr => .eq (eqv.trans _ _ _ Em (eqv.symm _ _ En1)) hr, fun q => by cases q⟩
  · have lm : m1 < A.kind.length := by rw [← h.ll]; exact hm1.lt2
    have ln : n1 < A.kind.length := by rw [← h.ll]; exact hn1.lt2
    have km : g.kind[m1]? = some (A.kd m1) := by rw [h.kind]; exact AG.kd_some lm
    have kn : g.kind[n1]? = some (A.kd n1) := by rw [h.kind]; exact AG.kd_some ln
    have jn : join (Eq1 g.link) m n = join (Eq1 g.link) m1 n1 := join_congr eqv Em En1
    have cls : ∀ {x x1}, En g.link x x1 → A.kd x1 = 0 → ∀ y, Eq1 g.link x y → (grA A).var y := fun hx h0 y hy => h.vr y _ (hy.en hx) h0
    by_cases k0 : A.kd m1 = 0
    · obtain ⟨i1, i2, i3, i4, i5, i6, i7⟩ := h.lnk hm1.last hn1.last e1 (fun _ => k0)
      refine ⟨g.lnk m1 n1, true, (fm.of2 fn fun k h1 h2 => ?_ : Ev (fun k => sameX d (k + 1) g m n) (g.lnk m1 n1, true)).step fun _ => rfl, i1, i6, i7, by omega, by rw [i4]; omega, fun _ us r E S hr => ?_, fun q => by cases q⟩
      · unfold sameX; simp only [h1, h2, if_neg e1, km, kn, if_pos k0]
      · refine .var (.inl (cls hm1 k0)) ?_
        rw [jn, ← i2]
        unfold ES at hr ⊢
        rw [i4, i5] at hr; exact hr
    · by_cases k1 : A.kd n1 = 0
      · obtain ⟨i1, i2, i3, i4, i5, i6, i7⟩ := h.lnk hn1.last hm1.last (Ne.symm e1) (fun q => absurd q k0)
        refine ⟨g.lnk n1 m1, true, (fm.of2 fn fun k h1 h2 => ?_ : Ev (fun k => sameX d (k + 1) g m n) (g.lnk n1 m1, true)).step fun _ => rfl, i1, i6, i7, by omega, by rw [i4]; omega, fun _ us r E S hr => ?_, fun q => by cases q⟩
        · unfold sameX; simp only [h1, h2, if_neg e1, km, kn, if_neg k0, if_pos k1]
        · refine .var (.inr (cls hn1 k1)) ?_
          rw [jn, join_comm, ← i2]
          unfold ES at hr ⊢
          rw [i4, i5] at hr; exact hr
      · by_cases k2 : A.kd m1 = A.kd n1
        · obtain ⟨i1, i2, i3, i4, i5, i6, i7⟩ := h.lkX d hm1.last hn1.last e1 k0 k1
          have key : ∀ {g' : G} {t : Bool} {c : Nat}, Post A e T c (lkX d g m1 n1) g' t (tsA A m1 n1 ++ tsB A m1 n1 ++ tsC A m1 n1) → c ≤ 1 → Post A e T 0 g g' t [.ty m n] := fun {g' t c} hp hc => by
            refine ⟨hp.inv, hp.tv.trans i6, hp.rv.trans i7, by have := hp.u; omega, by have := hp.o; rw [i4] at this; omega, fun ht us r E S hr => ?_, fun ht us => ?_⟩
            · refine .node Em En1 k0 k1 k2 ?_
              rw [jn, ← i2, kts_eq k2]
              have := hp.q.yes ht us r E S hr
              unfold ES at this ⊢
              rw [i4, i5] at this; exact this
            · obtain ⟨E, S, hr⟩ := hp.q.no ht us
              refine ⟨E, S, .node Em En1 k0 k1 k2 ?_⟩
              rw [jn, ← i2, kts_eq k2]
              unfold ES at hr ⊢
              rw [i4, i5] at hr; exact hr
          have hu1 : U (lkX d g m1 n1).link ≤ N - 1 := by omega
          have hb1 : (lkX d g m1 n1).ops.length + U (lkX d g m1 n1).link < big := by rw [i4]; omega
          obtain ⟨g2, t2, ⟨pa, ha⟩, PA⟩ := argA_spec (ih (N - 1) (by omega)) i1 hu1 hb1 lm ln k2
          obtain ⟨pm, fm⟩ := fm
          obtain ⟨pn, fn⟩ := fn
          have enter : ∀ {g' : G} {t : Bool} (K : Nat), (∀ k, K ≤ k → sameX d (k + 1) g m n = some (g', t)) → Ev (fun k => sameX d k g m n) (g', t) := fun {g' t} K hK => Ev.step (F := fun k => sameX d (k + 1) g m n) (fun _ => rfl) ⟨K, hK⟩
          cases t2 with
          | false =>
            refine ⟨g2, false, enter (pm + pn + pa) (fun k hk => ?_), key (by rw [List.append_assoc]; exact PA.cut _ (Nat.le_refl _)) (Nat.zero_le _)⟩
            have h3 := ha k (by omega)
            unfold sameX; simp only [fm k (by omega), fn k (by omega), if_neg e1, km, kn, if_neg k0, if_neg k1, if_neg (not_not_intro k2), h3]
          | true =>
            obtain ⟨g3, t3, ⟨pb, hb'⟩, PB⟩ := argB_spec (ih (N - 1) (by omega)) PA.inv (Nat.le_trans PA.u hu1) (by have := PA.o; omega) lm ln k2
            have PAB := PA.seq PB
            cases t3 with
            | false =>
              refine ⟨g3, false, enter (pm + pn + pa + pb) (fun k hk => ?_), key (PAB.cut _ (Nat.le_refl _)) (Nat.zero_le _)⟩
              have h3 := ha k (by omega)
              have h4 := hb' k (by omega)
              unfold sameX; simp only [fm k (by omega), fn k (by omega), if_neg e1, km, kn, if_neg k0, if_neg k1, if_neg (not_not_intro k2), h3, h4]
            | true =>
              obtain ⟨g4, t4, ⟨pc, hc'⟩, PC⟩ := rwX_spec PAB.inv hT (by have := PAB.o; omega) lm ln
              refine ⟨g4, t4, enter (pm + pn + pa + pb + pc) (fun k hk => ?_), key (PAB.seq PC) (Nat.le_refl _)⟩
              have h3 := ha k (by omega)
              have h4 := hb' k (by omega)
              have h5 := hc' k (by omega)
              unfold sameX; simp only [fm k (by omega), fn k (by omega), if_neg e1, km, kn, if_neg k0, if_neg k1, if_neg (not_not_intro k2), h3, h4, h5]
        · refine ⟨g, false, (fm.of2 fn fun k h1 h2 => ?_ : Ev (fun k => sameX d (k + 1) g m n) (g, false)).step fun _ => rfl, h, rfl, rfl, Nat.le_refl _, Nat.le_refl _, fun q => (by cases q), fun _ us => ⟨_, _, .clash Em En1 k0 k1 k2⟩⟩
          unfold sameX; simp only [h1, h2, if_neg e1, km, kn, if_neg k0, if_neg k1, ne_eq, k2, not_false_eq_true, if_true]
end
end Go.Slv
set_option linter.unusedVariables false
set_option linter.unusedSimpArgs false
namespace Go.Urw
variable {K : Type}
/-- Two rows that are the same in every solution. -/
theorem same_whole {σ : St K} (hσ : Ok σ) (k0 : K) {r s : Nat} (h : ∀ ρ, Sat σ ρ → ρ r = ρ s) {a b : Bag K} {v w : Option Nat} (h1 : Wh σ r a v) (h2 : Wh σ s b w) : a = b ∧ v = w := by
  have go : ∀ α : Nat → Bag K, add a (ov α v) = add b (ov α w) := fun α => by
    obtain ⟨ρ, hρ, hv⟩ := hσ.ex α
    rw [← hv _ _ _ h1, ← hv _ _ _ h2]; exact h ρ hρ
  have hz : ∀ v : Option Nat, ov (fun _ => (zb : Bag K)) v = zb := fun v => by cases v <;> rfl
  have e0 := go fun _ => zb
  rw [hz, hz, add_zb, add_zb] at e0
  subst e0
  have key : ∀ α : Nat → Bag K, ov α v = ov α w := fun α => funext fun k => by have := congrFun (go α) k; simp only [add] at this; omega
  have one : (fun _ => 1 : Bag K) ≠ zb := fun e => by have := congrFun e k0; simp [zb] at this
  refine ⟨rfl, ?_⟩
  cases v with
  | none => cases w with
    | none => rfl
    | some w => exact absurd (key fun _ _ => 1).symm one
  | some v => cases w with
    | none => exact absurd (key fun _ _ => 1) one
    | some w =>
      by_cases e : v = w
      · rw [e]
      · have := key fun q => if q = v then (fun _ => 1) else zb
        simp only [ov, if_true] at this
        rw [if_neg (Ne.symm e)] at this
        exact absurd this one
end Go.Urw
namespace Go.Slv
open Go.Inf Go.Urw Go.Ucl
def AG.ka (A : AG) (x : Nat) : Option Nat := if A.kd x = 4 ∨ A.kd x = 5 ∨ A.kd x = 6 then some (A.pa x) else none
def AG.kb (A : AG) (x : Nat) : Option Nat := if A.kd x = 5 ∨ A.kd x = 6 then some (A.pb x) else none
theorem countP_drop {n r : Nat} {P P' : Nat → Bool} (h : ∀ x, P' x = true → P x = true) (hr : r < n) (h1 : P r = true) (h2 : P' r = false) : (List.range n).countP P' + 1 ≤ (List.range n).countP P := by
  induction n with
  | zero => omega
  | succ n ih =>
    rw [List.range_succ, List.countP_append, List.countP_append, List.countP_singleton, List.countP_singleton]
    by_cases e : r = n
    · subst e
      have := List.countP_mono_left (l := List.range r) (fun x _ => h x)
      rw [h1, h2]; simp; omega
    · have := ih (by omega)
      cases hp : P' n with
      | false => simp; split <;> omega
      | true => rw [h n hp]; simp; omega
theorem countP_le {n : Nat} {P P' : Nat → Bool} (h : ∀ x, P' x = true → P x = true) : (List.range n).countP P' ≤ (List.range n).countP P := List.countP_mono_left (fun x _ => h x)
section
variable {A : AG} {e : List Nat} {T : Nat} {g : G}
theorem Inv.ga (h : Inv A e T g) {x : Nat} (hx : x < A.kind.length) : g.a[x]? = some (A.ka x) := by
  rw [h.a]; unfold AG.ka; split
  · rename_i q; exact (h.wf.pa1 q).1
  · rename_i q; exact h.wf.pa0 hx q
theorem Inv.gb (h : Inv A e T g) {x : Nat} (hx : x < A.kind.length) : g.b[x]? = some (A.kb x) := by
  rw [h.b]; unfold AG.kb; split
  · rename_i q; exact (h.wf.pb1 q).1
  · rename_i q; exact h.wf.pb0 hx q
theorem Inv.gk (h : Inv A e T g) {x : Nat} (hx : x < A.kind.length) : g.kind[x]? = some (A.kd x) := by rw [h.kind]; exact AG.kd_some hx
def AG.j (A : AG) (x : Nat) : Nat := (A.rj[x]?).getD 0
theorem Inv.gr (h : Inv A e T g) {x : Nat} (hx : x < A.kind.length) : ∃ r, e[A.j x]? = some r ∧ g.row[x]? = some r ∧ r < g.next.length := by
  have hl : x < A.rj.length := by rw [h.wf.lr]; exact hx
  have h1 : A.rj[x]? = some A.rj[x] := List.getElem?_eq_getElem hl
  have h2 := h.wf.rj x _ h1
  refine ⟨e[A.rj[x]], by simp [AG.j, hl, h2], ?_, h.el _ (List.getElem_mem h2)⟩
  rw [h.row, List.getElem?_map, h1]; simp [h2]
theorem Inv.klt (h : Inv A e T g) {x p : Nat} (hx : x < A.kind.length) (hp : A.ka x = some p ∨ A.kb x = some p) : p < A.kind.length := by
  rcases hp with q | q
  · unfold AG.ka at q; split at q
    · rename_i k; cases q; have := (h.wf.pa1 k).2; omega
    · cases q
  · unfold AG.kb at q; split at q
    · rename_i k; cases q; have := (h.wf.pb1 k).2; omega
    · cases q
theorem Inv.root (h : Inv A e T g) {x : Nat} (hx : x < A.kind.length) : ∃ r, En g.link x r ∧ r < A.kind.length ∧ En g.link r r ∧ Eq1 g.link x r := by
  obtain ⟨r, hr⟩ := h.all x (by rw [h.ll]; exact hx)
  exact ⟨r, hr, by rw [← h.ll]; exact hr.lt2, hr.end, hr.eq1⟩
theorem Inv.ne (h : Inv A e T g) : ∃ ρ, ES e g ρ := by
  obtain ⟨ρ, h1, _⟩ := h.ri.ok.ex fun _ => zb
  exact ⟨fun j => ρ ((e[j]?).getD 0), ρ, fun j x hj => by simp [hj], h1⟩
end
theorem ka_nz {A : AG} {x p : Nat} (h : A.ka x = some p ∨ A.kb x = some p) : A.kd x ≠ 0 := by
  intro h0; unfold AG.ka AG.kb at h; rw [h0] at h; simp at h
section
variable {A : AG} {E : Rel} {S : (Nat → Bag Nm) → Prop}
/-- The parts of two nodes that are one are one. -/
theorem up_kids (h : Upto (grA A) E S []) (hne : ∃ ρ, S ρ) {x y : Nat} (hxy : E x y) (hx : A.kd x ≠ 0) (hy : A.kd y ≠ 0) :
    A.kd x = A.kd y ∧ (∀ p, A.ka x = some p → ∃ q, A.ka y = some q ∧ E p q) ∧ (∀ p, A.kb x = some p → ∃ q, A.kb y = some q ∧ E p q) ∧ (A.kd x = 6 → ∀ ρ, S ρ → ρ (A.j x) = ρ (A.j y)) := by
  have hk := h.kd x y hx hy hxy
  have al := fun ρ (hρ : S ρ) => alike_iff.1 ((h.sol hρ).al x y hx hy hxy)
  obtain ⟨ρ, hρ⟩ := hne
  have a1 := (al ρ hρ).1
  change A.kd x = A.kd y at hk
  refine ⟨hk, fun p hp => ?_, fun p hp => ?_, fun h6 ρ hρ => ?_⟩
  · unfold AG.ka at hp ⊢
    rw [hk] at hp
    split at hp
    · rename_i q; cases hp
      rw [if_pos q]
      refine ⟨_, rfl, a1 0 _ _ ?_ ?_⟩
      · show (kidsK (A.kd x) _ _)[0]? = _
        rw [hk]; rcases q with q | q | q <;> simp [kidsK, q]
      · show (kidsK (A.kd y) _ _)[0]? = _
        rcases q with q | q | q <;> simp [kidsK, q]
    · cases hp
  · unfold AG.kb at hp ⊢
    rw [hk] at hp
    split at hp
    · rename_i q; cases hp
      rw [if_pos q]
      refine ⟨_, rfl, a1 1 _ _ ?_ ?_⟩
      · show (kidsK (A.kd x) _ _)[1]? = _
        rw [hk]; rcases q with q | q <;> simp [kidsK, q]
      · show (kidsK (A.kd y) _ _)[1]? = _
        rcases q with q | q <;> simp [kidsK, q]
    · cases hp
  · refine (al ρ hρ).2 _ _ ?_ ?_
    · show (if A.kd x = 6 then _ else _) = _; rw [if_pos h6]; rfl
    · show (if A.kd y = 6 then _ else _) = _; rw [if_pos (hk ▸ h6)]; rfl
/-- A type has at most this height. -/
def Ht (A : AG) (E : Rel) : Nat → Nat → Prop
  | 0, _ => False
  | h + 1, n => ∀ x, E n x → ∀ p, A.ka x = some p ∨ A.kb x = some p → Ht A E h p
theorem Ht.eqv (hE : Eqv E) {h n m : Nat} (k : Ht A E h n) (hnm : E n m) : Ht A E h m := by
  cases h with
  | zero => exact k
  | succ h => exact fun x hx => k x (hE.trans _ _ _ hnm hx)
theorem Ht.mono {h n : Nat} (k : Ht A E h n) : Ht A E (h + 1) n := by
  induction h generalizing n with
  | zero => exact k.elim
  | succ h ih => exact fun x hx p hp => ih (k x hx p hp)
theorem Ht.up {h h' n : Nat} (k : Ht A E h n) (hh : h ≤ h') : Ht A E h' n := by
  induction hh with
  | refl => exact k
  | step _ ih => exact ih.mono
def Ac (A : AG) (E : Rel) (n : Nat) : Prop := ∃ h, Ht A E h n
end
section
variable {A : AG} {e : List Nat} {T : Nat} {g : G}
theorem Inv.kd0 (hI : Inv A e T g) {x y z : Nat} (h : En g.link x z) (k : En g.link y z) (hz : A.kd z = 0) : A.kd x = 0 ∧ A.kd y = 0 := ⟨hI.vr _ _ h hz, hI.vr _ _ k hz⟩
/-- A node's height by its root's parts. -/
theorem Inv.ac (hI : Inv A e T g) (up : Upto (grA A) (Eq1 g.link) (ES e g) []) {n r : Nat} (hr : En g.link n r) (k : ∀ p, A.ka r = some p ∨ A.kb r = some p → Ac A (Eq1 g.link) p) : Ac A (Eq1 g.link) n := by
  have eqv := eq1_eqv g.link
  obtain ⟨H, hH⟩ : ∃ H, ∀ p, A.ka r = some p ∨ A.kb r = some p → Ht A (Eq1 g.link) H p := by
    have one : ∀ o : Option Nat, (∀ p, o = some p → Ac A (Eq1 g.link) p) → ∃ H, ∀ p, o = some p → Ht A (Eq1 g.link) H p := fun o ho => by
      cases o with
      | none => exact ⟨0, fun p q => by cases q⟩
      | some p => obtain ⟨H, hH⟩ := ho p rfl; exact ⟨H, fun q hq => by cases hq; exact hH⟩
    obtain ⟨H1, h1⟩ := one _ fun p hp => k p (.inl hp)
    obtain ⟨H2, h2⟩ := one _ fun p hp => k p (.inr hp)
    exact ⟨max H1 H2, fun p hp => hp.elim (fun q => (h1 p q).up (Nat.le_max_left _ _)) (fun q => (h2 p q).up (Nat.le_max_right _ _))⟩
  refine ⟨H + 1, fun x hx p hp => ?_⟩
  have hx0 := ka_nz hp
  have hxr : Eq1 g.link x r := eqv.trans _ _ _ (eqv.symm _ _ hx) hr.eq1
  have hr0 : A.kd r ≠ 0 := fun h0 => hx0 (hI.vr x r (hx.en hr) h0)
  obtain ⟨_, k1, k2, _⟩ := up_kids up hI.ne hxr hx0 hr0
  rcases hp with hp | hp
  · obtain ⟨q, hq, hpq⟩ := k1 p hp
    exact (hH q (.inl hq)).eqv eqv (eqv.symm _ _ hpq)
  · obtain ⟨q, hq, hpq⟩ := k2 p hp
    exact (hH q (.inr hq)).eqv eqv (eqv.symm _ _ hpq)
end
/-- Two graphs that stand for the same. -/
structure Two (A : AG) (e d : List Nat) (T T' : Nat) (g f : G) : Prop where
  ig : Inv A e T g
  jf : Inv A d T' f
  n : e.length = d.length
  E : Eq1 g.link = Eq1 f.link
  S : ∀ ρ, ES e g ρ ↔ ES d f ρ
  up : Upto (grA A) (Eq1 g.link) (ES e g) []
/-- A row's variable (0: none). -/
def VR (g : G) (e : List Nat) (j v : Nat) : Prop := ∃ r l, e[j]? = some r ∧ WhL g.ops g.next r l v
section
variable {A : AG} {e d : List Nat} {T T' : Nat} {g f : G}
theorem Two.symm (h : Two A e d T T' g f) : Two A d e T' T f g := by
  have e1 : ES e g = ES d f := funext fun ρ => propext (h.S ρ)
  exact ⟨h.jf, h.ig, h.n.symm, h.E.symm, fun ρ => (h.S ρ).symm, by rw [← h.E, ← e1]; exact h.up⟩
theorem Two.tell (h : Two A e d T T' g f) {i j r s r' s' : Nat} {a a' b b' : List Nm} {v v' w w' : Nat} (hi : e[i]? = some r) (hi' : d[i]? = some r') (hj : e[j]? = some s) (hj' : d[j]? = some s')
    (h1 : WhL g.ops g.next r a v) (h2 : WhL f.ops f.next r' a' v') (k1 : WhL g.ops g.next s b w) (k2 : WhL f.ops f.next s' b' w') : bag a = bag a' ∧ (v = 0 ↔ v' = 0) ∧ (v = w → v' = w') := by
  have gi : ∀ {l : List Nat} {i x : Nat}, l[i]? = some x → (l[i]?).getD 0 = x := fun h => by rw [h]; rfl
  have key := Urw.tell h.ig.ri.ok h.jf.ri.ok ⟨#[]⟩ (e := fun i => (e[i]?).getD 0) (d := fun i => (d[i]?).getD 0) (og := fun i => i < e.length) (fun ρ => ?_) (List.getElem?_eq_some_iff.1 hi).1 (List.getElem?_eq_some_iff.1 hj).1
    (show Wh _ ((e[i]?).getD 0) _ _ by rw [gi hi]; exact h1.wh h.ig.ri.z) (show Wh _ ((d[i]?).getD 0) _ _ by rw [gi hi']; exact h2.wh h.jf.ri.z)
    (show Wh _ ((e[j]?).getD 0) _ _ by rw [gi hj]; exact k1.wh h.ig.ri.z) (show Wh _ ((d[j]?).getD 0) _ _ by rw [gi hj']; exact k2.wh h.jf.ri.z)
  · refine ⟨key.1, by rw [vO_none, vO_none] at key; exact key.2.1, fun q => vO_inj (key.2.2 (by rw [q]))⟩
  · have conv : ∀ (g : G) (e : List Nat), (∃ ρ' : Nat → Bag Nm, (∀ r, r < e.length → ρ' ((e[r]?).getD 0) = ρ r) ∧ Sat (stR g.ops g.next) ρ') ↔ ES e g ρ := fun g e => by
      constructor
      · rintro ⟨ρ', h1, h2⟩; exact ⟨ρ', fun j x hj => by have := h1 j (List.getElem?_eq_some_iff.1 hj).1; rwa [gi hj] at this, h2⟩
      · rintro ⟨ρ', h1, h2⟩; exact ⟨ρ', fun j hj => h1 j _ (by simp [hj]), h2⟩
    rw [conv, h.S, ← conv, h.n]
/-- A class's root here and there. -/
theorem Two.node (h : Two A e d T T' g f) {n r s : Nat} (hr : En g.link n r) (hs : En f.link n s) :
    A.kd r = A.kd s ∧ (∀ p, A.ka r = some p → ∃ q, A.ka s = some q ∧ Eq1 g.link p q) ∧ (A.ka r = none → A.ka s = none) ∧ (∀ p, A.kb r = some p → ∃ q, A.kb s = some q ∧ Eq1 g.link p q) ∧ (A.kb r = none → A.kb s = none) ∧ (A.kd r = 6 → ∀ ρ, ES e g ρ → ρ (A.j r) = ρ (A.j s)) := by
  have eqv := eq1_eqv g.link
  have hrs : Eq1 g.link r s := eqv.trans _ _ _ (eqv.symm _ _ hr.eq1) (by rw [h.E]; exact hs.eq1)
  by_cases h0 : A.kd r = 0
  · have hs0 : A.kd s = 0 := h.ig.vr s r (hrs.en hr.end) h0
    have n1 : A.ka s = none := by unfold AG.ka; rw [hs0]; rfl
    have n2 : A.kb s = none := by unfold AG.kb; rw [hs0]; rfl
    have n3 : A.ka r = none := by unfold AG.ka; rw [h0]; rfl
    have n4 : A.kb r = none := by unfold AG.kb; rw [h0]; rfl
    rw [n1, n2, n3, n4, h0, hs0]
    exact ⟨rfl, fun p hp => (by cases hp), fun _ => rfl, fun p hp => (by cases hp), fun _ => rfl, fun h => (by omega)⟩
  · have hs0 : A.kd s ≠ 0 := fun q => h0 (h.jf.vr r s (by
      have : Eq1 f.link s r := by rw [← h.E]; exact eqv.symm _ _ hrs
      exact this.en hs.end) q)
    obtain ⟨k1, k2, k3, k4⟩ := up_kids h.up h.ig.ne hrs h0 hs0
    refine ⟨k1, k2, fun q => ?_, k3, fun q => ?_, k4⟩
    · unfold AG.ka at q ⊢; rw [← k1]; split at q
      · cases q
      · rename_i q2; rw [if_neg q2]
    · unfold AG.kb at q ⊢; rw [← k1]; split at q
      · cases q
      · rename_i q2; rw [if_neg q2]
theorem Inv.wh (hI : Inv A e T g) (hT : T < big) {j r : Nat} (hj : e[j]? = some r) : ∃ l v, WhL g.ops g.next r l v ∧ Ev (fun k => whole k g r []) (putAll [] l, v) ∧ l.length ≤ T ∧ VR g e j v := by
  obtain ⟨l, v, hw⟩ := hI.ri.all r (hI.el _ (List.mem_of_getElem? hj))
  have hb := hI.ri.bound hw
  exact ⟨l, v, hw, hw.ev [] (by simp; omega), hb, r, l, hj, hw⟩
theorem VR.det {j v w : Nat} (h : VR g e j v) (k : VR g e j w) : v = w := by
  obtain ⟨r, l, h1, h2⟩ := h
  obtain ⟨s, m, k1, k2⟩ := k
  rw [h1] at k1; cases k1
  exact (h2.det k2).2
/-- The rows of a class's roots: the same names in order; their variables. -/
theorem Two.rows (h : Two A e d T T' g f) (hT : T < big) (hT' : T' < big) {n r s : Nat} (hr : En g.link n r) (hs : En f.link n s) (h6 : A.kd r = 6) :
    ∃ x y l v w, g.row[r]? = some x ∧ f.row[s]? = some y ∧ Ev (fun k => whole k g x []) (l, v) ∧ Ev (fun k => whole k f y []) (l, w) ∧ VR g e (A.j r) v ∧ VR f d (A.j r) w ∧ (v = 0 ↔ w = 0) ∧ l.length ≤ T := by
  have lr : r < A.kind.length := by rw [← h.ig.ll]; exact hr.lt2
  have ls : s < A.kind.length := by rw [← h.jf.ll]; exact hs.lt2
  obtain ⟨x, hx1, hx2, _⟩ := h.ig.gr lr
  obtain ⟨y, hy1, hy2, _⟩ := h.jf.gr ls
  obtain ⟨z, hz⟩ : ∃ z, d[A.j r]? = some z := ⟨d[A.j r]'(by rw [← h.n]; exact (List.getElem?_eq_some_iff.1 hx1).1), by simp⟩
  obtain ⟨la, v, ka, ea, ba, va⟩ := h.ig.wh hT hx1
  obtain ⟨lb, w, kb, eb, bb, vb⟩ := h.jf.wh hT' hy1
  obtain ⟨lc, u, kc, ec, bc, vc⟩ := h.jf.wh hT' hz
  obtain ⟨t1, t2, _⟩ := h.tell hx1 hz hx1 hz ka kc ka kc
  obtain ⟨_, _, _, _, _, hρ⟩ := h.node hr hs
  have sm := same_whole h.jf.ri.ok ⟨#[]⟩ (r := z) (s := y) (fun ρ' hρ' => by
    have := hρ h6 (fun j => ρ' ((d[j]?).getD 0)) ((h.S _).2 ⟨ρ', fun j x hj => by simp [hj], hρ'⟩)
    simpa [hz, hy1] using this) (kc.wh h.jf.ri.z) (kb.wh h.jf.ri.z)
  have e2 := vO_inj sm.2
  subst e2
  have el : putAll [] lb = putAll [] la := srt_eq (putAll_srt .nil _) (putAll_srt .nil _) (by
    rw [bag_perm (putAll_perm [] lb), bag_perm (putAll_perm [] la), List.nil_append, List.nil_append, ← sm.1, ← t1])
  rw [el] at eb
  exact ⟨x, y, _, v, u, hx2, hy2, ea, eb, va, vc, t2, by rw [(putAll_perm [] la).length_eq]; simpa using ba⟩
end
end Go.Slv
set_option linter.unusedVariables false
set_option linter.unusedSimpArgs false
namespace Go.Slv
open Go.Inf Go.Urw Go.Ucl
/-! ### The functions, taken apart -/
def rkid (f : Nat → Seen → Option (Bool × Seen)) (x : Option (Option Nat)) (s : Seen) : Option (Bool × Seen) := match x with
  | some none => some (false, s)
  | some (some m) => f m s
  | none => none
def roundX : Nat → G → Nat → Seen → Option (Bool × Seen)
  | 0, _, _, _ => none
  | k + 1, g, n, s => match find k g n with
    | some n =>
      if 0 < s.at n then some (s.at n == 1, s) else
      match rkid (roundX k g) g.a[n]? (s.put n 1) with
      | some (true, s) => some (true, s)
      | some (false, s) => match rkid (roundX k g) g.b[n]? s with
        | some (true, s) => some (true, s)
        | some (false, s) => some (false, s.put n 2)
        | none => none
      | none => none
    | none => none
theorem round_X : ∀ k, round k = roundX k
  | 0 => by funext g n s; rfl
  | k + 1 => by funext g n s; unfold round roundX; rw [round_X k]; rfl
def ownX (k : Nat) (g : G) (n : Nat) : Option Nat := match g.kind[n]? with
  | some 6 => (match g.row[n]? with
    | some r => (whole k g r []).map fun p => p.1.length
    | none => none)
  | some _ => some 0
  | none => none
def pkid (f : Nat → Seen → Option (Nat × Seen)) (x : Option (Option Nat)) (c : Nat) (s : Seen) : Option (Nat × Seen) := match x with
  | some none => some (c, s)
  | some (some m) => match f m s with
    | some (j, s) => some (c + j, s)
    | none => none
  | none => none
def partsX : Nat → G → Nat → Seen → Option (Nat × Seen)
  | 0, _, _, _ => none
  | k + 1, g, n, s => match find k g n with
    | some n =>
      if 0 < s.at n then some (s.at n, s) else
      match pkid (partsX k g) g.a[n]? 1 s with
      | some (c, s) => match pkid (partsX k g) g.b[n]? c s with
        | some (c, s) => match ownX k g n with
          | some j => if c + j ≤ 2147483647 then some (min (c + j) 1000000, s.put n (min (c + j) 1000000)) else none
          | none => none
        | none => none
      | none => none
    | none => none
theorem parts_X : ∀ k, parts k = partsX k
  | 0 => by funext g n s; rfl
  | k + 1 => by funext g n s; unfold parts partsX; rw [parts_X k]; rfl
/-- The program's: what has been seen; 0: it is open. -/
def lkS (n : Nat) : Seen → Option Nat
  | [] => none
  | (m, v) :: r => if m = n then some v else lkS n r
def ckid (f : Nat → Seen → Bool → Option (Nat × Seen × Bool)) (x : Option (Option Nat)) (c : Nat) (s : Seen) (fl : Bool) : Option (Nat × Seen × Bool) := match x with
  | some none => some (c, s, fl)
  | some (some m) => match f m s fl with
    | some (j, s, fl) => some (c + j, s, fl)
    | none => none
  | none => none
def cnt : Nat → G → Nat → Seen → Bool → Option (Nat × Seen × Bool)
  | 0, _, _, _, _ => none
  | k + 1, g, n, s, fl => match find k g n with
    | some n => match lkS n s with
      | some 0 => some (0, s, true)
      | some (c + 1) => some (c + 1, s, fl)
      | none => match ckid (cnt k g) g.a[n]? 1 (s.put n 0) fl with
        | some (c, s, fl) => match ckid (cnt k g) g.b[n]? c s fl with
          | some (c, s, fl) => match ownX k g n with
            | some j => if c + j ≤ 2147483647 then some (min (c + j) 1000000, s.put n (min (c + j) 1000000), fl) else none
            | none => none
          | none => none
        | none => none
    | none => none
theorem at_put (s : Seen) (n v m : Nat) : (s.put n v).at m = if m = n then v else s.at m := by
  induction s with
  | nil =>
    simp only [Seen.put, Seen.at]
    by_cases e : n = m
    · rw [if_pos e, if_pos e.symm]
    · rw [if_neg e, if_neg (Ne.symm e)]
  | cons p r ih =>
    obtain ⟨q, u⟩ := p
    by_cases e1 : q = n
    · subst e1
      simp only [Seen.put, if_true, Seen.at]
      by_cases e2 : q = m
      · rw [if_pos e2, if_pos e2.symm]
      · rw [if_neg e2, if_neg (Ne.symm e2), if_neg e2]
    · simp only [Seen.put, if_neg e1, Seen.at, ih]
      by_cases e2 : q = m
      · rw [if_pos e2, if_neg (fun h => e1 (e2.trans h)), if_pos e2]
      · rw [if_neg e2, if_neg e2]
theorem lkS_put (s : Seen) (n v m : Nat) : lkS m (s.put n v) = if m = n then some v else lkS m s := by
  induction s with
  | nil =>
    simp only [Seen.put, lkS]
    by_cases e : n = m
    · rw [if_pos e, if_pos e.symm]
    · rw [if_neg e, if_neg (Ne.symm e)]
  | cons p r ih =>
    obtain ⟨q, u⟩ := p
    by_cases e1 : q = n
    · subst e1
      simp only [Seen.put, if_true, lkS]
      by_cases e2 : q = m
      · rw [if_pos e2, if_pos e2.symm]
      · rw [if_neg e2, if_neg (Ne.symm e2), if_neg e2]
    · simp only [Seen.put, if_neg e1, lkS, ih]
      by_cases e2 : q = m
      · rw [if_pos e2, if_neg (fun h => e1 (e2.trans h)), if_pos e2]
      · rw [if_neg e2, if_neg e2]
section
variable {A : AG} {e : List Nat} {T : Nat} {g : G}
def Ms (A : AG) (s : Seen) : Nat := (List.range A.kind.length).countP fun x => s.at x == 0
theorem enter {α : Type} {f : Nat → Option α} {r : α} (K : Nat) (h : ∀ k, K ≤ k → f (k + 1) = some r) : Ev f r := Ev.step (F := fun k => f (k + 1)) (fun _ => rfl) ⟨K, h⟩
/-! ### Round -/
theorem rkid_tot {E : Rel} {s : Seen} {x : Option Nat} {P : Seen → Prop} {f : Nat → Nat → Seen → Option (Bool × Seen)} (h0 : P s)
    (h : ∀ p, x = some p → ∃ b s', Ev (fun k => f k p s) (b, s') ∧ (∀ y, s'.at y = 0 → s.at y = 0) ∧ (b = false → P s' ∧ Ac A E p)) :
    ∃ b s', Ev (fun k => rkid (f k) (some x) s) (b, s') ∧ (∀ y, s'.at y = 0 → s.at y = 0) ∧ (b = false → P s' ∧ ∀ p, x = some p → Ac A E p) := by
  cases x with
  | none => exact ⟨false, s, Ev.pure _, fun _ h => h, fun _ => ⟨h0, fun p q => by cases q⟩⟩
  | some p =>
    obtain ⟨b, s', h1, h2, h3⟩ := h p rfl
    exact ⟨b, s', h1, h2, fun q => ⟨(h3 q).1, fun p' hp => by cases hp; exact (h3 q).2⟩⟩
theorem round_tot (hI : Inv A e T g) (up : Upto (grA A) (Eq1 g.link) (ES e g) []) : ∀ N n s, Ms A s ≤ N → n < A.kind.length → (∀ x, 2 ≤ s.at x → Ac A (Eq1 g.link) x) →
    ∃ b s', Ev (fun k => roundX k g n s) (b, s') ∧ (∀ y, s'.at y = 0 → s.at y = 0) ∧ (b = false → (∀ x, 2 ≤ s'.at x → Ac A (Eq1 g.link) x) ∧ Ac A (Eq1 g.link) n) := by
  intro N
  induction N with
  | zero =>
    intro n s hM hn hD
    obtain ⟨r, hr, rl, hrr, hnr⟩ := hI.root hn
    obtain ⟨kf, hf⟩ := hr.find
    have hs : 0 < s.at r := by
      refine Nat.pos_of_ne_zero fun q => ?_
      have : 0 < Ms A s := List.countP_pos_iff.2 ⟨r, List.mem_range.2 rl, by simp [q]⟩
      omega
    refine ⟨s.at r == 1, s, enter kf fun k hk => by unfold roundX; simp only [hf k hk, if_pos hs], fun _ h => h, fun q => ⟨hD, ?_⟩⟩
    have : s.at r ≠ 1 := by simpa using q
    obtain ⟨h, hh⟩ := hD r (by omega)
    exact ⟨h, hh.eqv (eq1_eqv _) ((eq1_eqv _).symm _ _ hnr)⟩
  | succ N ih =>
    intro n s hM hn hD
    obtain ⟨r, hr, rl, hrr, hnr⟩ := hI.root hn
    obtain ⟨kf, hf⟩ := hr.find
    by_cases hs : 0 < s.at r
    · refine ⟨s.at r == 1, s, enter kf fun k hk => by unfold roundX; simp only [hf k hk, if_pos hs], fun _ h => h, fun q => ⟨hD, ?_⟩⟩
      have : s.at r ≠ 1 := by simpa using q
      obtain ⟨h, hh⟩ := hD r (by omega)
      exact ⟨h, hh.eqv (eq1_eqv _) ((eq1_eqv _).symm _ _ hnr)⟩
    · have hs0 : s.at r = 0 := by omega
      have hM1 : Ms A (s.put r 1) ≤ N := by
        have := countP_drop (n := A.kind.length) (r := r) (P := fun x => s.at x == 0) (P' := fun x => (s.put r 1).at x == 0) (fun x hx => by rw [at_put] at hx; split at hx <;> simp_all) rl (by simp [hs0]) (by simp [at_put])
        unfold Ms at hM ⊢; omega
      have hD1 : ∀ x, 2 ≤ (s.put r 1).at x → Ac A (Eq1 g.link) x := fun x hx => by
        rw [at_put] at hx; split at hx
        · omega
        · exact hD x hx
      have z1 : ∀ y, (s.put r 1).at y = 0 → s.at y = 0 := fun y hy => by rw [at_put] at hy; split at hy <;> simp_all
      have mle : ∀ {s' s'' : Seen}, (∀ y, s'.at y = 0 → s''.at y = 0) → Ms A s' ≤ Ms A s'' := fun h => countP_le fun x hx => by simp only [beq_iff_eq] at hx ⊢; exact h x hx
      obtain ⟨b1, s1, ⟨ka, ha⟩, za, da⟩ := rkid_tot (A := A) (E := Eq1 g.link) (x := A.ka r) (s := s.put r 1) (P := fun s => ∀ x, 2 ≤ s.at x → Ac A (Eq1 g.link) x) (f := fun k => roundX k g) hD1 fun p hp => ih p _ hM1 (hI.klt rl (.inl hp)) hD1
      cases b1 with
      | true => exact ⟨true, s1, enter (kf + ka) fun k hk => by unfold roundX; simp only [hf k (by omega), if_neg hs, hI.ga rl, ha k (by omega)], fun y hy => z1 y (za y hy), fun q => by cases q⟩
      | false =>
        obtain ⟨d1, d2⟩ := da rfl
        obtain ⟨b2, s2, ⟨kb, hb⟩, zb', db⟩ := rkid_tot (A := A) (E := Eq1 g.link) (x := A.kb r) (s := s1) (P := fun s => ∀ x, 2 ≤ s.at x → Ac A (Eq1 g.link) x) (f := fun k => roundX k g) d1 fun p hp => ih p _ (Nat.le_trans (mle za) hM1) (hI.klt rl (.inr hp)) d1
        cases b2 with
        | true => exact ⟨true, s2, enter (kf + ka + kb) fun k hk => by unfold roundX; simp only [hf k (by omega), if_neg hs, hI.ga rl, hI.gb rl, ha k (by omega), hb k (by omega)], fun y hy => z1 y (za y (zb' y hy)), fun q => by cases q⟩
        | false =>
          obtain ⟨d3, d4⟩ := db rfl
          have hac : Ac A (Eq1 g.link) n := hI.ac up hr fun p hp => hp.elim (d2 p) (d4 p)
          refine ⟨false, s2.put r 2, enter (kf + ka + kb) fun k hk => by unfold roundX; simp only [hf k (by omega), if_neg hs, hI.ga rl, hI.gb rl, ha k (by omega), hb k (by omega)], fun y hy => ?_, fun _ => ⟨fun x hx => ?_, hac⟩⟩
          · rw [at_put] at hy
            split at hy
            · omega
            · exact z1 y (za y (zb' y hy))
          · rw [at_put] at hx
            split at hx
            · rename_i q; subst q; obtain ⟨h, hh⟩ := hac; exact ⟨h, hh.eqv (eq1_eqv _) hnr⟩
            · exact d3 x hx
theorem rkid_ac {s : Seen} {x : Option Nat} {f : Nat → Nat → Seen → Option (Bool × Seen)}
    (h : ∀ p, x = some p → ∃ s', Ev (fun k => f k p s) (false, s') ∧ (∀ y, s'.at y = 1 → s.at y = 1)) :
    ∃ s', Ev (fun k => rkid (f k) (some x) s) (false, s') ∧ (∀ y, s'.at y = 1 → s.at y = 1) := by
  cases x with
  | none => exact ⟨s, Ev.pure _, fun _ h => h⟩
  | some p => obtain ⟨s', h1, h2⟩ := h p rfl; exact ⟨s', h1, h2⟩
theorem round_ac (hI : Inv A e T g) : ∀ h n s, Ht A (Eq1 g.link) h n → (∀ x, s.at x = 1 → ¬ Ht A (Eq1 g.link) h x) → n < A.kind.length → ∃ s', Ev (fun k => roundX k g n s) (false, s') ∧ (∀ x, s'.at x = 1 → s.at x = 1) := by
  intro h
  induction h with
  | zero => intro n s hh; exact hh.elim
  | succ h ih =>
    intro n s hh ho hn
    obtain ⟨r, hr, rl, hrr, hnr⟩ := hI.root hn
    obtain ⟨kf, hf⟩ := hr.find
    have eqv := eq1_eqv g.link
    by_cases hs : 0 < s.at r
    · have h1 : (s.at r == 1) = false := by
        cases q : s.at r == 1 with
        | false => rfl
        | true => exact absurd (hh.eqv eqv hnr) (ho r (by simpa using q))
      exact ⟨s, enter kf fun k hk => by unfold roundX; simp only [hf k hk, if_pos hs, h1], fun _ h => h⟩
    · by_cases hl : Ht A (Eq1 g.link) h n
      · exact ih n s hl (fun x hx q => ho x hx q.mono) hn
      · have ho1 : ∀ x, (s.put r 1).at x = 1 → ¬ Ht A (Eq1 g.link) h x := fun x hx q => by
          rw [at_put] at hx
          split at hx
          · rename_i e1; subst e1; exact hl (q.eqv eqv (eqv.symm _ _ hnr))
          · exact ho x hx q.mono
        obtain ⟨s1, ⟨ka, ha⟩, oa⟩ := rkid_ac (x := A.ka r) (s := s.put r 1) (f := fun k => roundX k g) fun p hp => ih p _ (hh r hnr p (.inl hp)) ho1 (hI.klt rl (.inl hp))
        obtain ⟨s2, ⟨kb, hb⟩, ob⟩ := rkid_ac (x := A.kb r) (s := s1) (f := fun k => roundX k g) fun p hp => ih p _ (hh r hnr p (.inr hp)) (fun x hx => ho1 x (oa x hx)) (hI.klt rl (.inr hp))
        refine ⟨s2.put r 2, enter (kf + ka + kb) fun k hk => by unfold roundX; simp only [hf k (by omega), if_neg hs, hI.ga rl, hI.gb rl, ha k (by omega), hb k (by omega)], fun x hx => ?_⟩
        rw [at_put] at hx
        split at hx
        · omega
        · rename_i e1
          have := oa x (ob x hx)
          rwa [at_put, if_neg e1] at this
/-! ### The program's count -/
def Mp (A : AG) (s : Seen) : Nat := (List.range A.kind.length).countP fun x => (lkS x s).isNone
/-- What is true of the program's count at all times. -/
structure Pi (A : AG) (E : Rel) (s : Seen) (fl : Bool) : Prop where
  v : ∀ x c, lkS x s = some c → c ≤ 1000000
  d : fl = false → ∀ x c, lkS x s = some (c + 1) → Ac A E x
theorem ckid_tot {E : Rel} {s : Seen} {fl : Bool} {x : Option Nat} {f : Nat → Nat → Seen → Bool → Option (Nat × Seen × Bool)} (c : Nat) (h0 : Pi A E s fl)
    (h : ∀ p, x = some p → ∃ c s' fl', Ev (fun k => f k p s fl) (c, s', fl') ∧ (∀ y, lkS y s' = none → lkS y s = none) ∧ Pi A E s' fl' ∧ c ≤ 1000000 ∧ (fl' = false → fl = false ∧ Ac A E p)) :
    ∃ c' s' fl', Ev (fun k => ckid (f k) (some x) c s fl) (c', s', fl') ∧ (∀ y, lkS y s' = none → lkS y s = none) ∧ Pi A E s' fl' ∧ c' ≤ c + 1000000 ∧ (fl' = false → fl = false ∧ ∀ p, x = some p → Ac A E p) := by
  cases x with
  | none => exact ⟨c, s, fl, Ev.pure _, fun _ h => h, h0, by omega, fun q => ⟨q, fun p q => by cases q⟩⟩
  | some p =>
    obtain ⟨b, s', fl', h1, h2, h3, h4, h5⟩ := h p rfl
    exact ⟨c + b, s', fl', h1.of fun k hk => by simp only [ckid, hk], h2, h3, by omega, fun q => ⟨(h5 q).1, fun p' hp => by cases hp; exact (h5 q).2⟩⟩
theorem own_tot (hI : Inv A e T g) (hT : T < big) {r : Nat} (rl : r < A.kind.length) : ∃ j, Ev (fun k => ownX k g r) j ∧ j ≤ T := by
  by_cases h6 : A.kd r = 6
  · obtain ⟨x, hx1, hx2, _⟩ := hI.gr rl
    obtain ⟨l, v, _, ev, hb, _⟩ := hI.wh hT hx1
    refine ⟨(putAll [] l).length, ev.of fun k hk => by unfold ownX; rw [hI.gk rl, h6]; simp only [hx2, hk]; rfl, by rw [(putAll_perm [] l).length_eq]; simpa using hb⟩
  · refine ⟨0, (Ev.pure 0).of fun k _ => ?_, Nat.zero_le _⟩
    unfold ownX; rw [hI.gk rl]
    split
    · rename_i q; exact absurd (Option.some.inj q) h6
    · rfl
    · rename_i q; cases q
theorem cnt_tot (hI : Inv A e T g) (hT : T < big) (up : Upto (grA A) (Eq1 g.link) (ES e g) []) : ∀ N n s fl, Mp A s ≤ N → n < A.kind.length → Pi A (Eq1 g.link) s fl →
    ∃ c s' fl', Ev (fun k => cnt k g n s fl) (c, s', fl') ∧ (∀ y, lkS y s' = none → lkS y s = none) ∧ Pi A (Eq1 g.link) s' fl' ∧ c ≤ 1000000 ∧ (fl' = false → fl = false ∧ Ac A (Eq1 g.link) n) := by
  intro N
  induction N with
  | zero =>
    intro n s fl hM hn hD
    obtain ⟨r, hr, rl, hrr, hnr⟩ := hI.root hn
    obtain ⟨kf, hf⟩ := hr.find
    cases hs : lkS r s with
    | none =>
      have : 0 < Mp A s := List.countP_pos_iff.2 ⟨r, List.mem_range.2 rl, by simp [hs]⟩
      omega
    | some v => cases v with
      | zero => exact ⟨0, s, true, enter kf fun k hk => by unfold cnt; simp only [hf k hk, hs], fun _ h => h, ⟨hD.v, fun q => by cases q⟩, by omega, fun q => by cases q⟩
      | succ v =>
        refine ⟨v + 1, s, fl, enter kf fun k hk => by unfold cnt; simp only [hf k hk, hs], fun _ h => h, hD, hD.v _ _ hs, fun q => ⟨q, ?_⟩⟩
        obtain ⟨h, hh⟩ := hD.d q _ _ hs
        exact ⟨h, hh.eqv (eq1_eqv _) ((eq1_eqv _).symm _ _ hnr)⟩
  | succ N ih =>
    intro n s fl hM hn hD
    obtain ⟨r, hr, rl, hrr, hnr⟩ := hI.root hn
    obtain ⟨kf, hf⟩ := hr.find
    cases hs : lkS r s with
    | some v => cases v with
      | zero => exact ⟨0, s, true, enter kf fun k hk => by unfold cnt; simp only [hf k hk, hs], fun _ h => h, ⟨hD.v, fun q => by cases q⟩, by omega, fun q => by cases q⟩
      | succ v =>
        refine ⟨v + 1, s, fl, enter kf fun k hk => by unfold cnt; simp only [hf k hk, hs], fun _ h => h, hD, hD.v _ _ hs, fun q => ⟨q, ?_⟩⟩
        obtain ⟨h, hh⟩ := hD.d q _ _ hs
        exact ⟨h, hh.eqv (eq1_eqv _) ((eq1_eqv _).symm _ _ hnr)⟩
    | none =>
      have hM1 : Mp A (s.put r 0) ≤ N := by
        have := countP_drop (n := A.kind.length) (r := r) (P := fun x => (lkS x s).isNone) (P' := fun x => (lkS x (s.put r 0)).isNone) (fun x hx => by rw [lkS_put] at hx; split at hx <;> simp_all) rl (by simp [hs]) (by simp [lkS_put])
        unfold Mp at hM ⊢; omega
      have hD1 : Pi A (Eq1 g.link) (s.put r 0) fl := ⟨fun x c hx => by
        rw [lkS_put] at hx; split at hx
        · cases hx; omega
        · exact hD.v x c hx, fun q x c hx => by
        rw [lkS_put] at hx; split at hx
        · cases hx
        · exact hD.d q x c hx⟩
      have z1 : ∀ y, lkS y (s.put r 0) = none → lkS y s = none := fun y hy => by rw [lkS_put] at hy; split at hy <;> simp_all
      have mle : ∀ {s' s'' : Seen}, (∀ y, lkS y s' = none → lkS y s'' = none) → Mp A s' ≤ Mp A s'' := fun h => countP_le fun x hx => by simp only [Option.isNone_iff_eq_none] at hx ⊢; exact h x hx
      obtain ⟨c1, s1, f1, ⟨ka, ha⟩, za, pa, va, da⟩ := ckid_tot (A := A) (E := Eq1 g.link) (x := A.ka r) (s := s.put r 0) (fl := fl) (f := fun k => cnt k g) 1 hD1 fun p hp => ih p _ fl hM1 (hI.klt rl (.inl hp)) hD1
      obtain ⟨c2, s2, f2, ⟨kb, hb⟩, zb', pb, vb, db⟩ := ckid_tot (A := A) (E := Eq1 g.link) (x := A.kb r) (s := s1) (fl := f1) (f := fun k => cnt k g) c1 pa fun p hp => ih p _ f1 (Nat.le_trans (mle za) hM1) (hI.klt rl (.inr hp)) pa
      obtain ⟨j, ⟨kj, hj⟩, jb⟩ := own_tot hI hT rl
      have hle : c2 + j ≤ 2147483647 := by unfold big at hT; omega
      refine ⟨min (c2 + j) 1000000, s2.put r (min (c2 + j) 1000000), f2, enter (kf + ka + kb + kj) fun k hk => by unfold cnt; simp only [hf k (by omega), hs, hI.ga rl, hI.gb rl, ha k (by omega), hb k (by omega), hj k (by omega), if_pos hle], fun y hy => ?_, ⟨fun x c hx => ?_, fun q x c hx => ?_⟩, by omega, fun q => ?_⟩
      · rw [lkS_put] at hy
        split at hy
        · cases hy
        · exact z1 y (za y (zb' y hy))
      · rw [lkS_put] at hx
        split at hx
        · cases hx; omega
        · exact pb.v x c hx
      · rw [lkS_put] at hx
        split at hx
        · rename_i q2; subst q2
          obtain ⟨h, hh⟩ := hI.ac up hr fun p hp => hp.elim ((da (db q).1).2 p) ((db q).2 p)
          exact ⟨h, hh.eqv (eq1_eqv _) hnr⟩
        · exact pb.d q x c hx
      · exact ⟨(da (db q).1).1, hI.ac up hr fun p hp => hp.elim ((da (db q).1).2 p) ((db q).2 p)⟩
end
section
variable {A : AG} {e d : List Nat} {T T' : Nat} {g f : G}
/-- Two classes are one here iff they are there. -/
theorem Two.same (h : Two A e d T T' g f) {x n r s r' s' : Nat} (hr : En g.link n r) (hs : En f.link n s) (hr' : En g.link x r') (hs' : En f.link x s') : r' = r ↔ s' = s := by
  constructor
  · rintro rfl
    have : Eq1 g.link x n := .inr ⟨_, hr', hr⟩
    rw [h.E] at this
    exact ((this.en hs').det hs)
  · rintro rfl
    have : Eq1 f.link x n := .inr ⟨_, hs', hs⟩
    rw [← h.E] at this
    exact ((this.en hr').det hr)
/-- What the document has counted is what the program has. -/
def PC (g f : G) (s2 sP : Seen) : Prop := ∀ x r s, En g.link x r → En f.link x s → s2.at r = (lkS s sP).getD 0 ∧ s2.at r ≤ 1000000
theorem pkid_ac {s2 sP : Seen} {x y : Option Nat} {F : Nat → Nat → Seen → Option (Nat × Seen)} {F' : Nat → Nat → Seen → Bool → Option (Nat × Seen × Bool)} (c : Nat) (h0 : PC g f s2 sP) (hxy : x = none → y = none)
    (h : ∀ p, x = some p → ∃ q, y = some q ∧ ∃ c s2' sP', Ev (fun k => F k p s2) (c, s2') ∧ Ev (fun k => F' k q sP false) (c, sP', false) ∧ c ≤ 1000000 ∧ PC g f s2' sP' ∧ ∀ z, lkS z sP' = some 0 → lkS z sP = some 0) :
    ∃ c' s2' sP', Ev (fun k => pkid (F k) (some x) c s2) (c', s2') ∧ Ev (fun k => ckid (F' k) (some y) c sP false) (c', sP', false) ∧ (c ≤ c' ∧ c' ≤ c + 1000000) ∧ PC g f s2' sP' ∧ ∀ z, lkS z sP' = some 0 → lkS z sP = some 0 := by
  cases x with
  | none => rw [hxy rfl]; exact ⟨c, s2, sP, Ev.pure _, Ev.pure _, ⟨by omega, by omega⟩, h0, fun _ h => h⟩
  | some p =>
    obtain ⟨q, rfl, b, s2', sP', h1, h2, h3, h4, h5⟩ := h p rfl
    exact ⟨c + b, s2', sP', h1.of fun k hk => by simp only [pkid, hk], h2.of fun k hk => by simp only [ckid, hk], ⟨by omega, by omega⟩, h4, h5⟩
theorem count_ac (h2 : Two A e d T T' g f) (hT : T < big) (hT' : T' < big) : ∀ h n m s2 sP, Ht A (Eq1 g.link) h n → Eq1 g.link n m → PC g f s2 sP → (∀ x, lkS x sP = some 0 → ¬ Ht A (Eq1 g.link) h x) → n < A.kind.length → m < A.kind.length →
    ∃ c s2' sP', Ev (fun k => partsX k g n s2) (c, s2') ∧ Ev (fun k => cnt k f m sP false) (c, sP', false) ∧ c ≤ 1000000 ∧ PC g f s2' sP' ∧ ∀ z, lkS z sP' = some 0 → lkS z sP = some 0 := by
  intro h
  induction h with
  | zero => intro n m s2 sP hh; exact hh.elim
  | succ h ih =>
    intro n m s2 sP hh hnm hPC ho hn hm
    have eqv := eq1_eqv g.link
    obtain ⟨r, hr, rl, hrr, hnr⟩ := h2.ig.root hn
    obtain ⟨s, hs, sl, hss, hms⟩ := h2.jf.root hm
    have hs' : En f.link n s := by
      have : Eq1 f.link m n := by rw [← h2.E]; exact eqv.symm _ _ hnm
      exact this.en hs
    have hns : Eq1 g.link n s := by rw [h2.E]; exact hs'.eq1
    obtain ⟨kf, hf⟩ := hr.find
    obtain ⟨kg, hg⟩ := hs.find
    obtain ⟨pc, pcb⟩ := hPC n r s hr hs'
    by_cases hl : Ht A (Eq1 g.link) h n
    · exact ih n m s2 sP hl hnm hPC (fun x hx q => ho x hx q.mono) hn hm
    · cases hv : lkS s sP with
      | some v => cases v with
        | zero => exact absurd (hh.eqv eqv hns) (ho s hv)
        | succ v =>
          rw [hv] at pc
          change s2.at r = v + 1 at pc
          refine ⟨v + 1, s2, sP, enter kf fun k hk => by unfold partsX; simp only [hf k hk]; rw [if_pos (by omega), pc], enter kg fun k hk => by unfold cnt; simp only [hg k hk, hv], by omega, hPC, fun _ h => h⟩
      | none =>
        rw [hv] at pc
        change s2.at r = 0 at pc
        obtain ⟨kd, a1, a0, b1, b0, _⟩ := h2.node hr hs'
        have PC0 : PC g f s2 (sP.put s 0) := fun x r' s' hx hx' => by
          obtain ⟨p1, p2⟩ := hPC x r' s' hx hx'
          refine ⟨?_, p2⟩
          rw [lkS_put]
          split
          · rename_i q
            have := (h2.same hr hs' hx hx').2 q
            rw [this, pc]; rfl
          · exact p1
        have ho1 : ∀ x, lkS x (sP.put s 0) = some 0 → ¬ Ht A (Eq1 g.link) h x := fun x hx q => by
          rw [lkS_put] at hx
          split at hx
          · rename_i e1; subst e1; exact hl (q.eqv eqv (eqv.symm _ _ hns))
          · exact ho x hx q.mono
        obtain ⟨c1, t1, u1, ⟨ka, ha⟩, ⟨ka', ha'⟩, cb1, pc1, o1⟩ := pkid_ac (g := g) (f := f) (x := A.ka r) (y := A.ka s) (s2 := s2) (sP := sP.put s 0) (F := fun k => partsX k g) (F' := fun k => cnt k f) 1 PC0 a0 fun p hp => by
          obtain ⟨q, hq, hpq⟩ := a1 p hp
          exact ⟨q, hq, ih p q s2 _ (hh r hnr p (.inl hp)) hpq PC0 ho1 (h2.ig.klt rl (.inl hp)) (h2.jf.klt sl (.inl hq))⟩
        obtain ⟨c2, t2, u2, ⟨kb, hb⟩, ⟨kb', hb'⟩, cb2, pc2, o2⟩ := pkid_ac (g := g) (f := f) (x := A.kb r) (y := A.kb s) (s2 := t1) (sP := u1) (F := fun k => partsX k g) (F' := fun k => cnt k f) c1 pc1 b0 fun p hp => by
          obtain ⟨q, hq, hpq⟩ := b1 p hp
          exact ⟨q, hq, ih p q _ _ (hh r hnr p (.inr hp)) hpq pc1 (fun x hx => ho1 x (o1 x hx)) (h2.ig.klt rl (.inr hp)) (h2.jf.klt sl (.inr hq))⟩
        obtain ⟨j, ⟨kj, hj⟩, ⟨kj', hj'⟩, jb⟩ : ∃ j, Ev (fun k => ownX k g r) j ∧ Ev (fun k => ownX k f s) j ∧ j ≤ T := by
          by_cases h6 : A.kd r = 6
          · obtain ⟨x, y, l, v, w, hx, hy, ex, ey, _, _, _, hb⟩ := h2.rows hT hT' hr hs' h6
            refine ⟨l.length, ex.of fun k hk => ?_, ey.of fun k hk => ?_, hb⟩
            · unfold ownX; rw [h2.ig.gk rl, h6]; simp only [hx, hk]; rfl
            · unfold ownX; rw [h2.jf.gk sl, ← kd, h6]; simp only [hy, hk]; rfl
          · have z : ∀ {g : G} {r : Nat} (k : Nat), g.kind[r]? = some (A.kd r) → A.kd r ≠ 6 → ownX k g r = some 0 := fun k hk h6 => by
              unfold ownX; rw [hk]
              split
              · rename_i q; exact absurd (Option.some.inj q) h6
              · rfl
              · rename_i q; cases q
            exact ⟨0, (Ev.pure 0).of fun k _ => z k (h2.ig.gk rl) h6, (Ev.pure 0).of fun k _ => z k (h2.jf.gk sl) (by rw [← kd]; exact h6), Nat.zero_le _⟩
        have hle : c2 + j ≤ 2147483647 := by unfold big at hT; omega
        refine ⟨min (c2 + j) 1000000, t2.put r (min (c2 + j) 1000000), u2.put s (min (c2 + j) 1000000), enter (kf + ka + kb + kj) fun k hk => ?_, enter (kg + ka' + kb' + kj') fun k hk => ?_, by omega, fun x r' s' hx hx' => ?_, fun z hz => ?_⟩
        · unfold partsX; simp only [hf k (by omega)]; rw [if_neg (by omega)]
          simp only [h2.ig.ga rl, h2.ig.gb rl, ha k (by omega), hb k (by omega), hj k (by omega), if_pos hle]
        · unfold cnt; simp only [hg k (by omega), hv, h2.jf.ga sl, h2.jf.gb sl, ha' k (by omega), hb' k (by omega), hj' k (by omega), if_pos hle]
        · obtain ⟨p1, p2⟩ := pc2 x r' s' hx hx'
          have hsm := h2.same hr hs' hx hx'
          rw [at_put, lkS_put]
          by_cases q : r' = r
          · rw [if_pos q, if_pos (hsm.1 q)]; exact ⟨rfl, by omega⟩
          · rw [if_neg q, if_neg (fun k => q (hsm.2 k))]; exact ⟨p1, p2⟩
        · rw [lkS_put] at hz
          split at hz
          · have : min (c2 + j) 1000000 = 0 := by have := Option.some.inj hz; omega
            omega
          · rename_i q
            have := o1 z (o2 z hz)
            rwa [lkS_put, if_neg q] at this
end
def tkid (f : Nat → Nams → Option (Ty × Nams)) (x : Option (Option Nat)) (l : Nams) : Option (List Ty × Nams) := match x with
  | some none => some ([], l)
  | some (some m) => match f m l with
    | some (t, l) => some ([t], l)
    | none => none
  | none => none
def trow (k : Nat) (g : G) (kd n : Nat) (l : Nams) : Option (List Nm × Nat × Nams) := if kd = 6 then (match g.row[n]? with
  | some r => (match whole k g r [] with
    | some (ops, 0) => some (ops, 0, l)
    | some (ops, v + 1) => if l.r.length < big then (let (t, c) := numb l.r (v + 1); some (ops, c, { l with r := t })) else none
    | none => none)
  | none => none) else some ([], 0, l)
def toldX : Nat → G → Nat → Nams → Option (Ty × Nams)
  | 0, _, _, _ => none
  | k + 1, g, n, l => match find k g n with
    | some n => match g.kind[n]? with
      | some 0 => if l.t.length < big then (let (t, c) := numb l.t n; some (.mk 0 c 0 [] [], { l with t := t })) else none
      | some kd =>
        match tkid (toldX k g) g.a[n]? l with
        | some (ta, l) => match trow k g kd n l with
          | some (ops, c, l) => match tkid (toldX k g) g.b[n]? l with
            | some (tb, l) => some (.mk kd 0 c ops (ta ++ tb), l)
            | none => none
          | none => none
        | none => none
      | none => none
    | none => none
theorem told_X : ∀ k, told k = toldX k
  | 0 => by funext g n s; rfl
  | k + 1 => by funext g n s; unfold told toldX; rw [told_X k]; rfl
/-! ### Numbers -/
def NB (n : Nat) (l : List (Int × Nat)) : Prop := l.length + (List.range n).countP (fun x : Nat => (lookI x l).isNone) ≤ n
theorem lookI_app (n m : Int) (c : Nat) (l : List (Int × Nat)) : lookI n (l ++ [(m, c)]) = match lookI n l with | some k => some k | none => if m = n then some c else none := by
  induction l with
  | nil => rfl
  | cons p l ih =>
    obtain ⟨q, u⟩ := p
    simp only [List.cons_append, lookI, ih]
    by_cases e : q = n
    · simp only [if_pos e]
    · simp only [if_neg e]
theorem numb_NB {n r : Nat} {l : List (Int × Nat)} (h : NB n l) (hr : r < n) : NB n (numb l r).1 := by
  unfold numb
  cases hl : lookI r l with
  | some k => exact h
  | none =>
    unfold NB at h ⊢
    have := countP_drop (n := n) (r := r) (P := fun x : Nat => (lookI x l).isNone) (P' := fun x : Nat => (lookI x (l ++ [((r : Int), l.length + 1)])).isNone) (fun x hx => by
      rw [lookI_app] at hx; split at hx <;> simp_all) hr (by simp [hl]) (by simp [lookI_app, hl])
    simp only [List.length_append, List.length_singleton]
    omega
theorem NB.le {n : Nat} {l : List (Int × Nat)} (h : NB n l) : l.length ≤ n := by unfold NB at h; omega
theorem NB_nil (n : Nat) : NB n [] := by
  unfold NB
  have := List.countP_le_length (p := fun x : Nat => (lookI x []).isNone) (l := List.range n)
  rw [List.length_range] at this
  simpa using this
/-- How a list of numbers grows: alike for keys that are alike. -/
theorem numb_alike {l m : List (Int × Nat)} {a b : Nat} (hl : l.length = m.length) (hab : lookI a l = lookI b m) : (numb l a).2 = (numb m b).2 ∧ (numb l a).1.length = (numb m b).1.length ∧ ∀ x y : Nat, lookI x l = lookI y m → (x = a ↔ y = b) → lookI x (numb l a).1 = lookI y (numb m b).1 := by
  unfold numb
  rw [← hab]
  cases lookI a l with
  | some k => exact ⟨rfl, hl, fun x y h _ => h⟩
  | none =>
    refine ⟨by rw [hl], by simp [hl], fun x y h k => ?_⟩
    simp only [lookI_app]
    rw [h]
    cases lookI (↑y) m with
    | some _ => rfl
    | none =>
      have : ((a : Int) = (x : Int)) ↔ ((b : Int) = (y : Int)) := ⟨fun q => by have := k.1 (by omega); omega, fun q => by have := k.2 (by omega); omega⟩
      by_cases q : (a : Int) = x
      · rw [if_pos q, if_pos (this.1 q), hl]
      · rw [if_neg q, if_neg (fun q2 => q (this.2 q2))]
section
variable {A : AG} {e d : List Nat} {T T' : Nat} {g f : G}
/-- The numbers that are told so far. -/
structure NC (A : AG) (e d : List Nat) (g f : G) (l m : Nams) : Prop where
  t : ∀ x r s, En g.link x r → En f.link x s → lookI r l.t = lookI s m.t
  tl : l.t.length = m.t.length
  r : ∀ j v w, VR g e j v → VR f d j w → v ≠ 0 → lookI v l.r = lookI w m.r
  rl : l.r.length = m.r.length
  bt : NB A.kind.length l.t
  bt' : NB A.kind.length m.t
  br : NB g.next.length l.r
  br' : NB f.next.length m.r
theorem VR.lt (hI : Inv A e T g) {j v : Nat} (h : VR g e j v) : v < g.next.length := by
  obtain ⟨r, l, _, k⟩ := h
  exact hI.ri.lt k
theorem Two.vr (h : Two A e d T T' g f) {i j v w v' w' : Nat} (h1 : VR g e i v) (h2 : VR f d i v') (k1 : VR g e j w) (k2 : VR f d j w') : (v = 0 ↔ v' = 0) ∧ (v = w ↔ v' = w') := by
  obtain ⟨r, l, hr, kr⟩ := h1
  obtain ⟨r', l', hr', kr'⟩ := h2
  obtain ⟨s, m, hs, ks⟩ := k1
  obtain ⟨s', m', hs', ks'⟩ := k2
  have a := h.tell hr hr' hs hs' kr kr' ks ks'
  have b := h.symm.tell hr' hr hs' hs kr' kr ks' ks
  exact ⟨a.2.1, a.2.2, b.2.2⟩
theorem tkid_ac {l m : Nams} {x y : Option Nat} {F F' : Nat → Nat → Nams → Option (Ty × Nams)} (h0 : NC A e d g f l m) (hxy : x = none → y = none)
    (h : ∀ p, x = some p → ∃ q, y = some q ∧ ∃ t l' m', Ev (fun k => F k p l) (t, l') ∧ Ev (fun k => F' k q m) (t, m') ∧ NC A e d g f l' m') :
    ∃ t l' m', Ev (fun k => tkid (F k) (some x) l) (t, l') ∧ Ev (fun k => tkid (F' k) (some y) m) (t, m') ∧ NC A e d g f l' m' := by
  cases x with
  | none => rw [hxy rfl]; exact ⟨[], l, m, Ev.pure _, Ev.pure _, h0⟩
  | some p =>
    obtain ⟨q, rfl, t, l', m', h1, h2, h3⟩ := h p rfl
    exact ⟨[t], l', m', h1.of fun k hk => by simp only [tkid, hk], h2.of fun k hk => by simp only [tkid, hk], h3⟩
theorem told_ac (h2 : Two A e d T T' g f) (hT : T < big) (hT' : T' < big) (hn1 : A.kind.length < big) (hn2 : g.next.length < big) (hn3 : f.next.length < big) : ∀ h n m l lP, Ht A (Eq1 g.link) h n → Eq1 g.link n m → NC A e d g f l lP → n < A.kind.length → m < A.kind.length →
    ∃ t l' lP', Ev (fun k => toldX k g n l) (t, l') ∧ Ev (fun k => toldX k f m lP) (t, lP') ∧ NC A e d g f l' lP' := by
  intro h
  induction h with
  | zero => intro n m s2 sP hh; exact hh.elim
  | succ h ih =>
    intro n m l lP hh hnm hNC hn hm
    have eqv := eq1_eqv g.link
    obtain ⟨r, hr, rl, hrr, hnr⟩ := h2.ig.root hn
    obtain ⟨s, hs, sl, hss, hms⟩ := h2.jf.root hm
    have hs' : En f.link n s := by
      have : Eq1 f.link m n := by rw [← h2.E]; exact eqv.symm _ _ hnm
      exact this.en hs
    obtain ⟨kf, hf⟩ := hr.find
    obtain ⟨kg, hg⟩ := hs.find
    obtain ⟨kd, a1, a0, b1, b0, _⟩ := h2.node hr hs'
    have gk := h2.ig.gk rl
    have fk := h2.jf.gk sl
    rw [← kd] at fk
    by_cases k0 : A.kd r = 0
    · have hb1 : l.t.length < big := by have := hNC.bt.le; omega
      have hb2 : lP.t.length < big := by have := hNC.bt'.le; omega
      obtain ⟨n1, n2, n3⟩ := numb_alike hNC.tl (hNC.t n r s hr hs')
      refine ⟨.mk 0 (numb l.t r).2 0 [] [], { l with t := (numb l.t r).1 }, { lP with t := (numb lP.t s).1 }, enter kf fun k hk => ?_, enter kg fun k hk => ?_, ⟨fun x r' s' hx hx' => n3 _ _ (hNC.t x r' s' hx hx') (h2.same hr hs' hx hx'), n2, hNC.r, hNC.rl, numb_NB hNC.bt rl, numb_NB hNC.bt' sl, hNC.br, hNC.br'⟩⟩
      · unfold toldX; simp only [hf k hk, gk, k0, if_pos hb1]
      · unfold toldX; simp only [hg k hk, fk, k0, if_pos hb2, n1]
    · obtain ⟨z, hz⟩ : ∃ z, A.kd r = z + 1 := ⟨A.kd r - 1, by omega⟩
      obtain ⟨ta, l1, m1, ⟨ka, ha⟩, ⟨ka', ha'⟩, N1⟩ := tkid_ac (x := A.ka r) (y := A.ka s) (F := fun k => toldX k g) (F' := fun k => toldX k f) hNC a0 fun p hp => by
        obtain ⟨q, hq, hpq⟩ := a1 p hp
        exact ⟨q, hq, ih p q l lP (hh r hnr p (.inl hp)) hpq hNC (h2.ig.klt rl (.inl hp)) (h2.jf.klt sl (.inl hq))⟩
      obtain ⟨ops, c, l2, m2, ⟨kw, hw⟩, ⟨kw', hw'⟩, N2⟩ : ∃ ops c l2 m2, Ev (fun k => trow k g (z + 1) r l1) (ops, c, l2) ∧ Ev (fun k => trow k f (z + 1) s m1) (ops, c, m2) ∧ NC A e d g f l2 m2 := by
        by_cases h6 : A.kd r = 6
        · have z5 : z + 1 = 6 := by omega
          obtain ⟨x, y, lo, v, w, hx, hy, ex, ey, vx, vy, v0, _⟩ := h2.rows hT hT' hr hs' h6
          rcases v with _ | v
          · have := v0.1 rfl
            subst this
            exact ⟨lo, 0, l1, m1, ex.of fun k hk => by unfold trow; simp only [if_pos z5, hx, hk], ey.of fun k hk => by unfold trow; simp only [if_pos z5, hy, hk], N1⟩
          · rcases w with _ | w
            · exact absurd (v0.2 rfl) (by omega)
            · have hb1 : l1.r.length < big := by have := N1.br.le; omega
              have hb2 : m1.r.length < big := by have := N1.br'.le; omega
              obtain ⟨n1, n2, n3⟩ := numb_alike N1.rl (N1.r _ _ _ vx vy (by omega))
              refine ⟨lo, (numb l1.r (v + 1 : Nat)).2, { l1 with r := (numb l1.r (v + 1 : Nat)).1 }, { m1 with r := (numb m1.r (w + 1 : Nat)).1 }, ex.of fun k hk => ?_, ey.of fun k hk => ?_, ⟨N1.t, N1.tl, fun j v' w' hv hw0 hne => n3 _ _ (N1.r j v' w' hv hw0 hne) (h2.vr hv hw0 vx vy).2, n2, N1.bt, N1.bt', numb_NB N1.br (vx.lt h2.ig), numb_NB N1.br' (vy.lt h2.jf)⟩⟩
              · unfold trow; simp only [if_pos z5, hx, hk, if_pos hb1]
              · unfold trow; simp only [if_pos z5, hy, hk, if_pos hb2, n1]
        · have z5 : ¬ z + 1 = 6 := by omega
          exact ⟨[], 0, l1, m1, (Ev.pure ()).of fun k _ => by unfold trow; rw [if_neg z5], (Ev.pure ()).of fun k _ => by unfold trow; rw [if_neg z5], N1⟩
      obtain ⟨tb, l3, m3, ⟨kb, hb⟩, ⟨kb', hb'⟩, N3⟩ := tkid_ac (x := A.kb r) (y := A.kb s) (F := fun k => toldX k g) (F' := fun k => toldX k f) N2 b0 fun p hp => by
        obtain ⟨q, hq, hpq⟩ := b1 p hp
        exact ⟨q, hq, ih p q l2 m2 (hh r hnr p (.inr hp)) hpq N2 (h2.ig.klt rl (.inr hp)) (h2.jf.klt sl (.inr hq))⟩
      refine ⟨.mk (z + 1) 0 c ops (ta ++ tb), l3, m3, enter (kf + ka + kb + kw) fun k hk => ?_, enter (kg + ka' + kb' + kw') fun k hk => ?_, N3⟩
      · unfold toldX; simp only [hf k (by omega), gk, hz, h2.ig.ga rl, h2.ig.gb rl, ha k (by omega), hw k (by omega), hb k (by omega)]
      · unfold toldX; simp only [hg k (by omega), fk, hz, h2.jf.ga sl, h2.jf.gb sl, ha' k (by omega), hw' k (by omega), hb' k (by omega)]
end
/-! ### New nodes and rows -/
section
variable {ops : List (List Nm)} {nx : List (Option Nat)} {T : Nat}
theorem RI.fresh (h : RI ops nx T) (q : Nat) : (stR ops nx).nx q ≠ .row nx.length := fun hq => by
  simp only [stR] at hq
  split at hq
  · cases hq
  · rename_i q2 h9
    cases hx : nx.length with
    | zero => have := h.zpos; omega
    | succ x =>
      rw [hx] at hq
      cases hq
      obtain ⟨l, u, k⟩ := h.all q (List.getElem?_eq_some_iff.1 h9).1
      cases k with
      | nil k _ => rw [h9] at k; cases k
      | opn k _ => rw [h9] at k; cases k
      | row k _ k2 => rw [h9] at k; cases k; have := k2.lt; omega
  · cases hq
theorem RI.upd (h : RI ops nx T) {ρ : Nat → Bag Nm} (hs : Sat (stR ops nx) ρ) (b : Bag Nm) : Sat (stR ops nx) (fun q => if q = nx.length then b else ρ q) := fun r => by
  have hr := hs r
  have hf := h.fresh r
  by_cases e : r = nx.length
  · have : (stR ops nx).nx r = .opn := by simp [stR, e]
    rw [this]; trivial
  · split
    · rename_i hn; rw [hn] at hr; simp only [if_neg e]; exact hr
    · trivial
    · rename_i q hn
      rw [hn] at hr hf
      have : q ≠ nx.length := fun e2 => hf (by rw [e2])
      simp only [if_neg e, if_neg this]; exact hr
/-- A new row with names; q: what comes then (0: nothing). -/
theorem RI.put (h : RI ops nx T) (l : List Nm) {q : Nat} (hq : q < nx.length) : RI (ops ++ [l]) (nx ++ [some q]) (T + l.length) := by
  have hl : (ops ++ [l])[nx.length]? = some l := by rw [← h.len]; simp
  have hn : (nx ++ [some q])[nx.length]? = some (some q) := by simp
  obtain ⟨m, v, hm⟩ := h.all q hq
  obtain ⟨L, V, own, hV, hLl⟩ : ∃ L V, WhL (ops ++ [l]) (nx ++ [some q]) nx.length L V ∧ (V < nx.length ∧ ∃ m', WhL ops nx q m' V) ∧ L.length ≤ l.length + m.length := by
    rcases q with _ | q
    · cases hm with
      | nil k ko => exact ⟨l, 0, .nil hn hl, ⟨h.zpos, _, .nil k ko⟩, by omega⟩
      | opn k _ => rw [h.z] at k; cases k
      | row k _ _ => rw [h.z] at k; cases k
    · exact ⟨l ++ m, v, .row hn hl (hm.app _ _), ⟨h.lt hm, m, hm⟩, by simp⟩
  obtain ⟨hV, m', hm'⟩ := hV
  obtain ⟨e1, e2⟩ := hm'.det hm
  subst e1 e2
  refine ⟨by simp [h.len], by rw [List.getElem?_append_left h.zpos]; exact h.z, fun r hr => ?_, fun r hr => ?_, ?_⟩
  · rcases Nat.lt_or_ge r nx.length with q | q
    · rw [List.getElem?_append_left q] at hr
      rw [List.getElem?_append_left (by rw [h.len]; exact q)]; exact h.op r hr
    · have := (List.getElem?_eq_some_iff.1 hr).1
      have e : r = nx.length := by simp at this; omega
      subst e; rw [hn] at hr; cases hr
  · rcases Nat.lt_or_ge r nx.length with q | q
    · obtain ⟨l, u, k⟩ := h.all r q; exact ⟨l, u, k.app _ _⟩
    · have e : r = nx.length := by simp at hr; omega
      subst e; exact ⟨_, _, own⟩
  · obtain ⟨W, h1, h2⟩ := h.ms
    refine ⟨fun u => if u = V then W V + l.length else if u = nx.length then 0 else W u, fun r l' u k => ?_, ?_⟩
    · have hmb := h1 _ _ _ hm'
      rcases Nat.lt_or_ge r nx.length with q | q
      · obtain ⟨l0, u0, k0⟩ := h.all r q
        obtain ⟨rfl, rfl⟩ := k.det (k0.app _ _)
        have a := h1 _ _ _ k0
        have b := h.lt k0
        show l'.length ≤ if u = V then W V + l.length else if u = nx.length then 0 else W u
        split
        · rename_i e; subst e; omega
        · rw [if_neg (by omega)]; exact a
      · have e : r = nx.length := by have := k.lt; simp at this; omega
        subst e
        obtain ⟨rfl, rfl⟩ := k.det own
        simp only [if_true]
        omega
    · rw [List.length_append, List.length_singleton, sumW_succ]
      have a := sumW_upd W (W V + l.length) hV
      rw [sumW_congr (V := fun u => if u = V then W V + l.length else W u) (fun u hu => by
        by_cases e : u = V
        · rw [if_pos e, if_pos e]
        · rw [if_neg e, if_neg e, if_neg (by omega)])]
      rw [if_neg (by omega), if_pos rfl]
      omega
theorem stR_put (h : RI ops nx T) (l : List Nm) (q : Nat) : stR (ops ++ [l]) (nx ++ [some q]) = Urw.put (stR ops nx) nx.length (bag l) (match q with | 0 => .none | q + 1 => .row (q + 1)) := by
  have e1 : ops ++ [l] = (ops ++ [[]]).set nx.length l := by rw [← h.len]; simp
  have e2 : nx ++ [some q] = (nx ++ [none]).set nx.length (some q) := by simp
  rw [e1, e2, stR_set (by simp [h.len]) (by simp), stR_open h.len]
  cases q <;> rfl
theorem getE {e : List Nat} {z : Nat} {P : Nat → Nat → Prop} : (∀ j x, (e ++ [z])[j]? = some x → P j x) ↔ (∀ j x, e[j]? = some x → P j x) ∧ P e.length z := by
  constructor
  · intro h
    exact ⟨fun j x hj => h j x (by rw [List.getElem?_append_left (List.getElem?_eq_some_iff.1 hj).1]; exact hj), h _ _ (by simp)⟩
  · rintro ⟨h1, h2⟩ j x hj
    rcases Nat.lt_or_ge j e.length with q | q
    · rw [List.getElem?_append_left q] at hj; exact h1 j x hj
    · rw [List.getElem?_append_right q] at hj
      cases hq : j - e.length with
      | zero => rw [hq] at hj; simp at hj; subst hj; have : j = e.length := by omega
                subst this; exact h2
      | succ m => rw [hq] at hj; simp at hj
/-- An open row more: any row. -/
theorem SolR.open (h : RI ops nx T) {e : List Nat} (he : ∀ x ∈ e, x < nx.length) (ρ : Nat → Bag Nm) : SolR (ops ++ [[]]) (nx ++ [none]) (e ++ [nx.length]) ρ ↔ SolR ops nx e ρ := by
  unfold SolR
  rw [stR_open h.len]
  constructor
  · rintro ⟨ρ', h1, h2⟩; exact ⟨ρ', (getE.1 h1).1, h2⟩
  · rintro ⟨ρ', h1, h2⟩
    refine ⟨_, getE.2 ⟨fun j x hj => ?_, ?_⟩, h.upd h2 (ρ e.length)⟩
    · have := he x (List.mem_of_getElem? hj)
      rw [if_neg (by omega)]; exact h1 j x hj
    · rw [if_pos rfl]
/-- What comes behind a new row. -/
def Nxt (e : List Nat) (v : Option Nat) (q : Nat) : Prop := match v with
  | none => q = 0
  | some j => q ≠ 0 ∧ e[j]? = some q
/-- A row more. -/
theorem SolR.put (h : RI ops nx T) {e : List Nat} (he : ∀ x ∈ e, x < nx.length) (l : List Nm) {q : Nat} {v : Option Nat} (hq : Nxt e v q) (ρ : Nat → Bag Nm) :
    SolR (ops ++ [l]) (nx ++ [some q]) (e ++ [nx.length]) ρ ↔ SolR ops nx e ρ ∧ ρ e.length = add (bag l) (ov ρ v) := by
  unfold SolR
  rw [stR_put h]
  have ho : (stR ops nx).nx nx.length = .opn := by simp [stR]
  constructor
  · rintro ⟨ρ', h1, h2⟩
    obtain ⟨h3, h4⟩ := (put_sat ho).1 h2
    obtain ⟨h5, h6⟩ := getE.1 h1
    refine ⟨⟨ρ', h5, h3⟩, ?_⟩
    rw [← h6]
    cases v with
    | none => cases hq; show _ = add _ zb; rw [add_zb]; exact h4
    | some j =>
      obtain ⟨q0, hj⟩ := hq
      obtain ⟨p, rfl⟩ : ∃ p, q = p + 1 := ⟨q - 1, by omega⟩
      show _ = add _ (ρ j)
      rw [← h5 j _ hj]; exact h4
  · rintro ⟨⟨ρ', h1, h2⟩, h3⟩
    refine ⟨_, getE.2 ⟨fun j x hj => ?_, ?_⟩, (put_sat ho).2 ⟨h.upd h2 (ρ e.length), ?_⟩⟩
    · have := he x (List.mem_of_getElem? hj)
      rw [if_neg (by omega)]; exact h1 j x hj
    · rw [if_pos rfl]
    · cases v with
      | none => cases hq; show (if _ then _ else _) = _; rw [if_pos rfl, h3]; exact add_zb _
      | some j =>
        obtain ⟨q0, hj⟩ := hq
        obtain ⟨p, rfl⟩ : ∃ p, q = p + 1 := ⟨q - 1, by omega⟩
        have := he _ (List.mem_of_getElem? hj)
        show (if _ then _ else _) = add _ (if _ then _ else _)
        rw [if_pos rfl, if_neg (by omega), h3, h1 j _ hj]; rfl
end
section
variable {A : AG} {e d : List Nat} {T T' : Nat} {g f : G}
def AG.app (A : AG) (kd : Nat) (a b : Option Nat) (j : Nat) : AG := ⟨A.kind ++ [kd], A.a ++ [a], A.b ++ [b], A.rj ++ [j]⟩
theorem app_at {α : Type} {l : List α} {x : α} {i : Nat} {y : α} (h : (l ++ [x])[i]? = some y) : i < l.length ∧ l[i]? = some y ∨ i = l.length ∧ y = x := by
  rcases Nat.lt_or_ge i l.length with q | q
  · rw [List.getElem?_append_left q] at h; exact .inl ⟨q, h⟩
  · have := (List.getElem?_eq_some_iff.1 h).1
    have e : i = l.length := by simp at this; omega
    subst e; simp at h; exact .inr ⟨rfl, h.symm⟩
theorem app_l {α : Type} {l : List α} {i : Nat} (h : i < l.length) (x : α) : (l ++ [x])[i]? = l[i]? := List.getElem?_append_left h
/-- What a new node has to be. -/
structure NewNd (A : AG) (n kd : Nat) (a b : Option Nat) (j : Nat) : Prop where
  a1 : (kd = 4 ∨ kd = 5 ∨ kd = 6) → ∃ p, a = some p ∧ p < A.kind.length
  a0 : ¬ (kd = 4 ∨ kd = 5 ∨ kd = 6) → a = none
  b1 : (kd = 5 ∨ kd = 6) → ∃ p, b = some p ∧ p < A.kind.length
  b0 : ¬ (kd = 5 ∨ kd = 6) → b = none
  j : j < n
theorem AG.WF.app {n kd j : Nat} {a b : Option Nat} (h : A.WF n) (k : NewNd A n kd a b j) : (A.app kd a b j).WF n := by
  have la := h.la
  have lb := h.lb
  have lr := h.lr
  refine ⟨by simp [AG.app, la], by simp [AG.app, lb], by simp [AG.app, lr], fun x k' hk q => ?_, fun x k' hk q => ?_, fun x k' hk q => ?_, fun x k' hk q => ?_, fun x j' hj => ?_⟩
  · rcases app_at hk with ⟨hl, h1⟩ | ⟨rfl, rfl⟩
    · show ∃ p, (A.a ++ [a])[x]? = _ ∧ _
      rw [app_l (by omega)]; exact h.a1 x k' h1 q
    · obtain ⟨p, rfl, hp⟩ := k.a1 q
      exact ⟨p, by show (A.a ++ [some p])[_]? = _; rw [← la]; simp, hp⟩
  · rcases app_at hk with ⟨hl, h1⟩ | ⟨rfl, rfl⟩
    · show (A.a ++ [a])[x]? = _
      rw [app_l (by omega)]; exact h.a0 x k' h1 q
    · rw [k.a0 q]
      show (A.a ++ [none])[_]? = _
      rw [← la]; simp
  · rcases app_at hk with ⟨hl, h1⟩ | ⟨rfl, rfl⟩
    · show ∃ p, (A.b ++ [b])[x]? = _ ∧ _
      rw [app_l (by omega)]; exact h.b1 x k' h1 q
    · obtain ⟨p, rfl, hp⟩ := k.b1 q
      exact ⟨p, by show (A.b ++ [some p])[_]? = _; rw [← lb]; simp, hp⟩
  · rcases app_at hk with ⟨hl, h1⟩ | ⟨rfl, rfl⟩
    · show (A.b ++ [b])[x]? = _
      rw [app_l (by omega)]; exact h.b0 x k' h1 q
    · rw [k.b0 q]
      show (A.b ++ [none])[_]? = _
      rw [← lb]; simp
  · rcases app_at hj with ⟨hl, h1⟩ | ⟨rfl, rfl⟩
    · exact h.rj x j' h1
    · exact k.j
theorem AG.app_kd {kd j x : Nat} {a b : Option Nat} (h : x < A.kind.length) : (A.app kd a b j).kd x = A.kd x := by unfold AG.kd AG.app; rw [app_l h]
def gput (g : G) (kd : Nat) (a b : Option Nat) (r : Nat) : G := ⟨g.kind ++ [kd], g.a ++ [a], g.b ++ [b], g.row ++ [r], g.link ++ [none], g.ops, g.next, g.tv, g.rv⟩
theorem put_ev (g : G) (kd : Nat) (a b : Option Nat) (r : Nat) (h : g.kind.length < big) : g.put kd a b r = some (gput g kd a b r, g.kind.length) := by
  unfold G.put
  rw [if_pos h]
  simp only [wO_eq, wN_eq, wL_eq, gput]
theorem Inv.put (h : Inv A e T g) {kd j r : Nat} {a b : Option Nat} (k : NewNd A e.length kd a b j) (hr : e[j]? = some r) : Inv (A.app kd a b j) e T (gput g kd a b r) := by
  refine ⟨by simp [gput, AG.app, h.kind], by simp [gput, AG.app, h.a], by simp [gput, AG.app, h.b], by simp [gput, AG.app, h.row, hr], by simp [gput, AG.app, h.ll], h.all.app, h.ri, h.el, h.wf.app k, fun x z hz k0 => ?_⟩
  rcases Nat.lt_or_ge x A.kind.length with q | q
  · have hz' : En g.link x z := hz.app_back h.all (by rw [h.ll]; exact q)
    have hzl := hz'.lt2
    rw [h.ll] at hzl
    rw [AG.app_kd hzl] at k0
    rw [AG.app_kd q]; exact h.vr x z hz' k0
  · have hx : x = g.link.length := by have := hz.lt; simp [gput, h.ll] at this; rw [h.ll]; omega
    have : z = x := (hz.det (.here (by rw [hx]; simp [gput])))
    rw [← this]; exact k0
theorem alike_refl {gr : Gr} {F : Rel} {ρ : Nat → Bag Nm} (hF : Eqv F) (x : Nat) : Alike gr F ρ x x := alike_iff.2 ⟨fun i a b ha hb => by rw [ha] at hb; cases hb; exact hF.refl a, fun r s hr hs => by rw [hr] at hs; cases hs; rfl⟩
theorem Upto.app {E : Rel} {S : (Nat → Bag Nm) → Prop} (h : Upto (grA A) E S []) (w : A.WF e.length) (hE : ∀ x y, E x y → x = y ∨ x < A.kind.length ∧ y < A.kind.length) (kd : Nat) (a b : Option Nat) (j : Nat) : Upto (grA (A.app kd a b j)) E S [] := by
  have vr : ∀ x, x < A.kind.length → ((grA (A.app kd a b j)).var x ↔ (grA A).var x) := fun x hx => by
    show (A.app kd a b j).kd x = 0 ↔ A.kd x = 0; rw [AG.app_kd hx]
  have kk : ∀ x, x < A.kind.length → (grA (A.app kd a b j)).kids x = (grA A).kids x ∧ (grA (A.app kd a b j)).row x = (grA A).row x := fun x hx => by
    have la := w.la
    have lb := w.lb
    have lr := w.lr
    constructor
    · show kidsK ((A.app kd a b j).kd x) _ _ = kidsK (A.kd x) _ _
      rw [AG.app_kd hx]
      unfold AG.pa AG.pb AG.app
      rw [app_l (by omega), app_l (by omega)]
    · show (if (A.app kd a b j).kd x = 6 then some (((A.app kd a b j).rj[x]?).getD 0) else none) = if A.kd x = 6 then some ((A.rj[x]?).getD 0) else none
      rw [AG.app_kd hx]
      unfold AG.app
      rw [app_l (by omega)]
  refine ⟨h.eqv, fun x y vx vy hxy => ?_, fun F ρ hF hEF hS ht x y vx vy hxy => ?_⟩
  · rcases hE x y hxy with rfl | ⟨hx, hy⟩
    · rfl
    · show (A.app kd a b j).kd x = (A.app kd a b j).kd y
      rw [AG.app_kd hx, AG.app_kd hy]
      exact h.kd x y (fun q => vx ((vr x hx).2 q)) (fun q => vy ((vr y hy).2 q)) hxy
  · rcases hE x y hxy with rfl | ⟨hx, hy⟩
    · exact alike_refl hF x
    · have := alike_iff.1 (h.al F ρ hF hEF hS ht x y (fun q => vx ((vr x hx).2 q)) (fun q => vy ((vr y hy).2 q)) hxy)
      refine alike_iff.2 ?_
      rw [(kk x hx).1, (kk x hx).2, (kk y hy).1, (kk y hy).2]; exact this
theorem Upto.sub {gr : Gr} {E : Rel} {S S' : (Nat → Bag Nm) → Prop} (h : Upto gr E S []) (k : ∀ ρ, S' ρ → S ρ) : Upto gr E S' [] := ⟨h.eqv, h.kd, fun F ρ hF hE hS ht => h.al F ρ hF hE (k ρ hS) ht⟩
theorem Two.putN (h : Two A e d T T' g f) {kd j r s : Nat} {a b : Option Nat} (k : NewNd A e.length kd a b j) (hr : e[j]? = some r) (hs : d[j]? = some s) : Two (A.app kd a b j) e d T T' (gput g kd a b r) (gput f kd a b s) := by
  have e1 : Eq1 (g.link ++ [none]) = Eq1 g.link := eq1_app h.ig.all
  refine ⟨h.ig.put k hr, h.jf.put (h.n ▸ k) hs, h.n, ?_, h.S, ?_⟩
  · show Eq1 (g.link ++ [none]) = Eq1 (f.link ++ [none])
    rw [e1, eq1_app h.jf.all]; exact h.E
  · show Upto _ (Eq1 (g.link ++ [none])) _ _
    rw [e1]
    exact Upto.app h.up h.ig.wf (fun x y hxy => by rw [← h.ig.ll]; exact hxy.lt) kd a b j
def gopn (g : G) (l : List Nm) (q : Option Nat) : G := ⟨g.kind, g.a, g.b, g.row, g.link, g.ops ++ [l], g.next ++ [q], g.tv, g.rv⟩
theorem putRow_ev (g : G) (l : List Nm) (q : Option Nat) (h : g.ops.length < big) : g.putRow l q = some (gopn g l q, g.ops.length) := by
  unfold G.putRow
  rw [if_pos h]
  simp only [wO_eq, wN_eq, wL_eq, gopn]
theorem rj_app (w : A.WF e.length) (z : Nat) : A.rj.map (fun j => ((e ++ [z])[j]?).getD 0) = A.rj.map fun j => (e[j]?).getD 0 := List.map_congr_left fun j hj => by
  obtain ⟨x, hx⟩ := List.getElem?_of_mem hj
  have := w.rj x j hx
  rw [app_l this]
theorem Inv.rowA (h : Inv A e T g) {l : List Nm} {q : Option Nat} {T1 : Nat} (hr : RI (g.ops ++ [l]) (g.next ++ [q]) T1) : Inv A (e ++ [g.next.length]) T1 (gopn g l q) :=
  ⟨h.kind, h.a, h.b, by rw [rj_app h.wf]; exact h.row, h.ll, h.all, hr, fun x hx => by
    show x < (g.next ++ [q]).length
    rw [List.length_append, List.length_singleton]
    rcases List.mem_append.1 hx with q | q
    · have := h.el x q; omega
    · rw [List.mem_singleton.1 q]; omega, ⟨h.wf.la, h.wf.lb, h.wf.lr, h.wf.a1, h.wf.a0, h.wf.b1, h.wf.b0, fun x j hj => by have := h.wf.rj x j hj; simp; omega⟩, h.vr⟩
theorem Two.opn (h : Two A e d T T' g f) : Two A (e ++ [g.next.length]) (d ++ [f.next.length]) T T' (gopn g [] none) (gopn f [] none) := by
  have sg := SolR.open h.ig.ri h.ig.el
  have sf := SolR.open h.jf.ri h.jf.el
  exact ⟨h.ig.rowA h.ig.ri.open, h.jf.rowA h.jf.ri.open, by simp [h.n], h.E, fun ρ => (sg ρ).trans ((h.S ρ).trans (sf ρ).symm), Upto.sub h.up fun ρ hρ => (sg ρ).1 hρ⟩
theorem Two.row (h : Two A e d T T' g f) (l : List Nm) {q q' : Nat} {v : Option Nat} (hq : Nxt e v q) (hq' : Nxt d v q') :
    Two A (e ++ [g.next.length]) (d ++ [f.next.length]) (T + l.length) (T' + l.length) (gopn g l (some q)) (gopn f l (some q')) := by
  have lt : ∀ {e : List Nat} {T : Nat} {g : G}, Inv A e T g → ∀ {q : Nat}, Nxt e v q → q < g.next.length := by
    intro e T g hI q hq
    cases v with
    | none => cases hq; exact hI.ri.zpos
    | some j => exact hI.el _ (List.mem_of_getElem? hq.2)
  have sg := SolR.put h.ig.ri h.ig.el l hq
  have sf := SolR.put h.jf.ri h.jf.el l hq'
  exact ⟨h.ig.rowA (h.ig.ri.put l (lt h.ig hq)), h.jf.rowA (h.jf.ri.put l (lt h.jf hq')), by simp [h.n], h.E, fun ρ => (sg ρ).trans (by rw [h.n]; exact (and_congr_left' (h.S ρ)).trans (sf ρ).symm), Upto.sub h.up fun ρ hρ => ((sg ρ).1 hρ).1⟩
end
end Go.Slv
