/- Round, Parts and Told of two graphs that stand for the same (plain law). -/
import Derived.Test.YtfkkocjheeoobaaGraph
set_option linter.unusedVariables false
set_option linter.unusedSimpArgs false
set_option linter.unusedVariables false
set_option linter.unusedSimpArgs false
namespace Go.Slv
open Go.Inf Go.Urw Go.Ucl
/-! ### The functions, taken apart -/
def ownX (k : Nat) (g : G) (n : Nat) : Option Nat := match g.kind[n]? with
  | some 6 => (match g.row[n]? with
    | some r => (whole k g r []).map fun p => p.1.length
    | none => none)
  | some _ => some 0
  | none => none
/-- The program's: what has been seen; 0: it is open. -/
def lkS (n : Nat) : Seen → Option Nat
  | [] => none
  | (m, v) :: r => if m = n then some v else lkS n r
def ckid (f : Nat → Seen → Bool → Option (Nat × Seen × Bool)) (x : Option (Option Nat)) (c : Nat) (s : Seen) (fl : Bool) : Option (Nat × Seen × Bool) := match x with
  | some none => some (c, s, fl)
  | some (some m) => match f m s fl with
    | some (j, s, fl) => some (c + j, s, fl)
    | none => none
  | none => none
def cnt : Nat → G → Nat → Seen → Bool → Option (Nat × Seen × Bool)
  | 0, _, _, _, _ => none
  | k + 1, g, n, s, fl => match find k g n with
    | some n => match lkS n s with
      | some 0 => some (0, s, true)
      | some (c + 1) => some (c + 1, s, fl)
      | none => match ckid (cnt k g) g.a[n]? 1 (s.put n 0) fl with
        | some (c, s, fl) => match ckid (cnt k g) g.b[n]? c s fl with
          | some (c, s, fl) => match ownX k g n with
            | some j => if c + j ≤ 2147483647 then some (min (c + j) 1000000, s.put n (min (c + j) 1000000), fl) else none
            | none => none
          | none => none
        | none => none
    | none => none
theorem lkS_put (s : Seen) (n v m : Nat) : lkS m (s.put n v) = if m = n then some v else lkS m s := by
  induction s with
  | nil =>
    simp only [Seen.put, lkS]
    by_cases e : n = m
    · rw [if_pos e, if_pos e.symm]
    · rw [if_neg e, if_neg (Ne.symm e)]
  | cons p r ih =>
    obtain ⟨q, u⟩ := p
    by_cases e1 : q = n
    · subst e1
      simp only [Seen.put, if_true, lkS]
      by_cases e2 : q = m
      · rw [if_pos e2, if_pos e2.symm]
      · rw [if_neg e2, if_neg (Ne.symm e2), if_neg e2]
    · simp only [Seen.put, if_neg e1, lkS, ih]
      by_cases e2 : q = m
      · rw [if_pos e2, if_neg (fun h => e1 (e2.trans h)), if_pos e2]
      · rw [if_neg e2, if_neg e2]
section
variable {A : AG} {e : List Nat} {T : Nat} {g : G}
theorem enter {α : Type} {f : Nat → Option α} {r : α} (K : Nat) (h : ∀ k, K ≤ k → f (k + 1) = some r) : Ev f r := Ev.step (F := fun k => f (k + 1)) (fun _ => rfl) ⟨K, h⟩
/-! ### Round -/
/-! ### The program's count -/
/-- What is true of the program's count at all times. -/
structure Pi (A : AG) (E : Rel) (s : Seen) (fl : Bool) : Prop where
  v : ∀ x c, lkS x s = some c → c ≤ 1000000
  d : fl = false → ∀ x c, lkS x s = some (c + 1) → Ac A E x
end
section
variable {A : AG} {e d : List Nat} {T T' : Nat} {g f : G}
/-- Two classes are one here iff they are there. -/
theorem Two.same (h : Two A e d T T' g f) {x n r s r' s' : Nat} (hr : En g.link n r) (hs : En f.link n s) (hr' : En g.link x r') (hs' : En f.link x s') : r' = r ↔ s' = s := by
  constructor
  · rintro rfl
    have : Eq1 g.link x n := .inr ⟨_, hr', hr⟩
    rw [h.E] at this
    exact ((this.en hs').det hs)
  · rintro rfl
    have : Eq1 f.link x n := .inr ⟨_, hs', hs⟩
    rw [← h.E] at this
    exact ((this.en hr').det hr)
/-- What the document has counted is what the program has. -/
def PC (g f : G) (s2 sP : Seen) : Prop := ∀ x r s, En g.link x r → En f.link x s → s2.at r = (lkS s sP).getD 0 ∧ s2.at r ≤ 1000000
end
def tkid (f : Nat → Nams → Option (Ty × Nams)) (x : Option (Option Nat)) (l : Nams) : Option (List Ty × Nams) := match x with
  | some none => some ([], l)
  | some (some m) => match f m l with
    | some (t, l) => some ([t], l)
    | none => none
  | none => none
def trow (k : Nat) (g : G) (kd n : Nat) (l : Nams) : Option (List Nm × Nat × Nams) := if kd = 6 then (match g.row[n]? with
  | some r => (match whole k g r [] with
    | some (ops, 0) => some (ops, 0, l)
    | some (ops, v + 1) => if l.r.length < big then (let (t, c) := numb l.r (v + 1); some (ops, c, { l with r := t })) else none
    | none => none)
  | none => none) else some ([], 0, l)
def toldX : Nat → G → Nat → Nams → Option (Ty × Nams)
  | 0, _, _, _ => none
  | k + 1, g, n, l => match find k g n with
    | some n => match g.kind[n]? with
      | some 0 => if l.t.length < big then (let (t, c) := numb l.t n; some (.mk 0 c 0 [] [], { l with t := t })) else none
      | some kd =>
        match tkid (toldX k g) g.a[n]? l with
        | some (ta, l) => match trow k g kd n l with
          | some (ops, c, l) => match tkid (toldX k g) g.b[n]? l with
            | some (tb, l) => some (.mk kd 0 c ops (ta ++ tb), l)
            | none => none
          | none => none
        | none => none
      | none => none
    | none => none
/-! ### Numbers -/
def NB (n : Nat) (l : List (Int × Nat)) : Prop := l.length + (List.range n).countP (fun x : Nat => (lookI x l).isNone) ≤ n
theorem lookI_app (n m : Int) (c : Nat) (l : List (Int × Nat)) : lookI n (l ++ [(m, c)]) = match lookI n l with | some k => some k | none => if m = n then some c else none := by
  induction l with
  | nil => rfl
  | cons p l ih =>
    obtain ⟨q, u⟩ := p
    simp only [List.cons_append, lookI, ih]
    by_cases e : q = n
    · simp only [if_pos e]
    · simp only [if_neg e]
theorem numb_NB {n r : Nat} {l : List (Int × Nat)} (h : NB n l) (hr : r < n) : NB n (numb l r).1 := by
  unfold numb
  cases hl : lookI r l with
  | some k => exact h
  | none =>
    unfold NB at h ⊢
    have := countP_drop (n := n) (r := r) (P := fun x : Nat => (lookI x l).isNone) (P' := fun x : Nat => (lookI x (l ++ [((r : Int), l.length + 1)])).isNone) (fun x hx => by
      rw [lookI_app] at hx; split at hx <;> simp_all) hr (by simp [hl]) (by simp [lookI_app, hl])
    simp only [List.length_append, List.length_singleton]
    omega
theorem NB.le {n : Nat} {l : List (Int × Nat)} (h : NB n l) : l.length ≤ n := by unfold NB at h; omega
theorem NB_nil (n : Nat) : NB n [] := by
  unfold NB
  have := List.countP_le_length (p := fun x : Nat => (lookI x []).isNone) (l := List.range n)
  rw [List.length_range] at this
  simpa using this
section
variable {A : AG} {e d : List Nat} {T T' : Nat} {g f : G}
/-- The numbers that are told so far. -/
structure NC (A : AG) (e d : List Nat) (g f : G) (l m : Nams) : Prop where
  t : ∀ x r s, En g.link x r → En f.link x s → lookI r l.t = lookI s m.t
  tl : l.t.length = m.t.length
  r : ∀ j v w, VR g e j v → VR f d j w → v ≠ 0 → lookI v l.r = lookI w m.r
  rl : l.r.length = m.r.length
  bt : NB A.kind.length l.t
  bt' : NB A.kind.length m.t
  br : NB g.next.length l.r
  br' : NB f.next.length m.r
theorem VR.lt (hI : Inv A e T g) {j v : Nat} (h : VR g e j v) : v < g.next.length := by
  obtain ⟨r, l, _, k⟩ := h
  exact hI.ri.lt k
theorem Two.vr (h : Two A e d T T' g f) {i j v w v' w' : Nat} (h1 : VR g e i v) (h2 : VR f d i v') (k1 : VR g e j w) (k2 : VR f d j w') : (v = 0 ↔ v' = 0) ∧ (v = w ↔ v' = w') := by
  obtain ⟨r, l, hr, kr⟩ := h1
  obtain ⟨r', l', hr', kr'⟩ := h2
  obtain ⟨s, m, hs, ks⟩ := k1
  obtain ⟨s', m', hs', ks'⟩ := k2
  have a := h.tell hr hr' hs hs' kr kr' ks ks'
  have b := h.symm.tell hr' hr hs' hs kr' kr ks' ks
  exact ⟨a.2.1, a.2.2, b.2.2⟩
end
/-! ### New nodes and rows -/
section
variable {ops : List (List Nm)} {nx : List (Option Nat)} {T : Nat}
theorem RI.fresh (h : RI ops nx T) (q : Nat) : (stR ops nx).nx q ≠ .row nx.length := fun hq => by
  simp only [stR] at hq
  split at hq
  · cases hq
  · rename_i q2 h9
    cases hx : nx.length with
    | zero => have := h.zpos; omega
    | succ x =>
      rw [hx] at hq
      cases hq
      obtain ⟨l, u, k⟩ := h.all q (List.getElem?_eq_some_iff.1 h9).1
      cases k with
      | nil k _ => rw [h9] at k; cases k
      | opn k _ => rw [h9] at k; cases k
      | row k _ k2 => rw [h9] at k; cases k; have := k2.lt; omega
  · cases hq
theorem RI.upd (h : RI ops nx T) {ρ : Nat → Bag Nm} (hs : Sat (stR ops nx) ρ) (b : Bag Nm) : Sat (stR ops nx) (fun q => if q = nx.length then b else ρ q) := fun r => by
  have hr := hs r
  have hf := h.fresh r
  by_cases e : r = nx.length
  · have : (stR ops nx).nx r = .opn := by simp [stR, e]
    rw [this]; trivial
  · split
    · rename_i hn; rw [hn] at hr; simp only [if_neg e]; exact hr
    · trivial
    · rename_i q hn
      rw [hn] at hr hf
      have : q ≠ nx.length := fun e2 => hf (by rw [e2])
      simp only [if_neg e, if_neg this]; exact hr
/-- A new row with names; q: what comes then (0: nothing). -/
theorem RI.put (h : RI ops nx T) (l : List Nm) {q : Nat} (hq : q < nx.length) : RI (ops ++ [l]) (nx ++ [some q]) (T + l.length) := by
  have hl : (ops ++ [l])[nx.length]? = some l := by rw [← h.len]; simp
  have hn : (nx ++ [some q])[nx.length]? = some (some q) := by simp
  obtain ⟨m, v, hm⟩ := h.all q hq
  obtain ⟨L, V, own, hV, hLl⟩ : ∃ L V, WhL (ops ++ [l]) (nx ++ [some q]) nx.length L V ∧ (V < nx.length ∧ ∃ m', WhL ops nx q m' V) ∧ L.length ≤ l.length + m.length := by
    rcases q with _ | q
    · cases hm with
      | nil k ko => exact ⟨l, 0, .nil hn hl, ⟨h.zpos, _, .nil k ko⟩, by omega⟩
      | opn k _ => rw [h.z] at k; cases k
      | row k _ _ => rw [h.z] at k; cases k
    · exact ⟨l ++ m, v, .row hn hl (hm.app _ _), ⟨h.lt hm, m, hm⟩, by simp⟩
  obtain ⟨hV, m', hm'⟩ := hV
  obtain ⟨e1, e2⟩ := hm'.det hm
  subst e1 e2
  refine ⟨by simp [h.len], by rw [List.getElem?_append_left h.zpos]; exact h.z, fun r hr => ?_, fun r hr => ?_, ?_⟩
  · rcases Nat.lt_or_ge r nx.length with q | q
    · rw [List.getElem?_append_left q] at hr
      rw [List.getElem?_append_left (by rw [h.len]; exact q)]; exact h.op r hr
    · have := (List.getElem?_eq_some_iff.1 hr).1
      have e : r = nx.length := by simp at this; omega
      subst e; rw [hn] at hr; cases hr
  · rcases Nat.lt_or_ge r nx.length with q | q
    · obtain ⟨l, u, k⟩ := h.all r q; exact ⟨l, u, k.app _ _⟩
    · have e : r = nx.length := by simp at hr; omega
      subst e; exact ⟨_, _, own⟩
  · obtain ⟨W, h1, h2⟩ := h.ms
    refine ⟨fun u => if u = V then W V + l.length else if u = nx.length then 0 else W u, fun r l' u k => ?_, ?_⟩
    · have hmb := h1 _ _ _ hm'
      rcases Nat.lt_or_ge r nx.length with q | q
      · obtain ⟨l0, u0, k0⟩ := h.all r q
        obtain ⟨rfl, rfl⟩ := k.det (k0.app _ _)
        have a := h1 _ _ _ k0
        have b := h.lt k0
        show l'.length ≤ if u = V then W V + l.length else if u = nx.length then 0 else W u
        split
        · rename_i e; subst e; omega
        · rw [if_neg (by omega)]; exact a
      · have e : r = nx.length := by have := k.lt; simp at this; omega
        subst e
        obtain ⟨rfl, rfl⟩ := k.det own
        simp only [if_true]
        omega
    · rw [List.length_append, List.length_singleton, sumW_succ]
      have a := sumW_upd W (W V + l.length) hV
      rw [sumW_congr (V := fun u => if u = V then W V + l.length else W u) (fun u hu => by
        by_cases e : u = V
        · rw [if_pos e, if_pos e]
        · rw [if_neg e, if_neg e, if_neg (by omega)])]
      rw [if_neg (by omega), if_pos rfl]
      omega
theorem stR_put (h : RI ops nx T) (l : List Nm) (q : Nat) : stR (ops ++ [l]) (nx ++ [some q]) = Urw.put (stR ops nx) nx.length (bag l) (match q with | 0 => .none | q + 1 => .row (q + 1)) := by
  have e1 : ops ++ [l] = (ops ++ [[]]).set nx.length l := by rw [← h.len]; simp
  have e2 : nx ++ [some q] = (nx ++ [none]).set nx.length (some q) := by simp
  rw [e1, e2, stR_set (by simp [h.len]) (by simp), stR_open h.len]
  cases q <;> rfl
theorem getE {e : List Nat} {z : Nat} {P : Nat → Nat → Prop} : (∀ j x, (e ++ [z])[j]? = some x → P j x) ↔ (∀ j x, e[j]? = some x → P j x) ∧ P e.length z := by
  constructor
  · intro h
    exact ⟨fun j x hj => h j x (by rw [List.getElem?_append_left (List.getElem?_eq_some_iff.1 hj).1]; exact hj), h _ _ (by simp)⟩
  · rintro ⟨h1, h2⟩ j x hj
    rcases Nat.lt_or_ge j e.length with q | q
    · rw [List.getElem?_append_left q] at hj; exact h1 j x hj
    · rw [List.getElem?_append_right q] at hj
      cases hq : j - e.length with
      | zero => rw [hq] at hj; simp at hj; subst hj; have : j = e.length := by omega
                subst this; exact h2
      | succ m => rw [hq] at hj; simp at hj
/-- An open row more: any row. -/
theorem SolR.open (h : RI ops nx T) {e : List Nat} (he : ∀ x ∈ e, x < nx.length) (ρ : Nat → Bag Nm) : SolR (ops ++ [[]]) (nx ++ [none]) (e ++ [nx.length]) ρ ↔ SolR ops nx e ρ := by
  unfold SolR
  rw [stR_open h.len]
  constructor
  · rintro ⟨ρ', h1, h2⟩; exact ⟨ρ', (getE.1 h1).1, h2⟩
  · rintro ⟨ρ', h1, h2⟩
    refine ⟨_, getE.2 ⟨fun j x hj => ?_, ?_⟩, h.upd h2 (ρ e.length)⟩
    · have := he x (List.mem_of_getElem? hj)
      rw [if_neg (by omega)]; exact h1 j x hj
    · rw [if_pos rfl]
/-- What comes behind a new row. -/
def Nxt (e : List Nat) (v : Option Nat) (q : Nat) : Prop := match v with
  | none => q = 0
  | some j => q ≠ 0 ∧ e[j]? = some q
/-- A row more. -/
theorem SolR.put (h : RI ops nx T) {e : List Nat} (he : ∀ x ∈ e, x < nx.length) (l : List Nm) {q : Nat} {v : Option Nat} (hq : Nxt e v q) (ρ : Nat → Bag Nm) :
    SolR (ops ++ [l]) (nx ++ [some q]) (e ++ [nx.length]) ρ ↔ SolR ops nx e ρ ∧ ρ e.length = add (bag l) (ov ρ v) := by
  unfold SolR
  rw [stR_put h]
  have ho : (stR ops nx).nx nx.length = .opn := by simp [stR]
  constructor
  · rintro ⟨ρ', h1, h2⟩
    obtain ⟨h3, h4⟩ := (put_sat ho).1 h2
    obtain ⟨h5, h6⟩ := getE.1 h1
    refine ⟨⟨ρ', h5, h3⟩, ?_⟩
    rw [← h6]
    cases v with
    | none => cases hq; show _ = add _ zb; rw [add_zb]; exact h4
    | some j =>
      obtain ⟨q0, hj⟩ := hq
      obtain ⟨p, rfl⟩ : ∃ p, q = p + 1 := ⟨q - 1, by omega⟩
      show _ = add _ (ρ j)
      rw [← h5 j _ hj]; exact h4
  · rintro ⟨⟨ρ', h1, h2⟩, h3⟩
    refine ⟨_, getE.2 ⟨fun j x hj => ?_, ?_⟩, (put_sat ho).2 ⟨h.upd h2 (ρ e.length), ?_⟩⟩
    · have := he x (List.mem_of_getElem? hj)
      rw [if_neg (by omega)]; exact h1 j x hj
    · rw [if_pos rfl]
    · cases v with
      | none => cases hq; show (if _ then _ else _) = _; rw [if_pos rfl, h3]; exact add_zb _
      | some j =>
        obtain ⟨q0, hj⟩ := hq
        obtain ⟨p, rfl⟩ : ∃ p, q = p + 1 := ⟨q - 1, by omega⟩
        have := he _ (List.mem_of_getElem? hj)
        show (if _ then _ else _) = add _ (if _ then _ else _)
        rw [if_pos rfl, if_neg (by omega), h3, h1 j _ hj]; rfl
end
section
variable {A : AG} {e d : List Nat} {T T' : Nat} {g f : G}
def AG.app (A : AG) (kd : Nat) (a b : Option Nat) (j : Nat) : AG := ⟨A.kind ++ [kd], A.a ++ [a], A.b ++ [b], A.rj ++ [j]⟩
theorem app_at {α : Type} {l : List α} {x : α} {i : Nat} {y : α} (h : (l ++ [x])[i]? = some y) : i < l.length ∧ l[i]? = some y ∨ i = l.length ∧ y = x := by
  rcases Nat.lt_or_ge i l.length with q | q
  · rw [List.getElem?_append_left q] at h; exact .inl ⟨q, h⟩
  · have := (List.getElem?_eq_some_iff.1 h).1
    have e : i = l.length := by simp at this; omega
    subst e; simp at h; exact .inr ⟨rfl, h.symm⟩
theorem app_l {α : Type} {l : List α} {i : Nat} (h : i < l.length) (x : α) : (l ++ [x])[i]? = l[i]? := List.getElem?_append_left h
/-- What a new node has to be. -/
structure NewNd (A : AG) (n kd : Nat) (a b : Option Nat) (j : Nat) : Prop where
  a1 : (kd = 4 ∨ kd = 5 ∨ kd = 6) → ∃ p, a = some p ∧ p < A.kind.length
  a0 : ¬ (kd = 4 ∨ kd = 5 ∨ kd = 6) → a = none
  b1 : (kd = 5 ∨ kd = 6) → ∃ p, b = some p ∧ p < A.kind.length
  b0 : ¬ (kd = 5 ∨ kd = 6) → b = none
  j : j < n
theorem AG.WF.app {n kd j : Nat} {a b : Option Nat} (h : A.WF n) (k : NewNd A n kd a b j) : (A.app kd a b j).WF n := by
  have la := h.la
  have lb := h.lb
  have lr := h.lr
  refine ⟨by simp [AG.app, la], by simp [AG.app, lb], by simp [AG.app, lr], fun x k' hk q => ?_, fun x k' hk q => ?_, fun x k' hk q => ?_, fun x k' hk q => ?_, fun x j' hj => ?_⟩
  · rcases app_at hk with ⟨hl, h1⟩ | ⟨rfl, rfl⟩
    · show ∃ p, (A.a ++ [a])[x]? = _ ∧ _
      rw [app_l (by omega)]; exact h.a1 x k' h1 q
    · obtain ⟨p, rfl, hp⟩ := k.a1 q
      exact ⟨p, by show (A.a ++ [some p])[_]? = _; rw [← la]; simp, hp⟩
  · rcases app_at hk with ⟨hl, h1⟩ | ⟨rfl, rfl⟩
    · show (A.a ++ [a])[x]? = _
      rw [app_l (by omega)]; exact h.a0 x k' h1 q
    · rw [k.a0 q]
      show (A.a ++ [none])[_]? = _
      rw [← la]; simp
  · rcases app_at hk with ⟨hl, h1⟩ | ⟨rfl, rfl⟩
    · show ∃ p, (A.b ++ [b])[x]? = _ ∧ _
      rw [app_l (by omega)]; exact h.b1 x k' h1 q
    · obtain ⟨p, rfl, hp⟩ := k.b1 q
      exact ⟨p, by show (A.b ++ [some p])[_]? = _; rw [← lb]; simp, hp⟩
  · rcases app_at hk with ⟨hl, h1⟩ | ⟨rfl, rfl⟩
    · show (A.b ++ [b])[x]? = _
      rw [app_l (by omega)]; exact h.b0 x k' h1 q
    · rw [k.b0 q]
      show (A.b ++ [none])[_]? = _
      rw [← lb]; simp
  · rcases app_at hj with ⟨hl, h1⟩ | ⟨rfl, rfl⟩
    · exact h.rj x j' h1
    · exact k.j
theorem AG.app_kd {kd j x : Nat} {a b : Option Nat} (h : x < A.kind.length) : (A.app kd a b j).kd x = A.kd x := by unfold AG.kd AG.app; rw [app_l h]
theorem AG.app_kd2 {kd j : Nat} {a b : Option Nat} : (A.app kd a b j).kd A.kind.length = kd := by simp [AG.kd, AG.app]
def gput (g : G) (kd : Nat) (a b : Option Nat) (r : Nat) : G := ⟨g.kind ++ [kd], g.a ++ [a], g.b ++ [b], g.row ++ [r], g.link ++ [none], g.ops, g.next, g.tv, g.rv⟩
theorem put_ev (g : G) (kd : Nat) (a b : Option Nat) (r : Nat) (h : g.kind.length < big) : g.put kd a b r = some (gput g kd a b r, g.kind.length) := by
  unfold G.put
  rw [if_pos h]
  simp only [wO_eq, wN_eq, wL_eq, gput]
theorem Inv.put (h : Inv A e T g) {kd j r : Nat} {a b : Option Nat} (k : NewNd A e.length kd a b j) (hr : e[j]? = some r) : Inv (A.app kd a b j) e T (gput g kd a b r) := by
  refine ⟨by simp [gput, AG.app, h.kind], by simp [gput, AG.app, h.a], by simp [gput, AG.app, h.b], by simp [gput, AG.app, h.row, hr], by simp [gput, AG.app, h.ll], h.all.app, h.ri, h.el, h.wf.app k, fun x z hz k0 => ?_⟩
  rcases Nat.lt_or_ge x A.kind.length with q | q
  · have hz' : En g.link x z := hz.app_back h.all (by rw [h.ll]; exact q)
    have hzl := hz'.lt2
    rw [h.ll] at hzl
    rw [AG.app_kd hzl] at k0
    rw [AG.app_kd q]; exact h.vr x z hz' k0
  · have hx : x = g.link.length := by have := hz.lt; simp [gput, h.ll] at this; rw [h.ll]; omega
    have : z = x := (hz.det (.here (by rw [hx]; simp [gput])))
    rw [← this]; exact k0
theorem alike_refl {gr : Gr} {F : Rel} {ρ : Nat → Bag Nm} (hF : Eqv F) (x : Nat) : Alike gr F ρ x x := alike_iff.2 ⟨fun i a b ha hb => by rw [ha] at hb; cases hb; exact hF.refl a, fun r s hr hs => by rw [hr] at hs; cases hs; rfl⟩
theorem Upto.app {E : Rel} {S : (Nat → Bag Nm) → Prop} (h : Upto (grA A) E S []) (w : A.WF e.length) (hE : ∀ x y, E x y → x = y ∨ x < A.kind.length ∧ y < A.kind.length) (kd : Nat) (a b : Option Nat) (j : Nat) : Upto (grA (A.app kd a b j)) E S [] := by
  have vr : ∀ x, x < A.kind.length → ((grA (A.app kd a b j)).var x ↔ (grA A).var x) := fun x hx => by
    show (A.app kd a b j).kd x = 0 ↔ A.kd x = 0; rw [AG.app_kd hx]
  have kk : ∀ x, x < A.kind.length → (grA (A.app kd a b j)).kids x = (grA A).kids x ∧ (grA (A.app kd a b j)).row x = (grA A).row x := fun x hx => by
    have la := w.la
    have lb := w.lb
    have lr := w.lr
    constructor
    · show kidsK ((A.app kd a b j).kd x) _ _ = kidsK (A.kd x) _ _
      rw [AG.app_kd hx]
      unfold AG.pa AG.pb AG.app
      rw [app_l (by omega), app_l (by omega)]
    · show (if (A.app kd a b j).kd x = 6 then some (((A.app kd a b j).rj[x]?).getD 0) else none) = if A.kd x = 6 then some ((A.rj[x]?).getD 0) else none
      rw [AG.app_kd hx]
      unfold AG.app
      rw [app_l (by omega)]
  refine ⟨h.eqv, fun x y vx vy hxy => ?_, fun F ρ hF hEF hS ht x y vx vy hxy => ?_⟩
  · rcases hE x y hxy with rfl | ⟨hx, hy⟩
    · rfl
    · show (A.app kd a b j).kd x = (A.app kd a b j).kd y
      rw [AG.app_kd hx, AG.app_kd hy]
      exact h.kd x y (fun q => vx ((vr x hx).2 q)) (fun q => vy ((vr y hy).2 q)) hxy
  · rcases hE x y hxy with rfl | ⟨hx, hy⟩
    · exact alike_refl hF x
    · have := alike_iff.1 (h.al F ρ hF hEF hS ht x y (fun q => vx ((vr x hx).2 q)) (fun q => vy ((vr y hy).2 q)) hxy)
      refine alike_iff.2 ?_
      rw [(kk x hx).1, (kk x hx).2, (kk y hy).1, (kk y hy).2]; exact this
theorem Upto.sub {gr : Gr} {E : Rel} {S S' : (Nat → Bag Nm) → Prop} (h : Upto gr E S []) (k : ∀ ρ, S' ρ → S ρ) : Upto gr E S' [] := ⟨h.eqv, h.kd, fun F ρ hF hE hS ht => h.al F ρ hF hE (k ρ hS) ht⟩
theorem Two.putN (h : Two A e d T T' g f) {kd j r s : Nat} {a b : Option Nat} (k : NewNd A e.length kd a b j) (hr : e[j]? = some r) (hs : d[j]? = some s) : Two (A.app kd a b j) e d T T' (gput g kd a b r) (gput f kd a b s) := by
  have e1 : Eq1 (g.link ++ [none]) = Eq1 g.link := eq1_app h.ig.all
  refine ⟨h.ig.put k hr, h.jf.put (h.n ▸ k) hs, h.n, ?_, h.S, ?_⟩
  · show Eq1 (g.link ++ [none]) = Eq1 (f.link ++ [none])
    rw [e1, eq1_app h.jf.all]; exact h.E
  · show Upto _ (Eq1 (g.link ++ [none])) _ _
    rw [e1]
    exact Upto.app h.up h.ig.wf (fun x y hxy => by rw [← h.ig.ll]; exact hxy.lt) kd a b j
def gopn (g : G) (l : List Nm) (q : Option Nat) : G := ⟨g.kind, g.a, g.b, g.row, g.link, g.ops ++ [l], g.next ++ [q], g.tv, g.rv⟩
theorem putRow_ev (g : G) (l : List Nm) (q : Option Nat) (h : g.ops.length < big) : g.putRow l q = some (gopn g l q, g.ops.length) := by
  unfold G.putRow
  rw [if_pos h]
  simp only [wO_eq, wN_eq, wL_eq, gopn]
theorem rj_app (w : A.WF e.length) (z : Nat) : A.rj.map (fun j => ((e ++ [z])[j]?).getD 0) = A.rj.map fun j => (e[j]?).getD 0 := List.map_congr_left fun j hj => by
  obtain ⟨x, hx⟩ := List.getElem?_of_mem hj
  have := w.rj x j hx
  rw [app_l this]
theorem Inv.rowA (h : Inv A e T g) {l : List Nm} {q : Option Nat} {T1 : Nat} (hr : RI (g.ops ++ [l]) (g.next ++ [q]) T1) : Inv A (e ++ [g.next.length]) T1 (gopn g l q) :=
  ⟨h.kind, h.a, h.b, by rw [rj_app h.wf]; exact h.row, h.ll, h.all, hr, fun x hx => by
    show x < (g.next ++ [q]).length
    rw [List.length_append, List.length_singleton]
    rcases List.mem_append.1 hx with q | q
    · have := h.el x q; omega
    · rw [List.mem_singleton.1 q]; omega, ⟨h.wf.la, h.wf.lb, h.wf.lr, h.wf.a1, h.wf.a0, h.wf.b1, h.wf.b0, fun x j hj => by have := h.wf.rj x j hj; simp; omega⟩, h.vr⟩
theorem Two.opn (h : Two A e d T T' g f) : Two A (e ++ [g.next.length]) (d ++ [f.next.length]) T T' (gopn g [] none) (gopn f [] none) := by
  have sg := SolR.open h.ig.ri h.ig.el
  have sf := SolR.open h.jf.ri h.jf.el
  exact ⟨h.ig.rowA h.ig.ri.open, h.jf.rowA h.jf.ri.open, by simp [h.n], h.E, fun ρ => (sg ρ).trans ((h.S ρ).trans (sf ρ).symm), Upto.sub h.up fun ρ hρ => (sg ρ).1 hρ⟩
theorem Two.row (h : Two A e d T T' g f) (l : List Nm) {q q' : Nat} {v : Option Nat} (hq : Nxt e v q) (hq' : Nxt d v q') :
    Two A (e ++ [g.next.length]) (d ++ [f.next.length]) (T + l.length) (T' + l.length) (gopn g l (some q)) (gopn f l (some q')) := by
  have lt : ∀ {e : List Nat} {T : Nat} {g : G}, Inv A e T g → ∀ {q : Nat}, Nxt e v q → q < g.next.length := by
    intro e T g hI q hq
    cases v with
    | none => cases hq; exact hI.ri.zpos
    | some j => exact hI.el _ (List.mem_of_getElem? hq.2)
  have sg := SolR.put h.ig.ri h.ig.el l hq
  have sf := SolR.put h.jf.ri h.jf.el l hq'
  exact ⟨h.ig.rowA (h.ig.ri.put l (lt h.ig hq)), h.jf.rowA (h.jf.ri.put l (lt h.jf hq')), by simp [h.n], h.E, fun ρ => (sg ρ).trans (by rw [h.n]; exact (and_congr_left' (h.S ρ)).trans (sf ρ).symm), Upto.sub h.up fun ρ hρ => ((sg ρ).1 hρ).1⟩
end
/-! ### Types that are proper -/
/-- A proper type with so many parts. -/
inductive Fine : Nat → Ty → Prop
  | v (n : Nat) (h : 1 ≤ n) : Fine 1 (.mk 0 n 0 [] [])
  | c (kd : Nat) (h : kd = 1 ∨ kd = 2 ∨ kd = 3) : Fine 1 (.mk kd 0 0 [] [])
  | l {c t} (h : Fine c t) : Fine (c + 1) (.mk 4 0 0 [] [t])
  | p {c t c' u} (h : Fine c t) (k : Fine c' u) : Fine (c + c' + 1) (.mk 5 0 0 [] [t, u])
  | f {c t c' u} (row : Nat) (ops : List Nm) (ho : ∀ o ∈ ops, o.data.toList ≠ []) (hs : Srt ops) (h : Fine c t) (k : Fine c' u) : Fine (c + c' + 1 + ops.length) (.mk 6 0 row ops [t, u])
theorem Fine.pos {c : Nat} {t : Ty} (h : Fine c t) : 1 ≤ c := by cases h <;> omega
def ofkid (f : G → Ty → Option (G × Nat)) (g : G) (x : Option Ty) : Option (G × Option Nat) := match x with
  | none => some (g, none)
  | some t => match f g t with
    | some (g, m) => some (g, some m)
    | none => none
def ofnx (g : G) (row : Nat) : Option (G × Nat) := if 0 < row then (match lookI row g.rv with
  | some m => some (g, m)
  | none => match g.opn with
    | some (g, m) => some ({ g with rv := g.rv ++ [((row : Int), m)] }, m)
    | none => none) else some (g, 0)
def ofX : Nat → G → Ty → Option (G × Nat)
  | 0, _, _ => none
  | k + 1, g, .mk kd n row ops args =>
    if kd = 0 then (match lookI n g.tv with
      | some m => some (g, m)
      | none => match g.var with
        | some (g, m) => some ({ g with tv := g.tv ++ [((n : Int), m)] }, m)
        | none => none)
    else
      match ofkid (ofX k) g args[0]? with
      | some (g, a) => match ofkid (ofX k) g args[1]? with
        | some (g, b) =>
          if kd = 6 then
            match ofnx g row with
            | some (g, m) => match g.putRow ops (some m) with
              | some (g, r) => g.put kd a b r
              | none => none
            | none => none
          else g.put kd a b 0
        | none => none
      | none => none
/-- The variables that there are. -/
structure OC (A : AG) (e d : List Nat) (g f : G) : Prop where
  tv : g.tv = f.tv
  tl : ∀ n m, lookI n g.tv = some m → m < A.kind.length
  rv : ∀ n, (∃ j x y : Nat, lookI n g.rv = some x ∧ lookI n f.rv = some y ∧ e[j]? = some x ∧ d[j]? = some y ∧ x ≠ 0 ∧ y ≠ 0) ∨ (lookI n g.rv = none ∧ lookI n f.rv = none)
  z : e[0]? = some 0 ∧ d[0]? = some 0
structure Bd (b : Nat) (A : AG) (T T' : Nat) (g f : G) : Prop where
  k : A.kind.length ≤ b
  t : T ≤ b
  t' : T' ≤ b
  o : g.ops.length + U g.link ≤ b
  o' : f.ops.length + U f.link ≤ b
theorem Bd.le {b b' : Nat} {A : AG} {T T' : Nat} {g f : G} (h : Bd b A T T' g f) (k : b ≤ b') : Bd b' A T T' g f :=
  ⟨Nat.le_trans h.k k, Nat.le_trans h.t k, Nat.le_trans h.t' k, Nat.le_trans h.o k, Nat.le_trans h.o' k⟩
/-- Everything that holds of two graphs at all times. -/
structure St2 (b : Nat) (A : AG) (e d : List Nat) (T T' : Nat) (g f : G) : Prop where
  two : Two A e d T T' g f
  oc : OC A e d g f
  bd : Bd b A T T' g f
theorem U_app (l : List (Option Nat)) : U (l ++ [none]) = U l + 1 := by simp [U]
section
variable {A : AG} {e d : List Nat} {T T' b : Nat} {g f : G}
theorem app_some {α : Type} {l : List α} {j : Nat} {x : α} (h : l[j]? = some x) (z : α) : (l ++ [z])[j]? = some x := by rw [app_l (List.getElem?_eq_some_iff.1 h).1]; exact h
theorem St2.putN (h : St2 b A e d T T' g f) {kd j r s : Nat} {x y : Option Nat} (k : NewNd A e.length kd x y j) (hr : e[j]? = some r) (hs : d[j]? = some s) : St2 (b + 1) (A.app kd x y j) e d T T' (gput g kd x y r) (gput f kd x y s) := by
  refine ⟨h.two.putN k hr hs, ⟨h.oc.tv, fun n m hm => ?_, h.oc.rv, h.oc.z⟩, ⟨?_, ?_, ?_, ?_, ?_⟩⟩
  · have := h.oc.tl n m hm; simp [AG.app]; omega
  · have := h.bd.k; simp [AG.app]; omega
  · have := h.bd.t; omega
  · have := h.bd.t'; omega
  · have := h.bd.o; simp only [gput, U_app]; omega
  · have := h.bd.o'; simp only [gput, U_app]; omega
theorem St2.rowN (h : St2 b A e d T T' g f) (l : List Nm) {q q' : Nat} {v : Option Nat} (hq : Nxt e v q) (hq' : Nxt d v q') :
    St2 (b + 1 + l.length) A (e ++ [g.next.length]) (d ++ [f.next.length]) (T + l.length) (T' + l.length) (gopn g l (some q)) (gopn f l (some q')) := by
  refine ⟨h.two.row l hq hq', ⟨h.oc.tv, h.oc.tl, fun n => ?_, app_some h.oc.z.1 _, app_some h.oc.z.2 _⟩, ⟨?_, ?_, ?_, ?_, ?_⟩⟩
  · rcases h.oc.rv n with ⟨j, x, y, h1, h2, h3, h4, h5⟩ | q
    · exact .inl ⟨j, x, y, h1, h2, app_some h3 _, app_some h4 _, h5⟩
    · exact .inr q
  · have := h.bd.k; omega
  · have := h.bd.t; omega
  · have := h.bd.t'; omega
  · have := h.bd.o; simp only [gopn, List.length_append, List.length_singleton]; omega
  · have := h.bd.o'; simp only [gopn, List.length_append, List.length_singleton]; omega
def gtv (g : G) (n : Int) (m : Nat) : G := { g with tv := g.tv ++ [(n, m)] }
def grv (g : G) (n : Int) (m : Nat) : G := { g with rv := g.rv ++ [(n, m)] }
theorem Two.gtv (h : Two A e d T T' g f) (n : Int) (m : Nat) : Two A e d T T' (gtv g n m) (gtv f n m) :=
  ⟨⟨h.ig.kind, h.ig.a, h.ig.b, h.ig.row, h.ig.ll, h.ig.all, h.ig.ri, h.ig.el, h.ig.wf, h.ig.vr⟩, ⟨h.jf.kind, h.jf.a, h.jf.b, h.jf.row, h.jf.ll, h.jf.all, h.jf.ri, h.jf.el, h.jf.wf, h.jf.vr⟩, h.n, h.E, h.S, h.up⟩
theorem Two.grv (h : Two A e d T T' g f) (n : Int) (m m' : Nat) : Two A e d T T' (grv g n m) (grv f n m') :=
  ⟨⟨h.ig.kind, h.ig.a, h.ig.b, h.ig.row, h.ig.ll, h.ig.all, h.ig.ri, h.ig.el, h.ig.wf, h.ig.vr⟩, ⟨h.jf.kind, h.jf.a, h.jf.b, h.jf.row, h.jf.ll, h.jf.all, h.jf.ri, h.jf.el, h.jf.wf, h.jf.vr⟩, h.n, h.E, h.S, h.up⟩
theorem St2.opnR (h : St2 b A e d T T' g f) (n : Int) (hn : lookI n g.rv = none ∧ lookI n f.rv = none) :
    St2 (b + 1) A (e ++ [g.next.length]) (d ++ [f.next.length]) T T' (grv (gopn g [] none) n g.next.length) (grv (gopn f [] none) n f.next.length) := by
  refine ⟨h.two.opn.grv n _ _, ⟨h.oc.tv, h.oc.tl, fun i => ?_, app_some h.oc.z.1 _, app_some h.oc.z.2 _⟩, ⟨?_, ?_, ?_, ?_, ?_⟩⟩
  · show (∃ j x y : Nat, lookI i (g.rv ++ [(n, g.next.length)]) = some x ∧ lookI i (f.rv ++ [(n, f.next.length)]) = some y ∧ _) ∨ (lookI i (g.rv ++ [(n, g.next.length)]) = none ∧ lookI i (f.rv ++ [(n, f.next.length)]) = none)
    rcases h.oc.rv i with ⟨j, x, y, h1, h2, h3, h4, h5⟩ | ⟨h1, h2⟩
    · exact .inl ⟨j, x, y, by rw [lookI_app, h1], by rw [lookI_app, h2], app_some h3 _, app_some h4 _, h5⟩
    · by_cases q : n = i
      · exact .inl ⟨e.length, g.next.length, f.next.length, by rw [lookI_app, h1]; simp [q], by rw [lookI_app, h2]; simp [q], by simp, by rw [h.two.n]; simp, by have := h.two.ig.ri.zpos; omega, by have := h.two.jf.ri.zpos; omega⟩
      · exact .inr ⟨by rw [lookI_app, h1]; simp [q], by rw [lookI_app, h2]; simp [q]⟩
  · have := h.bd.k; omega
  · have := h.bd.t; omega
  · have := h.bd.t'; omega
  · have := h.bd.o; simp only [gopn, grv, List.length_append, List.length_singleton]; omega
  · have := h.bd.o'; simp only [gopn, grv, List.length_append, List.length_singleton]; omega
theorem St2.varN (h : St2 b A e d T T' g f) (n : Int) : St2 (b + 1) (A.app 0 none none 0) e d T T' (gtv (gput g 0 none none 0) n A.kind.length) (gtv (gput f 0 none none 0) n A.kind.length) := by
  have k := h.putN (kd := 0) (j := 0) (x := none) (y := none) ⟨by simp, fun _ => rfl, by simp, fun _ => rfl, (List.getElem?_eq_some_iff.1 h.oc.z.1).1⟩ h.oc.z.1 h.oc.z.2
  refine ⟨k.two.gtv n _, ⟨by show g.tv ++ _ = f.tv ++ _; rw [h.oc.tv], fun i m hm => ?_, k.oc.rv, k.oc.z⟩, ⟨k.bd.k, k.bd.t, k.bd.t', k.bd.o, k.bd.o'⟩⟩
  change lookI i (g.tv ++ [(n, A.kind.length)]) = some m at hm
  rw [lookI_app] at hm
  cases hl : lookI i g.tv with
  | some k' => rw [hl] at hm; cases hm; exact k.oc.tl i _ hl
  | none =>
    rw [hl] at hm
    simp only at hm
    split at hm
    · cases hm; simp [AG.app]
    · cases hm
end
section
variable {A : AG} {e d : List Nat} {T T' b : Nat} {g f : G}
theorem St2.same (h : St2 b A e d T T' g f) (hb : b < big) {m n : Nat} (hm : m < A.kind.length) (hn : n < A.kind.length) :
    ∃ g' f' t, Ev (fun k => sameX false k g m n) (g', t) ∧ Ev (fun k => sameX true k f m n) (f', t) ∧ (t = true → St2 b A e d T T' g' f') := by
  have h2 := h.two
  have hT : T < big := by have := h.bd.t; omega
  have hT' : T' < big := by have := h.bd.t'; omega
  obtain ⟨g', t, ev, P⟩ := same_spec hT false _ g m n h2.ig (Nat.le_refl _) (by have := h.bd.o; omega) hm hn
  obtain ⟨f', t', ev', P'⟩ := same_spec hT' true _ f m n h2.jf (Nat.le_refl _) (by have := h.bd.o'; omega) hm hn
  have e1 : ES e g = ES d f := funext fun ρ => propext (h2.S ρ)
  obtain ⟨E1, S1, R1, q1⟩ : ∃ E1 S1, Run (grA A) (Eq1 g.link) (ES e g) [.ty m n] t E1 S1 ∧ (t = true → E1 = Eq1 g'.link ∧ S1 = ES e g') := by
    cases t with
    | true => exact ⟨_, _, P.q.yes rfl [] true _ _ (.nil _ _), fun _ => ⟨rfl, rfl⟩⟩
    | false => obtain ⟨E, S, R⟩ := P.q.no rfl []; exact ⟨E, S, R, fun q => by cases q⟩
  obtain ⟨E2, S2, R2, q2⟩ : ∃ E2 S2, Run (grA A) (Eq1 g.link) (ES e g) [.ty m n] t' E2 S2 ∧ (t' = true → E2 = Eq1 f'.link ∧ S2 = ES d f') := by
    rw [e1, h2.E]
    cases t' with
    | true => exact ⟨_, _, P'.q.yes rfl [] true _ _ (.nil _ _), fun _ => ⟨rfl, rfl⟩⟩
    | false => obtain ⟨E, S, R⟩ := P'.q.no rfl []; exact ⟨E, S, R, fun q => by cases q⟩
  have hU : Upto (grA A) (Eq1 g.link) (ES e g) [.ty m n] := ⟨h2.up.eqv, h2.up.kd, fun F ρ hF hE hS _ => h2.up.al F ρ hF hE hS (fun t ht => by cases ht)⟩
  obtain ⟨rt, rr⟩ := R1.both R2 hU (fun q => by rw [(q1 q).2]; exact P.inv.ne) (fun q => by rw [(q2 q).2]; exact P'.inv.ne)
  subst rt
  refine ⟨g', f', t, ev, ev', fun ht => ?_⟩
  obtain ⟨a1, a2⟩ := q1 ht
  obtain ⟨b1, b2⟩ := q2 ht
  obtain ⟨c1, c2⟩ := rr ht
  have cl := (R1.closed ht hU).1
  rw [a1, a2] at cl
  refine ⟨⟨P.inv, P'.inv, h2.n, ?_, fun ρ => ?_, cl⟩, ⟨by rw [P.tv, P'.tv]; exact h.oc.tv, by rw [P.tv]; exact h.oc.tl, by rw [P.rv, P'.rv]; exact h.oc.rv, h.oc.z⟩, ⟨h.bd.k, h.bd.t, h.bd.t', Nat.le_trans P.o h.bd.o, Nat.le_trans P'.o h.bd.o'⟩⟩
  · funext x y; rw [← a1, ← b1]; exact propext (c1 x y)
  · rw [← a2, ← b2]; exact c2 ρ
end
/-! ### What is looked for at the types told so far -/
/-- The program's loop: whether all is well, whether one is too great. -/
def cntsX (k : Nat) (g : G) : List Nat → Bool → Bool → Option (Bool × Bool)
  | [], ok, b => some (ok, b)
  | n :: l, ok, b => if ok then match cnt k g n [] false with
    | some (c, _, fl) => cntsX k g l (!fl) (b || decide (300 < c))
    | none => none else some (ok, b)
def toldsX (k : Nat) (g : G) : List Nat → Nams → Option (List Ty)
  | [], _ => some []
  | n :: l, m => match toldX k g n m with
    | some (t, m) => (toldsX k g l m).map (t :: ·)
    | none => none
theorem cnts_false (k : Nat) (g : G) (l : List Nat) (b : Bool) : cntsX k g l false b = some (false, b) := by cases l <;> rfl
section
variable {A : AG} {e d : List Nat} {T T' : Nat} {g f : G}
end
/-! ### Solve -/
abbrev Fl := Nat × Nat
def loopP (k : Nat) : List (Ty × Ty) → Nat → G → List Nat → Option (Fl ⊕ G × List Nat)
  | [], _, g, l => some (.inr (g, l))
  | (p, q) :: r, i, g, l => match ofX k g p with
    | some (g, a) => match ofX k g q with
      | some (g, b) => match sameX true k g a b with
        | some (g, ok) => match cntsX k g (l ++ [a]) ok false with
          | some (false, _) => some (.inl (8, i))
          | some (true, true) => some (.inl (10, i))
          | some (true, false) => loopP k r (i + 1) g (l ++ [a])
          | none => none
        | none => none
      | none => none
    | none => none
def solveP (k : Nat) (l : List (Ty × Ty)) : Option (Fl ⊕ List Ty) := match loopP k l 0 G.new [] with
  | some (.inl f) => some (.inl f)
  | some (.inr (g, l)) => (toldsX k g l ⟨[], []⟩).map .inr
  | none => none
/-- Pairs of proper types. -/
def FineP (p : Ty × Ty) : Prop := ∃ c c', Fine c p.1 ∧ Fine c' p.2 ∧ c ≤ 300 ∧ c' ≤ 300
theorem st0 : St2 1 ⟨[], [], [], []⟩ [0] [0] 0 0 G.new G.new := by
  have nx : ∀ {r : Nat} {o : Option Nat}, [some 0][r]? = some o → r = 0 ∧ o = some 0 := fun {r o} h => by
    cases r with
    | zero => exact ⟨rfl, (Option.some.inj h).symm⟩
    | succ r => cases h
  have hw : ∀ {r l v}, WhL [[]] [some 0] r l v → l = [] := fun h => by
    cases h with
    | nil h ho => obtain ⟨rfl, _⟩ := nx h; exact (Option.some.inj ho).symm
    | opn h _ => rfl
    | row h _ _ => have := (nx h).2; cases this
  have ri : RI [[]] [some 0] 0 := ⟨rfl, rfl, fun r hr => (by have := (nx hr).2; cases this), fun r hr => (by
      have : r = 0 := by simpa using hr
      subst this; exact ⟨_, _, .nil rfl rfl⟩), ⟨fun _ => 0, fun r l v h => (by rw [hw h]; exact Nat.le_refl _), Nat.le_refl _⟩⟩
  have inv : Inv ⟨[], [], [], []⟩ [0] 0 G.new := ⟨rfl, rfl, rfl, rfl, rfl, fun n hn => absurd hn (Nat.not_lt_zero _), ri, fun x hx => (by rw [List.mem_singleton.1 hx]; exact Nat.zero_lt_one), ⟨rfl, rfl, rfl, fun x k h => (by cases h), fun x k h => (by cases h), fun x k h => (by cases h), fun x k h => (by cases h), fun x j h => (by cases h)⟩, fun x z h => absurd h.lt (Nat.not_lt_zero _)⟩
  have eq : ∀ x y, Eq1 G.new.link x y → x = y := fun x y h => h.lt.resolve_right fun q => absurd q.1 (Nat.not_lt_zero _)
  refine ⟨⟨inv, inv, rfl, rfl, fun _ => Iff.rfl, ⟨eq1_eqv _, fun x y _ _ h => (by rw [eq x y h]), fun F ρ hF _ _ _ x y _ _ h => (by rw [eq x y h]; exact alike_refl hF y)⟩⟩, ⟨rfl, fun n m h => (by cases h), fun n => .inr ⟨rfl, rfl⟩, rfl, rfl⟩, ⟨by decide, by decide, by decide, by decide, by decide⟩⟩
/-- What stands for a type, with what its variables stand for. -/
def nvv (ν : Nat → List Nm × Nat) (row : Nat) : List Nm × Nat := if row = 0 then ([], 0) else ν row
mutual
def subT (τ : Nat → Ty) (ν : Nat → List Nm × Nat) : Ty → Ty
  | .mk kd n row ops args => if kd = 0 then τ n else .mk kd 0 (nvv ν row).2 (putAll (putAll [] ops) (nvv ν row).1) (subs τ ν args)
def subs (τ : Nat → Ty) (ν : Nat → List Nm × Nat) : List Ty → List Ty
  | [] => []
  | t :: l => subT τ ν t :: subs τ ν l
end
def KV (vs : List Ty) (o : Option Nat) (t : List Ty) : Prop := match o with
  | none => t = []
  | some p => ∃ u, vs[p]? = some u ∧ t = [u]
def NdV (A : AG) (vs : List Ty) (rs : List (List Nm × Nat)) (x : Nat) (v : Ty) : Prop :=
  ∃ row ops ta tb, v = .mk (A.kd x) 0 row ops (ta ++ tb) ∧ KV vs (A.ka x) ta ∧ KV vs (A.kb x) tb ∧ (A.kd x = 6 → rs[A.j x]? = some (ops, row)) ∧ (A.kd x ≠ 6 → ops = [] ∧ row = 0)
structure VW (A : AG) (n : Nat) (vs : List Ty) (rs : List (List Nm × Nat)) : Prop where
  lv : vs.length = A.kind.length
  lr : rs.length = n
  nd : ∀ x v, vs[x]? = some v → A.kd x ≠ 0 → NdV A vs rs x v
  srt : ∀ q ∈ rs, Srt q.1
def FV (vs : List Ty) : Rel := fun x y => vs[x]? = vs[y]?
theorem fv_eqv (vs : List Ty) : Eqv (FV vs) := ⟨fun _ => rfl, fun _ _ h => Eq.symm h, fun _ _ _ h k => Eq.trans h k⟩
def tlG (m : Nat) : Bag Nm := fun k => if k = ⟨#[]⟩ then m else 0
def rb1 (q : List Nm × Nat) : Bag Nm := bag q.1
def rb2 (q : List Nm × Nat) : Bag Nm := add (bag q.1) (tlG q.2)
def rof (f : List Nm × Nat → Bag Nm) (rs : List (List Nm × Nat)) (j : Nat) : Bag Nm := ((rs[j]?).map f).getD zb
theorem rof_at {f : List Nm × Nat → Bag Nm} {rs : List (List Nm × Nat)} {j : Nat} {q : List Nm × Nat} (h : rs[j]? = some q) : rof f rs j = f q := by unfold rof; rw [h]; rfl
section
variable {A : AG} {vs : List Ty} {rs : List (List Nm × Nat)} {n : Nat}
theorem AG.kd_lt {x : Nat} (h : A.kd x ≠ 0) : x < A.kind.length := by
  rcases Nat.lt_or_ge x A.kind.length with q | q
  · exact q
  · exact absurd (by unfold AG.kd; rw [List.getElem?_eq_none q]; rfl) h
theorem VW.at (h : VW A n vs rs) {x : Nat} (hx : A.kd x ≠ 0) : ∃ v, vs[x]? = some v ∧ NdV A vs rs x v := by
  have hl : x < vs.length := by rw [h.lv]; exact AG.kd_lt hx
  exact ⟨_, List.getElem?_eq_getElem hl, h.nd x _ (List.getElem?_eq_getElem hl) hx⟩
theorem kids_kk (A : AG) (x : Nat) : kidsK (A.kd x) (A.pa x) (A.pb x) = (A.ka x).toList ++ (A.kb x).toList := by
  unfold kidsK AG.ka AG.kb
  by_cases h4 : A.kd x = 4
  · simp [h4]
  · by_cases h5 : A.kd x = 5
    · simp [h5]
    · by_cases h6 : A.kd x = 6
      · simp [h6]
      · simp [h4, h5, h6]
theorem kv_map {o : Option Nat} {t : List Ty} (h : KV vs o t) : (o.toList.map fun p => vs[p]?) = t.map some := by
  cases o with
  | none => rw [show t = [] from h]; rfl
  | some p => obtain ⟨u, hu, rfl⟩ := h; simp [hu]
theorem VW.sol (h : VW A n vs rs) (f : List Nm × Nat → Bag Nm) : Sol (grA A) (FV vs) (rof f rs) := by
  have key : ∀ x y, A.kd x ≠ 0 → A.kd y ≠ 0 → FV vs x y → A.kd x = A.kd y ∧ Alike (grA A) (FV vs) (rof f rs) x y := fun x y hx hy e => by
    obtain ⟨v, hv, row, ops, ta, tb, rfl, k1, k2, k3, k4⟩ := h.at hx
    obtain ⟨v', hv', row', ops', ta', tb', rfl, k1', k2', k3', k4'⟩ := h.at hy
    unfold FV at e
    rw [hv, hv'] at e
    injection e with e
    injection e with e1 _ e3 e4 e5
    refine ⟨e1, alike_iff.2 ⟨fun i a b ha hb => ?_, fun r s hr hs => ?_⟩⟩
    · change (kidsK (A.kd x) (A.pa x) (A.pb x))[i]? = some a at ha
      change (kidsK (A.kd y) (A.pa y) (A.pb y))[i]? = some b at hb
      rw [kids_kk] at ha hb
      have m1 : ((A.ka x).toList ++ (A.kb x).toList).map (fun p => vs[p]?) = (ta ++ tb).map some := by rw [List.map_append, List.map_append, kv_map k1, kv_map k2]
      have m2 : ((A.ka y).toList ++ (A.kb y).toList).map (fun p => vs[p]?) = (ta' ++ tb').map some := by rw [List.map_append, List.map_append, kv_map k1', kv_map k2']
      rw [e5, ← m2] at m1
      have := congrArg (·[i]?) m1
      simp only [List.getElem?_map, ha, hb] at this
      exact Option.some.inj this
    · change (if A.kd x = 6 then some (A.j x) else none) = some r at hr
      change (if A.kd y = 6 then some (A.j y) else none) = some s at hs
      split at hr
      · split at hs
        · rename_i h6 h6'
          cases hr; cases hs
          rw [rof_at (k3 h6), rof_at (k3' h6'), e3, e4]
        · cases hs
      · cases hr
  exact ⟨fv_eqv vs, fun x y hx hy e => (key x y hx hy e).1, fun x y hx hy e => (key x y hx hy e).2⟩
end
/-- All that is true of a graph while Solve runs, where a substitution makes the pairs the same. -/
structure S1 (τ : Nat → Ty) (ν : Nat → List Nm × Nat) (b : Nat) (A : AG) (e : List Nat) (T : Nat) (g : G) (vs : List Ty) (rs : List (List Nm × Nat)) : Prop where
  st : St2 b A e e T T g g
  vw : VW A e.length vs rs
  le : ∀ x y, Eq1 g.link x y → vs[x]? = vs[y]?
  s1 : ES e g (rof rb1 rs)
  s2 : ES e g (rof rb2 rs)
  tv : ∀ n m : Nat, lookI n g.tv = some m → vs[m]? = some (τ n)
  rv : ∀ n x j : Nat, lookI n g.rv = some x → e[j]? = some x → rs[j]? = some (ν n)
section
variable {τ : Nat → Ty} {ν : Nat → List Nm × Nat} {A : AG} {e : List Nat} {T b : Nat} {g : G} {vs : List Ty} {rs : List (List Nm × Nat)}
theorem S1.le_b (h : S1 τ ν b A e T g vs rs) {b' : Nat} (hb : b ≤ b') : S1 τ ν b' A e T g vs rs := ⟨⟨h.st.two, h.st.oc, h.st.bd.le hb⟩, h.vw, h.le, h.s1, h.s2, h.tv, h.rv⟩
/-- Two nodes that stand for the same are made one. -/
theorem S1.same (h : S1 τ ν b A e T g vs rs) (hb : b < big) {m n : Nat} (hm : m < A.kind.length) (hn : n < A.kind.length) (hv : vs[m]? = vs[n]?) :
    ∃ g', Ev (fun k => sameX true k g m n) (g', true) ∧ S1 τ ν b A e T g' vs rs := by
  have h2 := h.st.two
  have hT : T < big := by have := h.st.bd.t; omega
  obtain ⟨g', t, ev, P⟩ := same_spec hT true _ g m n h2.ig (Nat.le_refl _) (by have := h.st.bd.o; omega) hm hn
  obtain ⟨E1, S1', R1, q1⟩ : ∃ E1 S1, Run (grA A) (Eq1 g.link) (ES e g) [.ty m n] t E1 S1 ∧ (t = true → E1 = Eq1 g'.link ∧ S1 = ES e g') := by
    cases t with
    | true => exact ⟨_, _, P.q.yes rfl [] true _ _ (.nil _ _), fun _ => ⟨rfl, rfl⟩⟩
    | false => obtain ⟨E, S, R⟩ := P.q.no rfl []; exact ⟨E, S, R, fun q => by cases q⟩
  have tk : ∀ f : List Nm × Nat → Bag Nm, ∀ t ∈ [Tk.ty m n], t.holds (FV vs) (rof f rs) := fun f t ht => by rw [List.mem_singleton.1 ht]; exact hv
  obtain ⟨rt, l1, a1⟩ := R1.least (h.vw.sol rb1) h.le h.s1 (tk rb1)
  obtain ⟨_, _, a2⟩ := R1.least (h.vw.sol rb2) h.le h.s2 (tk rb2)
  subst rt
  obtain ⟨rfl, rfl⟩ := q1 rfl
  have hU : Upto (grA A) (Eq1 g.link) (ES e g) [.ty m n] := ⟨h2.up.eqv, h2.up.kd, fun F ρ hF hE hS _ => h2.up.al F ρ hF hE hS (fun t ht => by cases ht)⟩
  have cl := (R1.closed rfl hU).1
  refine ⟨g', ev, ⟨⟨P.inv, P.inv, rfl, rfl, fun _ => Iff.rfl, cl⟩, ⟨rfl, by rw [P.tv]; exact h.st.oc.tl, by rw [P.rv]; exact h.st.oc.rv, h.st.oc.z⟩, ⟨h.st.bd.k, h.st.bd.t, h.st.bd.t', Nat.le_trans P.o h.st.bd.o, Nat.le_trans P.o h.st.bd.o⟩⟩, h.vw, l1, a1, a2, by rw [P.tv]; exact h.tv, by rw [P.rv]; exact h.rv⟩
theorem kv_app {o : Option Nat} {t : List Ty} (h : KV vs o t) (v : Ty) : KV (vs ++ [v]) o t := by
  cases o with
  | none => exact h
  | some p => obtain ⟨u, hu, e⟩ := h; exact ⟨u, app_some hu v, e⟩
theorem AG.app_ka {kd j x : Nat} {a b : Option Nat} (hw : A.WF e.length) (h : x < A.kind.length) : (A.app kd a b j).ka x = A.ka x ∧ (A.app kd a b j).kb x = A.kb x ∧ (A.app kd a b j).j x = A.j x := by
  have k := AG.app_kd (A := A) (kd := kd) (j := j) (a := a) (b := b) h
  have h1 : x < A.a.length := by rw [hw.la]; exact h
  have h2 : x < A.b.length := by rw [hw.lb]; exact h
  have h3 : x < A.rj.length := by rw [hw.lr]; exact h
  refine ⟨?_, ?_, ?_⟩
  · unfold AG.ka AG.pa; rw [k]; simp only [AG.app, app_l h1]
  · unfold AG.kb AG.pb; rw [k]; simp only [AG.app, app_l h2]
  · unfold AG.j; simp only [AG.app, app_l h3]
theorem AG.app_ka2 {kd j : Nat} {a b : Option Nat} (hw : A.WF e.length) (k : NewNd A e.length kd a b j) : (A.app kd a b j).ka A.kind.length = a ∧ (A.app kd a b j).kb A.kind.length = b ∧ (A.app kd a b j).j A.kind.length = j := by
  have e0 := AG.app_kd2 (A := A) (kd := kd) (j := j) (a := a) (b := b)
  refine ⟨?_, ?_, ?_⟩
  · unfold AG.ka AG.pa
    rw [e0]
    simp only [AG.app, ← hw.la, List.getElem?_concat_length]
    by_cases q : kd = 4 ∨ kd = 5 ∨ kd = 6
    · rw [if_pos q]; obtain ⟨p, rfl, _⟩ := k.a1 q; rfl
    · rw [if_neg q, k.a0 q]
  · unfold AG.kb AG.pb
    rw [e0]
    simp only [AG.app, ← hw.lb, List.getElem?_concat_length]
    by_cases q : kd = 5 ∨ kd = 6
    · rw [if_pos q]; obtain ⟨p, rfl, _⟩ := k.b1 q; rfl
    · rw [if_neg q, k.b0 q]
  · unfold AG.j
    simp only [AG.app, ← hw.lr, List.getElem?_concat_length, Option.getD_some]
theorem VW.app (h : VW A e.length vs rs) (hw : A.WF e.length) {kd j row : Nat} {x y : Option Nat} {ops : List Nm} {ta tb : List Ty} {v : Ty} (k : NewNd A e.length kd x y j) (hv : kd ≠ 0 → v = .mk kd 0 row ops (ta ++ tb)) (hx : KV vs x ta) (hy : KV vs y tb)
    (h6 : kd = 6 → rs[j]? = some (ops, row)) (h0 : kd ≠ 6 → ops = [] ∧ row = 0) : VW (A.app kd x y j) e.length (vs ++ [v]) rs := by
  refine ⟨by simp [AG.app, h.lv], h.lr, fun z u hu hz => ?_, h.srt⟩
  rcases app_at hu with ⟨q, hu⟩ | ⟨q, rfl⟩
  · rw [h.lv] at q
    obtain ⟨a1, a2, a3⟩ := AG.app_ka (kd := kd) (j := j) (a := x) (b := y) hw q
    have ak := AG.app_kd (A := A) (kd := kd) (j := j) (a := x) (b := y) q
    rw [ak] at hz
    obtain ⟨row', ops', ta', tb', e1, e2, e3, e4, e5⟩ := h.nd z u hu hz
    exact ⟨row', ops', ta', tb', by rw [ak]; exact e1, by rw [a1]; exact kv_app e2 v, by rw [a2]; exact kv_app e3 v, by rw [ak, a3]; exact e4, by rw [ak]; exact e5⟩
  · rw [h.lv] at q
    subst q
    obtain ⟨a1, a2, a3⟩ := AG.app_ka2 hw k
    have ak := AG.app_kd2 (A := A) (kd := kd) (j := j) (a := x) (b := y)
    rw [ak] at hz
    exact ⟨row, ops, ta, tb, by rw [ak]; exact hv hz, by rw [a1]; exact kv_app hx u, by rw [a2]; exact kv_app hy u, by rw [ak, a3]; exact h6, by rw [ak]; exact h0⟩
/-- A new node. -/
theorem S1.putN (h : S1 τ ν b A e T g vs rs) {kd j r row : Nat} {x y : Option Nat} {ops : List Nm} {ta tb : List Ty} {v : Ty} (k : NewNd A e.length kd x y j) (hr : e[j]? = some r) (hv : kd ≠ 0 → v = .mk kd 0 row ops (ta ++ tb)) (hx : KV vs x ta) (hy : KV vs y tb)
    (h6 : kd = 6 → rs[j]? = some (ops, row)) (h0 : kd ≠ 6 → ops = [] ∧ row = 0) : S1 τ ν (b + 1) (A.app kd x y j) e T (gput g kd x y r) (vs ++ [v]) rs := by
  have hI := h.st.two.ig
  refine ⟨h.st.putN k hr hr, h.vw.app hI.wf k hv hx hy h6 h0, fun p q hpq => ?_, h.s1, h.s2, fun n m hm => app_some (h.tv n m hm) v, h.rv⟩
  change Eq1 (g.link ++ [none]) p q at hpq
  rw [eq1_app hI.all] at hpq
  rcases hpq.lt with rfl | ⟨q1, q2⟩
  · rfl
  · rw [hI.ll, ← h.vw.lv] at q1 q2
    rw [app_l q1, app_l q2]; exact h.le p q hpq
theorem S1.varN (h : S1 τ ν b A e T g vs rs) (n : Nat) : S1 τ ν (b + 1) (A.app 0 none none 0) e T (gtv (gput g 0 none none 0) n A.kind.length) (vs ++ [τ n]) rs := by
  have k := h.putN (kd := 0) (j := 0) (x := none) (y := none) (row := 0) (ops := []) (ta := []) (tb := []) (v := τ n) ⟨by simp, fun _ => rfl, by simp, fun _ => rfl, (List.getElem?_eq_some_iff.1 h.st.oc.z.1).1⟩ h.st.oc.z.1 (by simp) rfl rfl (by simp) (fun _ => ⟨rfl, rfl⟩)
  refine ⟨h.st.varN n, k.vw, k.le, k.s1, k.s2, fun i m hm => ?_, k.rv⟩
  change lookI i (g.tv ++ [((n : Int), A.kind.length)]) = some m at hm
  rw [lookI_app] at hm
  cases hl : lookI i g.tv with
  | some k' => rw [hl] at hm; cases hm; exact k.tv i _ hl
  | none =>
    rw [hl] at hm
    simp only at hm
    split at hm
    · rename_i q
      obtain rfl : n = i := by omega
      cases hm; rw [← h.vw.lv]; simp
    · cases hm
theorem SolR.congr {ops : List (List Nm)} {nx : List (Option Nat)} {ρ ρ' : Nat → Bag Nm} (k : ∀ j, j < e.length → ρ j = ρ' j) (h : SolR ops nx e ρ) : SolR ops nx e ρ' := by
  obtain ⟨σ, h1, h2⟩ := h
  exact ⟨σ, fun j x hj => by rw [h1 j x hj, k j (List.getElem?_eq_some_iff.1 hj).1], h2⟩
theorem rof_old {f : List Nm × Nat → Bag Nm} (q : List Nm × Nat) (hl : rs.length = e.length) : ∀ j, j < e.length → rof f rs j = rof f (rs ++ [q]) j := fun j hj => by unfold rof; rw [app_l (by omega)]
theorem rof_new {f : List Nm × Nat → Bag Nm} (q : List Nm × Nat) (hl : rs.length = e.length) : rof f (rs ++ [q]) e.length = f q := rof_at (by rw [← hl]; simp)
theorem VW.row (h : VW A e.length vs rs) (hw : A.WF e.length) {q : List Nm × Nat} (hq : Srt q.1) (z : Nat) : VW A (e ++ [z]).length vs (rs ++ [q]) := by
  refine ⟨h.lv, by simp [h.lr], fun x v hv hx => ?_, fun p hp => ?_⟩
  · obtain ⟨row, ops, ta, tb, e1, e2, e3, e4, e5⟩ := h.nd x v hv hx
    exact ⟨row, ops, ta, tb, e1, e2, e3, fun h6 => app_some (e4 h6) q, e5⟩
  · rcases List.mem_append.1 hp with k | k
    · exact h.srt p k
    · rw [List.mem_singleton.1 k]; exact hq
/-- A new row's variable. -/
theorem S1.opnR (h : S1 τ ν b A e T g vs rs) (hν : ∀ n, Srt (ν n).1) (n : Nat) (hn : lookI n g.rv = none) : S1 τ ν (b + 1) A (e ++ [g.next.length]) T (grv (gopn g [] none) n g.next.length) vs (rs ++ [ν n]) := by
  have hI := h.st.two.ig
  have hl : rs.length = e.length := h.vw.lr
  have so := SolR.open hI.ri hI.el
  refine ⟨h.st.opnR n ⟨hn, hn⟩, h.vw.row hI.wf (hν n) _, h.le, (so _).2 (SolR.congr (rof_old _ hl) h.s1), (so _).2 (SolR.congr (rof_old _ hl) h.s2), h.tv, fun i x j hi hj => ?_⟩
  change lookI i (g.rv ++ [((n : Int), g.next.length)]) = some x at hi
  rw [lookI_app] at hi
  cases hk : lookI i g.rv with
  | some k' =>
    rw [hk] at hi; cases hi
    rcases app_at hj with ⟨_, hj⟩ | ⟨_, q⟩
    · exact app_some (h.rv i _ j hk hj) _
    · rcases h.st.oc.rv i with ⟨j', x', _, l1, _, l3, _⟩ | ⟨q1, _⟩
      · rw [hk] at l1; cases l1
        have := hI.el _ (List.mem_of_getElem? l3); omega
      · rw [hk] at q1; cases q1
  | none =>
    rw [hk] at hi
    simp only at hi
    split at hi
    · rename_i q
      obtain rfl : n = i := by omega
      cases hi
      rcases app_at hj with ⟨_, hj⟩ | ⟨q2, _⟩
      · have := hI.el _ (List.mem_of_getElem? hj); omega
      · subst q2; rw [← hl]; simp
    · cases hi
/-- A new row. -/
theorem S1.rowN (h : S1 τ ν b A e T g vs rs) (l : List Nm) {q : Nat} {v : Option Nat} {p : List Nm × Nat} (hq : Nxt e v q) (hp : Srt p.1) (h1 : rb1 p = add (bag l) (ov (rof rb1 rs) v)) (h2 : rb2 p = add (bag l) (ov (rof rb2 rs) v)) :
    S1 τ ν (b + 1 + l.length) A (e ++ [g.next.length]) (T + l.length) (gopn g l (some q)) vs (rs ++ [p]) := by
  have hI := h.st.two.ig
  have hl : rs.length = e.length := h.vw.lr
  have so := SolR.put hI.ri hI.el l hq
  have ovo : ∀ f : List Nm × Nat → Bag Nm, ov (rof f (rs ++ [p])) v = ov (rof f rs) v := fun f => by
    cases v with
    | none => rfl
    | some j => exact (rof_old p hl j (List.getElem?_eq_some_iff.1 hq.2).1).symm
  refine ⟨h.st.rowN l hq hq, h.vw.row hI.wf hp _, h.le, (so _).2 ⟨SolR.congr (rof_old _ hl) h.s1, ?_⟩, (so _).2 ⟨SolR.congr (rof_old _ hl) h.s2, ?_⟩, h.tv, fun i x j hi hj => ?_⟩
  · rw [rof_new p hl, ovo]; exact h1
  · rw [rof_new p hl, ovo]; exact h2
  · rcases app_at hj with ⟨_, hj⟩ | ⟨_, q2⟩
    · exact app_some (h.rv i x j hi hj) _
    · rcases h.st.oc.rv i with ⟨j', x', _, l1, _, l3, _⟩ | ⟨q1, _⟩
      · change lookI i g.rv = some x at hi
        rw [hi] at l1; cases l1
        have := hI.el _ (List.mem_of_getElem? l3); omega
      · change lookI i g.rv = some x at hi
        rw [hi] at q1; cases q1
theorem S1.len (h : S1 τ ν b A e T g vs rs) (hb : b < big) : g.kind.length < big ∧ g.ops.length < big := by
  have a := h.st.bd.k
  have c := h.st.bd.o
  rw [h.st.two.ig.kind]
  omega
theorem S1.z (h : S1 τ ν b A e T g vs rs) : 0 < e.length := (List.getElem?_eq_some_iff.1 h.st.oc.z.1).1
end
theorem of_val {τ : Nat → Ty} {ν : Nat → List Nm × Nat} (hν : ∀ n, Srt (ν n).1) {c : Nat} {t : Ty} (ht : Fine c t) : ∀ {A : AG} {e : List Nat} {T b : Nat} {g : G} {vs : List Ty} {rs : List (List Nm × Nat)}, S1 τ ν b A e T g vs rs → b + 3 * c < big →
    ∃ A' e' T' g' n vs' rs', Ev (fun k => ofX k g t) (g', n) ∧ S1 τ ν (b + 3 * c) A' e' T' g' vs' rs' ∧ n < A'.kind.length ∧ A.kind.length ≤ A'.kind.length ∧ vs'[n]? = some (subT τ ν t) ∧ ∀ (x : Nat) (v : Ty), vs[x]? = some v → vs'[x]? = some v := by
  induction ht with
  | v n hn =>
    intro A e T b g vs rs h hb
    obtain ⟨l1, l2⟩ := h.len (by omega)
    cases hl : lookI n g.tv with
    | some m => exact ⟨A, e, T, g, m, vs, rs, enter 0 fun k _ => by unfold ofX; simp only [if_true, hl], h.le_b (by omega), h.st.oc.tl _ _ hl, Nat.le_refl _, by rw [h.tv n m hl]; simp [subT], fun _ _ h => h⟩
    | none =>
      have h2 := h.varN n
      refine ⟨_, e, T, _, A.kind.length, _, rs, enter 0 fun k _ => ?_, h2.le_b (by omega), by simp [AG.app], by simp [AG.app], by rw [← h.vw.lv]; simp [subT], fun x v hx => app_some hx _⟩
      unfold ofX; simp only [if_true, hl, G.var, put_ev g 0 none none 0 l1]; rw [h.st.two.ig.kind]; rfl
  | c kd hk =>
    intro A e T b g vs rs h hb
    obtain ⟨l1, l2⟩ := h.len (by omega)
    have z : kd ≠ 0 := by omega
    have z6 : kd ≠ 6 := by omega
    have h2 := h.putN (kd := kd) (j := 0) (x := none) (y := none) (row := 0) (ops := []) (ta := []) (tb := []) (v := .mk kd 0 0 [] []) ⟨by omega, fun _ => rfl, by omega, fun _ => rfl, h.z⟩ h.st.oc.z.1 (fun _ => rfl) rfl rfl (fun q => absurd q z6) (fun _ => ⟨rfl, rfl⟩)
    refine ⟨_, e, T, _, A.kind.length, _, rs, enter 0 fun k _ => ?_, h2.le_b (by omega), by simp [AG.app], by simp [AG.app], by rw [← h.vw.lv]; simp [subT, subs, z, nvv, putAll], fun x v hx => app_some hx _⟩
    unfold ofX; simp only [if_neg z, if_neg z6, List.getElem?_nil, ofkid, put_ev g kd none none 0 l1]; rw [h.st.two.ig.kind]
  | @l c t ht ih =>
    intro A e T b g vs rs h hb
    obtain ⟨A1, e1, T1, g1, n, vs1, rs1, ⟨k1, h1⟩, H1, hn, hA, hv, hk⟩ := ih h (by omega)
    obtain ⟨l1, l2⟩ := H1.len (by omega)
    have H2 := H1.putN (kd := 4) (j := 0) (x := some n) (y := none) (row := 0) (ops := []) (ta := [subT τ ν t]) (tb := []) (v := .mk 4 0 0 [] [subT τ ν t]) ⟨fun _ => ⟨n, rfl, hn⟩, by simp, by simp, fun _ => rfl, H1.z⟩ H1.st.oc.z.1 (fun _ => rfl) ⟨_, hv, rfl⟩ rfl (by simp) (fun _ => ⟨rfl, rfl⟩)
    refine ⟨_, e1, T1, _, A1.kind.length, _, rs1, enter k1 fun k hk => ?_, H2.le_b (by omega), by simp [AG.app], by simp [AG.app]; omega, by rw [← H1.vw.lv]; simp [subT, subs, nvv, putAll], fun x v hx => app_some (hk x v hx) _⟩
    unfold ofX; simp only [Nat.reduceEqDiff, if_false, List.getElem?_cons_zero, List.getElem?_cons_succ, List.getElem?_nil, ofkid, h1 k hk, put_ev g1 4 _ none 0 l1]; rw [H1.st.two.ig.kind]
  | @p c t c' u ht hu ih ih' =>
    intro A e T b g vs rs h hb
    obtain ⟨A1, e1, T1, g1, n, vs1, rs1, ⟨k1, h1⟩, H1, hn, hA, hv, hk⟩ := ih h (by omega)
    obtain ⟨A2, e2, T2, g2, m, vs2, rs2, ⟨k3, h3⟩, H2, hm, hA2, hv2, hk2⟩ := ih' H1 (by omega)
    obtain ⟨l1, l2⟩ := H2.len (by omega)
    have H3 := H2.putN (kd := 5) (j := 0) (x := some n) (y := some m) (row := 0) (ops := []) (ta := [subT τ ν t]) (tb := [subT τ ν u]) (v := .mk 5 0 0 [] [subT τ ν t, subT τ ν u]) ⟨fun _ => ⟨n, rfl, by omega⟩, by simp, fun _ => ⟨m, rfl, hm⟩, by simp, H2.z⟩ H2.st.oc.z.1 (fun _ => rfl) ⟨_, hk2 _ _ hv, rfl⟩ ⟨_, hv2, rfl⟩ (by simp) (fun _ => ⟨rfl, rfl⟩)
    refine ⟨_, e2, T2, _, A2.kind.length, _, rs2, enter (k1 + k3) fun k hk => ?_, H3.le_b (by omega), by simp [AG.app], by simp [AG.app]; omega, by rw [← H2.vw.lv]; simp [subT, subs, nvv, putAll], fun x v hx => app_some (hk2 _ _ (hk x v hx)) _⟩
    unfold ofX; simp only [Nat.reduceEqDiff, if_false, List.getElem?_cons_zero, List.getElem?_cons_succ, ofkid, h1 k (by omega), h3 k (by omega), put_ev g2 5 _ _ 0 l1]; rw [H2.st.two.ig.kind]
  | @f c t c' u row ops ho hs ht hu ih ih' =>
    intro A e T b g vs rs h hb
    obtain ⟨A1, e1, T1, g1, n, vs1, rs1, ⟨k1, h1⟩, H1, hn, hA, hv, hk⟩ := ih h (by omega)
    obtain ⟨A2, e2, T2, g2, m, vs2, rs2, ⟨k3, h3⟩, H2, hm, hA2, hv2, hk2⟩ := ih' H1 (by omega)
    obtain ⟨e3, g3, q, v, rs3, x1, H3, n1, r1, r2⟩ : ∃ e3 g3 q v rs3, ofnx g2 row = some (g3, q) ∧ S1 τ ν (b + 3 * c + 3 * c' + 1) A2 e3 T2 g3 vs2 rs3 ∧ Nxt e3 v q ∧ ov (rof rb1 rs3) v = rb1 (nvv ν row) ∧ ov (rof rb2 rs3) v = rb2 (nvv ν row) := by
      obtain ⟨l1, l2⟩ := H2.len (by omega)
      unfold ofnx
      by_cases r0 : 0 < row
      · have en : nvv ν row = ν row := by unfold nvv; rw [if_neg (by omega)]
        simp only [if_pos r0, en]
        rcases H2.st.oc.rv row with ⟨j, x, y, q1, q2, q3, q4, q5, q6⟩ | ⟨q1, q2⟩
        · rw [q1]
          have hj := H2.rv row x j q1 q3
          exact ⟨e2, g2, x, some j, rs2, rfl, H2.le_b (by omega), ⟨q5, q3⟩, rof_at hj, rof_at hj⟩
        · rw [q1]
          have hl := H2.vw.lr
          refine ⟨_, _, g2.next.length, some e2.length, _, ?_, H2.opnR hν row q1, ⟨by have := H2.st.two.ig.ri.zpos; omega, by simp⟩, rof_new _ hl, rof_new _ hl⟩
          simp only [G.opn, putRow_ev g2 [] none l2]; rw [H2.st.two.ig.ri.len]; rfl
      · have en : nvv ν row = ([], 0) := by unfold nvv; rw [if_pos (by omega)]
        simp only [if_neg r0, en]
        refine ⟨e2, g2, 0, none, rs2, rfl, H2.le_b (by omega), rfl, rfl, ?_⟩
        funext k; simp [ov, zb, rb2, add, bag, tlG]
    obtain ⟨_, l3⟩ := H3.len (by omega)
    have hsr : Srt (putAll (putAll [] ops) (nvv ν row).1) := putAll_srt (putAll_srt .nil ops) _
    have hbg : bag (putAll (putAll [] ops) (nvv ν row).1) = add (bag ops) (bag (nvv ν row).1) := by rw [bag_perm (putAll_perm _ _), bag_app, bag_perm (putAll_perm _ _), List.nil_append]
    have H4 := H3.rowN ops (p := (putAll (putAll [] ops) (nvv ν row).1, (nvv ν row).2)) n1 hsr (by rw [r1]; exact hbg) (by rw [r2]; unfold rb2; rw [hbg, add_assoc])
    obtain ⟨l1, _⟩ := H4.len (by omega)
    have H5 := H4.putN (kd := 6) (j := e3.length) (r := g3.next.length) (x := some n) (y := some m) (row := (nvv ν row).2) (ops := putAll (putAll [] ops) (nvv ν row).1) (ta := [subT τ ν t]) (tb := [subT τ ν u]) (v := .mk 6 0 (nvv ν row).2 (putAll (putAll [] ops) (nvv ν row).1) [subT τ ν t, subT τ ν u]) ⟨fun _ => ⟨n, rfl, by omega⟩, by simp, fun _ => ⟨m, rfl, hm⟩, by simp, by simp⟩ (by simp) (fun _ => rfl) ⟨_, hk2 _ _ hv, rfl⟩ ⟨_, hv2, rfl⟩ (fun _ => by rw [← H3.vw.lr]; simp) (fun q => absurd rfl q)
    refine ⟨_, _, _, _, A2.kind.length, _, _, enter (k1 + k3) fun k hk => ?_, H5.le_b (by omega), by simp [AG.app], by simp [AG.app]; omega, by rw [← H2.vw.lv]; simp [subT, subs], fun x v hx => app_some (hk2 _ _ (hk x v hx)) _⟩
    unfold ofX; simp only [Nat.reduceEqDiff, if_false, if_true, List.getElem?_cons_zero, List.getElem?_cons_succ, ofkid, h1 k (by omega), h3 k (by omega), x1, putRow_ev g3 ops _ l3, put_ev _ 6 _ _ _ l1]
    rw [H4.st.two.ig.kind, H3.st.two.ig.ri.len]
mutual
def sz : Ty → Nat
  | .mk _ _ _ ops args => 1 + ops.length + szs args
def szs : List Ty → Nat
  | [] => 0
  | t :: l => sz t + szs l
end
theorem szs_app : ∀ a b : List Ty, szs (a ++ b) = szs a + szs b
  | [], b => by simp [szs]
  | t :: a, b => by simp [szs, szs_app a b]; omega
theorem Fine.sz {c : Nat} {t : Ty} (h : Fine c t) : sz t = c := by
  induction h with
  | v n h => rfl
  | c kd h => rfl
  | l h ih => simp [Slv.sz, szs, ih]; omega
  | p h k ih ih' => simp [Slv.sz, szs, ih, ih']; omega
  | f row ops ho hs h k ih ih' => simp [Slv.sz, szs, ih, ih']; omega
theorem sz_pos (t : Ty) : 1 ≤ sz t := by cases t; simp [sz]; omega
/-! ### Bags that are parts of others -/
theorem bag_len {l o : List Nm} {b : Bag Nm} (h : bag o = add (bag l) b) : l.length ≤ o.length := by
  have e : bag o = bag (l ++ less o l) := by
    rw [bag_app, less_bag, h]
    funext k; simp [add, sub]
  have s := srt_eq (l := putAll [] o) (m := putAll [] (l ++ less o l)) (putAll_srt .nil _) (putAll_srt .nil _) (by rw [bag_perm (putAll_perm _ _), bag_perm (putAll_perm _ _)]; exact e)
  have := congrArg List.length s
  rw [(putAll_perm _ _).length_eq, (putAll_perm _ _).length_eq] at this
  simp at this; omega
def mg (ts : List Nm) : List Nm → List Nm × List Nm
  | [] => (ts, [])
  | u :: us => match ts with
    | [] => ((mg [] us).1, u :: (mg [] us).2)
    | t :: r => if eqN t u then mg r us else ((mg (t :: r) us).1, u :: (mg (t :: r) us).2)
theorem mg_cc (t u : Nm) (r us : List Nm) : mg (t :: r) (u :: us) = if eqN t u = true then mg r us else ((mg (t :: r) us).1, u :: (mg (t :: r) us).2) := rfl
theorem mg_nil : ∀ us, mg [] us = ([], us)
  | [] => rfl
  | u :: us => by unfold mg; rw [mg_nil us]
theorem mg_self : ∀ us, mg us us = ([], [])
  | [] => rfl
  | u :: us => by rw [mg_cc, if_pos (eqN_iff.2 rfl)]; exact mg_self us
theorem mg_sub : ∀ (us ts : List Nm), (mg ts us).2.Sublist us
  | [], ts => by unfold mg; exact .slnil
  | u :: us, [] => by rw [mg_nil]; exact .refl _
  | u :: us, t :: r => by
    rw [mg_cc]
    split
    · exact (mg_sub us r).cons u
    · exact (mg_sub us (t :: r)).cons_cons u
theorem mg_spec : ∀ (us ts : List Nm) (b : Bag Nm), Srt ts → Srt us → bag us = add (bag ts) b → (mg ts us).1 = [] ∧ bag (mg ts us).2 = b
  | [], ts, b, _, _, h => by
    have e : bag ts = zb := by
      funext k
      have := congrFun h k
      have z : bag ([] : List Nm) k = 0 := rfl
      simp only [add, z] at this
      show bag ts k = 0
      omega
    rw [bag_zb] at e; subst e
    refine ⟨rfl, ?_⟩
    rw [mg_nil, h, bag_nil, zb_add]
  | u :: us, [], b, _, _, h => by rw [mg_nil]; exact ⟨rfl, by rw [h, bag_nil, zb_add]⟩
  | u :: us, t :: r, b, ht, hu, h => by
    rw [mg_cc]
    obtain ⟨hu1, hu2⟩ := List.pairwise_cons.1 hu
    by_cases q : eqN t u = true
    · rw [if_pos q]
      obtain rfl := eqN_iff.1 q
      refine mg_spec us r b (List.pairwise_cons.1 ht).2 hu2 ?_
      funext k
      have := congrFun h k
      simp only [add, bag_cons] at this ⊢
      omega
    · rw [if_neg q]
      have tne : t ≠ u := fun e => q (eqN_iff.2 e)
      have htu : t ∈ us := by
        have h1 : 0 < bag (u :: us) t := by rw [h]; simp only [add, bag_self]; omega
        rcases List.mem_cons.1 (bag_mem.1 h1) with e | e
        · exact absurd e tne
        · exact e
      have hut := hu1 t htu
      have hnu : bag (t :: r) u = 0 := by
        refine Nat.eq_zero_of_not_pos fun hp => ?_
        rcases List.mem_cons.1 (bag_mem.1 hp) with e | e
        · exact tne e.symm
        · exact tne (leN_anti ((List.pairwise_cons.1 ht).1 u e) hut)
      have hb : 1 ≤ b u := by
        have := congrFun h u
        simp only [add, hnu, bag_self] at this
        omega
      obtain ⟨h1, h2⟩ := mg_spec us (t :: r) (fun k => b k - if eqN u k = true then 1 else 0) ht hu2 (by
        funext k
        have := congrFun h k
        rw [bag_cons] at this
        simp only [add] at this ⊢
        split at this
        · rename_i e
          obtain rfl := eqN_iff.1 e
          rw [if_pos e, hnu]; rw [hnu] at this; omega
        · rename_i e
          rw [if_neg e]; omega)
      refine ⟨h1, ?_⟩
      funext k
      rw [bag_cons, h2]
      show b k - (if eqN u k = true then 1 else 0) + _ = b k
      by_cases e : eqN u k = true
      · obtain rfl := eqN_iff.1 e
        simp only [if_pos e]; omega
      · simp only [if_neg e]; omega
/-! ### The program's count -/
/-- What lies open is greater. -/
structure SZ (vs : List Ty) (s : Seen) (lim : Nat) : Prop where
  aa : ∀ x c, lkS x s = some c → ∃ u, vs[x]? = some u ∧ (c = 0 → lim < sz u) ∧ c ≤ sz u
section
variable {τ : Nat → Ty} {ν : Nat → List Nm × Nat} {A : AG} {e : List Nat} {T b : Nat} {g : G} {vs : List Ty} {rs : List (List Nm × Nat)}
/-- The extensions of the rows' values. -/
structure Ex (g : G) (e : List Nat) (rs : List (List Nm × Nat)) (ρ1 ρ2 : Nat → Bag Nm) : Prop where
  e1 : ∀ j x, e[j]? = some x → ρ1 x = rof rb1 rs j
  e2 : ∀ j x, e[j]? = some x → ρ2 x = rof rb2 rs j
  s1 : Sat (stR g.ops g.next) ρ1
  s2 : Sat (stR g.ops g.next) ρ2
theorem S1.ex (h : S1 τ ν b A e T g vs rs) : ∃ ρ1 ρ2, Ex g e rs ρ1 ρ2 := by
  obtain ⟨ρ1, a, c⟩ := h.s1
  obtain ⟨ρ2, a', c'⟩ := h.s2
  exact ⟨ρ1, ρ2, a, a', c, c'⟩
theorem S1.rowv (h : S1 τ ν b A e T g vs rs) (hT : T < big) {ρ1 ρ2 : Nat → Bag Nm} (hx : Ex g e rs ρ1 ρ2) {r : Nat} (rl : r < A.kind.length) {ops : List Nm} {row : Nat} (hr : rs[A.j r]? = some (ops, row)) :
    ∃ x l w, g.row[r]? = some x ∧ Ev (fun k => whole k g x []) (putAll [] l, w) ∧ bag ops = add (bag l) (ov ρ1 (vO w)) ∧ add (bag ops) (tlG row) = add (bag l) (ov ρ2 (vO w)) ∧ Srt ops ∧ w < g.next.length := by
  have hI := h.st.two.ig
  obtain ⟨x, hx1, hx2, _⟩ := hI.gr rl
  obtain ⟨l, w, hw, ev, _, vr⟩ := hI.wh hT hx1
  have wh := hw.wh hI.ri.z
  have a1 := wh.sat hx.s1
  have a2 := wh.sat hx.s2
  rw [hx.e1 _ _ hx1, rof_at hr] at a1
  rw [hx.e2 _ _ hx1, rof_at hr] at a2
  exact ⟨x, l, w, hx2, ev, a1, a2, h.vw.srt _ (List.mem_of_getElem? hr), vr.lt hI⟩
theorem S1.rootv (h : S1 τ ν b A e T g vs rs) {n : Nat} (hn : n < A.kind.length) {v : Ty} (hv : vs[n]? = some v) : ∃ r, En g.link n r ∧ r < A.kind.length ∧ vs[r]? = some v := by
  obtain ⟨r, h1, h2, h3, h4⟩ := h.st.two.ig.root hn
  exact ⟨r, h1, h2, by rw [← h.le n r h4]; exact hv⟩
theorem S1.vlt (h : S1 τ ν b A e T g vs rs) {n : Nat} {v : Ty} (hv : vs[n]? = some v) : n < A.kind.length := by rw [← h.vw.lv]; exact (List.getElem?_eq_some_iff.1 hv).1
theorem ckid_val {vs : List Ty} {s : Seen} {lim : Nat} {x : Option Nat} {ta : List Ty} {f : Nat → Nat → Seen → Bool → Option (Nat × Seen × Bool)} (c : Nat) (h0 : SZ vs s lim) (hk : KV vs x ta)
    (h : ∀ p u, x = some p → vs[p]? = some u → sz u ≤ szs ta → ∃ c s', Ev (fun k => f k p s false) (c, s', false) ∧ c ≤ sz u ∧ SZ vs s' lim ∧ ∀ z, lkS z s' = some 0 → lkS z s = some 0) :
    ∃ c' s', Ev (fun k => ckid (f k) (some x) c s false) (c', s', false) ∧ (c ≤ c' ∧ c' ≤ c + szs ta) ∧ SZ vs s' lim ∧ ∀ z, lkS z s' = some 0 → lkS z s = some 0 := by
  cases x with
  | none => rw [show ta = [] from hk]; exact ⟨c, s, Ev.pure _, ⟨Nat.le_refl _, by simp [szs]⟩, h0, fun _ h => h⟩
  | some p =>
    obtain ⟨u, hu, rfl⟩ := hk
    obtain ⟨j, s', h1, h2, h3, h4⟩ := h p u rfl hu (by simp [szs])
    exact ⟨c + j, s', h1.of fun k hk => by simp only [ckid, hk], ⟨by omega, by simp [szs]; omega⟩, h3, h4⟩
theorem cnt_val (h : S1 τ ν b A e T g vs rs) (hT : T < big) : ∀ N n v s, vs[n]? = some v → sz v ≤ N → N ≤ 300 → SZ vs s N →
    ∃ c s', Ev (fun k => cnt k g n s false) (c, s', false) ∧ c ≤ sz v ∧ SZ vs s' N ∧ ∀ z, lkS z s' = some 0 → lkS z s = some 0 := by
  obtain ⟨ρ1, ρ2, hx⟩ := h.ex
  intro N
  induction N with
  | zero => intro n v s hv hs; have := sz_pos v; omega
  | succ N ih =>
    intro n v s hv hs hN hS
    have hI := h.st.two.ig
    obtain ⟨r, hr, rl, hrv⟩ := h.rootv (h.vlt hv) hv
    obtain ⟨kf, hf⟩ := hr.find
    cases hl : lkS r s with
    | some c =>
      obtain ⟨u, hu, a1, a2⟩ := hS.aa r c hl
      rw [hrv] at hu; cases hu
      cases c with
      | zero => have := a1 rfl; omega
      | succ c => exact ⟨c + 1, s, enter kf fun k hk => by unfold cnt; simp only [hf k hk, hl], a2, hS, fun _ h => h⟩
    | none =>
      by_cases hle : sz v ≤ N
      · obtain ⟨c, s', h1, h2, h3, h4⟩ := ih n v s hv hle (by omega) ⟨fun x c hc => by
          obtain ⟨u, hu, a1, a2⟩ := hS.aa x c hc
          exact ⟨u, hu, fun q => by have := a1 q; omega, a2⟩⟩
        refine ⟨c, s', h1, h2, ⟨fun x c hc => ?_⟩, h4⟩
        obtain ⟨u, hu, a1, a2⟩ := h3.aa x c hc
        refine ⟨u, hu, fun q => ?_, a2⟩
        subst q
        obtain ⟨u', hu', a3, _⟩ := hS.aa x 0 (h4 x hc)
        rw [hu] at hu'; cases hu'; exact a3 rfl
      · have hS0 : SZ vs (s.put r 0) N := ⟨fun x c hc => by
          rw [lkS_put] at hc
          split at hc
          · rename_i q; subst q; cases hc
            exact ⟨v, hrv, fun _ => by omega, Nat.zero_le _⟩
          · obtain ⟨u, hu, a1, a2⟩ := hS.aa x c hc
            exact ⟨u, hu, fun q => by have := a1 q; omega, a2⟩⟩
        obtain ⟨ta, tb, j, hka, hkb, ⟨kj, hj⟩, hsz⟩ : ∃ ta tb j, KV vs (A.ka r) ta ∧ KV vs (A.kb r) tb ∧ Ev (fun k => ownX k g r) j ∧ 1 + j + szs ta + szs tb ≤ sz v := by
          by_cases k0 : A.kd r = 0
          · have n1 : A.ka r = none := by unfold AG.ka; rw [k0]; rfl
            have n2 : A.kb r = none := by unfold AG.kb; rw [k0]; rfl
            refine ⟨[], [], 0, by rw [n1]; rfl, by rw [n2]; rfl, (Ev.pure 0).of fun k _ => ?_, by have := sz_pos v; simp [szs]; omega⟩
            unfold ownX; rw [hI.gk rl, k0]; rfl
          · obtain ⟨row, ops, ta, tb, rfl, k1, k2, k3, k4⟩ := h.vw.nd r v hrv k0
            have e : sz (.mk (A.kd r) 0 row ops (ta ++ tb)) = 1 + ops.length + (szs ta + szs tb) := by rw [sz, szs_app]
            by_cases h6 : A.kd r = 6
            · obtain ⟨x, l, w, hx2, ev, b1, _, _, _⟩ := h.rowv hT hx rl (k3 h6)
              have := bag_len b1
              refine ⟨ta, tb, (putAll [] l).length, k1, k2, ev.of fun k hk => (by unfold ownX; rw [hI.gk rl, h6]; simp only [hx2, hk]; rfl), ?_⟩
              rw [(putAll_perm [] l).length_eq, e]; simp; omega
            · refine ⟨ta, tb, 0, k1, k2, (Ev.pure 0).of fun k _ => ?_, by rw [e]; omega⟩
              unfold ownX; rw [hI.gk rl]
              split
              · rename_i q; exact absurd (Option.some.inj q) h6
              · rfl
              · rename_i q; cases q
        obtain ⟨c1, s1, ⟨ka, ha⟩, ca, S1', z1⟩ := ckid_val (s := s.put r 0) (f := fun k => cnt k g) 1 hS0 hka fun p u _ hu hsu => ih p u _ hu (by omega) (by omega) hS0
        obtain ⟨c2, s2, ⟨kb, hb⟩, cb, S2', z2⟩ := ckid_val (s := s1) (f := fun k => cnt k g) c1 S1' hkb fun p u _ hu hsu => ih p u _ hu (by omega) (by omega) S1'
        have hle2 : c2 + j ≤ 2147483647 := by omega
        have hmn : min (c2 + j) 1000000 = c2 + j := by omega
        refine ⟨c2 + j, s2.put r (c2 + j), enter (kf + ka + kb + kj) fun k hk => by unfold cnt; simp only [hf k (by omega), hl, hI.ga rl, hI.gb rl, ha k (by omega), hb k (by omega), hj k (by omega), if_pos hle2, hmn], by omega, ⟨fun x c hc => ?_⟩, fun z hz => ?_⟩
        · rw [lkS_put] at hc
          split at hc
          · rename_i q; subst q; cases hc
            exact ⟨v, hrv, fun q => by omega, by omega⟩
          · rename_i q
            obtain ⟨u, hu, a1, a2⟩ := S2'.aa x c hc
            refine ⟨u, hu, fun q0 => ?_, a2⟩
            subst q0
            have := z1 x (z2 x hc)
            rw [lkS_put, if_neg q] at this
            obtain ⟨u', hu', a3, _⟩ := hS.aa x 0 this
            rw [hu] at hu'; cases hu'; exact a3 rfl
        · rw [lkS_put] at hz
          split at hz
          · have := Option.some.inj hz; omega
          · rename_i q
            have := z1 z (z2 z hz)
            rwa [lkS_put, if_neg q] at this
end
end Go.Slv
