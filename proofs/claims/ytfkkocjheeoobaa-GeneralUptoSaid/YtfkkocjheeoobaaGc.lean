/- General, plain law: what is told fits what the substitution makes. -/
import Derived.Test.YtfkkocjheeoobaaSf
import Derived.Test.YtfkkocjheeoobaaSw8
import Derived.Test.YtfkkocjheeoobaaPx
set_option linter.unusedVariables false
set_option linter.unusedSimpArgs false
set_option linter.unusedVariables false
set_option linter.unusedSimpArgs false
namespace Go.Slv
open Go.Inf hiding add
open Go.Urw Go.Ucl
mutual
def trT : Ty → Tr
  | .mk kd n row ops args => .mk kd n row ops (trTs args)
def trTs : List Ty → List Tr
  | [] => []
  | t :: l => trT t :: trTs l
end
/-- What variables stand for so far. -/
structure Fm where
  T : Nat → Option Ty
  R : Nat → Option (List Nm × Nat)
def updF {α : Type} (f : Nat → Option α) (n : Nat) (v : α) : Nat → Option α := fun k => if k = n then some v else f k
inductive FitR (R : Nat → Option (List Nm × Nat)) : List Nm → Nat → List Nm → Nat → (Nat → Option (List Nm × Nat)) → Prop
  | z (ops : List Nm) : FitR R ops 0 ops 0 R
  | new {ops : List Nm} {row : Nat} {ops' : List Nm} {row' : Nat} {more : List Nm} (h0 : row ≠ 0) (hn : R row = none) (hm : mg ops ops' = ([], more)) : FitR R ops row ops' row' (updF R row (more, row'))
  | old {ops : List Nm} {row : Nat} {ops' : List Nm} {row' : Nat} {more : List Nm} (h0 : row ≠ 0) (hs : R row = some (more, row')) (hm : mg ops ops' = ([], more)) : FitR R ops row ops' row' R
/-- A type fits another one: what its variables stand for ahead, and then. -/
inductive Fits : Fm → Ty → Ty → Fm → Prop
  | vo {m : Fm} {n : Nat} {u : Ty} (h : m.T n = some u) : Fits m (.mk 0 n 0 [] []) u m
  | vn {m : Fm} {n : Nat} {u : Ty} (h : m.T n = none) : Fits m (.mk 0 n 0 [] []) u ⟨updF m.T n u, m.R⟩
  | c {m : Fm} {kd : Nat} (h : kd = 1 ∨ kd = 2 ∨ kd = 3) : Fits m (.mk kd 0 0 [] []) (.mk kd 0 0 [] []) m
  | l {m m' : Fm} {t u : Ty} (h : Fits m t u m') : Fits m (.mk 4 0 0 [] [t]) (.mk 4 0 0 [] [u]) m'
  | p {m m1 m2 : Fm} {t u t' u' : Ty} (h : Fits m t u m1) (k : Fits m1 t' u' m2) : Fits m (.mk 5 0 0 [] [t, t']) (.mk 5 0 0 [] [u, u']) m2
  | f {m m1 m2 : Fm} {t u t' u' : Ty} {ops ops' : List Nm} {row row' : Nat} {R : Nat → Option (List Nm × Nat)} (h : Fits m t u m1) (k : Fits m1 t' u' m2) (hr : FitR m2.R ops row ops' row' R) : Fits m (.mk 6 0 row ops [t, t']) (.mk 6 0 row' ops' [u, u']) ⟨m2.T, R⟩
/-! ### Numbers -/
def NJ (l : List (Int × Nat)) : Prop := (∀ (x : Int) c, lookI x l = some c → 1 ≤ c ∧ c ≤ l.length) ∧ ∀ (x y : Int) c, lookI x l = some c → lookI y l = some c → x = y
structure Nx (l l' : List (Int × Nat)) : Prop where
  le : l.length ≤ l'.length
  fw : ∀ (x : Int) c, lookI x l = some c → lookI x l' = some c
  bw : ∀ (x : Int) c, lookI x l' = some c → c ≤ l.length → lookI x l = some c
theorem Nx.refl (l : List (Int × Nat)) : Nx l l := ⟨Nat.le_refl _, fun _ _ h => h, fun _ _ h _ => h⟩
theorem Nx.trans {l l' l'' : List (Int × Nat)} (h : Nx l l') (k : Nx l' l'') : Nx l l'' := ⟨Nat.le_trans h.le k.le, fun x c q => k.fw x c (h.fw x c q), fun x c q r => h.bw x c (k.bw x c q (Nat.le_trans r h.le)) r⟩
theorem numb_ok {l : List (Int × Nat)} (h : NJ l) (r : Nat) : NJ (numb l r).1 ∧ lookI r (numb l r).1 = some (numb l r).2 ∧ Nx l (numb l r).1 := by
  unfold numb
  cases hl : lookI r l with
  | some k => exact ⟨h, hl, Nx.refl _⟩
  | none =>
    have at' : ∀ (x : Int) c, lookI x (l ++ [((r : Int), l.length + 1)]) = some c → lookI x l = some c ∨ x = r ∧ c = l.length + 1 := fun x c hc => by
      rw [lookI_app] at hc
      cases hx : lookI x l with
      | some k => rw [hx] at hc; exact .inl hc
      | none =>
        rw [hx] at hc
        simp only at hc
        split at hc
        · rename_i q; exact .inr ⟨q.symm, (Option.some.inj hc).symm⟩
        · cases hc
    refine ⟨⟨fun x c hc => ?_, fun x y c hx hy => ?_⟩, ?_, ⟨by simp, fun x c hc => ?_, fun x c hc hle => ?_⟩⟩
    · rcases at' x c hc with q | ⟨_, q⟩
      · have := h.1 x c q; simp; omega
      · simp; omega
    · rcases at' x c hx with q | ⟨q, q2⟩ <;> rcases at' y c hy with r' | ⟨r', r2⟩
      · exact h.2 x y c q r'
      · have := h.1 x c q; omega
      · have := h.1 y c r'; omega
      · rw [q, r']
    · rw [lookI_app, hl]; simp
    · rw [lookI_app, hc]
    · rcases at' x c hc with q | ⟨_, q⟩
      · exact q
      · omega
section
variable {τ : Nat → Ty} {ν : Nat → List Nm × Nat} {A : AG} {e : List Nat} {T b : Nat} {g : G} {vs : List Ty} {rs : List (List Nm × Nat)} {ρ1 ρ2 : Nat → Bag Nm}
def RVal (ρ1 ρ2 : Nat → Bag Nm) (v : Nat) (p : List Nm × Nat) : Prop := Srt p.1 ∧ bag p.1 = ρ1 v ∧ add (ρ1 v) (tlG p.2) = ρ2 v
theorem tlG_inj {m n : Nat} {b : Bag Nm} (h : add b (tlG m) = add b (tlG n)) : m = n := by
  have := congrFun h ⟨#[]⟩
  simp only [add, tlG, if_true] at this
  omega
theorem RVal.det {v : Nat} {p q : List Nm × Nat} (h : RVal ρ1 ρ2 v p) (k : RVal ρ1 ρ2 v q) : p = q := Prod.ext (srt_eq h.1 k.1 (h.2.1.trans k.2.1.symm)) (tlG_inj (h.2.2.trans k.2.2.symm))
/-- The numbers and the maps agree. -/
structure NV (A : AG) (g : G) (vs : List Ty) (ρ1 ρ2 : Nat → Bag Nm) (l : Nams) (m : Fm) : Prop where
  t : NJ l.t
  r : NJ l.r
  bt : NB A.kind.length l.t
  br : NB g.next.length l.r
  mt : ∀ c u, m.T c = some u → c ≤ l.t.length ∧ ∀ x : Nat, lookI x l.t = some c → vs[x]? = some u
  mr : ∀ c p, m.R c = some p → c ≤ l.r.length ∧ ∀ x : Nat, lookI x l.r = some c → RVal ρ1 ρ2 x p
theorem NV.more {l l' : Nams} {m : Fm} (h : NV A g vs ρ1 ρ2 l m) (t : NJ l'.t) (r : NJ l'.r) (bt : NB A.kind.length l'.t) (br : NB g.next.length l'.r) (nt : Nx l.t l'.t) (nr : Nx l.r l'.r) : NV A g vs ρ1 ρ2 l' m :=
  ⟨t, r, bt, br, fun c u hc => ⟨Nat.le_trans (h.mt c u hc).1 nt.le, fun x hx => (h.mt c u hc).2 x (nt.bw x c hx (h.mt c u hc).1)⟩, fun c p hc => ⟨Nat.le_trans (h.mr c p hc).1 nr.le, fun x hx => (h.mr c p hc).2 x (nr.bw x c hx (h.mr c p hc).1)⟩⟩
theorem tkid_val {l : Nams} {m : Fm} {x : Option Nat} {ta : List Ty} {F : Nat → Nat → Nams → Option (Ty × Nams)} (h0 : NV A g vs ρ1 ρ2 l m) (hk : KV vs x ta)
    (h : ∀ p u, x = some p → vs[p]? = some u → ta = [u] → ∃ t l' m', Ev (fun k => F k p l) (t, l') ∧ Fits m t u m' ∧ NV A g vs ρ1 ρ2 l' m' ∧ Nx l.t l'.t ∧ Nx l.r l'.r ∧ ∃ c, FN c (trT t) ∧ c ≤ sz u) :
    ∃ ts l' m', Ev (fun k => tkid (F k) (some x) l) (ts, l') ∧ NV A g vs ρ1 ρ2 l' m' ∧ Nx l.t l'.t ∧ Nx l.r l'.r ∧ ((ta = [] ∧ ts = [] ∧ m = m') ∨ ∃ t u, ta = [u] ∧ ts = [t] ∧ Fits m t u m' ∧ ∃ c, FN c (trT t) ∧ c ≤ sz u) := by
  cases x with
  | none => exact ⟨[], l, m, Ev.pure _, h0, Nx.refl _, Nx.refl _, .inl ⟨hk, rfl, rfl⟩⟩
  | some p =>
    obtain ⟨u, hu, rfl⟩ := hk
    obtain ⟨t, l', m', h1, h2, h3, h4, h5, h6⟩ := h p u rfl hu rfl
    exact ⟨[t], l', m', h1.of fun k hk => by simp only [tkid, hk], h3, h4, h5, .inr ⟨t, u, rfl, rfl, h2, h6⟩⟩
theorem fn0 {kd n row : Int} {ops : List Nm} (h : HeadOk kd n row ops 0) : FN (1 + ops.length) (.mk kd n row ops []) := .mk (cs := []) h rfl (fun i c t h => by simp at h)
theorem fn1 {kd n row : Int} {ops : List Nm} {t : Tr} {c : Nat} (h : HeadOk kd n row ops 1) (k : FN c t) : FN (1 + ops.length + c) (.mk kd n row ops [t]) := by
  have := FN.mk (cs := [c]) (args := [t]) h rfl (fun i c' t' h1 h2 => by
    cases i with
    | zero => cases h1; cases h2; exact k
    | succ i => simp at h1)
  simpa using this
theorem fn2 {kd n row : Int} {ops : List Nm} {t t' : Tr} {c c' : Nat} (h : HeadOk kd n row ops 2) (k : FN c t) (k' : FN c' t') : FN (1 + ops.length + (c + c')) (.mk kd n row ops [t, t']) := by
  have := FN.mk (cs := [c, c']) (args := [t, t']) h rfl (fun i d t'' h1 h2 => by
    match i with
    | 0 => cases h1; cases h2; exact k
    | 1 => cases h1; cases h2; exact k'
    | i + 2 => simp at h1)
  simpa using this
theorem opsok_nil : OpsOk [] := ⟨(fun o h => by cases h), (fun i a b h => by simp at h)⟩
theorem srt_opsok {l : List Nm} (h : Srt l) (k : ∀ o ∈ l, o.data.toList ≠ []) : OpsOk l := ⟨k, fun i a b ha hb => by
  obtain ⟨h1, rfl⟩ := List.getElem?_eq_some_iff.1 ha
  obtain ⟨h2, rfl⟩ := List.getElem?_eq_some_iff.1 hb
  exact List.pairwise_iff_getElem.1 h i (i + 1) h1 h2 (by omega)⟩
theorem told_val (h : S1 τ ν b A e T g vs rs) (hT : T < big) (hn1 : A.kind.length < big) (hn2 : g.next.length < big) (hx : Ex g e rs ρ1 ρ2) : ∀ N n v c l m, vs[n]? = some v → sz v ≤ N → Fine c v → NV A g vs ρ1 ρ2 l m →
    ∃ t l' m', Ev (fun k => toldX k g n l) (t, l') ∧ Fits m t v m' ∧ NV A g vs ρ1 ρ2 l' m' ∧ Nx l.t l'.t ∧ Nx l.r l'.r ∧ ∃ c, FN c (trT t) ∧ c ≤ sz v := by
  intro N
  induction N with
  | zero => intro n v c l m hv hs; have := sz_pos v; omega
  | succ N ih =>
    intro n v c l m hv hs hF hN
    have hI := h.st.two.ig
    obtain ⟨r, hr, rl, hrv⟩ := h.rootv (h.vlt hv) hv
    obtain ⟨kf, hf⟩ := hr.find
    have gk := hI.gk rl
    by_cases k0 : A.kd r = 0
    · have hb1 : l.t.length < big := by have := hN.bt.le; omega
      obtain ⟨a1, a2, a3⟩ := numb_ok hN.t r
      have N1 : NV A g vs ρ1 ρ2 { l with t := (numb l.t r).1 } m := hN.more (l' := { l with t := (numb l.t r).1 }) a1 hN.r (numb_NB hN.bt rl) hN.br a3 (Nx.refl _)
      have ev : Ev (fun k => toldX k g n l) (.mk 0 (numb l.t r).2 0 [] [], { l with t := (numb l.t r).1 }) := enter kf fun k hk => by unfold toldX; simp only [hf k hk, gk, k0, if_pos hb1]
      have hc := a1.1 _ _ a2
      have hcl := (numb_NB hN.bt rl).le
      have hfn : FN 1 (trT (.mk 0 (numb l.t r).2 0 [] [])) := fn0 (ops := []) ⟨by show ((0 : Nat) : Int) = ar 0; rfl, fun _ => ⟨by omega, by unfold big at hn1; omega⟩, fun q => absurd rfl q, fun _ => ⟨rfl, rfl⟩, ⟨by decide, by decide⟩, opsok_nil⟩
      cases hm : m.T (numb l.t r).2 with
      | some u =>
        have := (N1.mt _ _ hm).2 r a2
        rw [hrv] at this; cases this
        exact ⟨_, _, m, ev, .vo hm, N1, a3, Nx.refl _, 1, hfn, sz_pos v⟩
      | none =>
        refine ⟨_, _, _, ev, .vn hm, ⟨N1.t, N1.r, N1.bt, N1.br, fun c' u hc' => ?_, N1.mr⟩, a3, Nx.refl _, 1, hfn, sz_pos v⟩
        change (if c' = (numb l.t r).2 then some v else m.T c') = some u at hc'
        split at hc'
        · rename_i q
          cases hc'
          subst q
          refine ⟨hc.2, fun x hx => ?_⟩
          have := a1.2 _ _ _ hx a2
          have : x = r := by omega
          rw [this]; exact hrv
        · exact N1.mt c' u hc'
    · obtain ⟨z, hz⟩ : ∃ z, A.kd r = z + 1 := ⟨A.kd r - 1, by omega⟩
      obtain ⟨row, ops, ta, tb, ev, k1, k2, k3, k4⟩ := h.vw.nd r v hrv k0
      have es : sz v = 1 + ops.length + (szs ta + szs tb) := by rw [ev, sz, szs_app]
      have kx : A.kd r = 1 ∨ A.kd r = 2 ∨ A.kd r = 3 ∨ A.kd r = 4 ∨ A.kd r = 5 ∨ A.kd r = 6 := by
        rw [ev] at hF
        clear k3 k4 ih hz k1 k2 gk
        generalize A.kd r = kd at hF k0
        generalize ta ++ tb = tt at hF
        cases hF with
        | v n h => exact absurd rfl k0
        | c kd h => omega
        | l h => omega
        | p h k => omega
        | f row ops ho hs h k => omega
      have kid : ∀ {o : Option Nat} {tx : List Ty} {l m}, KV vs o tx → szs tx ≤ szs ta + szs tb → (∀ u ∈ tx, ∃ c, Fine c u) → NV A g vs ρ1 ρ2 l m → ∃ ts l' m', Ev (fun k => tkid (toldX k g) (some o) l) (ts, l') ∧ NV A g vs ρ1 ρ2 l' m' ∧ Nx l.t l'.t ∧ Nx l.r l'.r ∧ ((tx = [] ∧ ts = [] ∧ m = m') ∨ ∃ t u, tx = [u] ∧ ts = [t] ∧ Fits m t u m' ∧ ∃ c, FN c (trT t) ∧ c ≤ sz u) := fun {o tx l m} hk hs' hf' hN' =>
        tkid_val (F := fun k => toldX k g) hN' hk fun p u _ hu e => by
          obtain ⟨c', hc'⟩ := hf' u (by rw [e]; exact .head _)
          exact ih p u c' _ _ hu (by rw [e] at hs'; simp [szs] at hs'; omega) hc' hN'
      have hfin : ∀ u ∈ ta ++ tb, ∃ c, Fine c u := fun u hu => by
        rw [ev] at hF
        generalize ta ++ tb = tt at hF hu
        clear k3 k4 ih hz k1 k2 gk kx kid
        generalize A.kd r = kd at hF
        cases hF with
        | v n h => cases hu
        | c kd h => cases hu
        | l h => rw [List.mem_singleton.1 hu]; exact ⟨_, h⟩
        | p h k => rcases List.mem_cons.1 hu with rfl | q
                   · exact ⟨_, h⟩
                   · rw [List.mem_singleton.1 q]; exact ⟨_, k⟩
        | f row ops ho hs h k => rcases List.mem_cons.1 hu with rfl | q
                                 · exact ⟨_, h⟩
                                 · rw [List.mem_singleton.1 q]; exact ⟨_, k⟩
      obtain ⟨xs, l1, m1, ⟨ka, ha⟩, N1, nt1, nr1, d1⟩ := kid k1 (by omega) (fun u hu => hfin u (List.mem_append_left _ hu)) hN
      -- the row
      obtain ⟨ol, cc, l2, ⟨kw, hw⟩, N2, nt2, nr2, d2⟩ : ∃ ol cc l2, Ev (fun k => trow k g (z + 1) r l1) (ol, cc, l2) ∧ NV A g vs ρ1 ρ2 l2 m1 ∧ Nx l1.t l2.t ∧ Nx l1.r l2.r ∧ ((A.kd r ≠ 6 ∧ ol = [] ∧ cc = 0) ∨ (A.kd r = 6 ∧ ∃ lo w, ol = putAll [] lo ∧ bag ops = add (bag lo) (ov ρ1 (vO w)) ∧ add (bag ops) (tlG row) = add (bag lo) (ov ρ2 (vO w)) ∧ Srt ops ∧ ((w = 0 ∧ cc = 0) ∨ (w ≠ 0 ∧ lookI w l2.r = some cc ∧ 1 ≤ cc ∧ cc ≤ 1000000000)))) := by
        by_cases h6 : A.kd r = 6
        · have z5 : z + 1 = 6 := by omega
          obtain ⟨x, lo, w, hx2, evw, b1, b2, bs, wl⟩ := h.rowv hT hx rl (k3 h6)
          rcases w with _ | w
          · exact ⟨putAll [] lo, 0, l1, evw.of fun k hk => by unfold trow; simp only [if_pos z5, hx2, hk], N1, Nx.refl _, Nx.refl _, .inr ⟨h6, lo, 0, rfl, b1, b2, bs, .inl ⟨rfl, rfl⟩⟩⟩
          · have hb1 : l1.r.length < big := by have := N1.br.le; omega
            obtain ⟨a1, a2, a3⟩ := numb_ok N1.r (w + 1)
            have hc := a1.1 _ _ a2
            have hcl := (numb_NB N1.br wl).le
            refine ⟨putAll [] lo, (numb l1.r (w + 1 : Nat)).2, { l1 with r := (numb l1.r (w + 1 : Nat)).1 }, evw.of fun k hk => by unfold trow; simp only [if_pos z5, hx2, hk, if_pos hb1], N1.more (l' := { l1 with r := (numb l1.r (w + 1 : Nat)).1 }) N1.t a1 N1.bt (numb_NB N1.br wl) (Nx.refl _) a3, Nx.refl _, a3, .inr ⟨h6, lo, w + 1, rfl, b1, b2, bs, .inr ⟨by omega, a2, hc.1, by unfold big at hn2; omega⟩⟩⟩
        · have z5 : ¬ z + 1 = 6 := by omega
          exact ⟨[], 0, l1, (Ev.pure ()).of fun k _ => by unfold trow; rw [if_neg z5], N1, Nx.refl _, Nx.refl _, .inl ⟨h6, rfl, rfl⟩⟩
      obtain ⟨ys, l3, m3, ⟨kb, hb⟩, N3, nt3, nr3, d3⟩ := kid k2 (by omega) (fun u hu => hfin u (List.mem_append_right _ hu)) N2
      have evt : Ev (fun k => toldX k g n l) (.mk (z + 1) 0 cc ol (xs ++ ys), l3) := enter (kf + ka + kb + kw) fun k hk => by
        unfold toldX; simp only [hf k (by omega), gk, hz, hI.ga rl, hI.gb rl, ha k (by omega), hw k (by omega), hb k (by omega)]
      have nt := nt1.trans (nt2.trans nt3)
      have nr := nr1.trans (nr2.trans nr3)
      rw [← hz] at evt
      rw [ev] at hF
      by_cases h6 : A.kd r = 6
      · rcases d2 with ⟨q, _⟩ | ⟨_, lo, w, rfl, b1, b2, bs, dw⟩
        · exact absurd h6 q
        have q1 : A.ka r = some (A.pa r) := by unfold AG.ka; rw [if_pos (by omega)]
        have q2 : A.kb r = some (A.pb r) := by unfold AG.kb; rw [if_pos (by omega)]
        rw [q1] at k1; rw [q2] at k2
        obtain ⟨u1, _, rfl⟩ := k1
        obtain ⟨u2, _, rfl⟩ := k2
        rcases d1 with ⟨q, _⟩ | ⟨t1, u1', e1, rfl, f1, c1, fn1', cl1⟩
        · cases q
        rcases d3 with ⟨q, _⟩ | ⟨t2, u2', e2, rfl, f2, c2, fn2', cl2⟩
        · cases q
        cases e1; cases e2
        have hno : ∀ o ∈ ops, o.data.toList ≠ [] := by
          rw [h6] at hF
          cases hF with
          | f row ops ho hs h k => exact ho
        have hno2 : ∀ o ∈ putAll [] lo, o.data.toList ≠ [] := fun o ho => by
          have h1 : o ∈ lo := by have := (putAll_perm [] lo).mem_iff.1 ho; simpa using this
          have h2 : 0 < bag ops o := by rw [b1]; have := bag_mem.2 h1; simp only [add]; omega
          exact hno o (bag_mem.1 h2)
        have hsl := putAll_srt (l := []) .nil lo
        have bl : bag (putAll [] lo) = bag lo := by rw [bag_perm (putAll_perm _ _), List.nil_append]
        have hle : (putAll [] lo).length ≤ ops.length := by rw [(putAll_perm [] lo).length_eq]; simpa using bag_len b1
        have hfn : FN (1 + (putAll [] lo).length + (c1 + c2)) (trT (.mk (A.kd r) 0 cc (putAll [] lo) ([t1] ++ [t2]))) := by
          rw [h6]
          refine fn2 ⟨rfl, fun q => absurd q (by decide), fun _ => rfl, fun q => absurd rfl q, ?_, srt_opsok hsl hno2⟩ fn1' fn2'
          rcases dw with ⟨_, rfl⟩ | ⟨_, _, a, b⟩
          · exact ⟨by decide, by decide⟩
          · exact ⟨by omega, by omega⟩
        have hfl : 1 + (putAll [] lo).length + (c1 + c2) ≤ sz v := by rw [es]; simp [szs]; omega
        rw [ev, h6] at *
        rcases dw with ⟨rfl, rfl⟩ | ⟨w0, lw, cb1, cb2⟩
        · have e0 : ov ρ1 (vO 0) = zb := rfl
          have e0' : ov ρ2 (vO 0) = zb := rfl
          rw [e0, add_zb] at b1
          rw [e0', add_zb, b1] at b2
          have eo : putAll [] lo = ops := srt_eq hsl bs (bl.trans b1.symm)
          obtain rfl : row = 0 := tlG_inj (b := bag lo) (n := 0) (by rw [b2]; funext k; simp [add, tlG])
          rw [eo] at evt hfn hfl
          exact ⟨_, l3, _, evt, .f f1 f2 (.z ops), N3, nt, nr, _, hfn, hfl⟩
        · have ev1 : ov ρ1 (vO w) = ρ1 w := by unfold vO; rw [if_neg w0]; rfl
          have ev2 : ov ρ2 (vO w) = ρ2 w := by unfold vO; rw [if_neg w0]; rfl
          rw [ev1] at b1
          rw [ev2] at b2
          obtain ⟨g1, g2⟩ := mg_spec ops (putAll [] lo) (ρ1 w) hsl bs (by rw [bl]; exact b1)
          have g3 : mg (putAll [] lo) ops = ([], (mg (putAll [] lo) ops).2) := Prod.ext g1 rfl
          have hrv' : RVal ρ1 ρ2 w ((mg (putAll [] lo) ops).2, row) := by
            refine ⟨bs.sublist (mg_sub _ _), g2, ?_⟩
            rw [b1, add_assoc] at b2
            funext k
            have := congrFun b2 k
            simp only [add] at this ⊢
            omega
          have lw3 := nr3.fw _ _ lw
          cases hm : m3.R cc with
          | some p =>
            have := (N3.mr cc p hm).2 w lw3
            have ep := this.det hrv'
            subst ep
            exact ⟨_, l3, _, evt, .f f1 f2 (.old (by omega) hm g3), N3, nt, nr, _, hfn, hfl⟩
          | none =>
            refine ⟨_, l3, _, evt, .f f1 f2 (.new (by omega) hm g3), ⟨N3.t, N3.r, N3.bt, N3.br, N3.mt, fun c' p hc' => ?_⟩, nt, nr, _, hfn, hfl⟩
            change (if c' = cc then some _ else m3.R c') = some p at hc'
            split at hc'
            · rename_i q
              subst q
              cases hc'
              refine ⟨(N3.r.1 _ _ lw3).2, fun x hx => ?_⟩
              have := N3.r.2 _ _ _ hx lw3
              have : x = w := by omega
              rw [this]; exact hrv'
            · exact N3.mr c' p hc'
      · obtain ⟨rfl, rfl⟩ := k4 h6
        rcases d2 with ⟨_, rfl, rfl⟩ | ⟨q, _⟩
        · by_cases h5 : A.kd r = 5
          · have q1 : A.ka r = some (A.pa r) := by unfold AG.ka; rw [if_pos (by omega)]
            have q2 : A.kb r = some (A.pb r) := by unfold AG.kb; rw [if_pos (by omega)]
            rw [q1] at k1; rw [q2] at k2
            obtain ⟨u1, _, rfl⟩ := k1
            obtain ⟨u2, _, rfl⟩ := k2
            rcases d1 with ⟨q, _⟩ | ⟨t1, u1', e1, rfl, f1, c1, fn1', cl1⟩
            · cases q
            rcases d3 with ⟨q, _⟩ | ⟨t2, u2', e2, rfl, f2, c2, fn2', cl2⟩
            · cases q
            cases e1; cases e2
            have hfl : 1 + ([] : List Nm).length + (c1 + c2) ≤ sz v := by rw [es]; simp [szs]; omega
            rw [ev, h5] at *
            exact ⟨_, l3, _, evt, .p f1 f2, N3, nt, nr, _, fn2 (ops := []) ⟨rfl, fun q => absurd q (by decide), fun _ => rfl, fun _ => ⟨rfl, rfl⟩, ⟨by decide, by decide⟩, opsok_nil⟩ fn1' fn2', hfl⟩
          · have q2 : A.kb r = none := by unfold AG.kb; rw [if_neg (by omega)]
            rw [q2] at k2
            obtain rfl : tb = [] := k2
            rcases d3 with ⟨_, rfl, rfl⟩ | ⟨_, _, q, _⟩
            · by_cases h4 : A.kd r = 4
              · have q1 : A.ka r = some (A.pa r) := by unfold AG.ka; rw [if_pos (by omega)]
                rw [q1] at k1
                obtain ⟨u1, _, rfl⟩ := k1
                rcases d1 with ⟨q, _⟩ | ⟨t1, u1', e1, rfl, f1, c1, fn1', cl1⟩
                · cases q
                cases e1
                have hfl : 1 + ([] : List Nm).length + c1 ≤ sz v := by rw [es]; simp [szs]; omega
                rw [ev, h4] at *
                exact ⟨_, l3, _, evt, .l f1, N3, nt, nr, _, fn1 (ops := []) ⟨rfl, fun q => absurd q (by decide), fun _ => rfl, fun _ => ⟨rfl, rfl⟩, ⟨by decide, by decide⟩, opsok_nil⟩ fn1', hfl⟩
              · have q1 : A.ka r = none := by unfold AG.ka; rw [if_neg (by omega)]
                rw [q1] at k1
                obtain rfl : ta = [] := k1
                rcases d1 with ⟨_, rfl, rfl⟩ | ⟨_, _, q, _⟩
                · have kc : A.kd r = 1 ∨ A.kd r = 2 ∨ A.kd r = 3 := by omega
                  have ha0 : ar (A.kd r : Int) = 0 := by unfold ar; rw [if_pos (by omega)]
                  have hfn : FN 1 (trT (.mk (A.kd r) 0 0 [] ([] ++ []))) := fn0 (ops := []) ⟨by rw [ha0]; rfl, fun q => absurd q (by omega), fun _ => rfl, fun _ => ⟨rfl, rfl⟩, ⟨by decide, by decide⟩, opsok_nil⟩
                  rw [ev]
                  exact ⟨_, l3, _, evt, .c kc, N3, nt, nr, 1, hfn, sz_pos _⟩
                · cases q
            · cases q
        · exact absurd q h6
end
section
variable {τ : Nat → Ty} {ν : Nat → List Nm × Nat} {A : AG} {e : List Nat} {T b : Nat} {g : G} {vs : List Ty} {rs : List (List Nm × Nat)}
/-- Nodes that stand for small types. -/
def Sm (vs : List Ty) (l : List Nat) (us : List Ty) : Prop := l.map (fun n => vs[n]?) = us.map some ∧ ∀ u ∈ us, ∃ c, Fine c u ∧ c ≤ 300
theorem Sm.cons {n : Nat} {l : List Nat} {us : List Ty} (h : Sm vs (n :: l) us) : ∃ u us', us = u :: us' ∧ vs[n]? = some u ∧ (∃ c, Fine c u ∧ c ≤ 300) ∧ Sm vs l us' := by
  obtain ⟨h1, h2⟩ := h
  cases us with
  | nil => simp at h1
  | cons u us =>
    simp only [List.map_cons, List.cons.injEq] at h1
    exact ⟨u, us, rfl, h1.1, h2 u (.head _), h1.2, fun x hx => h2 x (.tail _ hx)⟩
theorem cnts_val (h : S1 τ ν b A e T g vs rs) (hT : T < big) : ∀ (l : List Nat) (us : List Ty), Sm vs l us → Ev (fun k => cntsX k g l true false) (true, false)
  | [], us, _ => Ev.pure _
  | n :: l, us, hs => by
    obtain ⟨u, us', rfl, hu, ⟨c, hc, hc3⟩, hs'⟩ := hs.cons
    have hz := hc.sz
    obtain ⟨c', s', ev, hc', _, _⟩ := cnt_val h hT 300 n u [] hu (by omega) (by omega) ⟨fun x c hx => by cases hx⟩
    have hd : decide (300 < c') = false := decide_eq_false (by omega)
    exact ev.of2 (cnts_val h hT l us' hs') fun k a d => by unfold cntsX; simp only [if_true, a, hd, Bool.not_false, Bool.or_self, d]
theorem Sm.keep {vs' : List Ty} {l : List Nat} {us : List Ty} (h : Sm vs l us) (k : ∀ (x : Nat) (v : Ty), vs[x]? = some v → vs'[x]? = some v) : Sm vs' l us := by
  refine ⟨?_, h.2⟩
  have : ∀ (l : List Nat) (us : List Ty), l.map (fun n => vs[n]?) = us.map some → l.map (fun n => vs'[n]?) = us.map some := fun l => by
    induction l with
    | nil => exact fun us h => h
    | cons n l ih =>
      intro us h
      cases us with
      | nil => simp at h
      | cons u us =>
        simp only [List.map_cons, List.cons.injEq] at h ⊢
        exact ⟨k n u h.1, ih us h.2⟩
  exact this l us h.1
theorem Sm.snoc {l : List Nat} {us : List Ty} {n : Nat} {u : Ty} (h : Sm vs l us) (hn : vs[n]? = some u) (hu : ∃ c, Fine c u ∧ c ≤ 300) : Sm vs (l ++ [n]) (us ++ [u]) := by
  refine ⟨by simp [h.1, hn], fun x hx => ?_⟩
  rcases List.mem_append.1 hx with q | q
  · exact h.2 x q
  · rw [List.mem_singleton.1 q]; exact hu
end
/-- A pair that the substitution makes the same. -/
def Ok2 (τ : Nat → Ty) (ν : Nat → List Nm × Nat) (p : Ty × Ty) : Prop := FineP p ∧ subT τ ν p.1 = subT τ ν p.2 ∧ ∃ c, Fine c (subT τ ν p.1) ∧ c ≤ 300
theorem loop_val {τ : Nat → Ty} {ν : Nat → List Nm × Nat} (hν : ∀ n, Srt (ν n).1) : ∀ (r : List (Ty × Ty)) (i : Nat) {A : AG} {e : List Nat} {T b : Nat} {g : G} {vs : List Ty} {rs : List (List Nm × Nat)} (l : List Nat) (us : List Ty), (∀ p ∈ r, Ok2 τ ν p) → S1 τ ν b A e T g vs rs → b + 1800 * r.length < big → Sm vs l us →
    ∃ A' e' T' g' l' vs' rs', Ev (fun k => loopP k r i g l) (.inr (g', l')) ∧ S1 τ ν (b + 1800 * r.length) A' e' T' g' vs' rs' ∧ Sm vs' l' (us ++ r.map fun p => subT τ ν p.1)
  | [], i, A, e, T, b, g, vs, rs, l, us, _, h, _, hs => ⟨A, e, T, g, l, vs, rs, Ev.pure _, h, by simpa using hs⟩
  | (p, q) :: r, i, A, e, T, b, g, vs, rs, l, us, hp, h, hb, hs => by
    obtain ⟨⟨c, c', fp, fq, hc, hc'⟩, hpq, hfi⟩ := hp (p, q) (.head _)
    rw [List.length_cons] at hb
    obtain ⟨A1, e1, T1, g1, n, vs1, rs1, ⟨p1, h1⟩, H1, hn, hA1, hv1, hk1⟩ := of_val hν fp h (by omega)
    obtain ⟨A2, e2, T2, g2, m, vs2, rs2, ⟨p2, h2⟩, H2, hm, hA2, hv2, hk2⟩ := of_val hν fq H1 (by omega)
    have hvn := hk2 _ _ hv1
    obtain ⟨g3, ⟨p3, h3⟩, H3⟩ := H2.same (by omega) (m := n) (n := m) (by omega) hm (by rw [hvn, hv2]; exact congrArg some hpq)
    have hT : T2 < big := by have := H3.st.bd.t; omega
    have hs2 := ((hs.keep hk1).keep hk2).snoc hvn hfi
    obtain ⟨p4, h4⟩ := cnts_val H3 hT _ _ hs2
    obtain ⟨A', e', T', g', l', vs', rs', ⟨p5, h5⟩, H5, hs5⟩ := loop_val hν r (i + 1) (l ++ [n]) (us ++ [subT τ ν p]) (fun x hx => hp x (.tail _ hx)) (H3.le_b (b' := b + 1800) (by omega)) (by omega) hs2
    refine ⟨A', e', T', g', l', vs', rs', ⟨p1 + p2 + p3 + p4 + p5, fun k hk => ?_⟩, H5.le_b (by rw [List.length_cons]; omega), by simpa using hs5⟩
    show loopP k ((p, q) :: r) i g l = _
    unfold loopP; simp only [h1 k (by omega), h2 k (by omega), h3 k (by omega), h4 k (by omega)]; exact h5 k (by omega)
theorem s1_0 (τ : Nat → Ty) (ν : Nat → List Nm × Nat) : S1 τ ν 1 ⟨[], [], [], []⟩ [0] 0 G.new [] [([], 0)] := by
  have sat : Sat (stR [[]] [some 0]) (fun _ => (zb : Bag Nm)) := fun r => by
    cases r with
    | zero => rfl
    | succ r => simp [stR]
  have eq : ∀ x y, Eq1 G.new.link x y → x = y := fun x y h => h.lt.resolve_right fun q => absurd q.1 (Nat.not_lt_zero _)
  refine ⟨st0, ⟨rfl, rfl, fun x v h => by simp at h, fun q hq => by rw [List.mem_singleton.1 hq]; exact .nil⟩, fun x y h => by rw [eq x y h], ⟨_, fun j x hj => ?_, sat⟩, ⟨_, fun j x hj => ?_, sat⟩, (fun n m h => by cases h), (fun n x j h => by cases h)⟩
  · cases j with
    | zero => rfl
    | succ j => simp at hj
  · cases j with
    | zero => funext k; simp [rof, rb2, add, bag, tlG, zb]
    | succ j => simp at hj
/-- All told types fit all sides, one behind the other. -/
inductive FitsL : Fm → List Ty → List Ty → Prop
  | nil {m : Fm} : FitsL m [] []
  | cons {m m' : Fm} {t u : Ty} {ts us : List Ty} (h : Fits m t u m') (hf : ∃ c, FN c (trT t) ∧ c ≤ 300) (k : FitsL m' ts us) : FitsL m (t :: ts) (u :: us)
def fm0 : Fm := ⟨fun _ => none, fun _ => none⟩
theorem tolds_val {τ : Nat → Ty} {ν : Nat → List Nm × Nat} {A : AG} {e : List Nat} {T b : Nat} {g : G} {vs : List Ty} {rs : List (List Nm × Nat)} {ρ1 ρ2 : Nat → Bag Nm} (h : S1 τ ν b A e T g vs rs) (hT : T < big) (hn1 : A.kind.length < big) (hn2 : g.next.length < big) (hx : Ex g e rs ρ1 ρ2) :
    ∀ (l : List Nat) (us : List Ty) (nm : Nams) (m : Fm), Sm vs l us → NV A g vs ρ1 ρ2 nm m → ∃ ts, Ev (fun k => toldsX k g l nm) ts ∧ FitsL m ts us
  | [], us, nm, m, hs, _ => by
    have : us = [] := by have := hs.1; cases us with
      | nil => rfl
      | cons u us => simp at this
    subst this
    exact ⟨[], Ev.pure _, .nil⟩
  | n :: l, us, nm, m, hs, hN => by
    obtain ⟨u, us', rfl, hu, ⟨c, hc, hc3⟩, hs'⟩ := hs.cons
    obtain ⟨t, nm', m', e1, e2, e3, _, _, c', e6, e7⟩ := told_val h hT hn1 hn2 hx _ n u c nm m hu (Nat.le_refl _) hc hN
    obtain ⟨ts, f1, f2⟩ := tolds_val h hT hn1 hn2 hx l us' nm' m' hs' e3
    have hz := hc.sz
    exact ⟨t :: ts, e1.of2 f1 fun k a d => by unfold toldsX; rw [a]; simp [d], .cons e2 ⟨c', e6, by omega⟩ f2⟩
theorem solve_val {τ : Nat → Ty} {ν : Nat → List Nm × Nat} (hν : ∀ n, Srt (ν n).1) {ls : List (Ty × Ty)} (hn : ls.length ≤ 20) (hp : ∀ p ∈ ls, Ok2 τ ν p) :
    ∃ ts, Ev (fun k => solveP k ls) (.inr ts) ∧ FitsL fm0 ts (ls.map fun p => subT τ ν p.1) := by
  have hb : 1 + 1800 * ls.length < big := by unfold big; omega
  obtain ⟨A, e, T, g, l, vs, rs, h1, h2, h3⟩ := loop_val hν ls 0 [] [] hp (s1_0 τ ν) hb ⟨rfl, fun u h => by cases h⟩
  obtain ⟨ρ1, ρ2, hx⟩ := h2.ex
  have bk := h2.st.bd.k
  have bt := h2.st.bd.t
  have bo := h2.st.bd.o
  have n1 := h2.st.two.ig.ri.len
  obtain ⟨ts, c1, c2⟩ := tolds_val h2 (by omega) (by omega) (by omega) hx l _ ⟨[], []⟩ fm0 h3 ⟨⟨(fun x c h => by cases h), (fun x y c h => by cases h)⟩, ⟨(fun x c h => by cases h), (fun x y c h => by cases h)⟩, NB_nil _, NB_nil _, (fun c u h => by cases h), (fun c p h => by cases h)⟩
  exact ⟨ts, h1.of2 c1 fun k a d => by unfold solveP; rw [a]; simp only [d]; rfl, by simpa using c2⟩
/-! ### What is given -/
structure Gv where
  n : Int
  t : Tr
  row : Int
  ops : List Nm
  more : Int
def gfT (n : Int) : List Gv → Option Tr
  | [] => none
  | g :: gs => if g.n = n then some g.t else gfT n gs
def gfR (row : Int) : List Gv → Option (List Nm × Int)
  | [] => none
  | g :: gs => if g.row = row then some (g.ops, g.more) else gfR row gs
def byO (gs : List Gv) (row : Nat) (ops : List Nm) : List Nm := if 0 < row then (match gfR row gs with | some g => putAll (putAll [] ops) g.1 | none => putAll [] ops) else putAll [] ops
def byN (gs : List Gv) (row : Nat) : Int := if 0 < row then (match gfR row gs with | some g => g.2 | none => row) else row
mutual
def byP (gs : List Gv) : Ty → Tr
  | .mk kd n row ops args => if kd = 0 then (gfT n gs).getD (.mk kd n row ops (trTs args)) else .mk kd n (byN gs row) (byO gs row ops) (byPs gs args)
def byPs (gs : List Gv) : List Ty → List Tr
  | [] => []
  | t :: l => byP gs t :: byPs gs l
end
mutual
def toTy : Tr → Ty
  | .mk kd n row ops args => .mk kd.toNat n.toNat row.toNat ops (toTys args)
def toTys : List Tr → List Ty
  | [] => []
  | t :: l => toTy t :: toTys l
end
theorem FN.fineT : ∀ {c : Nat} {t : Tr}, FN c t → c < 1000000000 → Fine c (toTy t) ∧ Conv t (toTy t) := by
  intro c
  induction c using Nat.strongRecOn with
  | _ c ih =>
    intro t h hcc
    cases h with
    | @mk kd n row ops args h cs hl ha =>
      obtain ⟨h1, h2, h3, h4, h5, h6⟩ := h
      obtain ⟨r, rfl⟩ := toNat_int h5.1
      have z0 : ((0 : Nat) : Int) = 0 := rfl
      by_cases k0 : kd = 0
      · subst k0
        obtain ⟨rfl, hr⟩ := h4 (by decide)
        obtain rfl : r = 0 := by omega
        obtain ⟨m, rfl⟩ := toNat_int (z := n) (by have := h2 rfl; omega)
        have e : args = [] := List.length_eq_zero_iff.1 (by have : ar 0 = 0 := rfl; omega)
        subst e
        obtain rfl : cs = [] := List.length_eq_zero_iff.1 hl
        exact ⟨.v m (by have := h2 rfl; omega), conv_mk (kd := 0) (us := []) rfl (by simp) (by simp) fun i t u e => by simp at e⟩
      · obtain rfl := h3 k0
        by_cases kc : kd = 1 ∨ kd = 2 ∨ kd = 3
        · obtain ⟨rfl, hr⟩ := h4 (by omega)
          obtain rfl : r = 0 := by omega
          obtain ⟨d, rfl⟩ := toNat_int (z := kd) (by omega)
          have e : args = [] := List.length_eq_zero_iff.1 (by have : ar (d : Int) = 0 := if_pos (by omega); omega)
          subst e
          obtain rfl : cs = [] := List.length_eq_zero_iff.1 hl
          exact ⟨.c d (by omega), conv_mk (kd := d) (n := 0) (us := []) rfl (by simp) (by simp) fun i t u e => by simp at e⟩
        · by_cases k4 : kd = 4
          · subst k4
            obtain ⟨rfl, hr⟩ := h4 (by decide)
            obtain rfl : r = 0 := by omega
            have e : args.length = 1 := by have : ar 4 = 1 := rfl; omega
            match args, cs, e, hl with
            | [t], [c1], _, _ =>
              obtain ⟨f, cv⟩ := ih c1 (by simp) (ha 0 c1 t rfl rfl) (by simp at hcc; omega)
              refine ⟨?_, conv_mk (kd := 4) (n := 0) (us := [toTy t]) rfl (by simp) (by simp) fun i t' u' e1 e2 => ?_⟩
              · have : 1 + ([] : List Nm).length + [c1].sum = c1 + 1 := by simp; omega
                rw [this]; exact .l f
              · cases i with
                | zero => cases e1; cases e2; exact cv
                | succ i => simp at e1
          · have k56 : kd = 5 ∨ kd = 6 := by
              rcases Decidable.em (kd = 5 ∨ kd = 6) with q | q
              · exact q
              · have : ar kd = -1 := by unfold ar; rw [if_neg (by omega), if_neg k4, if_neg q]
                omega
            have e : args.length = 2 := by have : ar kd = 2 := by { unfold ar; rw [if_neg (by omega), if_neg k4, if_pos k56] }; omega
            match args, cs, e, hl with
            | [t, t'], [c1, c2], _, _ =>
              obtain ⟨f, cv⟩ := ih c1 (by simp; omega) (ha 0 c1 t rfl rfl) (by simp at hcc; omega)
              obtain ⟨f', cv'⟩ := ih c2 (by simp; omega) (ha 1 c2 t' rfl rfl) (by simp at hcc; omega)
              have two : ∀ (d : Nat), Conv (.mk (d : Int) 0 (r : Int) ops [t, t']) (.mk d 0 r ops [toTy t, toTy t']) := fun d => conv_mk (n := 0) (us := [toTy t, toTy t']) rfl (by simp) (by omega) fun i x y e1 e2 => by
                match i with
                | 0 => cases e1; cases e2; exact cv
                | 1 => cases e1; cases e2; exact cv'
                | i + 2 => simp at e1
              rcases k56 with rfl | rfl
              · obtain ⟨rfl, hr⟩ := h4 (by decide)
                obtain rfl : r = 0 := by omega
                refine ⟨?_, two 5⟩
                have : 1 + ([] : List Nm).length + [c1, c2].sum = c1 + c2 + 1 := by simp; omega
                rw [this]; exact .p f f'
              · refine ⟨?_, two 6⟩
                have : 1 + ops.length + [c1, c2].sum = c1 + c2 + 1 + ops.length := by simp; omega
                rw [this]; exact .f r ops h6.1 h6.srt f f'
/-- The substitution. -/
def gT (gs : List Gv) (n : Nat) : Ty := toTy ((gfT n gs).getD (.mk 0 n 0 [] []))
def gR (gs : List Gv) (row : Nat) : List Nm × Nat := match gfR row gs with | some g => (putAll [] g.1, g.2.toNat) | none => ([], row)
theorem gR_srt (gs : List Gv) (n : Nat) : Srt (gR gs n).1 := by
  unfold gR
  split
  · exact putAll_srt .nil _
  · exact .nil
theorem putAll_two (l m : List Nm) : putAll (putAll [] l) (putAll [] m) = putAll (putAll [] l) m := srt_eq (putAll_srt (putAll_srt .nil _) _) (putAll_srt (putAll_srt .nil _) _) (by
  rw [bag_perm (putAll_perm _ _), bag_perm (putAll_perm _ _), bag_app, bag_app, bag_perm (putAll_perm [] m), List.nil_append])
theorem by_row (gs : List Gv) (row : Nat) (ops : List Nm) : byO gs row ops = putAll (putAll [] ops) (nvv (gR gs) row).1 ∧ (byN gs row).toNat = (nvv (gR gs) row).2 := by
  unfold byO byN nvv gR
  by_cases h : 0 < row
  · rw [if_pos h, if_pos h, if_neg (by omega)]
    cases hg : gfR row gs with
    | some g => exact ⟨(putAll_two _ _).symm, rfl⟩
    | none => exact ⟨rfl, rfl⟩
  · rw [if_neg h, if_neg h, if_pos (by omega)]
    exact ⟨rfl, by omega⟩
theorem by_sub (gs : List Gv) {c : Nat} {t : Ty} (h : Fine c t) : toTy (byP gs t) = subT (gT gs) (gR gs) t := by
  have nd : ∀ (kd row : Nat) (ops : List Nm) (args : List Ty), kd ≠ 0 → toTys (byPs gs args) = subs (gT gs) (gR gs) args → toTy (byP gs (.mk kd 0 row ops args)) = subT (gT gs) (gR gs) (.mk kd 0 row ops args) := fun kd row ops args k ha => by
    unfold byP subT
    rw [if_neg k, if_neg k]
    unfold toTy
    obtain ⟨h1, h2⟩ := by_row gs row ops
    rw [h1, h2, ha]
    rfl
  induction h with
  | v n h => rfl
  | c kd h => exact nd kd 0 [] [] (by omega) rfl
  | @l c t h ih => exact nd 4 0 [] [t] (by omega) (by simp only [byPs, toTys, subs, ih])
  | @p c t c' u h k ih ih' => exact nd 5 0 [] [t, u] (by omega) (by simp only [byPs, toTys, subs, ih, ih'])
  | @f c t c' u row ops ho hs h k ih ih' => exact nd 6 row ops [t, u] (by omega) (by simp only [byPs, toTys, subs, ih, ih'])
/-- General. -/
theorem general {gs : List Gv} {ls : List (Ty × Ty)} (hn : ls.length ≤ 20) (hf : ∀ p ∈ ls, FineP p) (hs : ∀ p ∈ ls, byP gs p.1 = byP gs p.2 ∧ O3 (byP gs p.1)) :
    ∃ ts, Ev (fun k => solveP k ls) (.inr ts) ∧ FitsL fm0 ts (ls.map fun p => toTy (byP gs p.1)) := by
  obtain ⟨ts, h1, h2⟩ := solve_val (τ := gT gs) (ν := gR gs) (gR_srt gs) hn fun p hp => by
    obtain ⟨c, c', f1, f2, a, a'⟩ := hf p hp
    obtain ⟨e, d, k, kd⟩ := hs p hp
    refine ⟨hf p hp, by rw [← by_sub gs f1, ← by_sub gs f2, e], d, ?_, kd⟩
    rw [← by_sub gs f1]; exact (k.fineT (by omega)).1
  refine ⟨ts, h1, ?_⟩
  have : ls.map (fun p => toTy (byP gs p.1)) = ls.map fun p => subT (gT gs) (gR gs) p.1 := List.map_congr_left fun p hp => by
    obtain ⟨c, c', f1, _⟩ := hf p hp
    exact by_sub gs f1
  rw [this]; exact h2
/-- Solve of a variable and int. -/
theorem solve_vi : solveP 9 [(.mk 0 7 0 [] [], .mk 1 0 0 [] [])] = some (.inr [.mk 1 0 0 [] []]) := by rfl
end Go.Slv
set_option linter.unusedVariables false
set_option linter.unusedSimpArgs false
namespace Go.Slv
open Go.RowKit Go.Sx Go.Inf Go.Gx
/-! ### Trees as they come -/
theorem trC_len (t : Tr) (p : Tv) : (trC t p).length = 5 := by cases t; rfl
theorem TrIn.mono {w : World} {S S' : Nat → Prop} {p : Tv} {t : Tr} (h : TrIn w S p t) (k : ∀ c, S c → S' c) : TrIn w S' p t := by
  induction h with
  | mk p ps hs hn hc hb hl hm _ ih => exact .mk p ps (hs.mono k) hn hc hb hl (fun i q t h1 h2 => by obtain ⟨a, ha, hS, hcs⟩ := hm i q t h1 h2; exact ⟨a, ha, k _ hS, hcs⟩) ih
theorem TrIn.kid {w : World} {S : Nat → Prop} {p : Tv} {kd n row : Int} {ops : List Nm} {args : List Tr} (h : TrIn w S p (.mk kd n row ops args)) {i : Nat} {t : Tr} (ht : args[i]? = some t) : ∃ (q : Tv) (a : Addr), p.B = some a ∧ (S (a.add (i * 5)).block ∧ w.cells? 0 (a.add (i * 5)) 5 = some (trC t q)) ∧ TrIn w S q t := by
  cases h with
  | mk _ ps hs hn hc hb hl hm htt =>
    have hi : i < ps.length := by rw [hl]; exact (List.getElem?_eq_some_iff.1 ht).1
    obtain ⟨a, ha, hS, hcs⟩ := hm i _ t (List.getElem?_eq_getElem hi) ht
    exact ⟨_, a, ha, ⟨by rw [add_block]; exact hS, hcs⟩, htt i _ t (List.getElem?_eq_getElem hi) ht⟩
theorem trTs_map : ∀ l : List Ty, trTs l = l.map trT
  | [] => rfl
  | t :: l => by rw [trTs, trTs_map l]; rfl
theorem byPs_map (gs : List Gv) : ∀ l : List Ty, byPs gs l = l.map (byP gs)
  | [] => rfl
  | t :: l => by rw [byPs, byPs_map gs l]; rfl
theorem trT_val (t : Ty) (p : Tv) : trC (trT t) p = tvC t p := by cases t; rfl
theorem TyIn.tr {w : World} {S : Nat → Prop} {p : Tv} {t : Ty} (h : TyIn w S p t) : TrIn w S p (trT t) := by
  induction h with
  | mk p ps hs hn hc hb hl hm _ ih =>
    unfold trT
    rw [trTs_map]
    have at' : ∀ {args : List Ty} {i : Nat} {t : Tr}, (args.map trT)[i]? = some t → ∃ u, args[i]? = some u ∧ trT u = t := fun {args i t} h => by
      rw [List.getElem?_map] at h
      cases hi : args[i]? with
      | none => rw [hi] at h; simp at h
      | some u => rw [hi] at h; exact ⟨u, rfl, by simpa using h⟩
    refine .mk p ps hs hn ⟨hc.1, by omega, by simp; omega⟩ (by simpa using hb) (by simpa using hl) (fun i q t h1 h2 => ?_) (fun i q t h1 h2 => ?_)
    · obtain ⟨u, hu, rfl⟩ := at' h2
      rw [trT_val]; exact hm i q u h1 hu
    · obtain ⟨u, hu, rfl⟩ := at' h2
      exact ih i q u h1 hu
/-- How great a type is, as it comes. -/
inductive DepR : Nat → Tr → Prop
  | mk {k : Nat} {kd n row : Int} {ops : List Nm} {args : List Tr} (h : ∀ (i : Nat) (t : Tr), args[i]? = some t → DepR k t) : DepR (k + 1) (.mk kd n row ops args)
theorem DepR.le {k : Nat} {t : Tr} (h : DepR k t) : ∀ {m : Nat}, k ≤ m → DepR m t := by
  induction h with
  | mk _ ih => intro m hm; cases m with
    | zero => omega
    | succ m => exact .mk fun i t ht => ih i t ht (by omega)
theorem TrIn.dep {w : World} {S : Nat → Prop} {p : Tv} {t : Tr} (h : TrIn w S p t) : ∃ k, DepR k t := by
  induction h with
  | @mk kd n row ops args p ps hs hn hc hb hl hm _ ih =>
    have : ∀ m, m ≤ args.length → ∃ k, ∀ (i : Nat) (t : Tr), i < m → args[i]? = some t → DepR k t := fun m => by
      induction m with
      | zero => exact fun _ => ⟨0, fun i t h => by omega⟩
      | succ m ihm =>
        intro hm2
        obtain ⟨k, hk⟩ := ihm (by omega)
        have hi : m < ps.length := by omega
        have hj : m < args.length := by omega
        obtain ⟨k', hk'⟩ := ih m ps[m] args[m] (List.getElem?_eq_getElem hi) (List.getElem?_eq_getElem hj)
        refine ⟨max k k', fun i t hi ht => ?_⟩
        rcases Nat.lt_or_ge i m with q | q
        · exact (hk i t q ht).le (by omega)
        · obtain rfl : i = m := by omega
          rw [List.getElem?_eq_getElem hj] at ht; cases ht
          exact hk'.le (by omega)
    obtain ⟨k, hk⟩ := this args.length (Nat.le_refl _)
    exact ⟨k + 1, .mk fun i t ht => hk i t (List.getElem?_eq_some_iff.1 ht).1 ht⟩
abbrev Kr := Tv × Tr
def kR (l : List Kr) : List Value := l.flatMap fun k => trC k.2 k.1
theorem kR_app (l : List Kr) (p : Tv) (t : Tr) : kR l ++ trC t p = kR (l ++ [(p, t)]) := by simp [kR]
def trsI (S : Nat → Prop) (l : List Kr) : Sx.Item := .ro S (fun w => ∀ k ∈ l, TrIn w S k.1 k.2)
theorem trsI_loc (S : Nat → Prop) (l : List Kr) : Sx.Loc S (fun w => ∀ k ∈ l, TrIn w S k.1 k.2) := fun _ _ _ hk h k hm => (h k hm).keep hk
theorem trsI_nil {w : World} : (trsI (fun _ => False) []).holds w := ⟨fun _ h => (by cases h), fun _ h => h.elim, trsI_loc _ _⟩
section
variable {w0 w : World} {L0 L : List Sx.Item}
theorem trs_add (H : Hs w0 L0 w L) (I : List Nat) {S S2 : Nat → Prop} {l : List Kr} {p : Tv} {t : Tr} (hp : picked I L = some [trsI S l, trI S2 p t]) : ∃ S', Hs w0 L0 w (trsI S' (l ++ [(p, t)]) :: rest I L) := by
  refine ⟨_, H.fz I hp (fun s => ?_) (trsI_loc _ _)⟩
  have h0 := s.all _ (.head _)
  have h1 := s.all _ (.tail _ (.head _))
  intro k hk
  rcases List.mem_append.1 hk with q | q
  · exact (h0.1 k q).mono fun c hc => ⟨_, .head _, hc⟩
  · rw [List.mem_singleton.1 q]; exact h1.1.mono fun c hc => ⟨_, .tail _ (.head _), hc⟩
theorem tr_fin {e cap n na ca : Nat} {A B : Option Addr} {Sa S : Nat → Prop} {ops : List Nm} {l : List Kr} (H : Hs w0 L0 w L) (I : List Nat) (kd u row : Int)
    (hp : picked I L = some [.own e 5 B cap n (kR l), strI Sa A ops, trsI S l]) (hn : na = ops.length) (hc : na ≤ ca ∧ ops.length < 1000000000 ∧ l.length ≤ 2) (hk : n = l.length) :
    ∃ S, Hs w0 L0 w (trI S ⟨A, na, ca, B, n, cap⟩ (.mk kd u row ops (l.map (·.2))) :: rest I L) := by
  refine ⟨_, H.fz I hp (fun s => ?_) (trI_loc _ _ _)⟩
  have h0 := s.all _ (.head _)
  have h1 := s.all _ (.tail _ (.head _))
  have h2 := s.all _ (.tail _ (.tail _ (.head _)))
  refine .mk _ (l.map (·.1)) (h1.1.mono fun c hcc => ⟨_, .tail _ (.head _), hcc⟩) hn ⟨hc.1, by omega, by simp; omega⟩ (by simpa using hk) (by simp) (fun i q t hq ht => ?_) (fun i q t hq ht => ?_)
  · rw [List.getElem?_map] at hq ht
    cases hx : l[i]? with
    | none => simp [hx] at hq
    | some k =>
      simp only [hx, Option.map_some, Option.some.injEq] at hq ht
      subst hq ht
      have hi : i < l.length := (List.getElem?_eq_some_iff.1 hx).1
      rcases h0.2 with ⟨_, hz⟩ | ⟨g, cap', cur, hv, _, hg, hnc, _, hcs, htk⟩
      · omega
      · injection hv with e1 e2 e3
        subst e1
        refine ⟨_, rfl, ⟨_, .head _, rfl⟩, ?_⟩
        have ea : (⟨g, 0, none⟩ : Addr).add (i * 5) = ⟨g, i * 5, none⟩ := by unfold Addr.add; split <;> simp_all
        have hxs : ((kR l).drop (i * 5)).take 5 = trC k.2 k.1 := rec_at (fun k : Kr => trC k.2 k.1) 5 (fun k => trC_len _ _) l i k hx
        rw [ea]
        refine ChangeShapes.cells?_of (Nat.zero_le _) (trC_len _ _) (fun j hj => ?_)
        have hj5 : j < 5 := by simpa [trC_len] using hj
        have hcell : cur[i * 5 + j]? = (trC k.2 k.1)[j]? := by
          rw [← hxs, List.getElem?_take, if_pos hj5, List.getElem?_drop, ← htk, List.getElem?_take, if_pos (by omega)]
          simp
        rw [cell_of_row w g _ cur e (0, 0) hg, hcell]
  · rw [List.getElem?_map] at hq ht
    cases hx : l[i]? with
    | none => simp [hx] at hq
    | some k =>
      simp only [hx, Option.map_some, Option.some.injEq] at hq ht
      subst hq ht
      exact (h2.1 k (List.mem_of_getElem? hx)).mono fun c hcc => ⟨_, .tail _ (.tail _ (.head _)), hcc⟩
end
/-! ### What is given -/
def GvIn (w : World) (S : Nat → Prop) (A : Option Addr) (gs : List Gv) : Prop := ∀ (i : Nat) (g : Gv), gs[i]? = some g → ∃ (q : Tv) (Ao : Option Addr) (no co : Nat) (a : Addr), A = some a ∧ S a.block ∧
  w.cells? 0 ((a.add (i * 9)).add 0) 1 = some [.int .i64 g.n] ∧ w.cells? 0 ((a.add (i * 9)).add 1) 5 = some (trC g.t q) ∧ w.cells? 0 ((a.add (i * 9)).add 6) 1 = some [.int .i64 g.row] ∧ w.cells? 0 ((a.add (i * 9)).add 7) 1 = some [.slice Ao no co] ∧ w.cells? 0 ((a.add (i * 9)).add 8) 1 = some [.int .i64 g.more] ∧
  TrIn w S q g.t ∧ Strs w S Ao g.ops ∧ no = g.ops.length ∧ no ≤ co ∧ g.ops.length ≤ 2000000
theorem GvIn.keep {w w' : World} {S : Nat → Prop} {A : Option Addr} {gs : List Gv} (h : GvIn w S A gs) (k : ∀ c, S c → w'.heap[c]? = w.heap[c]?) : GvIn w' S A gs := fun i g hi => by
  obtain ⟨q, Ao, no, co, a, ha, hS, h0, h1, h6, h7, h8, ht, hs, hn, hc, hz⟩ := h i g hi
  have kb : ∀ off, w'.heap[((a.add (i * 9)).add off).block]? = w.heap[((a.add (i * 9)).add off).block]? := fun off => by rw [add_block, add_block]; exact k _ hS
  exact ⟨q, Ao, no, co, a, ha, hS, cells_same h0 (kb 0), cells_same h1 (kb 1), cells_same h6 (kb 6), cells_same h7 (kb 7), cells_same h8 (kb 8), ht.keep k, hs.keep k, hn, hc, hz⟩
theorem gv_loc (S : Nat → Prop) (A : Option Addr) (gs : List Gv) : Sx.Loc S (fun w => GvIn w S A gs) := fun _ _ _ hk h => h.keep hk
def gvI (S : Nat → Prop) (A : Option Addr) (gs : List Gv) : Sx.Item := .ro S (fun w => GvIn w S A gs)
theorem gv_at {w0 w : World} {L0 L : List Sx.Item} {S : Nat → Prop} {A : Option Addr} {gs : List Gv} (H : Hs w0 L0 w L) (j : Nat) (hi : L[j]? = some (gvI S A gs)) : GvIn w S A gs := (H.at j hi).1
theorem GvIn.at {w : World} {S : Nat → Prop} {A : Option Addr} {gs : List Gv} (h : GvIn w S A gs) {i : Nat} {g : Gv} (hi : gs[i]? = some g) : ∃ (q : Tv) (Ao : Option Addr) (no co : Nat) (a : Addr), A = some a ∧
    (S ((a.add (i * 9)).add 0).block ∧ w.cells? 0 ((a.add (i * 9)).add 0) 1 = some [.int .i64 g.n]) ∧ (S ((a.add (i * 9)).add 1).block ∧ w.cells? 0 ((a.add (i * 9)).add 1) 5 = some (trC g.t q)) ∧ (S ((a.add (i * 9)).add 6).block ∧ w.cells? 0 ((a.add (i * 9)).add 6) 1 = some [.int .i64 g.row]) ∧ (S ((a.add (i * 9)).add 7).block ∧ w.cells? 0 ((a.add (i * 9)).add 7) 1 = some [.slice Ao no co]) ∧ (S ((a.add (i * 9)).add 8).block ∧ w.cells? 0 ((a.add (i * 9)).add 8) 1 = some [.int .i64 g.more]) ∧
    TrIn w S q g.t ∧ Strs w S Ao g.ops ∧ no = g.ops.length ∧ no ≤ co ∧ g.ops.length ≤ 2000000 := by
  obtain ⟨q, Ao, no, co, a, ha, hS, h0, h1, h6, h7, h8, ht, hs, hn, hc, hz⟩ := h i g hi
  have kb : ∀ off, S ((a.add (i * 9)).add off).block := fun off => by rw [add_block, add_block]; exact hS
  exact ⟨q, Ao, no, co, a, ha, ⟨kb _, h0⟩, ⟨kb _, h1⟩, ⟨kb _, h6⟩, ⟨kb _, h7⟩, ⟨kb _, h8⟩, ht, hs, hn, hc, hz⟩
section
variable {w0 w : World} {L0 L : List Sx.Item} {S : Nat → Prop} {A : Option Addr} {gs : List Gv}
theorem Hs.gce {a : Addr} {n : Nat} {cs : List Value} (H : Hs w0 L0 w L) (j : Nat) (hi : L[j]? = some (gvI S A gs)) (h : S a.block ∧ w.cells? 0 a n = some cs) : Hs w0 L0 w (L ++ [ceI S a n cs]) := H.ro j hi h (ceI_loc _ _ _ _)
theorem Hs.gtr {p : Tv} {t : Tr} (H : Hs w0 L0 w L) (j : Nat) (hi : L[j]? = some (gvI S A gs)) (h : TrIn w S p t) : Hs w0 L0 w (L ++ [trI S p t]) := H.ro j hi h (trI_loc _ _ _)
theorem Hs.tytr {p : Tv} {t : Ty} (H : Hs w0 L0 w L) (j : Nat) (hi : L[j]? = some (tyI S p t)) : Hs w0 L0 w (L ++ [trI S p (trT t)]) := H.ro j hi (TyIn.tr (H.at j hi).1) (trI_loc _ _ _)
end
/-! ### What by looks for -/
theorem gfT_skip {gs : List Gv} {n : Int} {i : Nat} {g : Gv} (hi : gs[i]? = some g) (h : g.n ≠ n) : gfT n (gs.drop i) = gfT n (gs.drop (i + 1)) := by
  have hl := (List.getElem?_eq_some_iff.1 hi).1
  have e : gs.drop i = g :: gs.drop (i + 1) := by rw [List.drop_eq_getElem_cons hl]; congr 1; exact (List.getElem?_eq_some_iff.1 hi).2
  rw [e, gfT, if_neg h]
theorem gfT_hit {gs : List Gv} {n : Int} {i : Nat} {g : Gv} (hi : gs[i]? = some g) (h : g.n = n) : gfT n (gs.drop i) = some g.t := by
  have hl := (List.getElem?_eq_some_iff.1 hi).1
  have e : gs.drop i = g :: gs.drop (i + 1) := by rw [List.drop_eq_getElem_cons hl]; congr 1; exact (List.getElem?_eq_some_iff.1 hi).2
  rw [e, gfT, if_pos h]
theorem gfR_skip {gs : List Gv} {n : Int} {i : Nat} {g : Gv} (hi : gs[i]? = some g) (h : g.row ≠ n) : gfR n (gs.drop i) = gfR n (gs.drop (i + 1)) := by
  have hl := (List.getElem?_eq_some_iff.1 hi).1
  have e : gs.drop i = g :: gs.drop (i + 1) := by rw [List.drop_eq_getElem_cons hl]; congr 1; exact (List.getElem?_eq_some_iff.1 hi).2
  rw [e, gfR, if_neg h]
theorem gfR_hit {gs : List Gv} {n : Int} {i : Nat} {g : Gv} (hi : gs[i]? = some g) (h : g.row = n) : gfR n (gs.drop i) = some (g.ops, g.more) := by
  have hl := (List.getElem?_eq_some_iff.1 hi).1
  have e : gs.drop i = g :: gs.drop (i + 1) := by rw [List.drop_eq_getElem_cons hl]; congr 1; exact (List.getElem?_eq_some_iff.1 hi).2
  rw [e, gfR, if_pos h]
theorem putAll_snoc (l m : List Nm) (s : Nm) : putAll l (m ++ [s]) = putN (putAll l m) s := by
  induction m generalizing l with
  | nil => rfl
  | cons x m ih => exact ih (putN l x)
theorem putAll_take {l m : List Nm} {i : Nat} {s : Nm} (h : m[i]? = some s) : putAll l (m.take (i + 1)) = putN (putAll l (m.take i)) s := by
  rw [← putAll_snoc]
  congr 1
  rw [List.take_add_one, h]; rfl
theorem byO_none {gs : List Gv} {row : Nat} (ops : List Nm) (h : row = 0 ∨ gfR row gs = none) : byO gs row ops = putAll [] ops ∧ byN gs row = (row : Int) := by
  unfold byO byN
  rcases h with rfl | h
  · exact ⟨rfl, rfl⟩
  · rw [h]; constructor <;> split <;> rfl
theorem byO_some {gs : List Gv} {row : Nat} (ops : List Nm) {g : List Nm} {m : Int} (h0 : row ≠ 0) (h : gfR row gs = some (g, m)) : byO gs row ops = putAll (putAll [] ops) g ∧ byN gs row = m := by
  unfold byO byN
  rw [h, if_pos (by omega), if_pos (by omega)]
  exact ⟨rfl, rfl⟩
theorem byP_var {gs : List Gv} {u row : Nat} {ops : List Nm} {args : List Ty} : byP gs (.mk 0 u row ops args) = (gfT u gs).getD (trT (.mk 0 u row ops args)) := rfl
theorem byP_nd {gs : List Gv} {kd u row : Nat} {ops : List Nm} {args : List Ty} (h : kd ≠ 0) : byP gs (.mk kd u row ops args) = .mk kd u (byN gs row) (byO gs row ops) (args.map (byP gs)) := by rw [byP, if_neg h, byPs_map]
theorem szs_mem {t : Ty} {l : List Ty} (h : t ∈ l) : sz t ≤ szs l := by
  induction l with
  | nil => cases h
  | cons x l ih =>
    rcases List.mem_cons.1 h with rfl | q
    · simp [szs]
    · have := ih q; simp [szs]; omega
theorem szs_at {t : Ty} {l : List Ty} {i : Nat} (h : l[i]? = some t) : sz t ≤ szs l := szs_mem (List.mem_of_getElem? h)
end Go.Slv
namespace Go.Slv
open Go.RowKit Go.Sx Go.Inf Go.Gx
/-- Names that are only read. -/
def roS (S : Nat → Prop) (A : Option Addr) (l : List Nm) : Sx.Item := .ro S (fun w => Strs w S A l)
theorem sro_one {w : World} {L : List Sx.Item} {S : Nat → Prop} {A : Option Addr} {l : List Nm} (H : Sp w L) (j : Nat) (hi : L[j]? = some (roS S A l)) {a : Addr} (ha : A = some a) {i : Nat} {s : Nm} (h : l[i]? = some s) : w.cells? 0 (a.add (i * 1)) 1 = some [.string s] := by
  have hT : Strs w S A l := (H.all _ (List.mem_of_getElem? hi)).1
  obtain ⟨a', ha', _, hc⟩ := hT i s h
  rw [ha] at ha'; cases ha'; exact hc
theorem sro_at {w0 w : World} {L0 L : List Sx.Item} {S : Nat → Prop} {A : Option Addr} {l : List Nm} (H : Hs w0 L0 w L) (j : Nat) (hi : L[j]? = some (roS S A l)) : Strs w S A l := (H.at j hi).1
theorem Hs.gst {w0 w : World} {L0 L : List Sx.Item} {S : Nat → Prop} {A : Option Addr} {gs : List Gv} {B : Option Addr} {l : List Nm} (H : Hs w0 L0 w L) (j : Nat) (hi : L[j]? = some (gvI S A gs)) (h : Strs w S B l) : Hs w0 L0 w (L ++ [roS S B l]) := H.ro j hi h (strI_loc _ _ _)
theorem gfR_mem {gs : List Gv} {row : Int} {g : List Nm × Int} (h : gfR row gs = some g) : ∃ x ∈ gs, x.ops = g.1 := by
  induction gs with
  | nil => cases h
  | cons x gs ih =>
    unfold gfR at h
    split at h
    · cases h; exact ⟨x, .head _, rfl⟩
    · obtain ⟨y, hy, e⟩ := ih h; exact ⟨y, .tail _ hy, e⟩
theorem byO_len (gs : List Gv) (row : Nat) (ops : List Nm) (h : ∀ g ∈ gs, g.ops.length ≤ 2000000) : (byO gs row ops).length ≤ ops.length + 2000000 := by
  unfold byO
  split
  · split
    · rename_i g hg
      obtain ⟨x, hx, e⟩ := gfR_mem hg
      have := h x hx
      rw [putAll_len, putAll_len, ← e]; simp; omega
    · rw [putAll_len]; simp
  · rw [putAll_len]; simp
end Go.Slv
namespace Go.Slv
open Go.RowKit Go.Sx Go.Inf Go.Gx
theorem eq_more {α : Type} {l m : List α} {i : Nat} (h : ∀ j, j < i → l[j]? = m[j]?) (k : l[i]? = m[i]?) : ∀ j, j < i + 1 → l[j]? = m[j]? := fun j hj => by
  rcases Nat.lt_or_ge j i with q | q
  · exact h j q
  · obtain rfl : j = i := by omega
    exact k
theorem ext_eq {α : Type} {l m : List α} {i : Nat} (hl : l.length = m.length) (h : ∀ j, j < i → l[j]? = m[j]?) (hx : l.length ≤ i) : l = m := List.ext_getElem? fun j => by
  rcases Nat.lt_or_ge j i with q | q
  · exact h j q
  · rw [List.getElem?_eq_none (by omega), List.getElem?_eq_none (by omega)]
theorem tr_eq {kd u row ke v rov : Int} {ops opt : List Nm} {args art : List Tr} (e1 : kd = ke) (e2 : u = v) (e3 : row = rov) (e4 : ops = opt) (e5 : args = art) : Tr.mk kd u row ops args = Tr.mk ke v rov opt art := by subst e1 e2 e3 e4 e5; rfl
theorem ss_eq {s s' : Nm} (h : (!(s.toList == s'.toList)) = false) : s = s' := by
  have e : s.toList = s'.toList := by simpa using h
  rw [ByteArray.toList_eq, ByteArray.toList_eq] at e
  exact ByteArray.ext (Array.toList_inj.1 e)
end Go.Slv
namespace Go.Slv
theorem same_hd {kd ke u v row rov : Int} {a b c d : Nat} (h : (((((kd != ke) || (u != v)) || (row != rov)) || (((a : Nat) : Int) != ((b : Nat) : Int))) || (((c : Nat) : Int) != ((d : Nat) : Int))) = false) : kd = ke ∧ u = v ∧ row = rov ∧ a = b ∧ c = d := by
  simp at h
  obtain ⟨⟨⟨⟨h1, h2⟩, h3⟩, h4⟩, h5⟩ := h
  exact ⟨h1, h2, h3, by omega, by omega⟩
end Go.Slv
set_option linter.unusedVariables false
set_option linter.unusedSimpArgs false
namespace Go.Proofs.Ytfkkocjheeoobaa
open Go.RowKit Go.Sx Go.Inf Go.Slv
attribute [local irreducible] Go.wpOps Go.Code.wp Go.wpOp Go.wpAnyH Go.Calls Go.Sx.Goal
set_option maxRecDepth 20000
set_option maxHeartbeats 16000000 in
theorem by_c_s (k : Nat) (ih : ∀ (Sy : Nat → Prop) (kd u row : Nat) (ops : List Nm) (args : List Ty) (p : Tv) (Sg : Nat → Prop) (Ag : Option Addr) (ng cg : Nat) (gs : List Gv) (w : World) (K : Ending → World → Prop) (H0 : Sp w [tyI Sy p (Ty.mk kd u row ops args), gvI Sg Ag gs]) (hsz : sz (Ty.mk kd u row ops args) ≤ k ∧ k ≤ 300) (hng : ng = gs.length ∧ ng ≤ 2000000 ∧ ∀ g ∈ gs, g.ops.length ≤ 2000000) (hK : ∀ (S' : Nat → Prop) (q : Tv) (k1 : Int) (u1 : Int) (r1 : Int) (o1 : List Nm) (a1 : List Tr) w', Hs w [tyI Sy p (Ty.mk kd u row ops args), gvI Sg Ag gs] w' [tyI Sy p (Ty.mk kd u row ops args), gvI Sg Ag gs, trI S' q (.mk k1 u1 r1 o1 a1)] → (Tr.mk k1 u1 r1 o1 a1 = byP gs (Ty.mk kd u row ops args)) → K (.returned (.agg #[.int .i64 k1, .int .i64 u1, .int .i64 r1, .slice q.A q.na q.ca, .slice q.B q.nb q.cb])) w'),
    Calls Try.prog 9 #[.agg #[.int .i64 ((kd : Nat) : Int), .int .i64 ((u : Nat) : Int), .int .i64 ((row : Nat) : Int), .slice p.A p.na p.ca, .slice p.B p.nb p.cb], .slice Ag ng cg] w K) (Sy : Nat → Prop) (kd u row : Nat) (ops : List Nm) (args : List Ty) (p : Tv) (Sg : Nat → Prop) (Ag : Option Addr) (ng cg : Nat) (gs : List Gv) (w : World) (K : Ending → World → Prop) (H0 : Sp w [tyI Sy p (Ty.mk kd u row ops args), gvI Sg Ag gs]) (hsz : sz (Ty.mk kd u row ops args) ≤ (k + 1) ∧ (k + 1) ≤ 300) (hng : ng = gs.length ∧ ng ≤ 2000000 ∧ ∀ g ∈ gs, g.ops.length ≤ 2000000) (hK : ∀ (S' : Nat → Prop) (q : Tv) (k1 : Int) (u1 : Int) (r1 : Int) (o1 : List Nm) (a1 : List Tr) w', Hs w [tyI Sy p (Ty.mk kd u row ops args), gvI Sg Ag gs] w' [tyI Sy p (Ty.mk kd u row ops args), gvI Sg Ag gs, trI S' q (.mk k1 u1 r1 o1 a1)] → (Tr.mk k1 u1 r1 o1 a1 = byP gs (Ty.mk kd u row ops args)) → K (.returned (.agg #[.int .i64 k1, .int .i64 u1, .int .i64 r1, .slice q.A q.na q.ca, .slice q.B q.nb q.cb])) w') :
    Calls Try.prog 9 #[.agg #[.int .i64 ((kd : Nat) : Int), .int .i64 ((u : Nat) : Int), .int .i64 ((row : Nat) : Int), .slice p.A p.na p.ca, .slice p.B p.nb p.cb], .slice Ag ng cg] w K := by
  obtain ⟨L0, hL0, H⟩ : ∃ L0, L0 = [tyI Sy p (Ty.mk kd u row ops args), gvI Sg Ag gs] ∧ Hs w L0 w [tyI Sy p (Ty.mk kd u row ops args), gvI Sg Ag gs] := ⟨_, rfl, Hs.refl H0⟩
  refine Sx.en (vs := [.agg #[.int .i64 ((kd : Nat) : Int), .int .i64 ((u : Nat) : Int), .int .i64 ((row : Nat) : Int), .slice p.A p.na p.ca, .slice p.B p.nb p.cb], .slice Ag ng cg]) 124 Try.func9 ?_
  have hob_ := (ty_at (S := Sy) (p := p) (t := Ty.mk kd u row ops args) H 0 (by kernel_rfl)).open
  obtain ⟨_, hna, hca, hnb, _⟩ := hob_
  have hs0 : 1 + ops.length + szs args ≤ k + 1 := by simpa [sz] using hsz.1
  refine Sx.nw 2 H fun k1 w1 H1 => ?_
  refine Sx.nw 0 H1 fun k2 w2 H2 => ?_
  refine Sx.l 6 2 H2 ?_
  refine Sx.br 3 (((kd : Nat) : Int) == (0 : Int)) (fun h_c14 => ?_) (fun h_c14 => ?_)
  · skip
    have p_c14 := Gx.k1 h_c14
    have hob_ : kd = 0 := by omega
    obtain rfl := hob_
    have H3 := H2.pick (a := [tyI Sy p (Ty.mk 0 u row ops args), gvI Sg Ag gs, .blk k1 (.cells #[.int .i64 ((0 : Nat) : Int), .int .i64 ((u : Nat) : Int), .int .i64 ((row : Nat) : Int), .slice p.A p.na p.ca, .slice p.B p.nb p.cb] 32), .blk k2 (.cells #[.int .i64 0, .int .i64 0, .int .i64 0, .slice none 0 0, .slice none 0 0] 32)]) [0, 0, 0, 0] (by kernel_rfl)
    refine Sx.lp 7 (fun z l' w' => ∃ (i : Nat), l' = [(1, .slice Ag ng cg), (2, .pointer (some ⟨k1, 0, none⟩)), (4, .pointer (some ⟨k2, 0, none⟩)), (5, .int .i64 ((i : Nat) : Int))] ∧ z = gs.length - i ∧ Hs w L0 w' [tyI Sy p (Ty.mk 0 u row ops args), gvI Sg Ag gs, .blk k1 (.cells #[.int .i64 ((0 : Nat) : Int), .int .i64 ((u : Nat) : Int), .int .i64 ((row : Nat) : Int), .slice p.A p.na p.ca, .slice p.B p.nb p.cb] 32), .blk k2 (.cells #[.int .i64 0, .int .i64 0, .int .i64 0, .slice none 0 0, .slice none 0 0] 32)] ∧ (gfT u gs = gfT u (gs.drop i)) ∧ (i ≤ gs.length)) _ [(1, .slice Ag ng cg), (2, .pointer (some ⟨k1, 0, none⟩)), (4, .pointer (some ⟨k2, 0, none⟩)), (5, .int .i64 ((0 : Nat) : Int))] ⟨0, rfl, rfl, H3, rfl, (Nat.zero_le _)⟩ (fun b1 z1 l1 w3 hI1 K1 hK1 => ?_)
    obtain ⟨i, rfl, rfl, H4, hgf, hil⟩ := hI1
    have hob_ := Nat.lt_or_ge i gs.length
    rcases hob_ with hx | hx
    · skip
      have hob_ : ∃ g, gs[i]? = some g := ⟨_, List.getElem?_eq_getElem hx⟩
      obtain ⟨⟨gn, ⟨gk, gu, gr0, go0, ga0⟩, gr, gop, gm⟩, hgi⟩ := hob_
      have hob_ := GvIn.at (gv_at (S := Sg) (A := Ag) (gs := gs) H4 1 (by kernel_rfl)) hgi
      obtain ⟨gq, Ao, no, co, ag, hag, hg0, hg1, hg6, hg7, hg8, hgt, hgs, hgn, hgc, hgz⟩ := hob_
      have H5 := Hs.gce (S := Sg) (A := Ag) (gs := gs) (a := Addr.add (Addr.add ag (i * 9)) 0) (n := 1) (cs := [.int .i64 gn]) H4 1 (by kernel_rfl) hg0
      refine Sx.v 6 (.bool (decide (((i : Nat) : Int) < ((ng : Nat) : Int)))) (.bool true) (dT (by omega)) ?_
      refine Sx.dr 8 H5 [4, 2] [] (LJ := [ceI Sg (Addr.add (Addr.add ag (i * 9)) 0) 1 ([.int .i64 gn]), .blk k1 (.cells #[.int .i64 ((0 : Nat) : Int), .int .i64 ((u : Nat) : Int), .int .i64 ((row : Nat) : Int), .slice p.A p.na p.ca, .slice p.B p.nb p.cb] 32)]) (by kernel_rfl) fun w4 H6 => ?_
      refine Sx.tk [(0, none), (1, none)] (fun _ => (H6.sub [4, 2] (by kernel_rfl))) ?_
      refine Sx.tvi 2 [] ag i 9 ng cg hag (by omega) (fun _ => (H6.sub [4, 2] (by kernel_rfl))) ?_
      refine Sx.tvf 3 [] (Addr.add ag (i * 9)) 0 (fun _ => (H6.sub [4, 2] (by kernel_rfl))) ?_
      refine Sx.tvo (c := 1) (t := 3) 4 [] [.int .i64 gn] (.int .i64 gn) (fun w' hs => ce_at (S := Sg) (a := Addr.add (Addr.add ag (i * 9)) 0) (n := 1) (cs := [.int .i64 gn]) hs 0 (by kernel_rfl)) (fun _ => (H6.sub [4, 2] (by kernel_rfl))) ?_
      refine Sx.tk [(5, none), (6, some (1, [])), (7, none)] (fun _ => (H6.sub [4, 2] (by kernel_rfl))) ?_
      refine Sx.dn ?_
      refine Sx.br 1 (gn == ((u : Nat) : Int)) (fun h_c28 => ?_) (fun h_c28 => ?_)
      · skip
        have p_c28 := Gx.k1 h_c28
        have hob_ := GvIn.at (gv_at (S := Sg) (A := Ag) (gs := gs) H6 1 (by kernel_rfl)) hgi
        obtain ⟨gq, Ao, no, co, ag, hag, hg0, hg1, hg6, hg7, hg8, hgt, hgs, hgn, hgc, hgz⟩ := hob_
        have H7 := Hs.gce (S := Sg) (A := Ag) (gs := gs) (a := Addr.add (Addr.add ag (i * 9)) 1) (n := 5) (cs := [.int .i64 gk, .int .i64 gu, .int .i64 gr0, .slice gq.A gq.na gq.ca, .slice gq.B gq.nb gq.cb]) H6 1 (by kernel_rfl) hg1
        have H8 := Hs.gtr (S := Sg) (A := Ag) (gs := gs) (p := gq) (t := Tr.mk gk gu gr0 go0 ga0) H7 1 (by kernel_rfl) hgt
        refine Sx.ia 4 ag i 9 ng cg hag (by omega) ?_
        refine Sx.fa 0 (Addr.add ag (i * 9)) 1 ?_
        refine Sx.lo (c := 5) (t := 32) 0 [.int .i64 gk, .int .i64 gu, .int .i64 gr0, .slice gq.A gq.na gq.ca, .slice gq.B gq.nb gq.cb] (.agg #[.int .i64 gk, .int .i64 gu, .int .i64 gr0, .slice gq.A gq.na gq.ca, .slice gq.B gq.nb gq.cb]) (ce_at (S := Sg) (a := Addr.add (Addr.add ag (i * 9)) 1) (n := 5) (cs := [.int .i64 gk, .int .i64 gu, .int .i64 gr0, .slice gq.A gq.na gq.ca, .slice gq.B gq.nb gq.cb]) H8.sp 5 (by kernel_rfl)) ?_
        refine Sx.s 0 3 H8 fun w5 H9 => ?_
        refine Sx.rt 9 [3] H9 (.agg #[.int .i64 gk, .int .i64 gu, .int .i64 gr0, .slice gq.A gq.na gq.ca, .slice gq.B gq.nb gq.cb]) ?_
        subst hL0
        exact hK Sg gq gk gu gr0 go0 ga0 _ (H9.pick [0, 0, 4] (by kernel_rfl)) (by rw [byP_var, hgf, gfT_hit hgi (by simp only; omega)]; rfl)
      have p_c28 := Gx.k0 h_c28
      refine Sx.v 5 (.int .i64 (IntKind.i64.wrap (((i : Nat) : Int) + (1 : Int)))) (.int .i64 ((i + 1 : Nat) : Int)) (congrArg (Value.int .i64) (Gx.i64n (by omega) (by omega))) ?_
      have H10 := H6.pick (a := [tyI Sy p (Ty.mk 0 u row ops args), gvI Sg Ag gs, .blk k1 (.cells #[.int .i64 ((0 : Nat) : Int), .int .i64 ((u : Nat) : Int), .int .i64 ((row : Nat) : Int), .slice p.A p.na p.ca, .slice p.B p.nb p.cb] 32), .blk k2 (.cells #[.int .i64 0, .int .i64 0, .int .i64 0, .slice none 0 0, .slice none 0 0] 32)]) [0, 0, 0, 0] (by kernel_rfl)
      exact Sx.to 2 [(1, .slice Ag ng cg), (2, .pointer (some ⟨k1, 0, none⟩)), (4, .pointer (some ⟨k2, 0, none⟩)), (5, .int .i64 (((i + 1) : Nat) : Int))] (hK1 _ _ _ _ (by omega) ⟨(i + 1), rfl, rfl, H10, (hgf.trans (gfT_skip hgi (by simp only; omega))), (by omega)⟩)
    rw [List.drop_of_length_le hx] at hgf
    refine Sx.v 6 (.bool (decide (((i : Nat) : Int) < ((ng : Nat) : Int)))) (.bool false) (dF (by omega)) ?_
    refine Sx.l 10 2 H4 ?_
    refine Sx.s 0 3 H4 fun w6 H11 => ?_
    refine Sx.rt 4 [3] H11 (.agg #[.int .i64 ((0 : Nat) : Int), .int .i64 ((u : Nat) : Int), .int .i64 ((row : Nat) : Int), .slice p.A p.na p.ca, .slice p.B p.nb p.cb]) ?_
    have H12 := Hs.tytr (S := Sy) (p := p) (t := Ty.mk 0 u row ops args) H11 0 (by kernel_rfl)
    subst hL0
    exact hK Sy p 0 u row ops (trTs args) _ (H12.pick [0, 0, 2] (by kernel_rfl)) (by rw [byP_var, hgf]; rfl)
  have p_c14 := Gx.k0 h_c14
  have hk0 : kd ≠ 0 := by omega
  refine Sx.l 5 2 H2 ?_
  refine Sx.l 1 2 H2 ?_
  refine Sx.l 1 2 H2 ?_
  refine Sx.nw 1 H2 fun k3 w7 H13 => ?_
  refine Sx.s 0 4 H13 fun w8 H14 => ?_
  have H15 := H14.add (Gx.Ext.refl _) (it := strI (fun _ => False) none []) strI_nil (fun _ h => h.elim)
  have H16 := H15.pick (a := [tyI Sy p (Ty.mk kd u row ops args), gvI Sg Ag gs, .blk k1 (.cells #[.int .i64 ((kd : Nat) : Int), .int .i64 ((u : Nat) : Int), .int .i64 ((row : Nat) : Int), .slice p.A p.na p.ca, .slice p.B p.nb p.cb] 32), .blk k2 (.cells #[.int .i64 0, .int .i64 0, .int .i64 0, .slice none 0 0, .slice none 0 0] 32), .blk k3 (.cells #[.int .i64 ((kd : Nat) : Int), .int .i64 ((u : Nat) : Int), .int .i64 ((row : Nat) : Int), .slice none 0 0, .slice none 0 0] 32), strI (fun _ => False) none ([])]) [0, 0, 0, 0, 0, 0] (by kernel_rfl)
  refine Sx.lp 9 (fun z l' w' => ∃ (j : Nat) (Aop : Option Addr) (nop : Nat) (cop : Nat) (So : Nat → Prop), l' = [(1, .slice Ag ng cg), (2, .pointer (some ⟨k1, 0, none⟩)), (4, .pointer (some ⟨k2, 0, none⟩)), (6, .pointer (some ⟨k3, 0, none⟩)), (7, .int .i64 ((j : Nat) : Int))] ∧ z = ops.length - j ∧ Hs w L0 w' [tyI Sy p (Ty.mk kd u row ops args), gvI Sg Ag gs, .blk k1 (.cells #[.int .i64 ((kd : Nat) : Int), .int .i64 ((u : Nat) : Int), .int .i64 ((row : Nat) : Int), .slice p.A p.na p.ca, .slice p.B p.nb p.cb] 32), .blk k2 (.cells #[.int .i64 0, .int .i64 0, .int .i64 0, .slice none 0 0, .slice none 0 0] 32), .blk k3 (.cells #[.int .i64 ((kd : Nat) : Int), .int .i64 ((u : Nat) : Int), .int .i64 ((row : Nat) : Int), .slice Aop nop cop, .slice none 0 0] 32), strI So Aop (putAll [] (ops.take j))] ∧ (nop = (putAll [] (ops.take j)).length ∧ nop ≤ cop) ∧ (j ≤ ops.length)) _ [(1, .slice Ag ng cg), (2, .pointer (some ⟨k1, 0, none⟩)), (4, .pointer (some ⟨k2, 0, none⟩)), (6, .pointer (some ⟨k3, 0, none⟩)), (7, .int .i64 ((0 : Nat) : Int))] ⟨0, none, 0, 0, (fun _ => False), rfl, rfl, H16, ⟨rfl, Nat.le_refl _⟩, (Nat.zero_le _)⟩ (fun b2 z2 l2 w9 hI2 K2 hK2 => ?_)
  obtain ⟨j, Aop, nop, cop, So, rfl, rfl, H17, hop, hjl⟩ := hI2
  have hob_ := Nat.lt_or_ge j ops.length
  rcases hob_ with hx1 | hx1
  · skip
    have hob_ : ∃ s, ops[j]? = some s := ⟨_, List.getElem?_eq_getElem hx1⟩
    obtain ⟨s, hs1⟩ := hob_
    have hob_ := (ty_at (S := Sy) (p := p) (t := Ty.mk kd u row ops args) H17 0 (by kernel_rfl)).open.1 j s hs1
    obtain ⟨ya, hya, _, hca1⟩ := hob_
    have hlz : (putAll [] (ops.take j)).length < 1000000000 := by rw [putAll_len, List.length_take]; simp only [List.length_nil]; omega
    refine Sx.l 5 2 H17 ?_
    refine Sx.v 1 (.bool (decide (((j : Nat) : Int) < ((p.na : Nat) : Int)))) (.bool true) (dT (by omega)) ?_
    refine Sx.dr 7 H17 [4, 2, 0] [9] (LJ := [.blk k3 (.cells #[.int .i64 ((kd : Nat) : Int), .int .i64 ((u : Nat) : Int), .int .i64 ((row : Nat) : Int), .slice Aop nop cop, .slice none 0 0] 32), .blk k1 (.cells #[.int .i64 ((kd : Nat) : Int), .int .i64 ((u : Nat) : Int), .int .i64 ((row : Nat) : Int), .slice p.A p.na p.ca, .slice p.B p.nb p.cb] 32), tyI Sy p (Ty.mk kd u row ops args)]) (by kernel_rfl) fun w10 H18 => ?_
    refine Sx.tk [(0, none), (1, some (0, [7, 8, 9])), (2, none), (3, some (1, [5, 6, 7, 8, 9])), (4, none)] (fun _ => (H18.sub [4, 2, 0] (by kernel_rfl))) ?_
    refine Sx.tvi 5 [6, 7, 8, 9] ya j 1 p.na p.ca hya (by omega) (fun _ => (H18.sub [4, 2, 0] (by kernel_rfl))) ?_
    refine Sx.tvo (c := 1) (t := 9) 6 [7, 8, 9] [.string s] (.string s) (fun w' hs => ty_str (S := Sy) (p := p) (kd := kd) (n := u) (row := row) (ops := ops) (args := args) hs 2 (by kernel_rfl) hya hs1) (fun _ => (H18.sub [4, 2, 0] (by kernel_rfl))) ?_
    refine Sx.nmx ?_
    intro zx1
    refine Sx.on 7 ?_
    refine Sx.c 0 [5] H18 (fun Hp1 R1 hR1 => insert_c So Aop nop cop (putAll [] (ops.take j)) s w10 R1 Hp1 hop.1 hop.2 hlz (fun So1 Aq1 nq1 cq1 w11 G1 hn1 hc1 => hR1 _ _ _ G1 fun H19 => ?_))
    rw [← putAll_take hs1] at H19
    refine Sx.bk (x := zx1) 7 (fun _ => (H19.sub [6, 4, 2] (by kernel_rfl))) ?_
    refine Sx.tk [(8, none)] (fun _ => (H19.sub [6, 4, 2] (by kernel_rfl))) ?_
    refine Sx.nmx ?_
    intro zx2
    refine Sx.on 9 ?_
    refine Sx.s 0 6 H19 fun w12 H20 => ?_
    refine Sx.bk (x := zx2) 9 (fun h => Sx.nope h (by kernel_rfl)) ?_
    refine Sx.dn ?_
    refine Sx.v 4 (.int .i64 (IntKind.i64.wrap (((j : Nat) : Int) + (1 : Int)))) (.int .i64 ((j + 1 : Nat) : Int)) (congrArg (Value.int .i64) (Gx.i64n (by omega) (by omega))) ?_
    have H21 := H20.pick (a := [tyI Sy p (Ty.mk kd u row ops args), gvI Sg Ag gs, .blk k1 (.cells #[.int .i64 ((kd : Nat) : Int), .int .i64 ((u : Nat) : Int), .int .i64 ((row : Nat) : Int), .slice p.A p.na p.ca, .slice p.B p.nb p.cb] 32), .blk k2 (.cells #[.int .i64 0, .int .i64 0, .int .i64 0, .slice none 0 0, .slice none 0 0] 32), .blk k3 (.cells #[.int .i64 ((kd : Nat) : Int), .int .i64 ((u : Nat) : Int), .int .i64 ((row : Nat) : Int), .slice Aq1 nq1 cq1, .slice none 0 0] 32), strI So1 Aq1 (putAll [] (ops.take (j + 1)))]) [2, 2, 2, 2, 2, 1] (by kernel_rfl)
    exact Sx.to 2 [(1, .slice Ag ng cg), (2, .pointer (some ⟨k1, 0, none⟩)), (4, .pointer (some ⟨k2, 0, none⟩)), (6, .pointer (some ⟨k3, 0, none⟩)), (7, .int .i64 (((j + 1) : Nat) : Int))] (hK2 _ _ _ _ (by omega) ⟨(j + 1), Aq1, nq1, cq1, So1, rfl, rfl, H21, (by rw [putAll_take hs1]; exact ⟨hn1, hc1⟩), (by omega)⟩)
  have hie : ops.take j = ops := List.take_of_length_le hx1
  rw [hie] at H17 hop
  refine Sx.l 5 2 H17 ?_
  refine Sx.v 1 (.bool (decide (((j : Nat) : Int) < ((p.na : Nat) : Int)))) (.bool false) (dF (by omega)) ?_
  refine Sx.cut 8 (fun l' w' => ∃ (Aop1 : Option Addr) (nop1 : Nat) (cop1 : Nat) (So1 : Nat → Prop), l' = [(1, .slice Ag ng cg), (2, .pointer (some ⟨k1, 0, none⟩)), (4, .pointer (some ⟨k2, 0, none⟩)), (6, .pointer (some ⟨k3, 0, none⟩))] ∧ Hs w L0 w' [tyI Sy p (Ty.mk kd u row ops args), gvI Sg Ag gs, .blk k1 (.cells #[.int .i64 ((kd : Nat) : Int), .int .i64 ((u : Nat) : Int), .int .i64 ((row : Nat) : Int), .slice p.A p.na p.ca, .slice p.B p.nb p.cb] 32), .blk k2 (.cells #[.int .i64 0, .int .i64 0, .int .i64 0, .slice none 0 0, .slice none 0 0] 32), .blk k3 (.cells #[.int .i64 ((kd : Nat) : Int), .int .i64 ((u : Nat) : Int), .int .i64 (byN gs row), .slice Aop1 nop1 cop1, .slice none 0 0] 32), strI So1 Aop1 (byO gs row ops)] ∧ (nop1 = (byO gs row ops).length ∧ nop1 ≤ cop1)) (fun K3 hK3 => ?_) (fun b3 l3 w13 hI3 => ?_)
  · skip
    refine Sx.l 3 2 H17 ?_
    refine Sx.br 3 (decide (((row : Nat) : Int) > (0 : Int))) (fun h_c60 => ?_) (fun h_c60 => ?_)
    · skip
      have p_c60 := of_decide_eq_true h_c60
      have hr0 : row ≠ 0 := by omega
      have H22 := H17.pick (a := [tyI Sy p (Ty.mk kd u row ops args), gvI Sg Ag gs, .blk k1 (.cells #[.int .i64 ((kd : Nat) : Int), .int .i64 ((u : Nat) : Int), .int .i64 ((row : Nat) : Int), .slice p.A p.na p.ca, .slice p.B p.nb p.cb] 32), .blk k2 (.cells #[.int .i64 0, .int .i64 0, .int .i64 0, .slice none 0 0, .slice none 0 0] 32), .blk k3 (.cells #[.int .i64 ((kd : Nat) : Int), .int .i64 ((u : Nat) : Int), .int .i64 ((row : Nat) : Int), .slice Aop nop cop, .slice none 0 0] 32), strI So Aop (putAll [] ops)]) [0, 0, 0, 0, 0, 0] (by kernel_rfl)
      refine Sx.lp 6 (fun z l' w' => ∃ (i : Nat), l' = [(1, .slice Ag ng cg), (2, .pointer (some ⟨k1, 0, none⟩)), (4, .pointer (some ⟨k2, 0, none⟩)), (6, .pointer (some ⟨k3, 0, none⟩)), (8, .int .i64 ((i : Nat) : Int))] ∧ z = gs.length - i ∧ Hs w L0 w' [tyI Sy p (Ty.mk kd u row ops args), gvI Sg Ag gs, .blk k1 (.cells #[.int .i64 ((kd : Nat) : Int), .int .i64 ((u : Nat) : Int), .int .i64 ((row : Nat) : Int), .slice p.A p.na p.ca, .slice p.B p.nb p.cb] 32), .blk k2 (.cells #[.int .i64 0, .int .i64 0, .int .i64 0, .slice none 0 0, .slice none 0 0] 32), .blk k3 (.cells #[.int .i64 ((kd : Nat) : Int), .int .i64 ((u : Nat) : Int), .int .i64 ((row : Nat) : Int), .slice Aop nop cop, .slice none 0 0] 32), strI So Aop (putAll [] ops)] ∧ (gfR row gs = gfR row (gs.drop i)) ∧ (i ≤ gs.length)) _ [(1, .slice Ag ng cg), (2, .pointer (some ⟨k1, 0, none⟩)), (4, .pointer (some ⟨k2, 0, none⟩)), (6, .pointer (some ⟨k3, 0, none⟩)), (8, .int .i64 ((0 : Nat) : Int))] ⟨0, rfl, rfl, H22, rfl, (Nat.zero_le _)⟩ (fun b4 z3 l4 w14 hI4 K4 hK4 => ?_)
      obtain ⟨i, rfl, rfl, H23, hgf, hil⟩ := hI4
      have hob_ := Nat.lt_or_ge i gs.length
      rcases hob_ with hx | hx
      · skip
        have hob_ : ∃ g, gs[i]? = some g := ⟨_, List.getElem?_eq_getElem hx⟩
        obtain ⟨⟨gn, ⟨gk, gu, gr0, go0, ga0⟩, gr, gop, gm⟩, hgi⟩ := hob_
        have hob_ := GvIn.at (gv_at (S := Sg) (A := Ag) (gs := gs) H23 1 (by kernel_rfl)) hgi
        obtain ⟨gq, Ao, no, co, ag, hag, hg0, hg1, hg6, hg7, hg8, hgt, hgs, hgn, hgc, hgz⟩ := hob_
        have H24 := Hs.gce (S := Sg) (A := Ag) (gs := gs) (a := Addr.add (Addr.add ag (i * 9)) 6) (n := 1) (cs := [.int .i64 gr]) H23 1 (by kernel_rfl) hg6
        refine Sx.v 6 (.bool (decide (((i : Nat) : Int) < ((ng : Nat) : Int)))) (.bool true) (dT (by omega)) ?_
        refine Sx.dr 8 H24 [6, 2] [] (LJ := [ceI Sg (Addr.add (Addr.add ag (i * 9)) 6) 1 ([.int .i64 gr]), .blk k1 (.cells #[.int .i64 ((kd : Nat) : Int), .int .i64 ((u : Nat) : Int), .int .i64 ((row : Nat) : Int), .slice p.A p.na p.ca, .slice p.B p.nb p.cb] 32)]) (by kernel_rfl) fun w15 H25 => ?_
        refine Sx.tk [(0, none), (1, none)] (fun _ => (H25.sub [6, 2] (by kernel_rfl))) ?_
        refine Sx.tvi 2 [] ag i 9 ng cg hag (by omega) (fun _ => (H25.sub [6, 2] (by kernel_rfl))) ?_
        refine Sx.tvf 3 [] (Addr.add ag (i * 9)) 6 (fun _ => (H25.sub [6, 2] (by kernel_rfl))) ?_
        refine Sx.tvo (c := 1) (t := 3) 4 [] [.int .i64 gr] (.int .i64 gr) (fun w' hs => ce_at (S := Sg) (a := Addr.add (Addr.add ag (i * 9)) 6) (n := 1) (cs := [.int .i64 gr]) hs 0 (by kernel_rfl)) (fun _ => (H25.sub [6, 2] (by kernel_rfl))) ?_
        refine Sx.tk [(5, none), (6, some (1, [])), (7, none)] (fun _ => (H25.sub [6, 2] (by kernel_rfl))) ?_
        refine Sx.dn ?_
        refine Sx.br 1 (gr == ((row : Nat) : Int)) (fun h_c74 => ?_) (fun h_c74 => ?_)
        · skip
          have p_c74 := Gx.k1 h_c74
          have hob_ := GvIn.at (gv_at (S := Sg) (A := Ag) (gs := gs) H25 1 (by kernel_rfl)) hgi
          obtain ⟨gq, Ao, no, co, ag, hag, hg0, hg1, hg6, hg7, hg8, hgt, hgs, hgn, hgc, hgz⟩ := hob_
          have H26 := Hs.gce (S := Sg) (A := Ag) (gs := gs) (a := Addr.add (Addr.add ag (i * 9)) 8) (n := 1) (cs := [.int .i64 gm]) H25 1 (by kernel_rfl) hg8
          have H27 := Hs.gce (S := Sg) (A := Ag) (gs := gs) (a := Addr.add (Addr.add ag (i * 9)) 7) (n := 1) (cs := [.slice Ao no co]) H26 1 (by kernel_rfl) hg7
          have H28 := Hs.gst (S := Sg) (A := Ag) (gs := gs) (B := Ao) (l := gop) H27 1 (by kernel_rfl) hgs
          have hgz2 : gop.length ≤ 2000000 := hgz
          have hgn2 : no = gop.length := hgn
          have hgf2 := hgf.trans (gfR_hit hgi (by simp only; omega))
          have hop1 : nop = (putAll (putAll [] ops) (gop.take 0)).length ∧ nop ≤ cop := hop
          refine Sx.ia 4 ag i 9 ng cg hag (by omega) ?_
          refine Sx.fa 0 (Addr.add ag (i * 9)) 8 ?_
          refine Sx.lo (c := 1) (t := 3) 0 [.int .i64 gm] (.int .i64 gm) (ce_at (S := Sg) (a := Addr.add (Addr.add ag (i * 9)) 8) (n := 1) (cs := [.int .i64 gm]) H28.sp 7 (by kernel_rfl)) ?_
          refine Sx.s 1 4 H28 fun w16 H29 => ?_
          have H30 := H29.pick (a := [tyI Sy p (Ty.mk kd u row ops args), gvI Sg Ag gs, .blk k1 (.cells #[.int .i64 ((kd : Nat) : Int), .int .i64 ((u : Nat) : Int), .int .i64 ((row : Nat) : Int), .slice p.A p.na p.ca, .slice p.B p.nb p.cb] 32), .blk k2 (.cells #[.int .i64 0, .int .i64 0, .int .i64 0, .slice none 0 0, .slice none 0 0] 32), .blk k3 (.cells #[.int .i64 ((kd : Nat) : Int), .int .i64 ((u : Nat) : Int), .int .i64 gm, .slice Aop nop cop, .slice none 0 0] 32), ceI Sg (Addr.add (Addr.add ag (i * 9)) 7) 1 ([.slice Ao no co]), roS Sg Ao gop, strI So Aop (putAll [] ops)]) [0, 0, 0, 0, 0, 3, 3, 0] (by kernel_rfl)
          refine Sx.lp 9 (fun z l' w' => ∃ (j : Nat) (Aop : Option Addr) (nop : Nat) (cop : Nat) (So : Nat → Prop), l' = [(1, .slice Ag ng cg), (2, .pointer (some ⟨k1, 0, none⟩)), (4, .pointer (some ⟨k2, 0, none⟩)), (6, .pointer (some ⟨k3, 0, none⟩)), (8, .int .i64 ((i : Nat) : Int)), (9, .int .i64 ((j : Nat) : Int))] ∧ z = gop.length - j ∧ Hs w L0 w' [tyI Sy p (Ty.mk kd u row ops args), gvI Sg Ag gs, .blk k1 (.cells #[.int .i64 ((kd : Nat) : Int), .int .i64 ((u : Nat) : Int), .int .i64 ((row : Nat) : Int), .slice p.A p.na p.ca, .slice p.B p.nb p.cb] 32), .blk k2 (.cells #[.int .i64 0, .int .i64 0, .int .i64 0, .slice none 0 0, .slice none 0 0] 32), .blk k3 (.cells #[.int .i64 ((kd : Nat) : Int), .int .i64 ((u : Nat) : Int), .int .i64 gm, .slice Aop nop cop, .slice none 0 0] 32), ceI Sg (Addr.add (Addr.add ag (i * 9)) 7) 1 ([.slice Ao no co]), roS Sg Ao gop, strI So Aop (putAll (putAll [] ops) (gop.take j))] ∧ (nop = (putAll (putAll [] ops) (gop.take j)).length ∧ nop ≤ cop) ∧ (j ≤ gop.length)) _ [(1, .slice Ag ng cg), (2, .pointer (some ⟨k1, 0, none⟩)), (4, .pointer (some ⟨k2, 0, none⟩)), (6, .pointer (some ⟨k3, 0, none⟩)), (8, .int .i64 ((i : Nat) : Int)), (9, .int .i64 ((0 : Nat) : Int))] ⟨0, Aop, nop, cop, So, rfl, rfl, H30, hop1, (Nat.zero_le _)⟩ (fun b5 z4 l5 w17 hI5 K5 hK5 => ?_)
          obtain ⟨j, Aop, nop, cop, So, rfl, rfl, H31, hop, hjl⟩ := hI5
          have hob_ := Nat.lt_or_ge j gop.length
          rcases hob_ with hx2 | hx2
          · skip
            have hob_ : ∃ s, gop[j]? = some s := ⟨_, List.getElem?_eq_getElem hx2⟩
            obtain ⟨s, hs2⟩ := hob_
            have hob_ := (sro_at (S := Sg) (A := Ao) (l := gop) H31 6 (by kernel_rfl)) j s hs2
            obtain ⟨yb, hyb, _, hcb1⟩ := hob_
            have hlz : (putAll (putAll [] ops) (gop.take j)).length < 1000000000 := by rw [putAll_len, List.length_take]; rw [putAll_len]; simp only [List.length_nil]; omega
            refine Sx.ia 6 ag i 9 ng cg hag (by omega) ?_
            refine Sx.fa 0 (Addr.add ag (i * 9)) 7 ?_
            refine Sx.lo (c := 1) (t := 30) 0 [.slice Ao no co] (.slice Ao no co) (ce_at (S := Sg) (a := Addr.add (Addr.add ag (i * 9)) 7) (n := 1) (cs := [.slice Ao no co]) H31.sp 5 (by kernel_rfl)) ?_
            refine Sx.v 1 (.bool (decide (((j : Nat) : Int) < ((no : Nat) : Int)))) (.bool true) (dT (by omega)) ?_
            refine Sx.dr 7 H31 [4, 5, 6] [12] (LJ := [.blk k3 (.cells #[.int .i64 ((kd : Nat) : Int), .int .i64 ((u : Nat) : Int), .int .i64 gm, .slice Aop nop cop, .slice none 0 0] 32), ceI Sg (Addr.add (Addr.add ag (i * 9)) 7) 1 ([.slice Ao no co]), roS Sg Ao gop]) (by kernel_rfl) fun w18 H32 => ?_
            refine Sx.tk [(0, none), (1, some (0, [10, 11, 12])), (2, none), (3, none)] (fun _ => (H32.sub [4, 4, 4] (by kernel_rfl))) ?_
            refine Sx.tvi 4 [5, 6, 8, 9, 10, 11, 12] ag i 9 ng cg hag (by omega) (fun _ => (H32.sub [4, 4, 4] (by kernel_rfl))) ?_
            refine Sx.tvf 5 [6, 8, 9, 10, 11, 12] (Addr.add ag (i * 9)) 7 (fun _ => (H32.sub [4, 4, 4] (by kernel_rfl))) ?_
            refine Sx.tvo (c := 1) (t := 30) 6 [8, 9, 10, 11, 12] [.slice Ao no co] (.slice Ao no co) (fun w' hs => ce_at (S := Sg) (a := Addr.add (Addr.add ag (i * 9)) 7) (n := 1) (cs := [.slice Ao no co]) hs 1 (by kernel_rfl)) (fun _ => (H32.sub [4, 4, 4] (by kernel_rfl))) ?_
            refine Sx.tk [(7, none)] (fun _ => (H32.sub [4, 4, 4] (by kernel_rfl))) ?_
            refine Sx.tvi 8 [9, 10, 11, 12] yb j 1 no co hyb (by omega) (fun _ => (H32.sub [4, 4, 4] (by kernel_rfl))) ?_
            refine Sx.tvo (c := 1) (t := 9) 9 [10, 11, 12] [.string s] (.string s) (fun w' hs => sro_one (S := Sg) (A := Ao) (l := gop) hs 2 (by kernel_rfl) hyb hs2) (fun _ => (H32.sub [4, 4, 4] (by kernel_rfl))) ?_
            refine Sx.nmx ?_
            intro zx3
            refine Sx.on 10 ?_
            refine Sx.c 0 [7] H32 (fun Hp2 R2 hR2 => insert_c So Aop nop cop (putAll (putAll [] ops) (gop.take j)) s w18 R2 Hp2 hop.1 hop.2 hlz (fun So2 Aq2 nq2 cq2 w19 G2 hn2 hc2 => hR2 _ _ _ G2 fun H33 => ?_))
            rw [← putAll_take hs2] at H33
            refine Sx.bk (x := zx3) 10 (fun _ => (H33.sub [6, 6, 6] (by kernel_rfl))) ?_
            refine Sx.tk [(11, none)] (fun _ => (H33.sub [6, 6, 6] (by kernel_rfl))) ?_
            refine Sx.nmx ?_
            intro zx4
            refine Sx.on 12 ?_
            refine Sx.s 0 6 H33 fun w20 H34 => ?_
            refine Sx.bk (x := zx4) 12 (fun h => Sx.nope h (by kernel_rfl)) ?_
            refine Sx.dn ?_
            refine Sx.v 4 (.int .i64 (IntKind.i64.wrap (((j : Nat) : Int) + (1 : Int)))) (.int .i64 ((j + 1 : Nat) : Int)) (congrArg (Value.int .i64) (Gx.i64n (by omega) (by omega))) ?_
            have H35 := H34.pick (a := [tyI Sy p (Ty.mk kd u row ops args), gvI Sg Ag gs, .blk k1 (.cells #[.int .i64 ((kd : Nat) : Int), .int .i64 ((u : Nat) : Int), .int .i64 ((row : Nat) : Int), .slice p.A p.na p.ca, .slice p.B p.nb p.cb] 32), .blk k2 (.cells #[.int .i64 0, .int .i64 0, .int .i64 0, .slice none 0 0, .slice none 0 0] 32), .blk k3 (.cells #[.int .i64 ((kd : Nat) : Int), .int .i64 ((u : Nat) : Int), .int .i64 gm, .slice Aq2 nq2 cq2, .slice none 0 0] 32), ceI Sg (Addr.add (Addr.add ag (i * 9)) 7) 1 ([.slice Ao no co]), roS Sg Ao gop, strI So2 Aq2 (putAll (putAll [] ops) (gop.take (j + 1)))]) [2, 2, 2, 2, 2, 2, 2, 1] (by kernel_rfl)
            exact Sx.to 2 [(1, .slice Ag ng cg), (2, .pointer (some ⟨k1, 0, none⟩)), (4, .pointer (some ⟨k2, 0, none⟩)), (6, .pointer (some ⟨k3, 0, none⟩)), (8, .int .i64 ((i : Nat) : Int)), (9, .int .i64 (((j + 1) : Nat) : Int))] (hK5 _ _ _ _ (by omega) ⟨(j + 1), Aq2, nq2, cq2, So2, rfl, rfl, H35, (by rw [putAll_take hs2]; exact ⟨hn2, hc2⟩), (by omega)⟩)
          have hie : gop.take j = gop := List.take_of_length_le hx2
          rw [hie] at H31 hop
          refine Sx.ia 6 ag i 9 ng cg hag (by omega) ?_
          refine Sx.fa 0 (Addr.add ag (i * 9)) 7 ?_
          refine Sx.lo (c := 1) (t := 30) 0 [.slice Ao no co] (.slice Ao no co) (ce_at (S := Sg) (a := Addr.add (Addr.add ag (i * 9)) 7) (n := 1) (cs := [.slice Ao no co]) H31.sp 5 (by kernel_rfl)) ?_
          refine Sx.v 1 (.bool (decide (((j : Nat) : Int) < ((no : Nat) : Int)))) (.bool false) (dF (by omega)) ?_
          have hbo1 := byO_some (gs := gs) (row := row) ops hr0 hgf2
          rw [← hbo1.1] at H31 hop
          have H37 := H31.pick (a := [tyI Sy p (Ty.mk kd u row ops args), gvI Sg Ag gs, .blk k1 (.cells #[.int .i64 ((kd : Nat) : Int), .int .i64 ((u : Nat) : Int), .int .i64 ((row : Nat) : Int), .slice p.A p.na p.ca, .slice p.B p.nb p.cb] 32), .blk k2 (.cells #[.int .i64 0, .int .i64 0, .int .i64 0, .slice none 0 0, .slice none 0 0] 32), .blk k3 (.cells #[.int .i64 ((kd : Nat) : Int), .int .i64 ((u : Nat) : Int), .int .i64 gm, .slice Aop nop cop, .slice none 0 0] 32), strI So Aop (byO gs row ops)]) [0, 0, 0, 0, 0, 2] (by kernel_rfl)
          have H36 : Hs w L0 w17 [tyI Sy p (Ty.mk kd u row ops args), gvI Sg Ag gs, .blk k1 (.cells #[.int .i64 ((kd : Nat) : Int), .int .i64 ((u : Nat) : Int), .int .i64 ((row : Nat) : Int), .slice p.A p.na p.ca, .slice p.B p.nb p.cb] 32), .blk k2 (.cells #[.int .i64 0, .int .i64 0, .int .i64 0, .slice none 0 0, .slice none 0 0] 32), .blk k3 (.cells #[.int .i64 ((kd : Nat) : Int), .int .i64 ((u : Nat) : Int), .int .i64 (byN gs row), .slice Aop nop cop, .slice none 0 0] 32), strI So Aop (byO gs row ops)] := by rw [hbo1.2]; exact H37
          exact Sx.to 13 [(1, .slice Ag ng cg), (2, .pointer (some ⟨k1, 0, none⟩)), (4, .pointer (some ⟨k2, 0, none⟩)), (6, .pointer (some ⟨k3, 0, none⟩))] (hK3 _ _ _ ⟨Aop, nop, cop, So, rfl, H36, hop⟩)
        have p_c74 := Gx.k0 h_c74
        refine Sx.v 5 (.int .i64 (IntKind.i64.wrap (((i : Nat) : Int) + (1 : Int)))) (.int .i64 ((i + 1 : Nat) : Int)) (congrArg (Value.int .i64) (Gx.i64n (by omega) (by omega))) ?_
        have H38 := H25.pick (a := [tyI Sy p (Ty.mk kd u row ops args), gvI Sg Ag gs, .blk k1 (.cells #[.int .i64 ((kd : Nat) : Int), .int .i64 ((u : Nat) : Int), .int .i64 ((row : Nat) : Int), .slice p.A p.na p.ca, .slice p.B p.nb p.cb] 32), .blk k2 (.cells #[.int .i64 0, .int .i64 0, .int .i64 0, .slice none 0 0, .slice none 0 0] 32), .blk k3 (.cells #[.int .i64 ((kd : Nat) : Int), .int .i64 ((u : Nat) : Int), .int .i64 ((row : Nat) : Int), .slice Aop nop cop, .slice none 0 0] 32), strI So Aop (putAll [] ops)]) [0, 0, 0, 0, 0, 0] (by kernel_rfl)
        exact Sx.to 2 [(1, .slice Ag ng cg), (2, .pointer (some ⟨k1, 0, none⟩)), (4, .pointer (some ⟨k2, 0, none⟩)), (6, .pointer (some ⟨k3, 0, none⟩)), (8, .int .i64 (((i + 1) : Nat) : Int))] (hK4 _ _ _ _ (by omega) ⟨(i + 1), rfl, rfl, H38, (hgf.trans (gfR_skip hgi (by simp only; omega))), (by omega)⟩)
      rw [List.drop_of_length_le hx] at hgf
      refine Sx.v 6 (.bool (decide (((i : Nat) : Int) < ((ng : Nat) : Int)))) (.bool false) (dF (by omega)) ?_
      have hbo2 := byO_none (gs := gs) (row := row) ops (.inr hgf)
      rw [← hbo2.1] at H23 hop
      have H40 := H23.pick (a := [tyI Sy p (Ty.mk kd u row ops args), gvI Sg Ag gs, .blk k1 (.cells #[.int .i64 ((kd : Nat) : Int), .int .i64 ((u : Nat) : Int), .int .i64 ((row : Nat) : Int), .slice p.A p.na p.ca, .slice p.B p.nb p.cb] 32), .blk k2 (.cells #[.int .i64 0, .int .i64 0, .int .i64 0, .slice none 0 0, .slice none 0 0] 32), .blk k3 (.cells #[.int .i64 ((kd : Nat) : Int), .int .i64 ((u : Nat) : Int), .int .i64 ((row : Nat) : Int), .slice Aop nop cop, .slice none 0 0] 32), strI So Aop (byO gs row ops)]) [0, 0, 0, 0, 0, 0] (by kernel_rfl)
      have H39 : Hs w L0 w14 [tyI Sy p (Ty.mk kd u row ops args), gvI Sg Ag gs, .blk k1 (.cells #[.int .i64 ((kd : Nat) : Int), .int .i64 ((u : Nat) : Int), .int .i64 ((row : Nat) : Int), .slice p.A p.na p.ca, .slice p.B p.nb p.cb] 32), .blk k2 (.cells #[.int .i64 0, .int .i64 0, .int .i64 0, .slice none 0 0, .slice none 0 0] 32), .blk k3 (.cells #[.int .i64 ((kd : Nat) : Int), .int .i64 ((u : Nat) : Int), .int .i64 (byN gs row), .slice Aop nop cop, .slice none 0 0] 32), strI So Aop (byO gs row ops)] := by rw [hbo2.2]; exact H40
      exact Sx.to 7 [(1, .slice Ag ng cg), (2, .pointer (some ⟨k1, 0, none⟩)), (4, .pointer (some ⟨k2, 0, none⟩)), (6, .pointer (some ⟨k3, 0, none⟩))] (hK3 _ _ _ ⟨Aop, nop, cop, So, rfl, H39, hop⟩)
    have p_c60 := of_decide_eq_false h_c60
    have hbo3 := byO_none (gs := gs) (row := row) ops (.inl (by omega))
    rw [← hbo3.1] at H17 hop
    have H42 := H17.pick (a := [tyI Sy p (Ty.mk kd u row ops args), gvI Sg Ag gs, .blk k1 (.cells #[.int .i64 ((kd : Nat) : Int), .int .i64 ((u : Nat) : Int), .int .i64 ((row : Nat) : Int), .slice p.A p.na p.ca, .slice p.B p.nb p.cb] 32), .blk k2 (.cells #[.int .i64 0, .int .i64 0, .int .i64 0, .slice none 0 0, .slice none 0 0] 32), .blk k3 (.cells #[.int .i64 ((kd : Nat) : Int), .int .i64 ((u : Nat) : Int), .int .i64 ((row : Nat) : Int), .slice Aop nop cop, .slice none 0 0] 32), strI So Aop (byO gs row ops)]) [0, 0, 0, 0, 0, 0] (by kernel_rfl)
    have H41 : Hs w L0 w9 [tyI Sy p (Ty.mk kd u row ops args), gvI Sg Ag gs, .blk k1 (.cells #[.int .i64 ((kd : Nat) : Int), .int .i64 ((u : Nat) : Int), .int .i64 ((row : Nat) : Int), .slice p.A p.na p.ca, .slice p.B p.nb p.cb] 32), .blk k2 (.cells #[.int .i64 0, .int .i64 0, .int .i64 0, .slice none 0 0, .slice none 0 0] 32), .blk k3 (.cells #[.int .i64 ((kd : Nat) : Int), .int .i64 ((u : Nat) : Int), .int .i64 (byN gs row), .slice Aop nop cop, .slice none 0 0] 32), strI So Aop (byO gs row ops)] := by rw [hbo3.2]; exact H42
    exact Sx.to 1 [(1, .slice Ag ng cg), (2, .pointer (some ⟨k1, 0, none⟩)), (4, .pointer (some ⟨k2, 0, none⟩)), (6, .pointer (some ⟨k3, 0, none⟩))] (hK3 _ _ _ ⟨Aop, nop, cop, So, rfl, H41, hop⟩)
  obtain ⟨Aop1, nop1, cop1, So1, rfl, H43, hop2⟩ := hI3
  have H44 := H43.add (Gx.Ext.refl _) (it := .own 32 5 none 0 0 []) (World.ownsRow_nil _ _ _ _) (fun _ h => by cases h)
  have H45 := H44.add (Gx.Ext.refl _) (it := trsI (fun _ => False) []) trsI_nil (fun _ h => h.elim)
  have H46 := H45.pick (a := [tyI Sy p (Ty.mk kd u row ops args), gvI Sg Ag gs, .blk k1 (.cells #[.int .i64 ((kd : Nat) : Int), .int .i64 ((u : Nat) : Int), .int .i64 ((row : Nat) : Int), .slice p.A p.na p.ca, .slice p.B p.nb p.cb] 32), .blk k2 (.cells #[.int .i64 0, .int .i64 0, .int .i64 0, .slice none 0 0, .slice none 0 0] 32), .blk k3 (.cells #[.int .i64 ((kd : Nat) : Int), .int .i64 ((u : Nat) : Int), .int .i64 (byN gs row), .slice Aop1 nop1 cop1, .slice none 0 0] 32), strI So1 Aop1 (byO gs row ops), .own 32 5 none 0 0 (kR []), trsI (fun _ => False) ([])]) [0, 0, 0, 0, 0, 0, 0, 0] (by kernel_rfl)
  refine Sx.lp 7 (fun z l' w' => ∃ (i : Nat) (A5 : Option Addr) (c5 : Nat) (n5 : Nat) (kl : List Kr) (Sk : Nat → Prop), l' = [(1, .slice Ag ng cg), (2, .pointer (some ⟨k1, 0, none⟩)), (4, .pointer (some ⟨k2, 0, none⟩)), (6, .pointer (some ⟨k3, 0, none⟩)), (10, .int .i64 ((i : Nat) : Int))] ∧ z = args.length - i ∧ Hs w L0 w' [tyI Sy p (Ty.mk kd u row ops args), gvI Sg Ag gs, .blk k1 (.cells #[.int .i64 ((kd : Nat) : Int), .int .i64 ((u : Nat) : Int), .int .i64 ((row : Nat) : Int), .slice p.A p.na p.ca, .slice p.B p.nb p.cb] 32), .blk k2 (.cells #[.int .i64 0, .int .i64 0, .int .i64 0, .slice none 0 0, .slice none 0 0] 32), .blk k3 (.cells #[.int .i64 ((kd : Nat) : Int), .int .i64 ((u : Nat) : Int), .int .i64 (byN gs row), .slice Aop1 nop1 cop1, .slice A5 n5 c5] 32), strI So1 Aop1 (byO gs row ops), .own 32 5 A5 c5 n5 (kR kl), trsI Sk kl] ∧ (n5 = kl.length) ∧ (kl.length = i) ∧ (kl.map (·.2) = (args.take i).map (byP gs)) ∧ (i ≤ args.length)) _ [(1, .slice Ag ng cg), (2, .pointer (some ⟨k1, 0, none⟩)), (4, .pointer (some ⟨k2, 0, none⟩)), (6, .pointer (some ⟨k3, 0, none⟩)), (10, .int .i64 ((0 : Nat) : Int))] ⟨0, none, 0, 0, [], (fun _ => False), rfl, rfl, H46, rfl, rfl, rfl, (Nat.zero_le _)⟩ (fun b6 z5 l6 w21 hI6 K6 hK6 => ?_)
  obtain ⟨i, A5, c5, n5, kl, Sk, rfl, rfl, H47, hn5, hkl, hkm, hil⟩ := hI6
  have hob_ := Nat.lt_or_ge i args.length
  rcases hob_ with hx | hx
  · skip
    have hob_ : ∃ t, args[i]? = some t := ⟨_, List.getElem?_eq_getElem hx⟩
    obtain ⟨⟨k0, u0, r0, o0, a0⟩, hti⟩ := hob_
    have hob_ := TyIn.kid (ty_at (S := Sy) (p := p) (t := Ty.mk kd u row ops args) H47 0 (by kernel_rfl)) hti
    obtain ⟨q0, za, hxa, hza, hka⟩ := hob_
    have H48 := H47.ro 0 (S := Sy) (A := fun w => TyIn w Sy p (Ty.mk kd u row ops args)) (B := fun w => TyIn w Sy q0 (Ty.mk k0 u0 r0 o0 a0)) (by kernel_rfl) hka (tyI_loc _ _ _)
    have hszk := szs_at hti
    refine Sx.l 5 2 H48 ?_
    refine Sx.v 1 (.bool (decide (((i : Nat) : Int) < ((p.nb : Nat) : Int)))) (.bool true) (dT (by omega)) ?_
    refine Sx.l 10 2 H48 ?_
    refine Sx.ia 1 za i 5 p.nb p.cb hxa (by omega) ?_
    refine Sx.lo (c := 5) (t := 32) 0 [.int .i64 ((k0 : Nat) : Int), .int .i64 ((u0 : Nat) : Int), .int .i64 ((r0 : Nat) : Int), .slice q0.A q0.na q0.ca, .slice q0.B q0.nb q0.cb] (.agg #[.int .i64 ((k0 : Nat) : Int), .int .i64 ((u0 : Nat) : Int), .int .i64 ((r0 : Nat) : Int), .slice q0.A q0.na q0.ca, .slice q0.B q0.nb q0.cb]) hza.2 ?_
    refine Sx.c 1 [8, 1] H48 (fun Hp3 R3 hR3 => ih Sy k0 u0 r0 o0 a0 q0 Sg Ag ng cg gs w21 R3 Hp3 ⟨by omega, by omega⟩ hng (fun S1 bp1 bk1 bu1 br1 bo1 ba1 w22 G3 hby1 => hR3 _ _ _ G3 fun H49 => ?_))
    refine Sx.nw 0 H49 fun k4 w23 H50 => ?_
    refine Sx.s 0 10 H50 fun w24 H51 => ?_
    refine Sx.l 4 6 H51 ?_
    refine Sx.l 0 10 H51 ?_
    refine Sx.nw 0 H51 fun k5 w25 H52 => ?_
    refine Sx.ap 0 8 11 72 1 0 32 5 23 1 k5 A5 c5 n5 (kR kl) [.int .i64 bk1, .int .i64 bu1, .int .i64 br1, .slice bp1.A bp1.na bp1.ca, .slice bp1.B bp1.nb bp1.cb] H52 (by omega) (by omega) (kR_app kl bp1 (Tr.mk bk1 bu1 br1 bo1 ba1)) fun A1 cap1 w26 H53 => ?_
    refine Sx.s 1 6 H53 fun w27 H54 => ?_
    refine Sx.v 5 (.int .i64 (IntKind.i64.wrap (((i : Nat) : Int) + (1 : Int)))) (.int .i64 ((i + 1 : Nat) : Int)) (congrArg (Value.int .i64) (Gx.i64n (by omega) (by omega))) ?_
    have hob_ := trs_add H54 [9, 2] (S := Sk) (S2 := S1) (l := kl) (p := bp1) (t := Tr.mk bk1 bu1 br1 bo1 ba1) (by kernel_rfl)
    obtain ⟨S2, H55⟩ := hob_
    have H56 := H55.pick (a := [tyI Sy p (Ty.mk kd u row ops args), gvI Sg Ag gs, .blk k1 (.cells #[.int .i64 ((kd : Nat) : Int), .int .i64 ((u : Nat) : Int), .int .i64 ((row : Nat) : Int), .slice p.A p.na p.ca, .slice p.B p.nb p.cb] 32), .blk k2 (.cells #[.int .i64 0, .int .i64 0, .int .i64 0, .slice none 0 0, .slice none 0 0] 32), .blk k3 (.cells #[.int .i64 ((kd : Nat) : Int), .int .i64 ((u : Nat) : Int), .int .i64 (byN gs row), .slice Aop1 nop1 cop1, .slice A1 (n5 + 1) cap1] 32), strI So1 Aop1 (byO gs row ops), .own 32 5 A1 cap1 (n5 + 1) (kR (kl ++ [(bp1, Tr.mk bk1 bu1 br1 bo1 ba1)])), trsI S2 (kl ++ [(bp1, Tr.mk bk1 bu1 br1 bo1 ba1)])]) [3, 2, 2, 2, 2, 2, 2, 0] (by kernel_rfl)
    exact Sx.to 2 [(1, .slice Ag ng cg), (2, .pointer (some ⟨k1, 0, none⟩)), (4, .pointer (some ⟨k2, 0, none⟩)), (6, .pointer (some ⟨k3, 0, none⟩)), (10, .int .i64 (((i + 1) : Nat) : Int))] (hK6 _ _ _ _ (by omega) ⟨(i + 1), A1, cap1, n5 + 1, (kl ++ [(bp1, Tr.mk bk1 bu1 br1 bo1 ba1)]), S2, rfl, rfl, H56, (by rw [List.length_append, hn5]; rfl), (by rw [List.length_append, hkl]; rfl), (by rw [List.map_append, hkm, List.take_add_one, hti, List.map_append]; simp [hby1]), (by omega)⟩)
  have hia : args.take i = args := List.take_of_length_le hx
  rw [hia] at hkm
  refine Sx.l 5 2 H47 ?_
  refine Sx.v 1 (.bool (decide (((i : Nat) : Int) < ((p.nb : Nat) : Int)))) (.bool false) (dF (by omega)) ?_
  refine Sx.l 10 4 H47 ?_
  refine Sx.s 0 3 H47 fun w28 H57 => ?_
  refine Sx.rt 3 [3] H57 (.agg #[.int .i64 ((kd : Nat) : Int), .int .i64 ((u : Nat) : Int), .int .i64 (byN gs row), .slice Aop1 nop1 cop1, .slice A5 n5 c5]) ?_
  have hbl : (byO gs row ops).length < 1000000000 := by have := byO_len gs row ops (by intro g hg; exact (hng.2.2 g hg)); omega
  have hkl2 : kl.length ≤ 2 := by omega
  have hob_ := tr_fin (e := 32) (cap := c5) (n := n5) (A := Aop1) (B := A5) (Sa := So1) (S := Sk) (ops := byO gs row ops) (l := kl) (na := nop1) (ca := cop1) H57 [6, 5, 5] kd u (byN gs row) (by kernel_rfl) hop2.1 ⟨hop2.2, hbl, hkl2⟩ hn5
  obtain ⟨S3, H58⟩ := hob_
  subst hL0
  exact hK S3 ⟨Aop1, nop1, cop1, A5, n5, c5⟩ kd u (byN gs row) (byO gs row ops) (kl.map (·.2)) _ (H58.pick [1, 1, 0] (by kernel_rfl)) (by rw [byP_nd hk0, hkm])
theorem by_c (k : Nat) : ∀ (Sy : Nat → Prop) (kd u row : Nat) (ops : List Nm) (args : List Ty) (p : Tv) (Sg : Nat → Prop) (Ag : Option Addr) (ng cg : Nat) (gs : List Gv) (w : World) (K : Ending → World → Prop) (H0 : Sp w [tyI Sy p (Ty.mk kd u row ops args), gvI Sg Ag gs]) (hsz : sz (Ty.mk kd u row ops args) ≤ k ∧ k ≤ 300) (hng : ng = gs.length ∧ ng ≤ 2000000 ∧ ∀ g ∈ gs, g.ops.length ≤ 2000000) (hK : ∀ (S' : Nat → Prop) (q : Tv) (k1 : Int) (u1 : Int) (r1 : Int) (o1 : List Nm) (a1 : List Tr) w', Hs w [tyI Sy p (Ty.mk kd u row ops args), gvI Sg Ag gs] w' [tyI Sy p (Ty.mk kd u row ops args), gvI Sg Ag gs, trI S' q (.mk k1 u1 r1 o1 a1)] → (Tr.mk k1 u1 r1 o1 a1 = byP gs (Ty.mk kd u row ops args)) → K (.returned (.agg #[.int .i64 k1, .int .i64 u1, .int .i64 r1, .slice q.A q.na q.ca, .slice q.B q.nb q.cb])) w'),
    Calls Try.prog 9 #[.agg #[.int .i64 ((kd : Nat) : Int), .int .i64 ((u : Nat) : Int), .int .i64 ((row : Nat) : Int), .slice p.A p.na p.ca, .slice p.B p.nb p.cb], .slice Ag ng cg] w K := by
  induction k with
  | zero => intro Sy kd u row ops args p Sg Ag ng cg gs w K H0 hsz; have := sz_pos (Ty.mk kd u row ops args); omega
  | succ k ih => exact by_c_s k ih
set_option maxHeartbeats 16000000 in
theorem SameR_c_s (k : Nat) (ih : ∀ (Sa Sb : Nat → Prop) (kd u row : Int) (ops : List Nm) (args : List Tr) (p : Tv) (ke v rov : Int) (opt : List Nm) (art : List Tr) (q : Tv) (w : World) (K : Ending → World → Prop) (H0 : Sp w [trI Sa p (Tr.mk kd u row ops args), trI Sb q (Tr.mk ke v rov opt art)]) (hd : DepR k (Tr.mk kd u row ops args)) (hK : ∀ (b : Bool) w', Hs w [trI Sa p (Tr.mk kd u row ops args), trI Sb q (Tr.mk ke v rov opt art)] w' [trI Sa p (Tr.mk kd u row ops args), trI Sb q (Tr.mk ke v rov opt art)] → (b = true → (Tr.mk kd u row ops args) = (Tr.mk ke v rov opt art)) → K (.returned (.bool b)) w'),
    Calls Try.prog 7 #[.agg #[.int .i64 kd, .int .i64 u, .int .i64 row, .slice p.A p.na p.ca, .slice p.B p.nb p.cb], .agg #[.int .i64 ke, .int .i64 v, .int .i64 rov, .slice q.A q.na q.ca, .slice q.B q.nb q.cb]] w K) (Sa Sb : Nat → Prop) (kd u row : Int) (ops : List Nm) (args : List Tr) (p : Tv) (ke v rov : Int) (opt : List Nm) (art : List Tr) (q : Tv) (w : World) (K : Ending → World → Prop) (H0 : Sp w [trI Sa p (Tr.mk kd u row ops args), trI Sb q (Tr.mk ke v rov opt art)]) (hd : DepR (k + 1) (Tr.mk kd u row ops args)) (hK : ∀ (b : Bool) w', Hs w [trI Sa p (Tr.mk kd u row ops args), trI Sb q (Tr.mk ke v rov opt art)] w' [trI Sa p (Tr.mk kd u row ops args), trI Sb q (Tr.mk ke v rov opt art)] → (b = true → (Tr.mk kd u row ops args) = (Tr.mk ke v rov opt art)) → K (.returned (.bool b)) w') :
    Calls Try.prog 7 #[.agg #[.int .i64 kd, .int .i64 u, .int .i64 row, .slice p.A p.na p.ca, .slice p.B p.nb p.cb], .agg #[.int .i64 ke, .int .i64 v, .int .i64 rov, .slice q.A q.na q.ca, .slice q.B q.nb q.cb]] w K := by
  obtain ⟨L0, hL0, H⟩ : ∃ L0, L0 = [trI Sa p (Tr.mk kd u row ops args), trI Sb q (Tr.mk ke v rov opt art)] ∧ Hs w L0 w [trI Sa p (Tr.mk kd u row ops args), trI Sb q (Tr.mk ke v rov opt art)] := ⟨_, rfl, Hs.refl H0⟩
  refine Sx.en (vs := [.agg #[.int .i64 kd, .int .i64 u, .int .i64 row, .slice p.A p.na p.ca, .slice p.B p.nb p.cb], .agg #[.int .i64 ke, .int .i64 v, .int .i64 rov, .slice q.A q.na q.ca, .slice q.B q.nb q.cb]]) 83 Try.func7 ?_
  have hob_ := (tr_at (S := Sa) (p := p) (t := (Tr.mk kd u row ops args)) H 0 (by kernel_rfl)).open
  obtain ⟨_, hna, hca, hnb, _⟩ := hob_
  have hob_ := (tr_at (S := Sb) (p := q) (t := (Tr.mk ke v rov opt art)) H 1 (by kernel_rfl)).open
  obtain ⟨_, hnc, hcc, hnd, _⟩ := hob_
  have hdd : ∀ (i : Nat) (t : Tr), args[i]? = some t → DepR k t := by cases hd with | mk h => exact h
  refine Sx.nw 2 H fun k1 w1 H1 => ?_
  refine Sx.nw 0 H1 fun k2 w2 H2 => ?_
  refine Sx.cut 4 (fun l' w' => l' = [(2, .pointer (some ⟨k1, 0, none⟩)), (3, .pointer (some ⟨k2, 0, none⟩)), (44, .bool (((((kd != ke) || (u != v)) || (row != rov)) || (((p.na : Nat) : Int) != ((q.na : Nat) : Int))) || (((p.nb : Nat) : Int) != ((q.nb : Nat) : Int))))] ∧ w2 = w') (fun K1 hK1 => ?_) (fun b1 l1 w3 hI1 => ?_)
  · skip
    refine Sx.l 2 2 H2 ?_
    refine Sx.l 1 3 H2 ?_
    refine Sx.sp 2 13 (kd != ke) (fun h_g13 => ?_) (fun h_g13 => ?_)
    · skip
      exact Sx.to 32 [(2, .pointer (some ⟨k1, 0, none⟩)), (3, .pointer (some ⟨k2, 0, none⟩)), (44, .bool (((((kd != ke) || (u != v)) || (row != rov)) || (((p.na : Nat) : Int) != ((q.na : Nat) : Int))) || (((p.nb : Nat) : Int) != ((q.nb : Nat) : Int))))] (hK1 _ _ _ ⟨rfl, rfl⟩) (h2 := (by rw [h_g13]; try kernel_rfl))
    refine Sx.l 1 2 H2 ?_
    refine Sx.l 1 3 H2 ?_
    refine Sx.sp 3 20 (u != v) (fun h_g20 => ?_) (fun h_g20 => ?_)
    · skip
      exact Sx.to 25 [(2, .pointer (some ⟨k1, 0, none⟩)), (3, .pointer (some ⟨k2, 0, none⟩)), (44, .bool (((((kd != ke) || (u != v)) || (row != rov)) || (((p.na : Nat) : Int) != ((q.na : Nat) : Int))) || (((p.nb : Nat) : Int) != ((q.nb : Nat) : Int))))] (hK1 _ _ _ ⟨rfl, rfl⟩) (h2 := (by rw [h_g13, h_g20]; try kernel_rfl))
    refine Sx.l 1 2 H2 ?_
    refine Sx.l 1 3 H2 ?_
    refine Sx.sp 3 27 (row != rov) (fun h_g27 => ?_) (fun h_g27 => ?_)
    · skip
      exact Sx.to 18 [(2, .pointer (some ⟨k1, 0, none⟩)), (3, .pointer (some ⟨k2, 0, none⟩)), (44, .bool (((((kd != ke) || (u != v)) || (row != rov)) || (((p.na : Nat) : Int) != ((q.na : Nat) : Int))) || (((p.nb : Nat) : Int) != ((q.nb : Nat) : Int))))] (hK1 _ _ _ ⟨rfl, rfl⟩) (h2 := (by rw [h_g13, h_g20, h_g27]; try kernel_rfl))
    refine Sx.l 1 2 H2 ?_
    refine Sx.l 2 3 H2 ?_
    refine Sx.sp 4 36 (((p.na : Nat) : Int) != ((q.na : Nat) : Int)) (fun h_g36 => ?_) (fun h_g36 => ?_)
    · skip
      exact Sx.to 9 [(2, .pointer (some ⟨k1, 0, none⟩)), (3, .pointer (some ⟨k2, 0, none⟩)), (44, .bool (((((kd != ke) || (u != v)) || (row != rov)) || (((p.na : Nat) : Int) != ((q.na : Nat) : Int))) || (((p.nb : Nat) : Int) != ((q.nb : Nat) : Int))))] (hK1 _ _ _ ⟨rfl, rfl⟩) (h2 := (by rw [h_g13, h_g20, h_g27, h_g36]; try kernel_rfl))
    refine Sx.l 1 2 H2 ?_
    refine Sx.l 2 3 H2 ?_
    exact Sx.to 4 [(2, .pointer (some ⟨k1, 0, none⟩)), (3, .pointer (some ⟨k2, 0, none⟩)), (44, .bool (((((kd != ke) || (u != v)) || (row != rov)) || (((p.na : Nat) : Int) != ((q.na : Nat) : Int))) || (((p.nb : Nat) : Int) != ((q.nb : Nat) : Int))))] (hK1 _ _ _ ⟨rfl, rfl⟩) (h2 := (by rw [h_g13, h_g20, h_g27, h_g36]; try kernel_rfl))
  obtain ⟨rfl, rfl⟩ := hI1
  refine Sx.br 0 (((((kd != ke) || (u != v)) || (row != rov)) || (((p.na : Nat) : Int) != ((q.na : Nat) : Int))) || (((p.nb : Nat) : Int) != ((q.nb : Nat) : Int))) (fun h_c44 => ?_) (fun h_c44 => ?_)
  · skip
    refine Sx.rt 7 [] H2 (.bool false) ?_
    have p_c44 := h_c44; try simp [-List.getD_eq_getElem?_getD] at p_c44
    subst hL0
    exact hK false _ (H2.pick (a := [trI Sa p (Tr.mk kd u row ops args), trI Sb q (Tr.mk ke v rov opt art)]) [0, 0] (by kernel_rfl)) (fun h => by cases h)
  have hob_ : kd = ke ∧ u = v ∧ row = rov ∧ p.na = q.na ∧ p.nb = q.nb := same_hd h_c44
  obtain ⟨e1, e2, e3, e4, e5⟩ := hob_
  have H3 := H2.pick (a := [trI Sa p (Tr.mk kd u row ops args), trI Sb q (Tr.mk ke v rov opt art), .blk k1 (.cells #[.int .i64 kd, .int .i64 u, .int .i64 row, .slice p.A p.na p.ca, .slice p.B p.nb p.cb] 32), .blk k2 (.cells #[.int .i64 ke, .int .i64 v, .int .i64 rov, .slice q.A q.na q.ca, .slice q.B q.nb q.cb] 32)]) [0, 0, 0, 0] (by kernel_rfl)
  refine Sx.lp 9 (fun z l' w' => ∃ (i : Nat), l' = [(2, .pointer (some ⟨k1, 0, none⟩)), (3, .pointer (some ⟨k2, 0, none⟩)), (5, .int .i64 ((i : Nat) : Int))] ∧ z = ops.length - i ∧ Hs w L0 w' [trI Sa p (Tr.mk kd u row ops args), trI Sb q (Tr.mk ke v rov opt art), .blk k1 (.cells #[.int .i64 kd, .int .i64 u, .int .i64 row, .slice p.A p.na p.ca, .slice p.B p.nb p.cb] 32), .blk k2 (.cells #[.int .i64 ke, .int .i64 v, .int .i64 rov, .slice q.A q.na q.ca, .slice q.B q.nb q.cb] 32)] ∧ (∀ j, j < i → ops[j]? = opt[j]?) ∧ (i ≤ ops.length)) _ [(2, .pointer (some ⟨k1, 0, none⟩)), (3, .pointer (some ⟨k2, 0, none⟩)), (5, .int .i64 ((0 : Nat) : Int))] ⟨0, rfl, rfl, H3, (fun j h => by omega), (Nat.zero_le _)⟩ (fun b2 z1 l2 w4 hI2 K2 hK2 => ?_)
  obtain ⟨i, rfl, rfl, H4, heqops, hil⟩ := hI2
  have hob_ := Nat.lt_or_ge i ops.length
  rcases hob_ with hx | hx
  · skip
    have hga := (tr_at (S := Sa) (p := p) (t := (Tr.mk kd u row ops args)) H4 0 (by kernel_rfl)).open.1
    have hgb := (tr_at (S := Sb) (p := q) (t := (Tr.mk ke v rov opt art)) H4 1 (by kernel_rfl)).open.1
    have hob_ : ∃ s, ops[i]? = some s := ⟨_, List.getElem?_eq_getElem hx⟩
    obtain ⟨s, hs1⟩ := hob_
    have hob_ : ∃ s, opt[i]? = some s := ⟨_, List.getElem?_eq_getElem (by omega)⟩
    obtain ⟨s', hs2⟩ := hob_
    have hob_ := hga i s hs1
    obtain ⟨ya, hya, _, hca1⟩ := hob_
    have hob_ := hgb i s' hs2
    obtain ⟨yb, hyb, _, hcb1⟩ := hob_
    refine Sx.l 5 2 H4 ?_
    refine Sx.v 1 (.bool (decide (((i : Nat) : Int) < ((p.na : Nat) : Int)))) (.bool true) (dT (by omega)) ?_
    refine Sx.dr 8 H4 [2, 0, 3, 1] [] (LJ := [.blk k1 (.cells #[.int .i64 kd, .int .i64 u, .int .i64 row, .slice p.A p.na p.ca, .slice p.B p.nb p.cb] 32), trI Sa p (Tr.mk kd u row ops args), .blk k2 (.cells #[.int .i64 ke, .int .i64 v, .int .i64 rov, .slice q.A q.na q.ca, .slice q.B q.nb q.cb] 32), trI Sb q (Tr.mk ke v rov opt art)]) (by kernel_rfl) fun w5 H5 => ?_
    refine Sx.tk [(0, none), (1, some (0, [])), (2, none)] (fun _ => (H5.sub [2, 0, 1, 0] (by kernel_rfl))) ?_
    refine Sx.tvi 3 [] ya i 1 p.na p.ca hya (by omega) (fun _ => (H5.sub [2, 0, 1, 0] (by kernel_rfl))) ?_
    refine Sx.tvo (c := 1) (t := 9) 4 [] [.string s] (.string s) (fun w' hs => tr_str (S := Sa) (p := p) (kd := kd) (n := u) (row := row) (ops := ops) (args := args) hs 1 (by kernel_rfl) hya hs1) (fun _ => (H5.sub [2, 0, 1, 0] (by kernel_rfl))) ?_
    refine Sx.tk [(5, none), (6, some (2, [])), (7, none)] (fun _ => (H5.sub [2, 0, 1, 0] (by kernel_rfl))) ?_
    refine Sx.tvi 8 [] yb i 1 q.na q.ca hyb (by omega) (fun _ => (H5.sub [2, 0, 1, 0] (by kernel_rfl))) ?_
    refine Sx.tvo (c := 1) (t := 9) 9 [] [.string s'] (.string s') (fun w' hs => tr_str (S := Sb) (p := q) (kd := ke) (n := v) (row := rov) (ops := opt) (args := art) hs 3 (by kernel_rfl) hyb hs2) (fun _ => (H5.sub [2, 0, 1, 0] (by kernel_rfl))) ?_
    refine Sx.tk [(10, none)] (fun _ => (H5.sub [2, 0, 1, 0] (by kernel_rfl))) ?_
    refine Sx.dn ?_
    refine Sx.br 1 (!(s.toList == s'.toList)) (fun h_c62 => ?_) (fun h_c62 => ?_)
    · skip
      refine Sx.rt 11 [] H5 (.bool false) ?_
      subst hL0
      exact hK false _ (H5.pick (a := [trI Sa p (Tr.mk kd u row ops args), trI Sb q (Tr.mk ke v rov opt art)]) [0, 0] (by kernel_rfl)) (fun h => by cases h)
    have hss := ss_eq h_c62
    refine Sx.v 5 (.int .i64 (IntKind.i64.wrap (((i : Nat) : Int) + (1 : Int)))) (.int .i64 ((i + 1 : Nat) : Int)) (congrArg (Value.int .i64) (Gx.i64n (by omega) (by omega))) ?_
    have H6 := H5.pick (a := [trI Sa p (Tr.mk kd u row ops args), trI Sb q (Tr.mk ke v rov opt art), .blk k1 (.cells #[.int .i64 kd, .int .i64 u, .int .i64 row, .slice p.A p.na p.ca, .slice p.B p.nb p.cb] 32), .blk k2 (.cells #[.int .i64 ke, .int .i64 v, .int .i64 rov, .slice q.A q.na q.ca, .slice q.B q.nb q.cb] 32)]) [0, 0, 0, 0] (by kernel_rfl)
    exact Sx.to 2 [(2, .pointer (some ⟨k1, 0, none⟩)), (3, .pointer (some ⟨k2, 0, none⟩)), (5, .int .i64 (((i + 1) : Nat) : Int))] (hK2 _ _ _ _ (by omega) ⟨(i + 1), rfl, rfl, H6, (eq_more heqops (by rw [hs1, hs2, hss])), (by omega)⟩)
  refine Sx.l 5 2 H4 ?_
  refine Sx.v 1 (.bool (decide (((i : Nat) : Int) < ((p.na : Nat) : Int)))) (.bool false) (dF (by omega)) ?_
  have hx_ := hx
  have H7 := H4.pick (a := [trI Sa p (Tr.mk kd u row ops args), trI Sb q (Tr.mk ke v rov opt art), .blk k1 (.cells #[.int .i64 kd, .int .i64 u, .int .i64 row, .slice p.A p.na p.ca, .slice p.B p.nb p.cb] 32), .blk k2 (.cells #[.int .i64 ke, .int .i64 v, .int .i64 rov, .slice q.A q.na q.ca, .slice q.B q.nb q.cb] 32)]) [0, 0, 0, 0] (by kernel_rfl)
  refine Sx.lp 15 (fun z l' w' => ∃ (i : Nat), l' = [(2, .pointer (some ⟨k1, 0, none⟩)), (3, .pointer (some ⟨k2, 0, none⟩)), (6, .int .i64 ((i : Nat) : Int))] ∧ z = args.length - i ∧ Hs w L0 w' [trI Sa p (Tr.mk kd u row ops args), trI Sb q (Tr.mk ke v rov opt art), .blk k1 (.cells #[.int .i64 kd, .int .i64 u, .int .i64 row, .slice p.A p.na p.ca, .slice p.B p.nb p.cb] 32), .blk k2 (.cells #[.int .i64 ke, .int .i64 v, .int .i64 rov, .slice q.A q.na q.ca, .slice q.B q.nb q.cb] 32)] ∧ (∀ j, j < i → args[j]? = art[j]?) ∧ (i ≤ args.length)) _ [(2, .pointer (some ⟨k1, 0, none⟩)), (3, .pointer (some ⟨k2, 0, none⟩)), (6, .int .i64 ((0 : Nat) : Int))] ⟨0, rfl, rfl, H7, (fun j h => by omega), (Nat.zero_le _)⟩ (fun b3 z2 l3 w6 hI3 K3 hK3 => ?_)
  obtain ⟨i, rfl, rfl, H8, heqargs, hil⟩ := hI3
  have hob_ := Nat.lt_or_ge i args.length
  rcases hob_ with hx | hx
  · skip
    have hob_ : ∃ t, args[i]? = some t := ⟨_, List.getElem?_eq_getElem hx⟩
    obtain ⟨⟨k0, u0, r0, o0, a0⟩, hti⟩ := hob_
    have hob_ : ∃ t, art[i]? = some t := ⟨_, List.getElem?_eq_getElem (by omega)⟩
    obtain ⟨⟨ek1, eu1, er1, eo1, ea1⟩, htj⟩ := hob_
    have hob_ := TrIn.kid (tr_at (S := Sa) (p := p) (t := (Tr.mk kd u row ops args)) H8 0 (by kernel_rfl)) hti
    obtain ⟨p0, za, hxa, hza, hka⟩ := hob_
    have H9 := H8.ro 0 (S := Sa) (A := fun w => TrIn w Sa p (Tr.mk kd u row ops args)) (B := fun w => TrIn w Sa p0 (Tr.mk k0 u0 r0 o0 a0)) (by kernel_rfl) hka (trI_loc _ _ _)
    have H10 := H9.ro 0 (S := Sa) (A := fun w => TrIn w Sa p (Tr.mk kd u row ops args)) (B := fun w => Sa (Addr.add za (i * 5)).block ∧ w.cells? 0 (Addr.add za (i * 5)) 5 = some (trC (Tr.mk k0 u0 r0 o0 a0) p0)) (by kernel_rfl) hza (ceI_loc _ _ _ _)
    have hob_ := TrIn.kid (tr_at (S := Sb) (p := q) (t := (Tr.mk ke v rov opt art)) H10 1 (by kernel_rfl)) htj
    obtain ⟨q0, zb, hxb, hzb, hkb⟩ := hob_
    have H11 := H10.ro 1 (S := Sb) (A := fun w => TrIn w Sb q (Tr.mk ke v rov opt art)) (B := fun w => TrIn w Sb q0 (Tr.mk ek1 eu1 er1 eo1 ea1)) (by kernel_rfl) hkb (trI_loc _ _ _)
    have H12 := H11.ro 1 (S := Sb) (A := fun w => TrIn w Sb q (Tr.mk ke v rov opt art)) (B := fun w => Sb (Addr.add zb (i * 5)).block ∧ w.cells? 0 (Addr.add zb (i * 5)) 5 = some (trC (Tr.mk ek1 eu1 er1 eo1 ea1) q0)) (by kernel_rfl) hzb (ceI_loc _ _ _ _)
    refine Sx.l 5 2 H12 ?_
    refine Sx.v 1 (.bool (decide (((i : Nat) : Int) < ((p.nb : Nat) : Int)))) (.bool true) (dT (by omega)) ?_
    refine Sx.dr 8 H12 [2, 5, 3, 7] [] (LJ := [.blk k1 (.cells #[.int .i64 kd, .int .i64 u, .int .i64 row, .slice p.A p.na p.ca, .slice p.B p.nb p.cb] 32), ceI Sa (Addr.add za (i * 5)) 5 (trC (Tr.mk k0 u0 r0 o0 a0) p0), .blk k2 (.cells #[.int .i64 ke, .int .i64 v, .int .i64 rov, .slice q.A q.na q.ca, .slice q.B q.nb q.cb] 32), ceI Sb (Addr.add zb (i * 5)) 5 (trC (Tr.mk ek1 eu1 er1 eo1 ea1) q0)]) (by kernel_rfl) fun w7 H13 => ?_
    refine Sx.tk [(0, none), (1, some (0, [])), (2, none)] (fun _ => (H13.sub [2, 4, 2, 4] (by kernel_rfl))) ?_
    refine Sx.tvi 3 [] za i 5 p.nb p.cb hxa (by omega) (fun _ => (H13.sub [2, 4, 2, 4] (by kernel_rfl))) ?_
    refine Sx.tvo (c := 5) (t := 32) 4 [] [.int .i64 k0, .int .i64 u0, .int .i64 r0, .slice p0.A p0.na p0.ca, .slice p0.B p0.nb p0.cb] (.agg #[.int .i64 k0, .int .i64 u0, .int .i64 r0, .slice p0.A p0.na p0.ca, .slice p0.B p0.nb p0.cb]) (fun w' hs => ce_at (S := Sa) (a := Addr.add za (i * 5)) (n := 5) (cs := trC (Tr.mk k0 u0 r0 o0 a0) p0) hs 1 (by kernel_rfl)) (fun _ => (H13.sub [2, 4, 2, 4] (by kernel_rfl))) ?_
    refine Sx.tk [(5, none), (6, some (2, [])), (7, none)] (fun _ => (H13.sub [2, 4, 2, 4] (by kernel_rfl))) ?_
    refine Sx.tvi 8 [] zb i 5 q.nb q.cb hxb (by omega) (fun _ => (H13.sub [2, 4, 2, 4] (by kernel_rfl))) ?_
    refine Sx.tvo (c := 5) (t := 32) 9 [] [.int .i64 ek1, .int .i64 eu1, .int .i64 er1, .slice q0.A q0.na q0.ca, .slice q0.B q0.nb q0.cb] (.agg #[.int .i64 ek1, .int .i64 eu1, .int .i64 er1, .slice q0.A q0.na q0.ca, .slice q0.B q0.nb q0.cb]) (fun w' hs => ce_at (S := Sb) (a := Addr.add zb (i * 5)) (n := 5) (cs := trC (Tr.mk ek1 eu1 er1 eo1 ea1) q0) hs 3 (by kernel_rfl)) (fun _ => (H13.sub [2, 4, 2, 4] (by kernel_rfl))) ?_
    refine Sx.nmx ?_
    intro zx1
    refine Sx.on 10 ?_
    refine Sx.c 0 [4, 5] H13 (fun Hp1 R1 hR1 => ih Sa Sb k0 u0 r0 o0 a0 p0 ek1 eu1 er1 eo1 ea1 q0 w7 R1 Hp1 (hdd _ _ hti) (fun b4 w8 G1 hb1 => hR1 _ _ _ G1 fun H14 => ?_))
    refine Sx.bk (x := zx1) 10 (fun _ => (H14.sub [4, 5, 4, 4] (by kernel_rfl))) ?_
    refine Sx.tk [(11, none)] (fun _ => (H14.sub [4, 5, 4, 4] (by kernel_rfl))) ?_
    refine Sx.dn ?_
    refine Sx.br 7 (!b4) (fun h_c82 => ?_) (fun h_c82 => ?_)
    · skip
      refine Sx.rt 11 [] H14 (.bool false) ?_
      have p_c82 := h_c82; try simp [-List.getD_eq_getElem?_getD] at p_c82
      subst hL0
      exact hK false _ (H14.pick (a := [trI Sa p (Tr.mk kd u row ops args), trI Sb q (Tr.mk ke v rov opt art)]) [2, 2] (by kernel_rfl)) (fun h => by cases h)
    have hbb := hb1 (by simpa using h_c82)
    refine Sx.v 5 (.int .i64 (IntKind.i64.wrap (((i : Nat) : Int) + (1 : Int)))) (.int .i64 ((i + 1 : Nat) : Int)) (congrArg (Value.int .i64) (Gx.i64n (by omega) (by omega))) ?_
    have H15 := H14.pick (a := [trI Sa p (Tr.mk kd u row ops args), trI Sb q (Tr.mk ke v rov opt art), .blk k1 (.cells #[.int .i64 kd, .int .i64 u, .int .i64 row, .slice p.A p.na p.ca, .slice p.B p.nb p.cb] 32), .blk k2 (.cells #[.int .i64 ke, .int .i64 v, .int .i64 rov, .slice q.A q.na q.ca, .slice q.B q.nb q.cb] 32)]) [2, 2, 2, 2] (by kernel_rfl)
    exact Sx.to 2 [(2, .pointer (some ⟨k1, 0, none⟩)), (3, .pointer (some ⟨k2, 0, none⟩)), (6, .int .i64 (((i + 1) : Nat) : Int))] (hK3 _ _ _ _ (by omega) ⟨(i + 1), rfl, rfl, H15, (eq_more heqargs (by rw [hti, htj, hbb])), (by omega)⟩)
  refine Sx.l 5 2 H8 ?_
  refine Sx.v 1 (.bool (decide (((i : Nat) : Int) < ((p.nb : Nat) : Int)))) (.bool false) (dF (by omega)) ?_
  refine Sx.rt 14 [] H8 (.bool true) ?_
  subst hL0
  exact hK true _ (H8.pick (a := [trI Sa p (Tr.mk kd u row ops args), trI Sb q (Tr.mk ke v rov opt art)]) [0, 0] (by kernel_rfl)) (fun _ => tr_eq e1 e2 e3 (ext_eq (by omega) heqops hx_) (ext_eq (by omega) heqargs hx))
theorem SameR_c (k : Nat) : ∀ (Sa Sb : Nat → Prop) (kd u row : Int) (ops : List Nm) (args : List Tr) (p : Tv) (ke v rov : Int) (opt : List Nm) (art : List Tr) (q : Tv) (w : World) (K : Ending → World → Prop) (H0 : Sp w [trI Sa p (Tr.mk kd u row ops args), trI Sb q (Tr.mk ke v rov opt art)]) (hd : DepR k (Tr.mk kd u row ops args)) (hK : ∀ (b : Bool) w', Hs w [trI Sa p (Tr.mk kd u row ops args), trI Sb q (Tr.mk ke v rov opt art)] w' [trI Sa p (Tr.mk kd u row ops args), trI Sb q (Tr.mk ke v rov opt art)] → (b = true → (Tr.mk kd u row ops args) = (Tr.mk ke v rov opt art)) → K (.returned (.bool b)) w'),
    Calls Try.prog 7 #[.agg #[.int .i64 kd, .int .i64 u, .int .i64 row, .slice p.A p.na p.ca, .slice p.B p.nb p.cb], .agg #[.int .i64 ke, .int .i64 v, .int .i64 rov, .slice q.A q.na q.ca, .slice q.B q.nb q.cb]] w K := by
  induction k with
  | zero => intro Sa Sb kd u row ops args p ke v rov opt art q w K H0 hd; cases hd
  | succ k ih => exact SameR_c_s k ih
end Go.Proofs.Ytfkkocjheeoobaa
