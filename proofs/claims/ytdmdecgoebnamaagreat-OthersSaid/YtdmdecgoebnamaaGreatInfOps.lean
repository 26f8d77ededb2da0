/- Operations and what is told: what the plain forms unfold to. -/
import Derived.Test.YtdmdecgoebnamaaGreatInfExpr
import Derived.Test.YtdmdecgoebnamaaGreatGraph
import Derived.Test.YtdmdecgoebnamaaGreatInf22
set_option linter.unusedVariables false
set_option linter.unusedSimpArgs false
namespace Go.Inf
open Go.RowKit Go.Sx Go.Gx Go.Syn
theorem ops_nil {k i : Nat} {all : List Nm} {c c' : Ck} {r : List Nd} (h : opsLoop k all i r c = some c') (hr : r = []) : c = c' := by subst hr; unfold opsLoop at h; simpa using h
theorem ops_step {k i : Nat} {all : List Nm} {ks : List Nd} {c c' : Ck} {d : Nd} (h : opsLoop k all i (ks.drop i) c = some c') (hd : ks[i]? = some d) :
    (c.fk ≠ 0 → c = c') ∧ (c.fk = 0 → (∀ o, opAt d.nm c.ops = some o → c.no 7 d.a = c') ∧ (opAt d.nm c.ops = none → ∃ x y c1 c2, d.ks[0]? = some x ∧ d.ks[1]? = some y ∧ rowNames k c x all = some c1 ∧ rowNames k c1 y all = some c2 ∧ (c2.fk ≠ 0 → c2 = c') ∧
      (c2.fk = 0 → ∃ ti to p q, typ k x = some ti ∧ typ k y = some to ∧ partsT k ti = some p ∧ partsT k to = some q ∧ opsLoop k all (i + 1) (ks.drop (i + 1)) { (if 300 < p || 300 < q then c2.no 10 d.a else c2) with ops := c2.ops ++ [⟨d.nm, ti, to, i⟩] } = some c'))) := by
  obtain ⟨hi, e⟩ := List.getElem?_eq_some_iff.1 hd
  rw [List.drop_eq_getElem_cons hi, e] at h
  unfold opsLoop at h
  refine ⟨fun e0 => ?_, fun e0 => ⟨fun o ho => ?_, fun ho => ?_⟩⟩
  · rw [if_pos e0] at h; simpa using h
  · rw [if_neg (by simp [e0]), ho] at h; simpa using h
  · rw [if_neg (by simp [e0]), ho] at h
    simp only at h
    split at h <;> try contradiction
    rename_i x y r hks
    split at h <;> try contradiction
    rename_i c1 h1
    split at h <;> try contradiction
    rename_i c2 h2
    refine ⟨x, y, c1, c2, by rw [hks]; rfl, by rw [hks]; rfl, h1, h2, fun e2 => ?_, fun e2 => ?_⟩
    · rw [if_pos e2] at h; simpa using h
    · rw [if_neg (by simp [e2])] at h
      split at h <;> try contradiction
      rename_i ti to h3 h4
      split at h <;> try contradiction
      rename_i p q h5 h6
      refine ⟨ti, to, p, q, h3, h4, h5, h6, ?_⟩
      exact h
theorem rowNames_keeps : ∀ {k : Nat} {c c' : Ck} {n : Nd} {all : List Nm}, rowNames k c n all = some c' → Same3 c' c
  | 0, _, _, _, _, h => by simp [rowNames] at h
  | k + 1, c, c', .mk kd na nm nn ks, all, h => by
    obtain ⟨h1, h2⟩ := rowNames_cases h
    by_cases e0 : c.fk = 0
    · obtain ⟨h3, h4⟩ := h2 e0
      by_cases e9 : kd = 29
      · obtain ⟨a, b, c1, _, _, h5, h6⟩ := h4 e9
        have q1 := rowNames_keeps h5
        have q2 := rowNames_keeps h6
        have q3 := rowAll_g (all := all) (r := ks.drop 2) (b := []) (c := c1)
        exact ⟨q2.1.trans (q3.1.trans q1.1), q2.2.1.trans (q3.2.1.trans q1.2.1), q2.2.2.trans (q3.2.2.trans q1.2.2)⟩
      · have h3 := h3 e9
        clear h1 h2 h4
        have key : ∀ (ks : List Nd) (c : Ck), ks.foldl (rF k all) (some c) = some c' → Same3 c' c := by
          intro ks
          induction ks with
          | nil => intro c h; simp at h; subst h; exact ⟨rfl, rfl, rfl⟩
          | cons d r ih =>
            intro c h
            rw [List.foldl_cons] at h
            cases hr : rowNames k c d all with
            | none => simp only [rF, hr] at h; rw [rF_none] at h; cases h
            | some c1 =>
              simp only [rF, hr] at h
              have q1 := rowNames_keeps hr
              have q2 := ih c1 h
              exact ⟨q2.1.trans q1.1, q2.2.1.trans q1.2.1, q2.2.2.trans q1.2.2⟩
        exact key ks c h3
    · rw [h1 e0]; exact ⟨rfl, rfl, rfl⟩
section
variable {w0 w : World} {L0 L : List Sx.Item}
/-- Read-only things as one. -/
theorem ro_join (H : Hs w0 L0 w L) (i j : Nat) {S S2 S3 : Nat → Prop} {A B C : World → Prop} (hi : L[i]? = some (.ro S A)) (hj : L[j]? = some (.ro S2 B)) (hS : ∀ c, S3 c → S c ∨ S2 c) (hC : A w → B w → C w) (hl : Sx.Loc S3 C) : Hs w0 L0 w (L ++ [.ro S3 C]) := by
  have h1 := H.at i hi
  have h2 := H.at j hj
  have mi := List.mem_of_getElem? hi
  have mj := List.mem_of_getElem? hj
  have hh : (Sx.Item.ro S3 C).holds w := ⟨hC h1.1 h2.1, fun c hc => (hS c hc).elim (h1.2.1 c) (h2.2.1 c), hl⟩
  refine ⟨H.kp, ⟨fun it hit => ?_, List.pairwise_append.2 ⟨H.sp.dis, List.pairwise_singleton _ _, fun x hx y hy => ?_⟩⟩, fun it hit c hc hl => ?_, fun it hit hw c hc hl => ?_⟩
  · rcases List.mem_append.1 hit with q | q
    · exact H.sp.all it q
    · rw [List.mem_singleton.1 q]; exact hh
  · rw [List.mem_singleton.1 hy]
    intro hw c hc hcc
    have hxw : x.wr = true := by simpa [Sx.Item.wr] using hw
    have ap : ∀ (y : Sx.Item), y ∈ L → y.wr = false → ∀ c, x.fp c → ¬ y.fp c := by
      intro y hy hyw c h3 h4
      obtain ⟨a, ha, ea⟩ := List.mem_iff_getElem.1 hx
      obtain ⟨b, hb, eb⟩ := List.mem_iff_getElem.1 hy
      have pw := List.pairwise_iff_getElem.1 H.sp.dis
      rcases Nat.lt_trichotomy a b with q | q | q
      · have := pw a b ha hb q; rw [ea, eb] at this; exact this (by rw [hxw]; rfl) c h3 h4
      · subst q; rw [ea] at eb; subst eb; rw [hxw] at hyw; cases hyw
      · have := pw b a hb ha q; rw [ea, eb] at this; exact this (by rw [hxw]; simp) c h4 h3
    rcases hS c hcc with q | q
    · exact ap _ mi rfl c hc q
    · exact ap _ mj rfl c hc q
  · rcases List.mem_append.1 hit with q | q
    · exact H.ofA it q c hc hl
    · rw [List.mem_singleton.1 q] at hc
      rcases hS c hc with q' | q'
      · exact H.ofA _ mi c q' hl
      · exact H.ofA _ mj c q' hl
  · rcases List.mem_append.1 hit with q | q
    · exact H.ofW it q hw c hc hl
    · rw [List.mem_singleton.1 q] at hw; cases hw
/-- A new operation's types join the others'. -/
theorem tys_join (H : Hs w0 L0 w L) (i j m : Nat) {S S1 S2 : Nat → Prop} {l : List Ov} {nm : Nm} {ti to : Ty} {n : Nat} {p q : Tv} (hi : L[i]? = some (tysI S l)) (hj : L[j]? = some (tyI S1 p ti)) (hm : L[m]? = some (tyI S2 q to)) :
    ∃ L', Hs w0 L0 w (L ++ L' ++ [tysI (fun c => S c ∨ S1 c ∨ S2 c) (l ++ [(⟨nm, ti, to, n⟩, p, q)])]) ∧ L'.length = 1 := by
  have hlt := (List.getElem?_eq_some_iff.1 hm).1
  have hlti := (List.getElem?_eq_some_iff.1 hi).1
  have H1 := ro_join H j m (S := S1) (S2 := S2) (S3 := fun c => S1 c ∨ S2 c) (A := fun w => TyIn w S1 p ti) (B := fun w => TyIn w S2 q to) (C := fun w => TyIn w S1 p ti ∧ TyIn w S2 q to) hj hm (fun _ h => h) (fun a b => ⟨a, b⟩) (fun _ _ _ hk h => ⟨h.1.keep fun c hc => hk c (.inl hc), h.2.keep fun c hc => hk c (.inr hc)⟩)
  refine ⟨[.ro (fun c => S1 c ∨ S2 c) fun w => TyIn w S1 p ti ∧ TyIn w S2 q to], ?_, rfl⟩
  exact ro_join H1 i L.length (S := S) (S2 := fun c => S1 c ∨ S2 c) (A := fun w => ∀ x ∈ l, OvR w S x) (B := fun w => TyIn w S1 p ti ∧ TyIn w S2 q to) (by rw [List.getElem?_append_left hlti]; exact hi) (by simp) (fun _ h => h)
    (fun a b x hx => by
      rcases List.mem_append.1 hx with h | h
      · exact ⟨(a x h).1.mono fun c hc => .inl hc, (a x h).2.mono fun c hc => .inl hc⟩
      · rw [List.mem_singleton.1 h]; exact ⟨b.1.mono fun c hc => .inr (.inl hc), b.2.mono fun c hc => .inr (.inr hc)⟩) (tysI_loc _ _)
theorem tys_nil : ∀ {w : World}, (tysI (fun _ => False) []).holds w := ⟨fun x hx => by simp at hx, fun _ h => h.elim, tysI_loc _ _⟩
end
/-! ### Told -/
def TC (k : Nat) (g : G) (u kd : Nat) (args : List Ty) (ops : List Nm) (c : Nat) (l : Nams) (t : Ty) (l' : Nams) : Prop :=
  ∃ y, g.b[u]? = some y ∧ (y = none → .mk kd 0 c ops args = t ∧ l = l') ∧ ∀ p, y = some p → ∃ t2 l2, told k g p l = some (t2, l2) ∧ .mk kd 0 c ops (args ++ [t2]) = t ∧ l2 = l'
def TB (k : Nat) (g : G) (u kd : Nat) (args : List Ty) (l : Nams) (t : Ty) (l' : Nams) : Prop :=
  (kd ≠ 6 → TC k g u kd args [] 0 l t l') ∧ (kd = 6 → ∃ q ops v, g.row[u]? = some q ∧ whole k g q [] = some (ops, v) ∧ (v = 0 → TC k g u kd args ops 0 l t l') ∧ (v ≠ 0 → l.r.length < 1000000000 ∧ TC k g u kd args ops (numb l.r v).2 ⟨l.t, (numb l.r v).1⟩ t l'))
def TA (k : Nat) (g : G) (u kd : Nat) (l : Nams) (t : Ty) (l' : Nams) : Prop :=
  ∃ y, g.a[u]? = some y ∧ (y = none → TB k g u kd [] l t l') ∧ ∀ p, y = some p → ∃ t1 l1, told k g p l = some (t1, l1) ∧ TB k g u kd [t1] l1 t l'
theorem told_cases {k n : Nat} {g : G} {l l' : Nams} {t : Ty} (h : told (k + 1) g n l = some (t, l')) :
    ∃ u kd, find k g n = some u ∧ g.kind[u]? = some kd ∧ (kd = 0 → l.t.length < 1000000000 ∧ (.mk 0 (numb l.t u).2 0 [] [] : Ty) = t ∧ (⟨(numb l.t u).1, l.r⟩ : Nams) = l') ∧ (kd ≠ 0 → TA k g u kd l t l') := by
  unfold told at h
  split at h <;> try contradiction
  rename_i u hu
  cases hk : g.kind[u]? with
  | none => simp [hk] at h
  | some kd =>
    rw [hk] at h
    refine ⟨u, kd, hu, hk, fun e0 => ?_, fun e0 => ?_⟩
    · subst e0
      simp only at h
      split at h <;> try contradiction
      rename_i hb
      have h := pr h
      exact ⟨hb, h.1, h.2⟩
    · let arg (x : Option (Option Nat)) (l : Nams) : Option (List Ty × Nams) := match x with
          | some none => some ([], l)
          | some (some m) => match told k g m l with
            | some (t, l) => some ([t], l)
            | none => none
          | none => none
      have h : (match arg g.a[u]? l with
        | some (ta, l) =>
          let rw : Option (List Nm × Nat × Nams) := if kd = 6 then (match g.row[u]? with
            | some r => (match whole k g r [] with
              | some (ops, 0) => some (ops, 0, l)
              | some (ops, v + 1) => if l.r.length < big then (let (t, c) := numb l.r (v + 1); some (ops, c, { l with r := t })) else none
              | none => none)
            | none => none) else some ([], 0, l)
          (match rw with
          | some (ops, c, l) => (match arg g.b[u]? l with
            | some (tb, l) => some (Ty.mk kd 0 c ops (ta ++ tb), l)
            | none => none)
          | none => none)
        | none => none) = some (t, l') := by
        cases kd with
        | zero => exact absurd rfl e0
        | succ kd => exact h
      have hx : ∀ (x : Option (Option Nat)) (l : Nams) (ta : List Ty) (l1 : Nams), arg x l = some (ta, l1) → ∃ y, x = some y ∧ (y = none → ta = [] ∧ l = l1) ∧ ∀ p, y = some p → ∃ t1, told k g p l = some (t1, l1) ∧ ta = [t1] := by
        intro x l ta l1 hh
        simp only [arg] at hh
        split at hh <;> try contradiction
        · cases hh; exact ⟨none, rfl, fun _ => ⟨rfl, rfl⟩, fun p e => by cases e⟩
        · rename_i m
          split at hh <;> try contradiction
          rename_i t1 l2 ht
          cases hh
          exact ⟨some m, rfl, fun e => (by cases e), fun p e => by cases e; exact ⟨t1, ht, rfl⟩⟩
      have hTC : ∀ (ta : List Ty) (ops : List Nm) (c : Nat) (l : Nams), (match arg g.b[u]? l with
            | some (tb, l) => some (Ty.mk kd 0 c ops (ta ++ tb), l)
            | none => none) = some (t, l') → TC k g u kd ta ops c l t l' := by
        intro ta ops c l hh
        split at hh <;> try contradiction
        rename_i tb l2 hb
        obtain ⟨y, hy, h1, h2⟩ := hx _ _ _ _ hb
        have q := pr hh
        refine ⟨y, hy, fun e => ?_, fun p e => ?_⟩
        · obtain ⟨rfl, rfl⟩ := h1 e
          rw [List.append_nil] at q; exact ⟨q.1, q.2⟩
        · obtain ⟨t1, ht, rfl⟩ := h2 p e
          exact ⟨t1, l2, ht, q.1, q.2⟩
      split at h <;> try contradiction
      rename_i ta l1 hA
      have hTB : TB k g u kd ta l1 t l' := by
        refine ⟨fun e6 => ?_, fun e6 => ?_⟩
        · simp only [if_neg e6] at h; exact hTC _ _ _ _ h
        · simp only [if_pos e6] at h
          cases hr : g.row[u]? with
          | none => simp [hr] at h
          | some q =>
            simp only [hr] at h
            cases hw : whole k g q [] with
            | none => simp [hw] at h
            | some ov =>
              obtain ⟨ops, v⟩ := ov
              cases v with
              | zero => simp only [hw] at h; exact ⟨q, ops, 0, rfl, hw, fun _ => hTC _ _ _ _ h, fun e => absurd rfl e⟩
              | succ v =>
                simp only [hw] at h
                by_cases hb : l1.r.length < big
                · simp only [if_pos hb] at h; exact ⟨q, ops, v + 1, rfl, hw, fun e => by omega, fun _ => ⟨hb, hTC _ _ _ _ h⟩⟩
                · simp only [if_neg hb] at h; cases h
      obtain ⟨y, hy, h1, h2⟩ := hx _ _ _ _ hA
      exact ⟨y, hy, fun e => by obtain ⟨rfl, rfl⟩ := h1 e; exact hTB, fun p e => by obtain ⟨t1, ht, rfl⟩ := h2 p e; exact ⟨t1, l1, ht, hTB⟩⟩
theorem take_names {ks : List Nd} {i : Nat} {kd na : Nat} {nm : Nm} {nn : Int} {k2 : List Nd} (h : ks[i]? = some (.mk kd na nm nn k2)) : strs ((ks.take i).map fun d => d.nm) ++ [.string nm] = strs ((ks.take (i + 1)).map fun d => d.nm) := by
  rw [strs_app, List.take_add_one, h, List.map_append]; rfl
theorem take_at {ks : List Nd} {i n : Nat} {d : Nd} (h : ks[i]? = some d) (hi : i < n) : (ks.take n)[i]? = some d := by rw [List.getElem?_take, if_pos hi]; exact h
end Go.Inf
namespace Go.Proofs.YtdmdecgoebnamaaGreat
open Go.RowKit Go.Sx Go.Inf Go.Syn
attribute [local irreducible] Go.wpOps Go.Code.wp Go.wpOp Go.wpAnyH Go.Calls Go.Sx.Goal
set_option maxRecDepth 20000
set_option maxHeartbeats 16000000 in
theorem Told_c_s (k : Nat) (ih : ∀ (S : Nat → Prop) (bg : Nat) (g : G) (n : Nat) (bt br : Nat) (l : Nams) (w : World) (K : Ending → World → Prop) (H0 : Sp w [GI S bg g, mapN bt l.t, mapN br l.r]) (t : Ty) (l' : Nams) (hf : told k g n l = some (t, l')) (hK : ∀ (S' : Nat → Prop) (Sy : Nat → Prop) (p : Tv) w', Hs w [GI S bg g, mapN bt l.t, mapN br l.r] w' [GI S' bg g, mapN bt l'.t, mapN br l'.r, tyI Sy p t] → K (.returned (.agg (tvC t p).toArray)) w'),
    Calls Tryz.prog 61 #[.p bg, .n n, .agg #[.map (some bt), .map (some br)]] w K) (S : Nat → Prop) (bg : Nat) (g : G) (n : Nat) (bt br : Nat) (l : Nams) (w : World) (K : Ending → World → Prop) (H0 : Sp w [GI S bg g, mapN bt l.t, mapN br l.r]) (t : Ty) (l' : Nams) (hf : told (k + 1) g n l = some (t, l')) (hK : ∀ (S' : Nat → Prop) (Sy : Nat → Prop) (p : Tv) w', Hs w [GI S bg g, mapN bt l.t, mapN br l.r] w' [GI S' bg g, mapN bt l'.t, mapN br l'.r, tyI Sy p t] → K (.returned (.agg (tvC t p).toArray)) w') :
    Calls Tryz.prog 61 #[.p bg, .n n, .agg #[.map (some bt), .map (some br)]] w K := by
  obtain ⟨L0, hL0, H⟩ := Sx.op0 H0
  refine Sx.en (vs := [.p bg, .n n, .agg #[.map (some bt), .map (some br)]]) 101 Tryz.func61 ?_
  obtain ⟨u1, kd, hn, hkd, ht0, ht1⟩ := told_cases hf
  refine Sx.nw 2 H fun k1 w1 H1 => Sx.nw 0 H1 fun k2 w2 H2 => ?_
  refine Sx.c 6 [0] H2 (fun Hp R hZ => Find_c S bg g n w2 R Hp _ u1 hn (fun S1 w3 G1 => hZ _ _ _ G1 fun H3 => ?_))
  obtain ⟨⟨⟨kA1, kC1⟩, ⟨aA1, aC1⟩, ⟨bA1, bC1⟩, ⟨rA1, rC1⟩, ⟨lA1, lC1⟩, ⟨oA1, oC1⟩, ⟨nA1, nC1⟩, mbt1, mbr1, msl1, mS1, nk1, no1⟩, H4⟩ := G_open H3 0 (S := S1) (bg := bg) (g := g) (by kernel_rfl)
  obtain ⟨lk1, la1, lb1, lr1, ll1, lo1, ln1, ls1⟩ := G_len H4
  simp only at lk1 la1 lb1 lr1 ll1 lo1 ln1 ls1
  have hnlk1 : u1 < nk1 := by rw [← lk1]; exact at_lt hkd
  obtain ⟨wk1, rfl⟩ := H4.row 1 (A := kA1) (e := 3) (sz := 1) (cap := kC1) (n := nk1) (xs := (nats (g.kind))) (by kernel_rfl) (by omega)
  refine Sx.l 8 0 H4 <| Sx.ir 1 wk1 u1 1 nk1 kC1 (by omega) <| Sx.lr 0 1 3 1 3 wk1 kC1 nk1 (u1 * 1) (nats (g.kind)) H4 (.n kd) (nats_at hkd) <| Sx.nw 1 H4 fun k3 w4 H5 => Sx.s 0 15 H5 fun w5 H6 => Sx.nz 2 (.code (Sx.ct 15 Tryz.f61)) [] [(0, .p bg), (1, .n u1), (5, .p k1), (6, .p k2), (7, .p k3)] fun b1 => ?_
  refine Sx.l 4 15 H6 ?_
  refine Sx.br 3 (((kd : Nat) : Int) == (0 : Int)) (fun h_c23 => ?_) (fun h_c23 => ?_)
  · have p_c23 := Gx.k1 h_c23
    obtain ⟨S2, H7⟩ := G_close H6 [0, 0, 0, 0, 0, 0, 0, 0, 0, 0, 0] (bg := bg) (g := g) ⟨((some ⟨wk1, 0, none⟩), kC1), (aA1, aC1), (bA1, bC1), (rA1, rC1), (lA1, lC1), (oA1, oC1), (nA1, nC1), mbt1, mbr1, msl1, mS1, nk1, no1⟩ (by kernel_rfl)
    have hk00 : kd = 0 := by omega
    obtain ⟨hlz, rfl, rfl⟩ := ht0 hk00
    refine Sx.l 3 3 H7 ?_
    refine Sx.c 1 [1] H7 (fun Hp R hZ => number_c bt l.t u1 w5 R Hp hlz (fun w6 G2 => hZ _ _ _ G2 fun H8 => ?_))
    refine Sx.s 1 5 H8 fun w7 H9 => Sx.l 4 5 H9 <| Sx.s 0 4 H9 fun w8 H10 => Sx.rt 4 [4] H10 (.agg #[.n kd, .int .i64 (((numb l.t u1).2 : Nat) : Int), .int .i64 0, .slice none 0 0, .slice none 0 0]) ?_
    have H11 := H10.add (Gx.Ext.refl _) (it := .own 96 5 none 0 0 []) (World.ownsRow_nil _ _ _ _) (fun _ h => by cases h)
    have H12 := H11.add (Gx.Ext.refl _) (it := strI (fun _ => False) none []) strI_nil (fun _ h => h.elim)
    obtain ⟨S3, H13⟩ := ty_make (e := 96) (cap := 0) (n := 0) (A := none) (B := none) (Sa := (fun _ => False)) (l := []) (ops := []) (na := 0) (ca := 0) H12 [6, 6] 0 ((numb l.t u1).2) 0 (by kernel_rfl) rfl ⟨Nat.le_refl _, by simp, by simp⟩ rfl
    subst hL0
    exact Gx.ret_as (by rw [hk00]; rfl) (hK S2 S3 ⟨none, 0, 0, none, 0, 0⟩ _ (H13.pk [2, 1, 1, 0]))
  have p_c23 := Gx.k0 h_c23
  obtain ⟨S4, H14⟩ := G_close H6 [0, 0, 0, 0, 0, 0, 0, 0, 0, 0, 0] (bg := bg) (g := g) ⟨((some ⟨wk1, 0, none⟩), kC1), (aA1, aC1), (bA1, bC1), (rA1, rC1), (lA1, lC1), (oA1, oC1), (nA1, nC1), mbt1, mbr1, msl1, mS1, nk1, no1⟩ (by kernel_rfl)
  obtain ⟨ya, hya, hA0, hA1⟩ := ht1 (by omega)
  refine Sx.nz 2 (.code (Sx.ct 31 Tryz.f61)) [] [(0, .p bg), (1, .n u1), (5, .p k1), (6, .p k2), (7, .p k3)] fun b2 => ?_
  obtain ⟨⟨⟨kA2, kC2⟩, ⟨aA2, aC2⟩, ⟨bA2, bC2⟩, ⟨rA2, rC2⟩, ⟨lA2, lC2⟩, ⟨oA2, oC2⟩, ⟨nA2, nC2⟩, mbt2, mbr2, msl2, mS2, nk2, no2⟩, H15⟩ := G_open H14 0 (S := S4) (bg := bg) (g := g) (by kernel_rfl)
  obtain ⟨lk2, la2, lb2, lr2, ll2, lo2, ln2, ls2⟩ := G_len H15
  simp only at lk2 la2 lb2 lr2 ll2 lo2 ln2 ls2
  have hnla2 : u1 < nk2 := by rw [← la2]; exact at_lt hya
  obtain ⟨wa2, rfl⟩ := H15.row 2 (A := aA2) (e := 3) (sz := 1) (cap := aC2) (n := nk2) (xs := (onats (g.a))) (by kernel_rfl) (by omega)
  refine Sx.l 6 0 H15 <| Sx.ir 1 wa2 u1 1 nk2 aC2 (by omega) <| Sx.lr 0 2 3 1 3 wa2 aC2 nk2 (u1 * 1) (onats (g.a)) H15 (.int .i64 (eI ya)) (onats_at hya) ?_
  refine Sx.br 3 (decide ((eI ya) ≥ (0 : Int))) (fun h_c37 => ?_) (fun h_c37 => ?_)
  · obtain ⟨pa, rfl⟩ := eI_ge1 h_c37
    obtain ⟨tA, l1, htA, hB⟩ := hA1 pa rfl
    refine Sx.dr 0 H15 [15, 13] [15] (LJ := [.blk k3 (.cells #[.n kd, .int .i64 0, .int .i64 0, .slice none 0 0, .slice none 0 0] 96), .blk k1 (.cells #[.map (some bt), .map (some br)] 128)]) (by kernel_rfl) fun w9 H16 => Sx.tk [(0, none), (1, some (0, [13, 14, 15])), (2, none), (3, none), (4, none), (5, none), (7, none), (10, some (1, [11, 12, 13, 14, 15]))] (H16.sb [15, 13]) <| Sx.nmx ?_
    intro zx1
    refine Sx.on 6 <| Sx.l 0 0 H16 <| Sx.bk (x := zx1) 6 (H16.sb [15, 13]) <| Sx.tvg 8 [9, 11, 12, 13, 14, 15] wa2 u1 1 nk2 aC2 (by omega) (H16.sb [15, 13]) <| Sx.nmx ?_
    intro zx2
    refine Sx.on 9 <| Sx.lr 0 2 3 1 3 wa2 aC2 nk2 (u1 * 1) (onats (g.a)) H16 (.n pa) (onats_some hya) <| Sx.bk (x := zx2) 9 (H16.sb [15, 13]) <| Sx.nmx ?_
    intro zx3
    refine Sx.on 11 ?_
    obtain ⟨S5, H17⟩ := G_close H16 [0, 0, 0, 0, 0, 0, 0, 0, 0, 0, 0] (bg := bg) (g := g) ⟨(kA2, kC2), ((some ⟨wa2, 0, none⟩), aC2), (bA2, bC2), (rA2, rC2), (lA2, lC2), (oA2, oC2), (nA2, nC2), mbt2, mbr2, msl2, mS2, nk2, no2⟩ (by kernel_rfl)
    obtain ⟨ktA, utA, rtA, otA, atA⟩ := tA
    refine Sx.c 0 [0, 0, 0] H17 (fun Hp R hZ => ih S5 bg g pa bt br l w9 R Hp _ l1 htA (fun S6 S7 p1 w10 G3 => hZ _ _ _ G3 fun H18 => ?_))
    refine Sx.bk (x := zx3) 11 (H18.sb [6, 4]) <| Sx.nmx ?_
    intro zx4
    refine Sx.on 12 <| Sx.nw 0 H18 fun k4 w11 H19 => Sx.bk (x := zx4) 12 (H19.sb [6, 4]) <| Sx.nmx ?_
    intro zx5
    refine Sx.on 13 ?_
    have H20 := H19.add (Gx.Ext.refl _) (it := .own 96 5 none 0 0 []) (World.ownsRow_nil _ _ _ _) (fun _ h => by cases h)
    refine Sx.ap 0 8 7 72 1 0 96 5 94 1 k4 none 0 0 ([]) [.n ktA, .n utA, .n rtA, .slice p1.A p1.na p1.ca, .slice p1.B p1.nb p1.cb] H20 (by omega) (by omega) rfl fun A1 cap1 w12 H21 => Sx.bk (x := zx5) 13 (H21.sb [6, 4]) <| Sx.tk [(14, none)] (H21.sb [6, 4]) <| Sx.nmx ?_
    intro zx6
    refine Sx.on 15 <| Sx.s 0 6 H21 fun w13 H22 => Sx.bk (x := zx6) 15 Sx.np <| Sx.dn <| Sx.nz 1 (.code (Sx.ct 63 Tryz.f61)) [] [(0, .p bg), (1, .n u1), (5, .p k1), (6, .p k2), (7, .p k3)] fun b3 => Sx.l 4 6 H22 ?_
    refine Sx.br 3 (((kd : Nat) : Int) == (6 : Int)) (fun h_c55 => ?_) (fun h_c55 => ?_)
    · have p_c55 := Gx.k1 h_c55
      obtain ⟨q, ops, v, hq, hw, hv0, hv1⟩ := hB.2 (by omega)
      obtain ⟨⟨⟨kA3, kC3⟩, ⟨aA3, aC3⟩, ⟨bA3, bC3⟩, ⟨rA3, rC3⟩, ⟨lA3, lC3⟩, ⟨oA3, oC3⟩, ⟨nA3, nC3⟩, mbt3, mbr3, msl3, mS3, nk3, no3⟩, H23⟩ := G_open H22 0 (S := S6) (bg := bg) (g := g) (by kernel_rfl)
      obtain ⟨lk3, la3, lb3, lr3, ll3, lo3, ln3, ls3⟩ := G_len H23
      simp only at lk3 la3 lb3 lr3 ll3 lo3 ln3 ls3
      have hnlr3 : u1 < nk3 := by rw [← lr3]; exact at_lt hq
      obtain ⟨wr3, rfl⟩ := H23.row 4 (A := rA3) (e := 3) (sz := 1) (cap := rC3) (n := nk3) (xs := (nats (g.row))) (by kernel_rfl) (by omega)
      refine Sx.l 6 0 H23 <| Sx.ir 1 wr3 u1 1 nk3 rC3 (by omega) <| Sx.lr 0 4 3 1 3 wr3 rC3 nk3 (u1 * 1) (nats (g.row)) H23 (.n q) (nats_at hq) ?_
      obtain ⟨S8, H24⟩ := G_close H23 [0, 0, 0, 0, 0, 0, 0, 0, 0, 0, 0] (bg := bg) (g := g) ⟨(kA3, kC3), (aA3, aC3), (bA3, bC3), ((some ⟨wr3, 0, none⟩), rC3), (lA3, lC3), (oA3, oC3), (nA3, nC3), mbt3, mbr3, msl3, mS3, nk3, no3⟩ (by kernel_rfl)
      refine Sx.c 0 [0] H24 (fun Hp R hZ => Whole_c S8 bg g q w13 R Hp _ v ops hw (fun S9 S10 A2 n1 c1 w14 G4 hn1 hc1 => hZ _ _ _ G4 fun H25 => ?_))
      refine Sx.nz 7 (.code (Sx.ct 1013 Tryz.f61)) [.code (Sx.ct 127 Tryz.f61)] [(0, .p bg), (1, .n u1), (5, .p k1), (6, .p k2), (7, .p k3), (8, .slice A2 n1 c1), (9, .n v)] fun b4 => Sx.s 4 7 H25 fun w15 H26 => ?_
      refine Sx.br 8 (decide (((v : Nat) : Int) > (0 : Int))) (fun h_c71 => ?_) (fun h_c71 => ?_)
      · have p_c71 := of_decide_eq_true h_c71
        obtain ⟨hlz, yb, hyb, hC0, hC1⟩ := hv1 (by omega)
        refine Sx.l 2 5 H26 ?_
        refine Sx.c 1 [3] H26 (fun Hp R hZ => number_c br l1.r v w15 R Hp hlz (fun w16 G5 => hZ _ _ _ G5 fun H27 => ?_))
        refine Sx.s 1 7 H27 fun w17 H28 => ?_
        obtain ⟨⟨⟨kA4, kC4⟩, ⟨aA4, aC4⟩, ⟨bA4, bC4⟩, ⟨rA4, rC4⟩, ⟨lA4, lC4⟩, ⟨oA4, oC4⟩, ⟨nA4, nC4⟩, mbt4, mbr4, msl4, mS4, nk4, no4⟩, H29⟩ := G_open H28 1 (S := S9) (bg := bg) (g := g) (by kernel_rfl)
        obtain ⟨lk4, la4, lb4, lr4, ll4, lo4, ln4, ls4⟩ := G_len H29
        simp only at lk4 la4 lb4 lr4 ll4 lo4 ln4 ls4
        have hnlb4 : u1 < nk4 := by rw [← lb4]; exact at_lt hyb
        obtain ⟨wb4, rfl⟩ := H29.row 3 (A := bA4) (e := 3) (sz := 1) (cap := bC4) (n := nk4) (xs := (onats (g.b))) (by kernel_rfl) (by omega)
        refine Sx.l 8 0 H29 <| Sx.ir 1 wb4 u1 1 nk4 bC4 (by omega) <| Sx.lr 0 3 3 1 3 wb4 bC4 nk4 (u1 * 1) (onats (g.b)) H29 (.int .i64 (eI yb)) (onats_at hyb) <| Sx.nz 3 (.code (Sx.ct 509 Tryz.f61)) [.code (Sx.ct 255 Tryz.f61)] [(0, .p bg), (1, .n u1), (5, .p k1), (6, .p k2), (7, .p k3), (84, .bool (decide ((eI yb) ≥ (0 : Int))))] fun b5 => ?_
        refine Sx.br 0 (decide ((eI yb) ≥ (0 : Int))) (fun h_c84 => ?_) (fun h_c84 => ?_)
        · obtain ⟨pb, rfl⟩ := eI_ge1 h_c84
          obtain ⟨tB, l2, htB, rfl, rfl⟩ := hC1 pb rfl
          refine Sx.dr 0 H29 [17, 15] [15] (LJ := [.blk k3 (.cells #[.n kd, .int .i64 0, .int .i64 (((numb l1.r v).2 : Nat) : Int), .slice A2 n1 c1, .slice A1 (0 + 1) cap1] 96), .blk k1 (.cells #[.map (some bt), .map (some br)] 128)]) (by kernel_rfl) fun w18 H30 => Sx.tk [(0, none), (1, some (0, [13, 14, 15])), (2, none), (3, none), (4, none), (5, none), (7, none), (10, some (1, [11, 12, 13, 14, 15]))] (H30.sb [17, 15]) <| Sx.nmx ?_
          intro zx7
          refine Sx.on 6 <| Sx.l 0 0 H30 <| Sx.bk (x := zx7) 6 (H30.sb [17, 15]) <| Sx.tvg 8 [9, 11, 12, 13, 14, 15] wb4 u1 1 nk4 bC4 (by omega) (H30.sb [17, 15]) <| Sx.nmx ?_
          intro zx8
          refine Sx.on 9 <| Sx.lr 0 3 3 1 3 wb4 bC4 nk4 (u1 * 1) (onats (g.b)) H30 (.n pb) (onats_some hyb) <| Sx.bk (x := zx8) 9 (H30.sb [17, 15]) <| Sx.nmx ?_
          intro zx9
          refine Sx.on 11 ?_
          obtain ⟨S11, H31⟩ := G_close H30 [0, 0, 0, 0, 0, 0, 0, 0, 0, 0, 0] (bg := bg) (g := g) ⟨(kA4, kC4), (aA4, aC4), ((some ⟨wb4, 0, none⟩), bC4), (rA4, rC4), (lA4, lC4), (oA4, oC4), (nA4, nC4), mbt4, mbr4, msl4, mS4, nk4, no4⟩ (by kernel_rfl)
          obtain ⟨ktB, utB, rtB, otB, atB⟩ := tB
          refine Sx.c 0 [0, 2, 0] H31 (fun Hp R hZ => ih S11 bg g pb bt br (⟨l1.t, (numb l1.r v).1⟩ : Nams) w18 R Hp _ l2 htB (fun S12 S13 p2 w19 G6 => hZ _ _ _ G6 fun H32 => ?_))
          refine Sx.bk (x := zx9) 11 (H32.sb [8, 6]) <| Sx.nmx ?_
          intro zx10
          refine Sx.on 12 <| Sx.nw 0 H32 fun k5 w20 H33 => Sx.bk (x := zx10) 12 (H33.sb [8, 6]) <| Sx.nmx ?_
          intro zx11
          refine Sx.on 13 <| Sx.ap 0 10 11 72 1 0 96 5 94 1 k5 A1 cap1 (0 + 1) ([] ++ [.n ktA, .n utA, .n rtA, .slice p1.A p1.na p1.ca, .slice p1.B p1.nb p1.cb]) [.n ktB, .n utB, .n rtB, .slice p2.A p2.na p2.ca, .slice p2.B p2.nb p2.cb] H33 (by omega) (by omega) rfl fun A3 cap2 w21 H34 => Sx.bk (x := zx11) 13 (H34.sb [8, 6]) <| Sx.tk [(14, none)] (H34.sb [8, 6]) <| Sx.nmx ?_
          intro zx12
          refine Sx.on 15 <| Sx.s 0 8 H34 fun w22 H35 => Sx.bk (x := zx12) 15 Sx.np <| Sx.dn <| Sx.nz 1 (.code (Sx.ct 255 Tryz.f61)) [] [(6, .p k2), (7, .p k3)] fun b6 => Sx.l 2 8 H35 ?_
          refine Sx.s 0 7 H35 fun w23 H36 => Sx.rt 3 [7] H36 (.agg #[.n kd, .int .i64 0, .int .i64 (((numb l1.r v).2 : Nat) : Int), .slice A2 n1 c1, .slice A3 (0 + 1 + 1) cap2]) ?_
          obtain ⟨S14, H37⟩ := ty_make (e := 96) (cap := cap2) (n := (0 + 1 + 1)) (A := A2) (B := A3) (Sa := S10) (l := [(p1, Ty.mk ktA utA rtA otA atA, S7), (p2, Ty.mk ktB utB rtB otB atB, S13)]) (ops := ops) (na := n1) (ca := c1) H36 [10, 4, 4, 3] kd 0 ((numb l1.r v).2) (by kernel_rfl) hn1 ⟨hc1, by have := whole_len hw; omega, by simp⟩ rfl
          subst hL0
          exact Gx.ret_as (by rfl) (hK S12 S14 ⟨A2, n1, c1, A3, 0 + 1 + 1, cap2⟩ _ (H37.pk [1, 1, 1, 0]))
        obtain ⟨rfl, rfl⟩ := hC0 (eI_ge0 h_c84)
        obtain ⟨S15, H38⟩ := G_close H29 [0, 0, 0, 0, 0, 0, 0, 0, 0, 0, 0] (bg := bg) (g := g) ⟨(kA4, kC4), (aA4, aC4), ((some ⟨wb4, 0, none⟩), bC4), (rA4, rC4), (lA4, lC4), (oA4, oC4), (nA4, nC4), mbt4, mbr4, msl4, mS4, nk4, no4⟩ (by kernel_rfl)
        refine Sx.nz 2 (.code (Sx.ct 255 Tryz.f61)) [] [(6, .p k2), (7, .p k3)] fun b7 => Sx.l 2 7 H38 <| Sx.s 0 6 H38 fun w24 H39 => Sx.rt 3 [6] H39 (.agg #[.n kd, .int .i64 0, .int .i64 (((numb l1.r v).2 : Nat) : Int), .slice A2 n1 c1, .slice A1 (0 + 1) cap1]) ?_
        obtain ⟨S16, H40⟩ := ty_make (e := 96) (cap := cap1) (n := (0 + 1)) (A := A2) (B := A1) (Sa := S10) (l := [(p1, Ty.mk ktA utA rtA otA atA, S7)]) (ops := ops) (na := n1) (ca := c1) H39 [9, 2, 3] kd 0 ((numb l1.r v).2) (by kernel_rfl) hn1 ⟨hc1, by have := whole_len hw; omega, by simp⟩ rfl
        subst hL0
        exact Gx.ret_as (by rfl) (hK S15 S16 ⟨A2, n1, c1, A1, 0 + 1, cap1⟩ _ (H40.pk [1, 2, 1, 0]))
      have p_c71 := of_decide_eq_false h_c71
      obtain ⟨yb, hyb, hC0, hC1⟩ := hv0 (by omega)
      refine Sx.nz 2 (.code (Sx.ct 127 Tryz.f61)) [] [(0, .p bg), (1, .n u1), (5, .p k1), (6, .p k2), (7, .p k3)] fun b8 => ?_
      obtain ⟨⟨⟨kA5, kC5⟩, ⟨aA5, aC5⟩, ⟨bA5, bC5⟩, ⟨rA5, rC5⟩, ⟨lA5, lC5⟩, ⟨oA5, oC5⟩, ⟨nA5, nC5⟩, mbt5, mbr5, msl5, mS5, nk5, no5⟩, H41⟩ := G_open H26 0 (S := S9) (bg := bg) (g := g) (by kernel_rfl)
      obtain ⟨lk5, la5, lb5, lr5, ll5, lo5, ln5, ls5⟩ := G_len H41
      simp only at lk5 la5 lb5 lr5 ll5 lo5 ln5 ls5
      have hnlb5 : u1 < nk5 := by rw [← lb5]; exact at_lt hyb
      obtain ⟨wb5, rfl⟩ := H41.row 3 (A := bA5) (e := 3) (sz := 1) (cap := bC5) (n := nk5) (xs := (onats (g.b))) (by kernel_rfl) (by omega)
      refine Sx.l 6 0 H41 <| Sx.ir 1 wb5 u1 1 nk5 bC5 (by omega) <| Sx.lr 0 3 3 1 3 wb5 bC5 nk5 (u1 * 1) (onats (g.b)) H41 (.int .i64 (eI yb)) (onats_at hyb) ?_
      refine Sx.br 3 (decide ((eI yb) ≥ (0 : Int))) (fun h_c84 => ?_) (fun h_c84 => ?_)
      · obtain ⟨pb, rfl⟩ := eI_ge1 h_c84
        obtain ⟨tB, l2, htB, rfl, rfl⟩ := hC1 pb rfl
        refine Sx.dr 0 H41 [17, 15] [15] (LJ := [.blk k3 (.cells #[.n kd, .int .i64 0, .int .i64 0, .slice A2 n1 c1, .slice A1 (0 + 1) cap1] 96), .blk k1 (.cells #[.map (some bt), .map (some br)] 128)]) (by kernel_rfl) fun w25 H42 => Sx.tk [(0, none), (1, some (0, [13, 14, 15])), (2, none), (3, none), (4, none), (5, none), (7, none), (10, some (1, [11, 12, 13, 14, 15]))] (H42.sb [17, 15]) <| Sx.nmx ?_
        intro zx13
        refine Sx.on 6 <| Sx.l 0 0 H42 <| Sx.bk (x := zx13) 6 (H42.sb [17, 15]) <| Sx.tvg 8 [9, 11, 12, 13, 14, 15] wb5 u1 1 nk5 bC5 (by omega) (H42.sb [17, 15]) <| Sx.nmx ?_
        intro zx14
        refine Sx.on 9 <| Sx.lr 0 3 3 1 3 wb5 bC5 nk5 (u1 * 1) (onats (g.b)) H42 (.n pb) (onats_some hyb) <| Sx.bk (x := zx14) 9 (H42.sb [17, 15]) <| Sx.nmx ?_
        intro zx15
        refine Sx.on 11 ?_
        obtain ⟨S17, H43⟩ := G_close H42 [0, 0, 0, 0, 0, 0, 0, 0, 0, 0, 0] (bg := bg) (g := g) ⟨(kA5, kC5), (aA5, aC5), ((some ⟨wb5, 0, none⟩), bC5), (rA5, rC5), (lA5, lC5), (oA5, oC5), (nA5, nC5), mbt5, mbr5, msl5, mS5, nk5, no5⟩ (by kernel_rfl)
        obtain ⟨ktB, utB, rtB, otB, atB⟩ := tB
        refine Sx.c 0 [0, 1, 1] H43 (fun Hp R hZ => ih S17 bg g pb bt br l1 w25 R Hp _ l2 htB (fun S18 S19 p3 w26 G7 => hZ _ _ _ G7 fun H44 => ?_))
        refine Sx.bk (x := zx15) 11 (H44.sb [8, 6]) <| Sx.nmx ?_
        intro zx16
        refine Sx.on 12 <| Sx.nw 0 H44 fun k6 w27 H45 => Sx.bk (x := zx16) 12 (H45.sb [8, 6]) <| Sx.nmx ?_
        intro zx17
        refine Sx.on 13 <| Sx.ap 0 10 11 72 1 0 96 5 94 1 k6 A1 cap1 (0 + 1) ([] ++ [.n ktA, .n utA, .n rtA, .slice p1.A p1.na p1.ca, .slice p1.B p1.nb p1.cb]) [.n ktB, .n utB, .n rtB, .slice p3.A p3.na p3.ca, .slice p3.B p3.nb p3.cb] H45 (by omega) (by omega) rfl fun A4 cap3 w28 H46 => Sx.bk (x := zx17) 13 (H46.sb [8, 6]) <| Sx.tk [(14, none)] (H46.sb [8, 6]) <| Sx.nmx ?_
        intro zx18
        refine Sx.on 15 <| Sx.s 0 8 H46 fun w29 H47 => Sx.bk (x := zx18) 15 Sx.np <| Sx.dn <| Sx.nz 1 (.code (Sx.ct 255 Tryz.f61)) [] [(6, .p k2), (7, .p k3)] fun b9 => Sx.l 2 8 H47 ?_
        refine Sx.s 0 7 H47 fun w30 H48 => Sx.rt 3 [7] H48 (.agg #[.n kd, .int .i64 0, .int .i64 0, .slice A2 n1 c1, .slice A4 (0 + 1 + 1) cap3]) ?_
        obtain ⟨S20, H49⟩ := ty_make (e := 96) (cap := cap3) (n := (0 + 1 + 1)) (A := A2) (B := A4) (Sa := S10) (l := [(p1, Ty.mk ktA utA rtA otA atA, S7), (p3, Ty.mk ktB utB rtB otB atB, S19)]) (ops := ops) (na := n1) (ca := c1) H48 [10, 4, 4, 3] kd 0 0 (by kernel_rfl) hn1 ⟨hc1, by have := whole_len hw; omega, by simp⟩ rfl
        subst hL0
        exact Gx.ret_as (by rfl) (hK S18 S20 ⟨A2, n1, c1, A4, 0 + 1 + 1, cap3⟩ _ (H49.pk [1, 1, 1, 0]))
      obtain ⟨rfl, rfl⟩ := hC0 (eI_ge0 h_c84)
      obtain ⟨S21, H50⟩ := G_close H41 [0, 0, 0, 0, 0, 0, 0, 0, 0, 0, 0] (bg := bg) (g := g) ⟨(kA5, kC5), (aA5, aC5), ((some ⟨wb5, 0, none⟩), bC5), (rA5, rC5), (lA5, lC5), (oA5, oC5), (nA5, nC5), mbt5, mbr5, msl5, mS5, nk5, no5⟩ (by kernel_rfl)
      refine Sx.nz 2 (.code (Sx.ct 255 Tryz.f61)) [] [(6, .p k2), (7, .p k3)] fun b10 => Sx.l 2 7 H50 <| Sx.s 0 6 H50 fun w31 H51 => Sx.rt 3 [6] H51 (.agg #[.n kd, .int .i64 0, .int .i64 0, .slice A2 n1 c1, .slice A1 (0 + 1) cap1]) ?_
      obtain ⟨S22, H52⟩ := ty_make (e := 96) (cap := cap1) (n := (0 + 1)) (A := A2) (B := A1) (Sa := S10) (l := [(p1, Ty.mk ktA utA rtA otA atA, S7)]) (ops := ops) (na := n1) (ca := c1) H51 [9, 1, 3] kd 0 0 (by kernel_rfl) hn1 ⟨hc1, by have := whole_len hw; omega, by simp⟩ rfl
      subst hL0
      exact Gx.ret_as (by rfl) (hK S21 S22 ⟨A2, n1, c1, A1, 0 + 1, cap1⟩ _ (H52.pk [1, 1, 1, 0]))
    have p_c55 := Gx.k0 h_c55
    have hC := hB.1 (by omega)
    obtain ⟨yb, hyb, hC0, hC1⟩ := hC
    refine Sx.nz 2 (.code (Sx.ct 127 Tryz.f61)) [] [(0, .p bg), (1, .n u1), (5, .p k1), (6, .p k2), (7, .p k3)] fun b11 => ?_
    obtain ⟨⟨⟨kA6, kC6⟩, ⟨aA6, aC6⟩, ⟨bA6, bC6⟩, ⟨rA6, rC6⟩, ⟨lA6, lC6⟩, ⟨oA6, oC6⟩, ⟨nA6, nC6⟩, mbt6, mbr6, msl6, mS6, nk6, no6⟩, H53⟩ := G_open H22 0 (S := S6) (bg := bg) (g := g) (by kernel_rfl)
    obtain ⟨lk6, la6, lb6, lr6, ll6, lo6, ln6, ls6⟩ := G_len H53
    simp only at lk6 la6 lb6 lr6 ll6 lo6 ln6 ls6
    have hnlb6 : u1 < nk6 := by rw [← lb6]; exact at_lt hyb
    obtain ⟨wb6, rfl⟩ := H53.row 3 (A := bA6) (e := 3) (sz := 1) (cap := bC6) (n := nk6) (xs := (onats (g.b))) (by kernel_rfl) (by omega)
    refine Sx.l 6 0 H53 <| Sx.ir 1 wb6 u1 1 nk6 bC6 (by omega) <| Sx.lr 0 3 3 1 3 wb6 bC6 nk6 (u1 * 1) (onats (g.b)) H53 (.int .i64 (eI yb)) (onats_at hyb) ?_
    refine Sx.br 3 (decide ((eI yb) ≥ (0 : Int))) (fun h_c84 => ?_) (fun h_c84 => ?_)
    · obtain ⟨pb, rfl⟩ := eI_ge1 h_c84
      obtain ⟨tB, l2, htB, rfl, rfl⟩ := hC1 pb rfl
      refine Sx.dr 0 H53 [16, 14] [15] (LJ := [.blk k3 (.cells #[.n kd, .int .i64 0, .int .i64 0, .slice none 0 0, .slice A1 (0 + 1) cap1] 96), .blk k1 (.cells #[.map (some bt), .map (some br)] 128)]) (by kernel_rfl) fun w32 H54 => Sx.tk [(0, none), (1, some (0, [13, 14, 15])), (2, none), (3, none), (4, none), (5, none), (7, none), (10, some (1, [11, 12, 13, 14, 15]))] (H54.sb [16, 14]) <| Sx.nmx ?_
      intro zx19
      refine Sx.on 6 <| Sx.l 0 0 H54 <| Sx.bk (x := zx19) 6 (H54.sb [16, 14]) <| Sx.tvg 8 [9, 11, 12, 13, 14, 15] wb6 u1 1 nk6 bC6 (by omega) (H54.sb [16, 14]) <| Sx.nmx ?_
      intro zx20
      refine Sx.on 9 <| Sx.lr 0 3 3 1 3 wb6 bC6 nk6 (u1 * 1) (onats (g.b)) H54 (.n pb) (onats_some hyb) <| Sx.bk (x := zx20) 9 (H54.sb [16, 14]) <| Sx.nmx ?_
      intro zx21
      refine Sx.on 11 ?_
      obtain ⟨S23, H55⟩ := G_close H54 [0, 0, 0, 0, 0, 0, 0, 0, 0, 0, 0] (bg := bg) (g := g) ⟨(kA6, kC6), (aA6, aC6), ((some ⟨wb6, 0, none⟩), bC6), (rA6, rC6), (lA6, lC6), (oA6, oC6), (nA6, nC6), mbt6, mbr6, msl6, mS6, nk6, no6⟩ (by kernel_rfl)
      obtain ⟨ktB, utB, rtB, otB, atB⟩ := tB
      refine Sx.c 0 [0, 0, 0] H55 (fun Hp R hZ => ih S23 bg g pb bt br l1 w32 R Hp _ l2 htB (fun S24 S25 p4 w33 G8 => hZ _ _ _ G8 fun H56 => ?_))
      refine Sx.bk (x := zx21) 11 (H56.sb [7, 5]) <| Sx.nmx ?_
      intro zx22
      refine Sx.on 12 <| Sx.nw 0 H56 fun k7 w34 H57 => Sx.bk (x := zx22) 12 (H57.sb [7, 5]) <| Sx.nmx ?_
      intro zx23
      refine Sx.on 13 <| Sx.ap 0 9 10 72 1 0 96 5 94 1 k7 A1 cap1 (0 + 1) ([] ++ [.n ktA, .n utA, .n rtA, .slice p1.A p1.na p1.ca, .slice p1.B p1.nb p1.cb]) [.n ktB, .n utB, .n rtB, .slice p4.A p4.na p4.ca, .slice p4.B p4.nb p4.cb] H57 (by omega) (by omega) rfl fun A5 cap4 w35 H58 => Sx.bk (x := zx23) 13 (H58.sb [7, 5]) <| Sx.tk [(14, none)] (H58.sb [7, 5]) <| Sx.nmx ?_
      intro zx24
      refine Sx.on 15 <| Sx.s 0 7 H58 fun w36 H59 => Sx.bk (x := zx24) 15 Sx.np <| Sx.dn <| Sx.nz 1 (.code (Sx.ct 255 Tryz.f61)) [] [(6, .p k2), (7, .p k3)] fun b12 => Sx.l 2 7 H59 ?_
      refine Sx.s 0 6 H59 fun w37 H60 => Sx.rt 3 [6] H60 (.agg #[.n kd, .int .i64 0, .int .i64 0, .slice none 0 0, .slice A5 (0 + 1 + 1) cap4]) ?_
      have H61 := H60.add (Gx.Ext.refl _) (it := strI (fun _ => False) none []) strI_nil (fun _ h => h.elim)
      obtain ⟨S26, H62⟩ := ty_make (e := 96) (cap := cap4) (n := (0 + 1 + 1)) (A := none) (B := A5) (Sa := (fun _ => False)) (l := [(p1, Ty.mk ktA utA rtA otA atA, S7), (p4, Ty.mk ktB utB rtB otB atB, S25)]) (ops := []) (na := 0) (ca := 0) H61 [9, 10, 4, 3] kd 0 0 (by kernel_rfl) rfl ⟨Nat.le_refl _, by simp, by simp⟩ rfl
      subst hL0
      exact Gx.ret_as (by rfl) (hK S24 S26 ⟨none, 0, 0, A5, 0 + 1 + 1, cap4⟩ _ (H62.pk [1, 1, 1, 0]))
    obtain ⟨rfl, rfl⟩ := hC0 (eI_ge0 h_c84)
    obtain ⟨S27, H63⟩ := G_close H53 [0, 0, 0, 0, 0, 0, 0, 0, 0, 0, 0] (bg := bg) (g := g) ⟨(kA6, kC6), (aA6, aC6), ((some ⟨wb6, 0, none⟩), bC6), (rA6, rC6), (lA6, lC6), (oA6, oC6), (nA6, nC6), mbt6, mbr6, msl6, mS6, nk6, no6⟩ (by kernel_rfl)
    refine Sx.nz 2 (.code (Sx.ct 255 Tryz.f61)) [] [(6, .p k2), (7, .p k3)] fun b13 => Sx.l 2 6 H63 <| Sx.s 0 5 H63 fun w38 H64 => Sx.rt 3 [5] H64 (.agg #[.n kd, .int .i64 0, .int .i64 0, .slice none 0 0, .slice A1 (0 + 1) cap1]) ?_
    have H65 := H64.add (Gx.Ext.refl _) (it := strI (fun _ => False) none []) strI_nil (fun _ h => h.elim)
    obtain ⟨S28, H66⟩ := ty_make (e := 96) (cap := cap1) (n := (0 + 1)) (A := none) (B := A1) (Sa := (fun _ => False)) (l := [(p1, Ty.mk ktA utA rtA otA atA, S7)]) (ops := []) (na := 0) (ca := 0) H65 [8, 8, 3] kd 0 0 (by kernel_rfl) rfl ⟨Nat.le_refl _, by simp, by simp⟩ rfl
    subst hL0
    exact Gx.ret_as (by rfl) (hK S27 S28 ⟨none, 0, 0, A1, 0 + 1, cap1⟩ _ (H66.pk [1, 1, 1, 0]))
  have hB := hA0 (eI_ge0 h_c37)
  obtain ⟨S29, H67⟩ := G_close H15 [0, 0, 0, 0, 0, 0, 0, 0, 0, 0, 0] (bg := bg) (g := g) ⟨(kA2, kC2), ((some ⟨wa2, 0, none⟩), aC2), (bA2, bC2), (rA2, rC2), (lA2, lC2), (oA2, oC2), (nA2, nC2), mbt2, mbr2, msl2, mS2, nk2, no2⟩ (by kernel_rfl)
  refine Sx.nz 2 (.code (Sx.ct 63 Tryz.f61)) [] [(0, .p bg), (1, .n u1), (5, .p k1), (6, .p k2), (7, .p k3)] fun b14 => Sx.l 4 5 H67 ?_
  refine Sx.br 3 (((kd : Nat) : Int) == (6 : Int)) (fun h_c55 => ?_) (fun h_c55 => ?_)
  · have p_c55 := Gx.k1 h_c55
    obtain ⟨q, ops, v, hq, hw, hv0, hv1⟩ := hB.2 (by omega)
    obtain ⟨⟨⟨kA7, kC7⟩, ⟨aA7, aC7⟩, ⟨bA7, bC7⟩, ⟨rA7, rC7⟩, ⟨lA7, lC7⟩, ⟨oA7, oC7⟩, ⟨nA7, nC7⟩, mbt7, mbr7, msl7, mS7, nk7, no7⟩, H68⟩ := G_open H67 0 (S := S29) (bg := bg) (g := g) (by kernel_rfl)
    obtain ⟨lk7, la7, lb7, lr7, ll7, lo7, ln7, ls7⟩ := G_len H68
    simp only at lk7 la7 lb7 lr7 ll7 lo7 ln7 ls7
    have hnlr7 : u1 < nk7 := by rw [← lr7]; exact at_lt hq
    obtain ⟨wr7, rfl⟩ := H68.row 4 (A := rA7) (e := 3) (sz := 1) (cap := rC7) (n := nk7) (xs := (nats (g.row))) (by kernel_rfl) (by omega)
    refine Sx.l 6 0 H68 <| Sx.ir 1 wr7 u1 1 nk7 rC7 (by omega) <| Sx.lr 0 4 3 1 3 wr7 rC7 nk7 (u1 * 1) (nats (g.row)) H68 (.n q) (nats_at hq) ?_
    obtain ⟨S30, H69⟩ := G_close H68 [0, 0, 0, 0, 0, 0, 0, 0, 0, 0, 0] (bg := bg) (g := g) ⟨(kA7, kC7), (aA7, aC7), (bA7, bC7), ((some ⟨wr7, 0, none⟩), rC7), (lA7, lC7), (oA7, oC7), (nA7, nC7), mbt7, mbr7, msl7, mS7, nk7, no7⟩ (by kernel_rfl)
    refine Sx.c 0 [0] H69 (fun Hp R hZ => Whole_c S30 bg g q w5 R Hp _ v ops hw (fun S31 S32 A6 n2 c2 w39 G9 hn2 hc2 => hZ _ _ _ G9 fun H70 => ?_))
    refine Sx.nz 7 (.code (Sx.ct 1013 Tryz.f61)) [.code (Sx.ct 127 Tryz.f61)] [(0, .p bg), (1, .n u1), (5, .p k1), (6, .p k2), (7, .p k3), (8, .slice A6 n2 c2), (9, .n v)] fun b15 => Sx.s 4 6 H70 fun w40 H71 => ?_
    refine Sx.br 8 (decide (((v : Nat) : Int) > (0 : Int))) (fun h_c71 => ?_) (fun h_c71 => ?_)
    · have p_c71 := of_decide_eq_true h_c71
      obtain ⟨hlz, yb, hyb, hC0, hC1⟩ := hv1 (by omega)
      refine Sx.l 2 4 H71 ?_
      refine Sx.c 1 [3] H71 (fun Hp R hZ => number_c br l.r v w40 R Hp hlz (fun w41 G10 => hZ _ _ _ G10 fun H72 => ?_))
      refine Sx.s 1 6 H72 fun w42 H73 => ?_
      obtain ⟨⟨⟨kA8, kC8⟩, ⟨aA8, aC8⟩, ⟨bA8, bC8⟩, ⟨rA8, rC8⟩, ⟨lA8, lC8⟩, ⟨oA8, oC8⟩, ⟨nA8, nC8⟩, mbt8, mbr8, msl8, mS8, nk8, no8⟩, H74⟩ := G_open H73 1 (S := S31) (bg := bg) (g := g) (by kernel_rfl)
      obtain ⟨lk8, la8, lb8, lr8, ll8, lo8, ln8, ls8⟩ := G_len H74
      simp only at lk8 la8 lb8 lr8 ll8 lo8 ln8 ls8
      have hnlb8 : u1 < nk8 := by rw [← lb8]; exact at_lt hyb
      obtain ⟨wb8, rfl⟩ := H74.row 3 (A := bA8) (e := 3) (sz := 1) (cap := bC8) (n := nk8) (xs := (onats (g.b))) (by kernel_rfl) (by omega)
      refine Sx.l 8 0 H74 <| Sx.ir 1 wb8 u1 1 nk8 bC8 (by omega) <| Sx.lr 0 3 3 1 3 wb8 bC8 nk8 (u1 * 1) (onats (g.b)) H74 (.int .i64 (eI yb)) (onats_at hyb) <| Sx.nz 3 (.code (Sx.ct 509 Tryz.f61)) [.code (Sx.ct 255 Tryz.f61)] [(0, .p bg), (1, .n u1), (5, .p k1), (6, .p k2), (7, .p k3), (84, .bool (decide ((eI yb) ≥ (0 : Int))))] fun b16 => ?_
      refine Sx.br 0 (decide ((eI yb) ≥ (0 : Int))) (fun h_c84 => ?_) (fun h_c84 => ?_)
      · obtain ⟨pb, rfl⟩ := eI_ge1 h_c84
        obtain ⟨tB, l2, htB, rfl, rfl⟩ := hC1 pb rfl
        refine Sx.dr 0 H74 [16, 14] [15] (LJ := [.blk k3 (.cells #[.n kd, .int .i64 0, .int .i64 (((numb l.r v).2 : Nat) : Int), .slice A6 n2 c2, .slice none 0 0] 96), .blk k1 (.cells #[.map (some bt), .map (some br)] 128)]) (by kernel_rfl) fun w43 H75 => Sx.tk [(0, none), (1, some (0, [13, 14, 15])), (2, none), (3, none), (4, none), (5, none), (7, none), (10, some (1, [11, 12, 13, 14, 15]))] (H75.sb [16, 14]) <| Sx.nmx ?_
        intro zx25
        refine Sx.on 6 <| Sx.l 0 0 H75 <| Sx.bk (x := zx25) 6 (H75.sb [16, 14]) <| Sx.tvg 8 [9, 11, 12, 13, 14, 15] wb8 u1 1 nk8 bC8 (by omega) (H75.sb [16, 14]) <| Sx.nmx ?_
        intro zx26
        refine Sx.on 9 <| Sx.lr 0 3 3 1 3 wb8 bC8 nk8 (u1 * 1) (onats (g.b)) H75 (.n pb) (onats_some hyb) <| Sx.bk (x := zx26) 9 (H75.sb [16, 14]) <| Sx.nmx ?_
        intro zx27
        refine Sx.on 11 ?_
        obtain ⟨S33, H76⟩ := G_close H75 [0, 0, 0, 0, 0, 0, 0, 0, 0, 0, 0] (bg := bg) (g := g) ⟨(kA8, kC8), (aA8, aC8), ((some ⟨wb8, 0, none⟩), bC8), (rA8, rC8), (lA8, lC8), (oA8, oC8), (nA8, nC8), mbt8, mbr8, msl8, mS8, nk8, no8⟩ (by kernel_rfl)
        obtain ⟨ktB, utB, rtB, otB, atB⟩ := tB
        refine Sx.c 0 [0, 2, 0] H76 (fun Hp R hZ => ih S33 bg g pb bt br (⟨l.t, (numb l.r v).1⟩ : Nams) w43 R Hp _ l2 htB (fun S34 S35 p5 w44 G11 => hZ _ _ _ G11 fun H77 => ?_))
        refine Sx.bk (x := zx27) 11 (H77.sb [7, 5]) <| Sx.nmx ?_
        intro zx28
        refine Sx.on 12 <| Sx.nw 0 H77 fun k8 w45 H78 => Sx.bk (x := zx28) 12 (H78.sb [7, 5]) <| Sx.nmx ?_
        intro zx29
        refine Sx.on 13 ?_
        have H79 := H78.add (Gx.Ext.refl _) (it := .own 96 5 none 0 0 []) (World.ownsRow_nil _ _ _ _) (fun _ h => by cases h)
        refine Sx.ap 0 9 8 72 1 0 96 5 94 1 k8 none 0 0 ([]) [.n ktB, .n utB, .n rtB, .slice p5.A p5.na p5.ca, .slice p5.B p5.nb p5.cb] H79 (by omega) (by omega) rfl fun A7 cap5 w46 H80 => Sx.bk (x := zx29) 13 (H80.sb [7, 5]) <| Sx.tk [(14, none)] (H80.sb [7, 5]) <| Sx.nmx ?_
        intro zx30
        refine Sx.on 15 <| Sx.s 0 7 H80 fun w47 H81 => Sx.bk (x := zx30) 15 Sx.np <| Sx.dn <| Sx.nz 1 (.code (Sx.ct 255 Tryz.f61)) [] [(6, .p k2), (7, .p k3)] fun b17 => Sx.l 2 7 H81 ?_
        refine Sx.s 0 6 H81 fun w48 H82 => Sx.rt 3 [6] H82 (.agg #[.n kd, .int .i64 0, .int .i64 (((numb l.r v).2 : Nat) : Int), .slice A6 n2 c2, .slice A7 (0 + 1) cap5]) ?_
        obtain ⟨S36, H83⟩ := ty_make (e := 96) (cap := cap5) (n := (0 + 1)) (A := A6) (B := A7) (Sa := S32) (l := [(p5, Ty.mk ktB utB rtB otB atB, S35)]) (ops := ops) (na := n2) (ca := c2) H82 [9, 4, 3] kd 0 ((numb l.r v).2) (by kernel_rfl) hn2 ⟨hc2, by have := whole_len hw; omega, by simp⟩ rfl
        subst hL0
        exact Gx.ret_as (by rfl) (hK S34 S36 ⟨A6, n2, c2, A7, 0 + 1, cap5⟩ _ (H83.pk [1, 1, 1, 0]))
      obtain ⟨rfl, rfl⟩ := hC0 (eI_ge0 h_c84)
      obtain ⟨S37, H84⟩ := G_close H74 [0, 0, 0, 0, 0, 0, 0, 0, 0, 0, 0] (bg := bg) (g := g) ⟨(kA8, kC8), (aA8, aC8), ((some ⟨wb8, 0, none⟩), bC8), (rA8, rC8), (lA8, lC8), (oA8, oC8), (nA8, nC8), mbt8, mbr8, msl8, mS8, nk8, no8⟩ (by kernel_rfl)
      refine Sx.nz 2 (.code (Sx.ct 255 Tryz.f61)) [] [(6, .p k2), (7, .p k3)] fun b18 => Sx.l 2 6 H84 <| Sx.s 0 5 H84 fun w49 H85 => Sx.rt 3 [5] H85 (.agg #[.n kd, .int .i64 0, .int .i64 (((numb l.r v).2 : Nat) : Int), .slice A6 n2 c2, .slice none 0 0]) ?_
      have H86 := H85.add (Gx.Ext.refl _) (it := .own 96 5 none 0 0 []) (World.ownsRow_nil _ _ _ _) (fun _ h => by cases h)
      obtain ⟨S38, H87⟩ := ty_make (e := 96) (cap := 0) (n := 0) (A := A6) (B := none) (Sa := S32) (l := []) (ops := ops) (na := n2) (ca := c2) H86 [7, 2] kd 0 ((numb l.r v).2) (by kernel_rfl) hn2 ⟨hc2, by have := whole_len hw; omega, by simp⟩ rfl
      subst hL0
      exact Gx.ret_as (by rfl) (hK S37 S38 ⟨A6, n2, c2, none, 0, 0⟩ _ (H87.pk [1, 2, 1, 0]))
    have p_c71 := of_decide_eq_false h_c71
    obtain ⟨yb, hyb, hC0, hC1⟩ := hv0 (by omega)
    refine Sx.nz 2 (.code (Sx.ct 127 Tryz.f61)) [] [(0, .p bg), (1, .n u1), (5, .p k1), (6, .p k2), (7, .p k3)] fun b19 => ?_
    obtain ⟨⟨⟨kA9, kC9⟩, ⟨aA9, aC9⟩, ⟨bA9, bC9⟩, ⟨rA9, rC9⟩, ⟨lA9, lC9⟩, ⟨oA9, oC9⟩, ⟨nA9, nC9⟩, mbt9, mbr9, msl9, mS9, nk9, no9⟩, H88⟩ := G_open H71 0 (S := S31) (bg := bg) (g := g) (by kernel_rfl)
    obtain ⟨lk9, la9, lb9, lr9, ll9, lo9, ln9, ls9⟩ := G_len H88
    simp only at lk9 la9 lb9 lr9 ll9 lo9 ln9 ls9
    have hnlb9 : u1 < nk9 := by rw [← lb9]; exact at_lt hyb
    obtain ⟨wb9, rfl⟩ := H88.row 3 (A := bA9) (e := 3) (sz := 1) (cap := bC9) (n := nk9) (xs := (onats (g.b))) (by kernel_rfl) (by omega)
    refine Sx.l 6 0 H88 <| Sx.ir 1 wb9 u1 1 nk9 bC9 (by omega) <| Sx.lr 0 3 3 1 3 wb9 bC9 nk9 (u1 * 1) (onats (g.b)) H88 (.int .i64 (eI yb)) (onats_at hyb) ?_
    refine Sx.br 3 (decide ((eI yb) ≥ (0 : Int))) (fun h_c84 => ?_) (fun h_c84 => ?_)
    · obtain ⟨pb, rfl⟩ := eI_ge1 h_c84
      obtain ⟨tB, l2, htB, rfl, rfl⟩ := hC1 pb rfl
      refine Sx.dr 0 H88 [16, 14] [15] (LJ := [.blk k3 (.cells #[.n kd, .int .i64 0, .int .i64 0, .slice A6 n2 c2, .slice none 0 0] 96), .blk k1 (.cells #[.map (some bt), .map (some br)] 128)]) (by kernel_rfl) fun w50 H89 => Sx.tk [(0, none), (1, some (0, [13, 14, 15])), (2, none), (3, none), (4, none), (5, none), (7, none), (10, some (1, [11, 12, 13, 14, 15]))] (H89.sb [16, 14]) <| Sx.nmx ?_
      intro zx31
      refine Sx.on 6 <| Sx.l 0 0 H89 <| Sx.bk (x := zx31) 6 (H89.sb [16, 14]) <| Sx.tvg 8 [9, 11, 12, 13, 14, 15] wb9 u1 1 nk9 bC9 (by omega) (H89.sb [16, 14]) <| Sx.nmx ?_
      intro zx32
      refine Sx.on 9 <| Sx.lr 0 3 3 1 3 wb9 bC9 nk9 (u1 * 1) (onats (g.b)) H89 (.n pb) (onats_some hyb) <| Sx.bk (x := zx32) 9 (H89.sb [16, 14]) <| Sx.nmx ?_
      intro zx33
      refine Sx.on 11 ?_
      obtain ⟨S39, H90⟩ := G_close H89 [0, 0, 0, 0, 0, 0, 0, 0, 0, 0, 0] (bg := bg) (g := g) ⟨(kA9, kC9), (aA9, aC9), ((some ⟨wb9, 0, none⟩), bC9), (rA9, rC9), (lA9, lC9), (oA9, oC9), (nA9, nC9), mbt9, mbr9, msl9, mS9, nk9, no9⟩ (by kernel_rfl)
      obtain ⟨ktB, utB, rtB, otB, atB⟩ := tB
      refine Sx.c 0 [0, 1, 1] H90 (fun Hp R hZ => ih S39 bg g pb bt br l w50 R Hp _ l2 htB (fun S40 S41 p6 w51 G12 => hZ _ _ _ G12 fun H91 => ?_))
      refine Sx.bk (x := zx33) 11 (H91.sb [7, 5]) <| Sx.nmx ?_
      intro zx34
      refine Sx.on 12 <| Sx.nw 0 H91 fun k9 w52 H92 => Sx.bk (x := zx34) 12 (H92.sb [7, 5]) <| Sx.nmx ?_
      intro zx35
      refine Sx.on 13 ?_
      have H93 := H92.add (Gx.Ext.refl _) (it := .own 96 5 none 0 0 []) (World.ownsRow_nil _ _ _ _) (fun _ h => by cases h)
      refine Sx.ap 0 9 8 72 1 0 96 5 94 1 k9 none 0 0 ([]) [.n ktB, .n utB, .n rtB, .slice p6.A p6.na p6.ca, .slice p6.B p6.nb p6.cb] H93 (by omega) (by omega) rfl fun A8 cap6 w53 H94 => Sx.bk (x := zx35) 13 (H94.sb [7, 5]) <| Sx.tk [(14, none)] (H94.sb [7, 5]) <| Sx.nmx ?_
      intro zx36
      refine Sx.on 15 <| Sx.s 0 7 H94 fun w54 H95 => Sx.bk (x := zx36) 15 Sx.np <| Sx.dn <| Sx.nz 1 (.code (Sx.ct 255 Tryz.f61)) [] [(6, .p k2), (7, .p k3)] fun b20 => Sx.l 2 7 H95 ?_
      refine Sx.s 0 6 H95 fun w55 H96 => Sx.rt 3 [6] H96 (.agg #[.n kd, .int .i64 0, .int .i64 0, .slice A6 n2 c2, .slice A8 (0 + 1) cap6]) ?_
      obtain ⟨S42, H97⟩ := ty_make (e := 96) (cap := cap6) (n := (0 + 1)) (A := A6) (B := A8) (Sa := S32) (l := [(p6, Ty.mk ktB utB rtB otB atB, S41)]) (ops := ops) (na := n2) (ca := c2) H96 [9, 4, 3] kd 0 0 (by kernel_rfl) hn2 ⟨hc2, by have := whole_len hw; omega, by simp⟩ rfl
      subst hL0
      exact Gx.ret_as (by rfl) (hK S40 S42 ⟨A6, n2, c2, A8, 0 + 1, cap6⟩ _ (H97.pk [1, 1, 1, 0]))
    obtain ⟨rfl, rfl⟩ := hC0 (eI_ge0 h_c84)
    obtain ⟨S43, H98⟩ := G_close H88 [0, 0, 0, 0, 0, 0, 0, 0, 0, 0, 0] (bg := bg) (g := g) ⟨(kA9, kC9), (aA9, aC9), ((some ⟨wb9, 0, none⟩), bC9), (rA9, rC9), (lA9, lC9), (oA9, oC9), (nA9, nC9), mbt9, mbr9, msl9, mS9, nk9, no9⟩ (by kernel_rfl)
    refine Sx.nz 2 (.code (Sx.ct 255 Tryz.f61)) [] [(6, .p k2), (7, .p k3)] fun b21 => Sx.l 2 6 H98 <| Sx.s 0 5 H98 fun w56 H99 => Sx.rt 3 [5] H99 (.agg #[.n kd, .int .i64 0, .int .i64 0, .slice A6 n2 c2, .slice none 0 0]) ?_
    have H100 := H99.add (Gx.Ext.refl _) (it := .own 96 5 none 0 0 []) (World.ownsRow_nil _ _ _ _) (fun _ h => by cases h)
    obtain ⟨S44, H101⟩ := ty_make (e := 96) (cap := 0) (n := 0) (A := A6) (B := none) (Sa := S32) (l := []) (ops := ops) (na := n2) (ca := c2) H100 [7, 1] kd 0 0 (by kernel_rfl) hn2 ⟨hc2, by have := whole_len hw; omega, by simp⟩ rfl
    subst hL0
    exact Gx.ret_as (by rfl) (hK S43 S44 ⟨A6, n2, c2, none, 0, 0⟩ _ (H101.pk [1, 1, 1, 0]))
  have p_c55 := Gx.k0 h_c55
  have hC := hB.1 (by omega)
  obtain ⟨yb, hyb, hC0, hC1⟩ := hC
  refine Sx.nz 2 (.code (Sx.ct 127 Tryz.f61)) [] [(0, .p bg), (1, .n u1), (5, .p k1), (6, .p k2), (7, .p k3)] fun b22 => ?_
  obtain ⟨⟨⟨kA10, kC10⟩, ⟨aA10, aC10⟩, ⟨bA10, bC10⟩, ⟨rA10, rC10⟩, ⟨lA10, lC10⟩, ⟨oA10, oC10⟩, ⟨nA10, nC10⟩, mbt10, mbr10, msl10, mS10, nk10, no10⟩, H102⟩ := G_open H67 0 (S := S29) (bg := bg) (g := g) (by kernel_rfl)
  obtain ⟨lk10, la10, lb10, lr10, ll10, lo10, ln10, ls10⟩ := G_len H102
  simp only at lk10 la10 lb10 lr10 ll10 lo10 ln10 ls10
  have hnlb10 : u1 < nk10 := by rw [← lb10]; exact at_lt hyb
  obtain ⟨wb10, rfl⟩ := H102.row 3 (A := bA10) (e := 3) (sz := 1) (cap := bC10) (n := nk10) (xs := (onats (g.b))) (by kernel_rfl) (by omega)
  refine Sx.l 6 0 H102 <| Sx.ir 1 wb10 u1 1 nk10 bC10 (by omega) <| Sx.lr 0 3 3 1 3 wb10 bC10 nk10 (u1 * 1) (onats (g.b)) H102 (.int .i64 (eI yb)) (onats_at hyb) ?_
  refine Sx.br 3 (decide ((eI yb) ≥ (0 : Int))) (fun h_c84 => ?_) (fun h_c84 => ?_)
  · obtain ⟨pb, rfl⟩ := eI_ge1 h_c84
    obtain ⟨tB, l2, htB, rfl, rfl⟩ := hC1 pb rfl
    refine Sx.dr 0 H102 [15, 13] [15] (LJ := [.blk k3 (.cells #[.n kd, .int .i64 0, .int .i64 0, .slice none 0 0, .slice none 0 0] 96), .blk k1 (.cells #[.map (some bt), .map (some br)] 128)]) (by kernel_rfl) fun w57 H103 => Sx.tk [(0, none), (1, some (0, [13, 14, 15])), (2, none), (3, none), (4, none), (5, none), (7, none), (10, some (1, [11, 12, 13, 14, 15]))] (H103.sb [15, 13]) <| Sx.nmx ?_
    intro zx37
    refine Sx.on 6 <| Sx.l 0 0 H103 <| Sx.bk (x := zx37) 6 (H103.sb [15, 13]) <| Sx.tvg 8 [9, 11, 12, 13, 14, 15] wb10 u1 1 nk10 bC10 (by omega) (H103.sb [15, 13]) <| Sx.nmx ?_
    intro zx38
    refine Sx.on 9 <| Sx.lr 0 3 3 1 3 wb10 bC10 nk10 (u1 * 1) (onats (g.b)) H103 (.n pb) (onats_some hyb) <| Sx.bk (x := zx38) 9 (H103.sb [15, 13]) <| Sx.nmx ?_
    intro zx39
    refine Sx.on 11 ?_
    obtain ⟨S45, H104⟩ := G_close H103 [0, 0, 0, 0, 0, 0, 0, 0, 0, 0, 0] (bg := bg) (g := g) ⟨(kA10, kC10), (aA10, aC10), ((some ⟨wb10, 0, none⟩), bC10), (rA10, rC10), (lA10, lC10), (oA10, oC10), (nA10, nC10), mbt10, mbr10, msl10, mS10, nk10, no10⟩ (by kernel_rfl)
    obtain ⟨ktB, utB, rtB, otB, atB⟩ := tB
    refine Sx.c 0 [0, 0, 0] H104 (fun Hp R hZ => ih S45 bg g pb bt br l w57 R Hp _ l2 htB (fun S46 S47 p7 w58 G13 => hZ _ _ _ G13 fun H105 => ?_))
    refine Sx.bk (x := zx39) 11 (H105.sb [6, 4]) <| Sx.nmx ?_
    intro zx40
    refine Sx.on 12 <| Sx.nw 0 H105 fun k10 w59 H106 => Sx.bk (x := zx40) 12 (H106.sb [6, 4]) <| Sx.nmx ?_
    intro zx41
    refine Sx.on 13 ?_
    have H107 := H106.add (Gx.Ext.refl _) (it := .own 96 5 none 0 0 []) (World.ownsRow_nil _ _ _ _) (fun _ h => by cases h)
    refine Sx.ap 0 8 7 72 1 0 96 5 94 1 k10 none 0 0 ([]) [.n ktB, .n utB, .n rtB, .slice p7.A p7.na p7.ca, .slice p7.B p7.nb p7.cb] H107 (by omega) (by omega) rfl fun A9 cap7 w60 H108 => Sx.bk (x := zx41) 13 (H108.sb [6, 4]) <| Sx.tk [(14, none)] (H108.sb [6, 4]) <| Sx.nmx ?_
    intro zx42
    refine Sx.on 15 <| Sx.s 0 6 H108 fun w61 H109 => Sx.bk (x := zx42) 15 Sx.np <| Sx.dn <| Sx.nz 1 (.code (Sx.ct 255 Tryz.f61)) [] [(6, .p k2), (7, .p k3)] fun b23 => Sx.l 2 6 H109 ?_
    refine Sx.s 0 5 H109 fun w62 H110 => Sx.rt 3 [5] H110 (.agg #[.n kd, .int .i64 0, .int .i64 0, .slice none 0 0, .slice A9 (0 + 1) cap7]) ?_
    have H111 := H110.add (Gx.Ext.refl _) (it := strI (fun _ => False) none []) strI_nil (fun _ h => h.elim)
    obtain ⟨S48, H112⟩ := ty_make (e := 96) (cap := cap7) (n := (0 + 1)) (A := none) (B := A9) (Sa := (fun _ => False)) (l := [(p7, Ty.mk ktB utB rtB otB atB, S47)]) (ops := []) (na := 0) (ca := 0) H111 [8, 8, 3] kd 0 0 (by kernel_rfl) rfl ⟨Nat.le_refl _, by simp, by simp⟩ rfl
    subst hL0
    exact Gx.ret_as (by rfl) (hK S46 S48 ⟨none, 0, 0, A9, 0 + 1, cap7⟩ _ (H112.pk [1, 1, 1, 0]))
  obtain ⟨rfl, rfl⟩ := hC0 (eI_ge0 h_c84)
  obtain ⟨S49, H113⟩ := G_close H102 [0, 0, 0, 0, 0, 0, 0, 0, 0, 0, 0] (bg := bg) (g := g) ⟨(kA10, kC10), (aA10, aC10), ((some ⟨wb10, 0, none⟩), bC10), (rA10, rC10), (lA10, lC10), (oA10, oC10), (nA10, nC10), mbt10, mbr10, msl10, mS10, nk10, no10⟩ (by kernel_rfl)
  refine Sx.nz 2 (.code (Sx.ct 255 Tryz.f61)) [] [(6, .p k2), (7, .p k3)] fun b24 => Sx.l 2 5 H113 <| Sx.s 0 4 H113 fun w63 H114 => Sx.rt 3 [4] H114 (.agg #[.n kd, .int .i64 0, .int .i64 0, .slice none 0 0, .slice none 0 0]) ?_
  have H115 := H114.add (Gx.Ext.refl _) (it := .own 96 5 none 0 0 []) (World.ownsRow_nil _ _ _ _) (fun _ h => by cases h)
  have H116 := H115.add (Gx.Ext.refl _) (it := strI (fun _ => False) none []) strI_nil (fun _ h => h.elim)
  obtain ⟨S50, H117⟩ := ty_make (e := 96) (cap := 0) (n := 0) (A := none) (B := none) (Sa := (fun _ => False)) (l := []) (ops := []) (na := 0) (ca := 0) H116 [6, 6] kd 0 0 (by kernel_rfl) rfl ⟨Nat.le_refl _, by simp, by simp⟩ rfl
  subst hL0
  exact Gx.ret_as (by rfl) (hK S49 S50 ⟨none, 0, 0, none, 0, 0⟩ _ (H117.pk [1, 1, 1, 0]))
theorem Told_c (k : Nat) : ∀ (S : Nat → Prop) (bg : Nat) (g : G) (n : Nat) (bt br : Nat) (l : Nams) (w : World) (K : Ending → World → Prop) (H0 : Sp w [GI S bg g, mapN bt l.t, mapN br l.r]) (t : Ty) (l' : Nams) (hf : told k g n l = some (t, l')) (hK : ∀ (S' : Nat → Prop) (Sy : Nat → Prop) (p : Tv) w', Hs w [GI S bg g, mapN bt l.t, mapN br l.r] w' [GI S' bg g, mapN bt l'.t, mapN br l'.r, tyI Sy p t] → K (.returned (.agg (tvC t p).toArray)) w'),
    Calls Tryz.prog 61 #[.p bg, .n n, .agg #[.map (some bt), .map (some br)]] w K := by
  induction k with
  | zero => intro S bg g n bt br l w K H0 t l' hf; exact absurd hf (by simp [told])
  | succ k ih => exact Told_c_s k ih
set_option maxHeartbeats 8000000 in
theorem ops_c (bc bg : Nat) (eA : Option Addr) (en ec : Nat) (g0 : G) (e0 : List Nam) (Q : Nat → Prop) (kd na : Nat) (nm : Nm) (nb : Nat) (ks : List Nd) (nA : Option Addr) (nc : Nat) (w : World) (K : Ending → World → Prop) (H0 : Sp w [.blk bc (.cells #[.p bg, .slice eA en ec, .slice none 0 0, .int .i64 0, .int .i64 0] 115), kvI Q ks nA nc]) (k : Nat) (c' : Ck) (hf : opsLoop k ((ks.take nb).map fun d => d.nm) 0 (ks.take nb) ⟨g0, e0, [], 0, 0⟩ = some c') (hnk : nb < ks.length) (hkz : ks.length < 1000000000) (hK : ∀ (oA' : Option Addr) (on' : Nat) (oc' : Nat) (ol' : List Ov) (So' : Nat → Prop) w', Hs w [.blk bc (.cells #[.p bg, .slice eA en ec, .slice none 0 0, .int .i64 0, .int .i64 0] 115), kvI Q ks nA nc] w' [Sx.cB bc bg eA en ec oA' on' oc' c'.fk c'.fa, .own 160 12 oA' oc' on' (opsC ol'), tysI So' ol', kvI Q ks nA nc] → (ol'.map (·.1) = c'.ops) → (on' < 1000000000) → (c'.g = g0 ∧ c'.env = e0) → K (.returned (.tuple #[])) w') :
    Calls Tryz.prog 54 #[.p bc, .agg #[.n kd, .n na, .string nm, .n nb, .slice nA ks.length nc]] w K := by
  obtain ⟨L0, hL0, H⟩ := Sx.op0 H0
  refine Sx.en (vs := [.p bc, .agg #[.n kd, .n na, .string nm, .n nb, .slice nA ks.length nc]]) 105 Tryz.func54 ?_
  have H1 := H.add (Gx.Ext.refl _) (it := .own 160 12 none 0 0 []) (World.ownsRow_nil _ _ _ _) (fun _ h => by cases h)
  have H2 := H1.add (Gx.Ext.refl _) (it := tysI (fun _ => False) []) tys_nil (fun _ h => h.elim)
  refine Sx.nw 2 H2 fun k1 w1 H3 => ?_
  have H4 := H3.add (Gx.Ext.refl _) (it := .own 9 1 none 0 0 []) (World.ownsRow_nil _ _ _ _) (fun _ h => by cases h)
  refine Sx.lp 14 (fun z l' w' => ∃ (i : Nat) (Aq : Option Addr) (cq : Nat), l' = [(0, .p bc), (3, .p k1), (4, .slice Aq i cq), (5, .n i)] ∧ z = nb - i ∧ Hs w L0 w' [.blk bc (.cells #[.p bg, .slice eA en ec, .slice none 0 0, .int .i64 0, .int .i64 0] 115), .own 160 12 none 0 0 (opsC ([])), tysI (fun _ => False) ([]), kvI Q ks nA nc, .blk k1 (.cells #[.n kd, .n na, .string nm, .n nb, .slice nA ks.length nc] 62), .own 9 1 Aq cq i (strs ((ks.take i).map fun d => d.nm))] ∧ (i ≤ nb)) _ _ ⟨0, none, 0, rfl, rfl, H4.pk [0, 1, 1, 0, 0, 0], (Nat.zero_le _)⟩ (fun b1 z1 l1 w2 hI1 K1 hK1 => ?_)
  obtain ⟨i, Aq, cq, rfl, rfl, H6, hib⟩ := hI1
  refine Sx.l 5 4 H6 ?_
  refine Sx.br 3 (decide (((i : Nat) : Int) < ((nb : Nat) : Int))) (fun h_c13 => ?_) (fun h_c13 => ?_)
  · have p_c13 := of_decide_eq_true h_c13
    obtain ⟨dZ, hdZ⟩ := some_at (l := ks) (i := i) (by omega)
    obtain ⟨kddZ, nadZ, nmdZ, nndZ, ksdZ⟩ := dZ
    obtain ⟨B1, cb1, a1, ha1, H7⟩ := nd_kid (Q := Q) (ks := ks) (A := nA) (c := nc) (i := i) H6 3 (by kernel_rfl) hdZ
    refine Sx.nz 2 (.code (Sx.ct 233 Tryz.f54)) [.to K1, .blk 0, .code (Sx.ct 15 Tryz.f54)] [(0, .p bc), (3, .p k1), (4, .slice Aq i cq), (5, .n i)] fun b2 => Sx.l 5 4 H7 <| Sx.ia 1 a1 i 5 ks.length nc ha1 (at_lt hdZ) <| Sx.fa 0 (a1.add (i * 5)) 2 <| Sx.lo (c := 1) (t := 9) 0 [.string nmdZ] (.string nmdZ) (cells_sub (i := 2) (m := 1) (cel_at (Q := Q) (a := a1.add (i * 5)) (n := 5) (cs := (Sx.nC kddZ nadZ nmdZ nndZ B1 ksdZ cb1)) H7 6 (by kernel_rfl)) (by decide)) <| Sx.nw 0 H7 fun k2 w3 H8 => ?_
    refine Sx.ap 0 5 8 16 1 0 9 1 30 1 k2 Aq cq i (strs ((ks.take i).map fun d => d.nm)) [.string nmdZ] H8 (by omega) (by omega) (take_names hdZ) fun A1 cap1 w4 H9 => Sx.v 6 (.int .i64 (IntKind.i64.wrap (((i : Nat) : Int) + (1 : Int)))) (.int .i64 ((i + 1 : Nat) : Int)) (congrArg (Value.int .i64) (Gx.i64n (by omega) (by omega))) ?_
    exact Sx.to 2 _ (hK1 _ _ _ _ (by omega) ⟨(i + 1), A1, cap1, rfl, rfl, H9.pk [0, 0, 0, 0, 0, 0], (by omega)⟩)
  have p_c13 := of_decide_eq_false h_c13
  obtain rfl : nb = i := by omega
  have hnn : nb = ((ks.take nb).map fun d => d.nm).length := by rw [List.length_map, List.length_take]; omega
  have haz : ((ks.take nb).map fun d => d.nm).length < 1000000000 := by omega
  have H11 := Hs.toStr H6 5 (e := 9) (n := nb) (cap := cq) (A := Aq) (l := ((ks.take nb).map fun d => d.nm)) (by kernel_rfl)
  have hop1 := hf
  refine Sx.nz 5 (.code (Sx.ct 15 Tryz.f54)) [] [(0, .p bc), (3, .p k1), (4, .slice Aq nb cq)] fun b3 => ?_
  refine Sx.lp 6 (fun z l' w' => ∃ (i : Nat) (cc : Ck) (oA : Option Addr) (on : Nat) (oc : Nat) (ol : List Ov) (So : Nat → Prop), l' = [(0, .p bc), (3, .p k1), (4, .slice Aq nb cq), (6, .n i)] ∧ z = nb - i ∧ Hs w L0 w' [Sx.cB bc bg eA en ec oA on oc cc.fk cc.fa, .own 160 12 oA oc on (opsC ol), tysI So ol, kvI Q ks nA nc, .blk k1 (.cells #[.n kd, .n na, .string nm, .n nb, .slice nA ks.length nc] 62), strI (fun c => (Value.slice Aq (nb) cq).ownBlock = some c) Aq ((ks.take nb).map fun d => d.nm)] ∧ (i ≤ nb) ∧ (opsLoop k ((ks.take nb).map fun d => d.nm) i ((ks.take nb).drop i) cc = some c') ∧ (ol.map (·.1) = cc.ops) ∧ (on ≤ i) ∧ (cc.g = g0 ∧ cc.env = e0)) _ _ ⟨0, (⟨g0, e0, [], 0, 0⟩ : Ck), none, 0, 0, [], (fun _ => False), rfl, rfl, H11.pk [0, 0, 0, 0, 0, 0], (Nat.zero_le _), hop1, rfl, (Nat.le_refl _), ⟨rfl, rfl⟩⟩ (fun b4 z2 l2 w5 hI2 K2 hK2 => ?_)
  obtain ⟨i, cc, oA, on, oc, ol, So, rfl, rfl, H13, hib, hop, hol, hno, hg⟩ := hI2
  have hon : on < 1000000000 := by omega
  refine Sx.l 5 4 H13 ?_
  refine Sx.sp 2 29 (decide (((i : Nat) : Int) < ((nb : Nat) : Int))) (fun h_g29 => ?_) (fun h_g29 => ?_)
  · have p_g29 := of_decide_eq_true h_g29
    refine Sx.c 1 [0] H13 (fun Hp R hZ => ok_c bc bg eA en ec oA on oc cc.fk cc.fa w5 R Hp  (fun w6 G1 => hZ _ _ _ G1 fun H14 => ?_))
    refine Sx.br 3 (cc.fk == 0) (fun h_c32 => ?_) (fun h_c32 => ?_)
    · have p_c32 := h_c32; try simp [-List.getD_eq_getElem?_getD] at p_c32
      obtain ⟨dZ, hdZ⟩ := some_at (l := ks) (i := i) (by omega)
      obtain ⟨hz1, hz2⟩ := ops_step hop (take_at hdZ (show i < nb by omega))
      have h0 : cc.fk = 0 := by simpa using h_c32
      obtain ⟨ho1, ho2⟩ := hz2 h0
      obtain ⟨kddZ, nadZ, nmdZ, nndZ, ksdZ⟩ := dZ
      obtain ⟨B2, cb2, a2, ha2, H15⟩ := nd_kid (Q := Q) (ks := ks) (A := nA) (c := nc) (i := i) H14 3 (by kernel_rfl) hdZ
      refine Sx.nz 2 (.code (Sx.ct 249 Tryz.f54)) [.to K2, .blk 2] [(0, .p bc), (3, .p k1), (4, .slice Aq nb cq), (6, .n i)] fun b5 => Sx.l 5 4 H15 <| Sx.ia 1 a2 i 5 ks.length nc ha2 (at_lt hdZ) <| Sx.lo (c := 5) (t := 62) 0 (Sx.nC kddZ nadZ nmdZ nndZ B2 ksdZ cb2) (Sx.nA kddZ nadZ nmdZ nndZ B2 ksdZ cb2) (cel_at (Q := Q) (a := a2.add (i * 5)) (n := 5) (cs := (Sx.nC kddZ nadZ nmdZ nndZ B2 ksdZ cb2)) H15 6 (by kernel_rfl)) <| Sx.nw 0 H15 fun k3 w7 H16 => Sx.s 0 8 H16 fun w8 H17 => ?_
      refine Sx.l 6 8 H17 ?_
      rcases hop1 : opAt nmdZ cc.ops with _ | ov1
      · obtain ⟨dX, dY, c1, c2, hdX, hdY, hr1, hr2, he1, he2⟩ := ho2 hop1
        obtain ⟨kddX, nadX, nmdX, nndX, ksdX⟩ := dX
        obtain ⟨B3, cb3, a3, ha3, H18⟩ := nd_kid (Q := Q) (ks := ksdZ) (A := B2) (c := cb2) (i := 0) H17 7 (by kernel_rfl) hdX
        obtain ⟨kddY, nadY, nmdY, nndY, ksdY⟩ := dY
        obtain ⟨B4, cb4, a4, ha4, H19⟩ := nd_kid (Q := Q) (ks := ksdZ) (A := B2) (c := cb2) (i := 1) H18 7 (by kernel_rfl) hdY
        refine Sx.c 0 [0, 0] H19 (fun Hp R hZ => op_c bc bg eA en ec oA on oc cc.fk cc.fa ol nmdZ w8 R Hp none (opIx_at (by rw [hol]; exact hop1)) hon (fun w9 G2 => hZ _ _ _ G2 fun H20 => ?_))
        refine Sx.nz 3 (.code (Sx.ct 3987 Tryz.f54)) [.blk 3, .code (Sx.ct 499 Tryz.f54), .to K2, .blk 2] [(0, .p bc), (3, .p k1), (4, .slice Aq nb cq), (6, .n i), (7, .p k3), (8, .pointer none)] fun b6 => Sx.l 14 8 H20 <| Sx.ia 0 a3 0 5 ksdZ.length cb2 ha3 (at_lt hdX) <| Sx.lo (c := 5) (t := 62) 0 (Sx.nC kddX nadX nmdX nndX B3 ksdX cb3) (Sx.nA kddX nadX nmdX nndX B3 ksdX cb3) (cel_at (Q := Q) (a := a3.add (0 * 5)) (n := 5) (cs := (Sx.nC kddX nadX nmdX nndX B3 ksdX cb3)) H20 9 (by kernel_rfl)) ?_
        refine Sx.c 1 [0, 9, 4] H20 (fun Hp R hZ => (rowNames_c _) bc bg eA en ec oA on oc Q kddX nadX nmdX nndX ksdX B3 cb3 (fun c => (Value.slice Aq (nb) cq).ownBlock = some c) Aq nb cq ((ks.take nb).map fun d => d.nm) cc w9 R Hp c1 hr1 hnn haz (fun w10 G3 => hZ _ _ _ G3 fun H21 => ?_))
        refine Sx.l 6 9 H21 <| Sx.ia 0 a4 1 5 ksdZ.length cb2 ha4 (at_lt hdY) <| Sx.lo (c := 5) (t := 62) 0 (Sx.nC kddY nadY nmdY nndY B4 ksdY cb4) (Sx.nA kddY nadY nmdY nndY B4 ksdY cb4) (cel_at (Q := Q) (a := a4.add (1 * 5)) (n := 5) (cs := (Sx.nC kddY nadY nmdY nndY B4 ksdY cb4)) H21 11 (by kernel_rfl)) ?_
        refine Sx.c 1 [0, 11, 1] H21 (fun Hp R hZ => (rowNames_c _) bc bg eA en ec oA on oc Q kddY nadY nmdY nndY ksdY B4 cb4 (fun c => (Value.slice Aq (nb) cq).ownBlock = some c) Aq nb cq ((ks.take nb).map fun d => d.nm) c1 w10 R Hp c2 hr2 hnn haz (fun w11 G4 => hZ _ _ _ G4 fun H22 => ?_))
        refine Sx.c 6 [0] H22 (fun Hp R hZ => ok_c bc bg eA en ec oA on oc c2.fk c2.fa w11 R Hp  (fun w12 G5 => hZ _ _ _ G5 fun H23 => ?_))
        refine Sx.br 3 (!(c2.fk == 0)) (fun h_c66 => ?_) (fun h_c66 => ?_)
        · obtain rfl := he1 (by simpa using h_c66)
          refine Sx.rt 6 [] H23 (.tuple #[]) ?_
          subst hL0
          exact hK oA on oc ol So _ (H23.pk [0, 3, 3, 3]) (by first | exact hol | (rw [hol]; exact ((rowNames_keeps hr1).2.2.symm.trans (rowNames_keeps hr2).2.2.symm))) (by omega) (by first | exact hg | exact ⟨(rowNames_keeps hr2).1.trans ((rowNames_keeps hr1).1.trans hg.1), (rowNames_keeps hr2).2.1.trans ((rowNames_keeps hr1).2.1.trans hg.2)⟩)
        obtain ⟨tX, tY, mX, mY, hfX, hfY, hpX, hpY, hop2⟩ := he2 (by simpa using h_c66)
        obtain ⟨ktX, utX, rtX, otX, atX⟩ := tX
        obtain ⟨ktY, utY, rtY, otY, atY⟩ := tY
        refine Sx.nz 2 (.code (Sx.ct 63807 Tryz.f54)) [.blk 3, .code (Sx.ct 499 Tryz.f54), .to K2, .blk 2] [(0, .p bc), (3, .p k1), (4, .slice Aq nb cq), (6, .n i), (7, .p k3)] fun b7 => ?_
        refine Sx.cut 0 (fun l' w' => ∃ (bnw : Nat) (SX : Nat → Prop) (qX : Tv) (SY : Nat → Prop) (qY : Tv), l' = [(0, .p bc), (3, .p k1), (4, .slice Aq nb cq), (6, .n i), (7, .p k3), (9, .p bnw)] ∧ Hs w L0 w' [Sx.cB bc bg eA en ec oA on oc c2.fk c2.fa, .own 160 12 oA oc on (opsC ol), tysI So ol, kvI Q ks nA nc, .blk k1 (.cells #[.n kd, .n na, .string nm, .n nb, .slice nA ks.length nc] 62), strI (fun c => (Value.slice Aq (nb) cq).ownBlock = some c) Aq ((ks.take nb).map fun d => d.nm), .blk k3 (.cells #[.n kddZ, .n nadZ, .string nmdZ, .int .i64 nndZ, .slice B2 ksdZ.length cb2] 62), .blk bnw (.cells #[.string nmdZ, .n ktX, .n utX, .n rtX, .slice qX.A qX.na qX.ca, .slice qX.B qX.nb qX.cb, .n ktY, .n utY, .n rtY, .slice qY.A qY.na qY.ca, .slice qY.B qY.nb qY.cb, .n i] 160), tyI SX qX (Ty.mk ktX utX rtX otX atX), tyI SY qY (Ty.mk ktY utY rtY otY atY)]) (fun K3 hK3 => ?_) (fun b8 l3 w13 hI3 => ?_)
        · refine Sx.dr 0 H23 [10, 11, 12] [] (LJ := [.blk k3 (.cells #[.n kddZ, .n nadZ, .string nmdZ, .int .i64 nndZ, .slice B2 ksdZ.length cb2] 62), celI Q (a3.add (0 * 5)) 5 (Sx.nC kddX nadX nmdX nndX B3 ksdX cb3), celI Q (a4.add (1 * 5)) 5 (Sx.nC kddY nadY nmdY nndY B4 ksdY cb4)]) (by kernel_rfl) fun w14 H24 => ?_
          refine Sx.tk [(0, none), (1, some (0, [])), (2, none), (3, some (0, []))] (H24.sb [10, 10, 10]) <| Sx.tvi 4 [] a3 0 5 ksdZ.length cb2 ha3 (at_lt hdX) (H24.sb [10, 10, 10]) <| Sx.tvo (c := 5) (t := 62) 5 [] (Sx.nC kddX nadX nmdX nndX B3 ksdX cb3) (Sx.nA kddX nadX nmdX nndX B3 ksdX cb3) (fun w' hs => (cel_sp (Q := Q) (a := a3.add (0 * 5)) (n := 5) (cs := (Sx.nC kddX nadX nmdX nndX B3 ksdX cb3)) hs 1 (by kernel_rfl))) (H24.sb [10, 10, 10]) <| Sx.tk [(7, none), (8, some (0, []))] (H24.sb [10, 10, 10]) <| Sx.tvi 9 [] a4 1 5 ksdZ.length cb2 ha4 (at_lt hdY) (H24.sb [10, 10, 10]) <| Sx.tvo (c := 5) (t := 62) 10 [] (Sx.nC kddY nadY nmdY nndY B4 ksdY cb4) (Sx.nA kddY nadY nmdY nndY B4 ksdY cb4) (fun w' hs => (cel_sp (Q := Q) (a := a4.add (1 * 5)) (n := 5) (cs := (Sx.nC kddY nadY nmdY nndY B4 ksdY cb4)) hs 2 (by kernel_rfl))) (H24.sb [10, 10, 10]) ?_
          refine Sx.tk [(12, none)] (H24.sb [10, 10, 10]) <| Sx.nmx ?_
          intro zx1
          refine Sx.on2 6 14 ?_ ?_
          · refine Sx.c 0 [3] H24 (fun Hp R hZ => (Type_c _) Q kddX nadX nmdX nndX ksdX B3 cb3 w14 R Hp _ hfX (fun S1 p1 w15 G6 => hZ _ _ _ G6 fun H25 => ?_))
            refine Sx.bk (x := zx1) 6 (H25.sb [11, 11, 11]) <| Sx.nmx ?_
            intro zx2
            refine Sx.on2 11 14 ?_ ?_
            · refine Sx.c 0 [3] H25 (fun Hp R hZ => (Type_c _) Q kddY nadY nmdY nndY ksdY B4 cb4 w15 R Hp _ hfY (fun S2 p2 w16 G7 => hZ _ _ _ G7 fun H26 => ?_))
              refine Sx.bk (x := zx2) 11 (H26.sb [12, 12, 12]) <| Sx.tk [(13, none)] (H26.sb [12, 12, 12]) <| Sx.nmx ?_
              intro zx3
              refine Sx.on 14 <| Sx.nw 0 H26 fun k4 w17 H27 => Sx.bk (x := zx3) 14 (H27.sb [12, 12, 12]) <| Sx.nmx ?_
              intro zx4
              refine Sx.on 15 <| Sx.s 0 15 H27 fun w18 H28 => Sx.bk (x := zx4) 15 (H28.sb [12, 12, 12]) <| Sx.dn ?_
              exact Sx.to 0 _ (hK3 _ _ _ ⟨k4, S1, p1, S2, p2, rfl, H28.pk [4, 5, 5, 5, 5, 4, 6, 8, 3, 1]⟩)
            refine Sx.nw 0 H25 fun k5 w19 H30 => Sx.bk (x := zx2) 14 (H30.sb [11, 11, 11]) <| Sx.nmx ?_
            intro zx5
            refine Sx.on 11 ?_
            refine Sx.c 0 [3] H30 (fun Hp R hZ => (Type_c _) Q kddY nadY nmdY nndY ksdY B4 cb4 w19 R Hp _ hfY (fun S3 p3 w20 G8 => hZ _ _ _ G8 fun H31 => ?_))
            refine Sx.bk (x := zx5) 11 (H31.sb [12, 12, 12]) <| Sx.tk [(13, none)] (H31.sb [12, 12, 12]) <| Sx.nmx ?_
            intro zx6
            refine Sx.on 15 <| Sx.s 0 15 H31 fun w21 H32 => Sx.bk (x := zx6) 15 (H32.sb [12, 12, 12]) <| Sx.dn ?_
            exact Sx.to 0 _ (hK3 _ _ _ ⟨k5, S1, p1, S3, p3, rfl, H32.pk [4, 5, 5, 5, 5, 4, 6, 8, 3, 1]⟩)
          refine Sx.nw 0 H24 fun k6 w22 H34 => Sx.bk (x := zx1) 14 (H34.sb [10, 10, 10]) <| Sx.nmx ?_
          intro zx7
          refine Sx.on 6 ?_
          refine Sx.c 0 [3] H34 (fun Hp R hZ => (Type_c _) Q kddX nadX nmdX nndX ksdX B3 cb3 w22 R Hp _ hfX (fun S4 p4 w23 G9 => hZ _ _ _ G9 fun H35 => ?_))
          refine Sx.bk (x := zx7) 6 (H35.sb [11, 11, 11]) <| Sx.nmx ?_
          intro zx8
          refine Sx.on 11 ?_
          refine Sx.c 0 [3] H35 (fun Hp R hZ => (Type_c _) Q kddY nadY nmdY nndY ksdY B4 cb4 w23 R Hp _ hfY (fun S5 p5 w24 G10 => hZ _ _ _ G10 fun H36 => ?_))
          refine Sx.bk (x := zx8) 11 (H36.sb [12, 12, 12]) <| Sx.tk [(13, none)] (H36.sb [12, 12, 12]) <| Sx.nmx ?_
          intro zx9
          refine Sx.on 15 <| Sx.s 0 15 H36 fun w25 H37 => Sx.bk (x := zx9) 15 (H37.sb [12, 12, 12]) <| Sx.dn ?_
          exact Sx.to 0 _ (hK3 _ _ _ ⟨k6, S4, p4, S5, p5, rfl, H37.pk [4, 5, 5, 5, 5, 4, 6, 8, 3, 1]⟩)
        obtain ⟨bnw, SX, qX, SY, qY, rfl, H39⟩ := hI3
        refine Sx.l 4 7 H39 ?_
        refine Sx.c 0 [8] H39 (fun Hp R hZ => (partsT_c _) SX ktX utX rtX otX atX qX w13 R Hp mX hpX (fun w26 G11 => hZ _ _ _ G11 fun H40 => ?_))
        refine Sx.sp 2 85 (decide (((mX : Nat) : Int) > (300 : Int))) (fun h_g85 => ?_) (fun h_g85 => ?_)
        · rw [if_pos (show (300 < mX || 300 < mY) = true from (by have := of_decide_eq_true h_g85; simp; left; omega))] at hop2
          refine Sx.nz 7 (.code (Sx.ct 510461 Tryz.f54)) [.code (Sx.ct 255231 Tryz.f54), .blk 3, .code (Sx.ct 499 Tryz.f54), .to K2, .blk 2] [(0, .p bc), (3, .p k1), (4, .slice Aq nb cq), (6, .n i), (7, .p k3), (9, .p bnw), (90, .bool true)] fun b9 => Sx.l 4 7 H40 ?_
          refine Sx.c 0 [1] H40 (fun Hp R hZ => no_c bc bg eA en ec oA on oc c2.fk c2.fa 10 ((nadZ : Nat) : Int) w26 R Hp  (fun w27 G12 => hZ _ _ _ G12 fun H41 => ?_))
          rw [← (ck_no (c := c2) (kd := 10) (a := ((nadZ : Nat) : Int))).1, ← (ck_no (c := c2) (kd := 10) (a := ((nadZ : Nat) : Int))).2.1] at H41
          refine Sx.dr 2 H41 [0, 8] [10] (LJ := [.blk bc (.cells #[.p bg, .slice eA en ec, .slice oA on oc, .int .i64 (((Ck.no c2 10 ((nadZ : Nat) : Int)).fk : Nat) : Int), .int .i64 ((Ck.no c2 10 ((nadZ : Nat) : Int)).fa)] 115), .blk bnw (.cells #[.string nmdZ, .n ktX, .n utX, .n rtX, .slice qX.A qX.na qX.ca, .slice qX.B qX.nb qX.cb, .n ktY, .n utY, .n rtY, .slice qY.A qY.na qY.ca, .slice qY.B qY.nb qY.cb, .n i] 160)]) (by kernel_rfl) fun w28 H42 => Sx.tk [(0, none), (1, none), (2, none), (3, none), (4, some (0, [7, 8, 9, 10])), (5, some (1, [6, 7, 8, 9, 10]))] (H42.sb [0, 7]) <| Sx.nmx ?_
          intro zx10
          refine Sx.on 6 <| Sx.nw 0 H42 fun k7 w29 H43 => Sx.bk (x := zx10) 6 (H43.sb [0, 7]) <| Sx.nmx ?_
          intro zx11
          refine Sx.on 7 <| Sx.ap 0 2 10 168 1 0 160 12 113 1 k7 oA oc on (opsC ol) [.string nmdZ, .n ktX, .n utX, .n rtX, .slice qX.A qX.na qX.ca, .slice qX.B qX.nb qX.cb, .n ktY, .n utY, .n rtY, .slice qY.A qY.na qY.ca, .slice qY.B qY.nb qY.cb, .n i] H43 (by omega) (by omega) (rec_app ovC ol ((⟨nmdZ, Ty.mk ktX utX rtX otX atX, Ty.mk ktY utY rtY otY atY, i⟩ : Opr), qX, qY)) fun A2 cap2 w30 H44 => Sx.bk (x := zx11) 7 (H44.sb [0, 7]) <| Sx.tk [(8, none), (9, none)] (H44.sb [0, 7]) <| Sx.nmx ?_
          intro zx12
          refine Sx.on 10 <| Sx.s 0 0 H44 fun w31 H45 => Sx.bk (x := zx12) 10 Sx.np <| Sx.dn <| Sx.nz 2 (.code (Sx.ct 499 Tryz.f54)) [.to K2, .blk 2] [(0, .p bc), (3, .p k1), (4, .slice Aq nb cq), (6, .n i)] fun b10 => ?_
          obtain ⟨Lx1, H46, hl1⟩ := tys_join (S := So) (S1 := SX) (S2 := SY) (l := ol) (nm := nmdZ) (ti := Ty.mk ktX utX rtX otX atX) (to := Ty.mk ktY utY rtY otY atY) (n := i) (p := qX) (q := qY) H45 3 1 9 (by kernel_rfl) (by kernel_rfl) (by kernel_rfl)
          obtain ⟨xLx1, rfl⟩ : ∃ x, Lx1 = [x] := by match Lx1, hl1 with | [x], _ => exact ⟨x, rfl⟩
          refine Sx.v 2 (.int .i64 (IntKind.i64.wrap (((i : Nat) : Int) + (1 : Int)))) (.int .i64 ((i + 1 : Nat) : Int)) (congrArg (Value.int .i64) (Gx.i64n (by omega) (by omega))) ?_
          exact Sx.to 2 _ (hK2 _ _ _ _ (by omega) ⟨(i + 1), ({ (Ck.no c2 10 ((nadZ : Nat) : Int)) with ops := c2.ops ++ [⟨nmdZ, Ty.mk ktX utX rtX otX atX, Ty.mk ktY utY rtY otY atY, i⟩] } : Ck), A2, on + 1, cap2, (ol ++ [((⟨nmdZ, Ty.mk ktX utX rtX otX atX, Ty.mk ktY utY rtY otY atY, i⟩ : Opr), qX, qY)]), (fun c => So c ∨ SX c ∨ SY c), rfl, rfl, H46.pk [0, 1, 10, 2, 2, 2], (by omega), hop2, (by rw [List.map_append, hol, ← (rowNames_keeps hr1).2.2, ← (rowNames_keeps hr2).2.2]; rfl), (by omega), ⟨(ck_no.2.2.1.trans ((rowNames_keeps hr2).1.trans ((rowNames_keeps hr1).1.trans hg.1))), (ck_no.2.2.2.1.trans ((rowNames_keeps hr2).2.1.trans ((rowNames_keeps hr1).2.1.trans hg.2)))⟩⟩)
        refine Sx.l 1 8 H40 ?_
        have p_g85 := of_decide_eq_false h_g85
        refine Sx.c 0 [9] H40 (fun Hp R hZ => (partsT_c _) SY ktY utY rtY otY atY qY w26 R Hp mY hpY (fun w32 G13 => hZ _ _ _ G13 fun H48 => ?_))
        refine Sx.nz 4 (.code (Sx.ct 510461 Tryz.f54)) [.code (Sx.ct 255231 Tryz.f54), .blk 3, .code (Sx.ct 499 Tryz.f54), .to K2, .blk 2] [(0, .p bc), (3, .p k1), (4, .slice Aq nb cq), (6, .n i), (7, .p k3), (9, .p bnw), (90, .bool (decide (((mY : Nat) : Int) > (300 : Int))))] fun b11 => ?_
        refine Sx.br 0 (decide (((mY : Nat) : Int) > (300 : Int))) (fun h_c90 => ?_) (fun h_c90 => ?_)
        · rw [if_pos (show (300 < mX || 300 < mY) = true from (by have := of_decide_eq_true h_c90; simp; right; omega))] at hop2
          refine Sx.l 3 8 H48 ?_
          refine Sx.c 0 [2] H48 (fun Hp R hZ => no_c bc bg eA en ec oA on oc c2.fk c2.fa 10 ((nadZ : Nat) : Int) w32 R Hp  (fun w33 G14 => hZ _ _ _ G14 fun H49 => ?_))
          rw [← (ck_no (c := c2) (kd := 10) (a := ((nadZ : Nat) : Int))).1, ← (ck_no (c := c2) (kd := 10) (a := ((nadZ : Nat) : Int))).2.1] at H49
          refine Sx.dr 2 H49 [0, 9] [10] (LJ := [.blk bc (.cells #[.p bg, .slice eA en ec, .slice oA on oc, .int .i64 (((Ck.no c2 10 ((nadZ : Nat) : Int)).fk : Nat) : Int), .int .i64 ((Ck.no c2 10 ((nadZ : Nat) : Int)).fa)] 115), .blk bnw (.cells #[.string nmdZ, .n ktX, .n utX, .n rtX, .slice qX.A qX.na qX.ca, .slice qX.B qX.nb qX.cb, .n ktY, .n utY, .n rtY, .slice qY.A qY.na qY.ca, .slice qY.B qY.nb qY.cb, .n i] 160)]) (by kernel_rfl) fun w34 H50 => Sx.tk [(0, none), (1, none), (2, none), (3, none), (4, some (0, [7, 8, 9, 10])), (5, some (1, [6, 7, 8, 9, 10]))] (H50.sb [0, 8]) <| Sx.nmx ?_
          intro zx13
          refine Sx.on 6 <| Sx.nw 0 H50 fun k8 w35 H51 => Sx.bk (x := zx13) 6 (H51.sb [0, 8]) <| Sx.nmx ?_
          intro zx14
          refine Sx.on 7 <| Sx.ap 0 3 10 168 1 0 160 12 113 1 k8 oA oc on (opsC ol) [.string nmdZ, .n ktX, .n utX, .n rtX, .slice qX.A qX.na qX.ca, .slice qX.B qX.nb qX.cb, .n ktY, .n utY, .n rtY, .slice qY.A qY.na qY.ca, .slice qY.B qY.nb qY.cb, .n i] H51 (by omega) (by omega) (rec_app ovC ol ((⟨nmdZ, Ty.mk ktX utX rtX otX atX, Ty.mk ktY utY rtY otY atY, i⟩ : Opr), qX, qY)) fun A3 cap3 w36 H52 => Sx.bk (x := zx14) 7 (H52.sb [0, 8]) <| Sx.tk [(8, none), (9, none)] (H52.sb [0, 8]) <| Sx.nmx ?_
          intro zx15
          refine Sx.on 10 <| Sx.s 0 0 H52 fun w37 H53 => Sx.bk (x := zx15) 10 Sx.np <| Sx.dn <| Sx.nz 2 (.code (Sx.ct 499 Tryz.f54)) [.to K2, .blk 2] [(0, .p bc), (3, .p k1), (4, .slice Aq nb cq), (6, .n i)] fun b12 => ?_
          obtain ⟨Lx2, H54, hl2⟩ := tys_join (S := So) (S1 := SX) (S2 := SY) (l := ol) (nm := nmdZ) (ti := Ty.mk ktX utX rtX otX atX) (to := Ty.mk ktY utY rtY otY atY) (n := i) (p := qX) (q := qY) H53 4 2 1 (by kernel_rfl) (by kernel_rfl) (by kernel_rfl)
          obtain ⟨xLx2, rfl⟩ : ∃ x, Lx2 = [x] := by match Lx2, hl2 with | [x], _ => exact ⟨x, rfl⟩
          refine Sx.v 2 (.int .i64 (IntKind.i64.wrap (((i : Nat) : Int) + (1 : Int)))) (.int .i64 ((i + 1 : Nat) : Int)) (congrArg (Value.int .i64) (Gx.i64n (by omega) (by omega))) ?_
          exact Sx.to 2 _ (hK2 _ _ _ _ (by omega) ⟨(i + 1), ({ (Ck.no c2 10 ((nadZ : Nat) : Int)) with ops := c2.ops ++ [⟨nmdZ, Ty.mk ktX utX rtX otX atX, Ty.mk ktY utY rtY otY atY, i⟩] } : Ck), A3, on + 1, cap3, (ol ++ [((⟨nmdZ, Ty.mk ktX utX rtX otX atX, Ty.mk ktY utY rtY otY atY, i⟩ : Opr), qX, qY)]), (fun c => So c ∨ SX c ∨ SY c), rfl, rfl, H54.pk [0, 2, 10, 3, 3, 3], (by omega), hop2, (by rw [List.map_append, hol, ← (rowNames_keeps hr1).2.2, ← (rowNames_keeps hr2).2.2]; rfl), (by omega), ⟨(ck_no.2.2.1.trans ((rowNames_keeps hr2).1.trans ((rowNames_keeps hr1).1.trans hg.1))), (ck_no.2.2.2.1.trans ((rowNames_keeps hr2).2.1.trans ((rowNames_keeps hr1).2.1.trans hg.2)))⟩⟩)
        rw [if_neg (show ¬ (300 < mX || 300 < mY) = true by have q1 := of_decide_eq_false h_g85; have q2 := of_decide_eq_false h_c90; simp; omega)] at hop2
        refine Sx.nz 2 (.code (Sx.ct 255231 Tryz.f54)) [.blk 3, .code (Sx.ct 499 Tryz.f54), .to K2, .blk 2] [(0, .p bc), (3, .p k1), (4, .slice Aq nb cq), (6, .n i), (9, .p bnw)] fun b13 => Sx.dr 0 H48 [2, 9] [10] (LJ := [Sx.cB bc bg eA en ec oA on oc c2.fk c2.fa, .blk bnw (.cells #[.string nmdZ, .n ktX, .n utX, .n rtX, .slice qX.A qX.na qX.ca, .slice qX.B qX.nb qX.cb, .n ktY, .n utY, .n rtY, .slice qY.A qY.na qY.ca, .slice qY.B qY.nb qY.cb, .n i] 160)]) (by kernel_rfl) fun w38 H56 => Sx.tk [(0, none), (1, none), (2, none), (3, none), (4, some (0, [7, 8, 9, 10])), (5, some (1, [6, 7, 8, 9, 10]))] (H56.sb [2, 8]) <| Sx.nmx ?_
        intro zx16
        refine Sx.on 6 <| Sx.nw 0 H56 fun k9 w39 H57 => Sx.bk (x := zx16) 6 (H57.sb [2, 8]) <| Sx.nmx ?_
        intro zx17
        refine Sx.on 7 <| Sx.ap 0 3 10 168 1 0 160 12 113 1 k9 oA oc on (opsC ol) [.string nmdZ, .n ktX, .n utX, .n rtX, .slice qX.A qX.na qX.ca, .slice qX.B qX.nb qX.cb, .n ktY, .n utY, .n rtY, .slice qY.A qY.na qY.ca, .slice qY.B qY.nb qY.cb, .n i] H57 (by omega) (by omega) (rec_app ovC ol ((⟨nmdZ, Ty.mk ktX utX rtX otX atX, Ty.mk ktY utY rtY otY atY, i⟩ : Opr), qX, qY)) fun A4 cap4 w40 H58 => Sx.bk (x := zx17) 7 (H58.sb [2, 8]) <| Sx.tk [(8, none), (9, none)] (H58.sb [2, 8]) <| Sx.nmx ?_
        intro zx18
        refine Sx.on 10 <| Sx.s 0 2 H58 fun w41 H59 => Sx.bk (x := zx18) 10 Sx.np <| Sx.dn <| Sx.nz 2 (.code (Sx.ct 499 Tryz.f54)) [.to K2, .blk 2] [(0, .p bc), (3, .p k1), (4, .slice Aq nb cq), (6, .n i)] fun b14 => ?_
        obtain ⟨Lx3, H60, hl3⟩ := tys_join (S := So) (S1 := SX) (S2 := SY) (l := ol) (nm := nmdZ) (ti := Ty.mk ktX utX rtX otX atX) (to := Ty.mk ktY utY rtY otY atY) (n := i) (p := qX) (q := qY) H59 4 1 0 (by kernel_rfl) (by kernel_rfl) (by kernel_rfl)
        obtain ⟨xLx3, rfl⟩ : ∃ x, Lx3 = [x] := by match Lx3, hl3 with | [x], _ => exact ⟨x, rfl⟩
        refine Sx.v 2 (.int .i64 (IntKind.i64.wrap (((i : Nat) : Int) + (1 : Int)))) (.int .i64 ((i + 1 : Nat) : Int)) (congrArg (Value.int .i64) (Gx.i64n (by omega) (by omega))) ?_
        exact Sx.to 2 _ (hK2 _ _ _ _ (by omega) ⟨(i + 1), ({ c2 with ops := c2.ops ++ [⟨nmdZ, Ty.mk ktX utX rtX otX atX, Ty.mk ktY utY rtY otY atY, i⟩] } : Ck), A4, on + 1, cap4, (ol ++ [((⟨nmdZ, Ty.mk ktX utX rtX otX atX, Ty.mk ktY utY rtY otY atY, i⟩ : Opr), qX, qY)]), (fun c => So c ∨ SX c ∨ SY c), rfl, rfl, H60.pk [2, 2, 10, 3, 3, 3], (by omega), hop2, (by rw [List.map_append, hol, ← (rowNames_keeps hr1).2.2, ← (rowNames_keeps hr2).2.2]; rfl), (by omega), ⟨((rowNames_keeps hr2).1.trans ((rowNames_keeps hr1).1.trans hg.1)), ((rowNames_keeps hr2).2.1.trans ((rowNames_keeps hr1).2.1.trans hg.2))⟩⟩)
      obtain ⟨ox1, ⟨⟨xn1, ⟨ki1, ui1, ri1, oi1, ai1⟩, ⟨ko1, uo1, ro1, oo1, ao1⟩, xq1⟩, pi1, po1⟩, hix1, hxm1, rfl⟩ := opIx_some (l := ol) (by rw [hol]; exact hop1)
      have hlt1 := len_ops (e := 160) (n := on) (cap := oc) (A := oA) (l := ol) H17 1 (by kernel_rfl) hxm1
      obtain ⟨wr1, rfl⟩ := H17.row 1 (A := oA) (e := 160) (sz := 12) (cap := oc) (n := on) (xs := (opsC ol)) (by kernel_rfl) (by omega)
      have hc' := ho1 _ hop1
      rw [no_eq h0] at hc'
      subst hc'
      refine Sx.c 0 [0, 0] H17 (fun Hp R hZ => op_c bc bg eA en ec (some ⟨wr1, 0, none⟩) on oc cc.fk cc.fa ol nmdZ w8 R Hp (some ox1) hix1 hon (fun w42 G15 => hZ _ _ _ G15 fun H62 => ?_))
      refine Sx.nz 3 (.code (Sx.ct 3987 Tryz.f54)) [.blk 3, .code (Sx.ct 499 Tryz.f54), .to K2, .blk 2] [(0, .p bc), (3, .p k1), (4, .slice Aq nb cq), (6, .n i), (7, .p k3), (8, .pointer (some (⟨wr1, ox1 * 12, none⟩)))] fun b15 => Sx.l 12 8 H62 ?_
      refine Sx.c 0 [0] H62 (fun Hp R hZ => no_c bc bg eA en ec (some ⟨wr1, 0, none⟩) on oc cc.fk cc.fa 7 ((nadZ : Nat) : Int) w42 R Hp  (fun w43 G16 => hZ _ _ _ G16 fun H63 => ?_))
      rw [if_pos h0, if_pos h0] at H63
      refine Sx.rt 8 [] H63 (.tuple #[]) ?_
      subst hL0
      exact hK (some ⟨wr1, 0, none⟩) on oc ol So _ (H63.pk [0, 0, 0, 0]) (by first | exact hol | (rw [hol]; exact ((rowNames_keeps hr1).2.2.symm.trans (rowNames_keeps hr2).2.2.symm))) (by omega) (by first | exact hg | exact ⟨(rowNames_keeps hr2).1.trans ((rowNames_keeps hr1).1.trans hg.1), (rowNames_keeps hr2).2.1.trans ((rowNames_keeps hr1).2.1.trans hg.2)⟩)
    have p_c32 := h_c32; try simp [-List.getD_eq_getElem?_getD] at p_c32
    obtain ⟨dZ, hdZ⟩ := some_at (l := ks) (i := i) (by omega)
    obtain ⟨hz1, hz2⟩ := ops_step hop (take_at hdZ (show i < nb by omega))
    obtain rfl := hz1 (by simpa using h_c32)
    refine Sx.rt 4 [] H14 (.tuple #[]) ?_
    subst hL0
    exact hK oA on oc ol So _ (H14.pk [0, 0, 0, 0]) (by first | exact hol | (rw [hol]; exact ((rowNames_keeps hr1).2.2.symm.trans (rowNames_keeps hr2).2.2.symm))) (by omega) (by first | exact hg | exact ⟨(rowNames_keeps hr2).1.trans ((rowNames_keeps hr1).1.trans hg.1), (rowNames_keeps hr2).2.1.trans ((rowNames_keeps hr1).2.1.trans hg.2)⟩)
  have p_g29 := of_decide_eq_false h_g29
  obtain rfl := ops_nil hop (List.drop_of_length_le (by rw [List.length_take]; omega))
  refine Sx.nz 5 (.code (Sx.ct 497 Tryz.f54)) [.code (Sx.ct 249 Tryz.f54), .to K2, .blk 2] [(0, .p bc), (3, .p k1), (4, .slice Aq nb cq), (6, .n i), (32, .bool false)] fun b16 => Sx.rt 5 [] H13 (.tuple #[]) ?_
  subst hL0
  exact hK oA on oc ol So _ (H13.pk [0, 0, 0, 0]) (by first | exact hol | (rw [hol]; exact ((rowNames_keeps hr1).2.2.symm.trans (rowNames_keeps hr2).2.2.symm))) (by omega) (by first | exact hg | exact ⟨(rowNames_keeps hr2).1.trans ((rowNames_keeps hr1).1.trans hg.1), (rowNames_keeps hr2).2.1.trans ((rowNames_keeps hr1).2.1.trans hg.2)⟩)
end Go.Proofs.YtdmdecgoebnamaaGreat
