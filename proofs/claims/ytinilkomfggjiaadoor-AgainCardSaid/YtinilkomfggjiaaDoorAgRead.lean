/- What is written of a tree is read as that tree: plain laws. -/
import Derived.Test.YtinilkomfggjiaaDoorZk
import Derived.Test.YtinilkomfggjiaaDoorAgTw
set_option linter.unusedVariables false
set_option linter.unusedSimpArgs false
namespace Go.Ag
open Go.Gx (byteAt)
open Go.Lex Go.Syn
mutual
inductive Sm : Nd → Nd → Prop
  | mk {k a a' : Nat} {nm : ByteArray} {n : Int} {ks ks' : List Nd} : SmL ks ks' → Sm (.mk k a nm n ks) (.mk k a' nm n ks')
inductive SmL : List Nd → List Nd → Prop
  | nil : SmL [] []
  | cons {x x' : Nd} {r r' : List Nd} : Sm x x' → SmL r r' → SmL (x :: r) (x' :: r')
end
mutual
def hgt : Nd → Nat
  | .mk _ _ _ _ ks => hgtL ks + 1
def hgtL : List Nd → Nat
  | [] => 0
  | x :: r => max (hgt x) (hgtL r)
end
theorem Sm.k {t t' : Nd} (h : Sm t t') : t'.k = t.k := by cases h; rfl
theorem Sm.nm {t t' : Nd} (h : Sm t t') : t'.nm = t.nm := by cases h; rfl
theorem Sm.lvl {t t' : Nd} (h : Sm t t') : lvl t' = lvl t := by unfold Syn.lvl; rw [h.k, h.nm]
theorem Sm.inL {t t' : Nd} (h : Sm t t') (l : Int) (ls : List Tk) : inL l t' ls = inL l t ls := by unfold Ag.inL; rw [h.lvl]
theorem SmL.app : ∀ {l l' m m' : List Nd}, SmL l l' → SmL m m' → SmL (l ++ m) (l' ++ m')
  | [], _, _, _, h, g => by cases h; exact g
  | x :: r, _, _, _, h, g => by cases h with | cons h1 h2 => exact .cons h1 (SmL.app h2 g)
theorem SmL.at_ : ∀ {l l' : List Nd}, SmL l l' → l.length = l'.length ∧ ∀ i, i < l.length → Sm (l.getD i nd0) (l'.getD i nd0)
  | [], _, h => by cases h; exact ⟨rfl, fun i hi => absurd hi (Nat.not_lt_zero i)⟩
  | x :: r, _, h => by
    cases h with
    | cons h1 h2 =>
      have g := SmL.at_ h2
      refine ⟨by simp [g.1], fun i hi => ?_⟩
      cases i with
      | zero => exact h1
      | succ i => exact g.2 i (by simpa using hi)
def isSb (c : Tk) (s : ByteArray) : Bool := ((((c.1 : Nat) : Int) == (3 : Int)) || (((c.1 : Nat) : Int) == (4 : Int))) && (c.2.1.toList == s.toList)
def begT (c : Tk) : Bool := (((c.1 : Nat) : Int) == (2 : Int)) || (((c.1 : Nat) : Int) == (1 : Int)) || isSb c Z.k29 || isSb c Z.k13 || isSb c Z.k14 || isSb c Z.k4 || isSb c Z.k18
def FT (_ : Tk) : Bool := true
def F5 (c : Tk) : Bool := !begT c
def F4 (c : Tk) : Bool := F5 c && !isSb c Z.k6
def F3 (c : Tk) : Bool := F4 c && (!isSb c Z.k10 && !isSb c Z.k5)
def F2 (c : Tk) : Bool := F3 c && !isSb c Z.k9
def F1 (c : Tk) : Bool := F2 c && (!isSb c Z.k8 && !isSb c Z.k17)
def F0 (c : Tk) : Bool := F1 c && !isSb c Z.k48
def T2 (c : Tk) : Bool := !isSb c Z.k41
def T1 (c : Tk) : Bool := T2 c && !isSb c Z.k6
def T0 (c : Tk) : Bool := T1 c && (!isSb c Z.k15 && !isSb c Z.k5)
def A1 (c : Tk) : Bool := begT c || isSb c Z.k38 || isSb c Z.k36 || isSb c Z.k37
section
variable {S : ByteArray} {q : Rs} {c : Tk} {r : List Tk}
theorem St.isb (h : St S q (c :: r)) (s : ByteArray) : isB q s = isSb c s := by
  obtain ⟨h1, h2, h3⟩ := St.head (k := c.1) (t := c.2.1) (n := c.2.2) h
  unfold isB isSb
  rw [h.ok, h1, h2, Bool.true_and]
theorem St.isn (h : St S q (c :: r)) : isNameB q = (((c.1 : Nat) : Int) == (2 : Int)) := by
  obtain ⟨h1, h2, h3⟩ := St.head (k := c.1) (t := c.2.1) (n := c.2.2) h
  unfold isNameB
  rw [h.ok, h1, Bool.true_and]
theorem St.beg (h : St S q (c :: r)) : begB q = begT c := by
  obtain ⟨h1, h2, h3⟩ := St.head (k := c.1) (t := c.2.1) (n := c.2.2) h
  unfold begB begT
  rw [h.ok, h1, h.isb, h.isb, h.isb, h.isb, h.isb, Bool.true_and]
theorem St.step (h : St S q (c :: r)) (hc : c.1 ≠ 0) : ∃ q1, nextR S q = q1 ∧ St S q1 r ∧ q1.x = q.x ∧ q1.y = q.y :=
  ⟨_, rfl, St.next (k := c.1) (t := c.2.1) (n := c.2.2) h hc⟩
theorem St.eat (h : St S q (c :: r)) (s : ByteArray) (hc : isSb c s = true) : ∃ q1, isB q s = true ∧ hasR S q s = q1 ∧ mustR S q s = q1 ∧ nextR S q = q1 ∧ St S q1 r ∧ q1.x = q.x ∧ q1.y = q.y := by
  have hk : c.1 ≠ 0 := fun e => by unfold isSb at hc; rw [e] at hc; simp at hc
  obtain ⟨q1, e1, s1, x1, y1⟩ := h.step hk
  have i : isB q s = true := by rw [h.isb]; exact hc
  exact ⟨q1, i, by unfold hasR; rw [if_pos i]; exact e1, by unfold mustR; rw [if_pos i]; exact e1, e1, s1, x1, y1⟩
theorem St.no (h : St S q (c :: r)) (s : ByteArray) (hc : isSb c s = false) : isB q s = false ∧ hasR S q s = q := by
  have i : isB q s = false := by rw [h.isb]; exact hc
  exact ⟨i, by unfold hasR; rw [i, if_neg (by decide)]⟩
theorem St.nm {t : ByteArray} (h : St S q (nmT t :: r)) : ∃ q1, isNameB q = true ∧ nameR S q = ((t, q.a), q1) ∧ nextR S q = q1 ∧ St S q1 r ∧ q1.x = q.x ∧ q1.y = q.y := by
  obtain ⟨q1, e1, s1, x1, y1⟩ := h.step (by simp)
  obtain ⟨h1, h2, h3⟩ := St.head (k := 2) (t := t) (n := 0) h
  have i : isNameB q = true := by rw [h.isn]; rfl
  exact ⟨q1, i, by unfold nameR; rw [if_pos i, e1, h2], e1, s1, x1, y1⟩
end
structure Res (W : Nd → List Tk → Prop) (S : ByteArray) (q : Rs) (c : Tk) (rest : List Tk) (t : Nd) (L : List Tk) (t' : Nd) (q' : Rs) : Prop where
  st : St S q' (c :: rest)
  x : q'.x = q.x
  y : q'.y = q.y
  tw : W t' L
  sm : Sm t t'
def Rd (W : Nd → List Tk → Prop) (u : Rs → Nat) (nt : NT) (rk : Nat) (F : Tk → Bool) (d : Nat) (t : Nd) (L Lc : List Tk) : Prop :=
  ∀ (S : ByteArray) (k : Nat) (q : Rs) (c : Tk) (rest : List Tk), 16 * Lc.length + rk ≤ k → St S q (Lc ++ c :: rest) → F c = true → u q + d ≤ 201 → ∃ t' q', run S k nt q = (t', q') ∧ Res W S q c rest t L t' q'
def Acc (W : Nd → List Tk → Prop) (u : Rs → Nat) (nt : NT) (nl : Nd → NT) (rk : Nat) (F : Tk → Bool) (d : Nat) (t : Nd) (L Lc : List Tk) : Prop :=
  ∀ (S : ByteArray) (k : Nat) (q : Rs) (c : Tk) (rest : List Tk), 16 * Lc.length + rk ≤ k → St S q (Lc ++ c :: rest) → F c = true → u q + d ≤ 201 → ∃ t' q' j, k ≤ j + 16 * Lc.length ∧ run S k nt q = run S j (nl t') q' ∧ Res W S q c rest t L t' q'
theorem Rd.mono {W : Nd → List Tk → Prop} {u : Rs → Nat} {nt : NT} {rk : Nat} {F : Tk → Bool} {d d' : Nat} {t : Nd} {L Lc : List Tk} (h : Rd W u nt rk F d t L Lc) (hd : d ≤ d') : Rd W u nt rk F d' t L Lc :=
  fun S k q c rest hk hs hf hx => h S k q c rest hk hs hf (by omega)
theorem Acc.mono {W : Nd → List Tk → Prop} {u : Rs → Nat} {nt : NT} {nl : Nd → NT} {rk : Nat} {F : Tk → Bool} {d d' : Nat} {t : Nd} {L Lc : List Tk} (h : Acc W u nt nl rk F d t L Lc) (hd : d ≤ d') : Acc W u nt nl rk F d' t L Lc :=
  fun S k q c rest hk hs hf hx => h S k q c rest hk hs hf (by omega)
abbrev xx : Rs → Nat := fun q => q.x
abbrev yy : Rs → Nat := fun q => q.y
theorem f45 {c : Tk} (h : F4 c = true) : F5 c = true ∧ isSb c Z.k6 = false := by unfold F4 at h; simpa using h
theorem f34 {c : Tk} (h : F3 c = true) : F4 c = true ∧ isSb c Z.k10 = false ∧ isSb c Z.k5 = false := by unfold F3 at h; simpa using h
theorem f23 {c : Tk} (h : F2 c = true) : F3 c = true ∧ isSb c Z.k9 = false := by unfold F2 at h; simpa using h
theorem f12 {c : Tk} (h : F1 c = true) : F2 c = true ∧ isSb c Z.k8 = false ∧ isSb c Z.k17 = false := by unfold F1 at h; simpa using h
theorem f01 {c : Tk} (h : F0 c = true) : F1 c = true ∧ isSb c Z.k48 = false := by unfold F0 at h; simpa using h
theorem t12 {c : Tk} (h : T1 c = true) : T2 c = true ∧ isSb c Z.k6 = false := by unfold T1 at h; simpa using h
theorem t01 {c : Tk} (h : T0 c = true) : T1 c = true ∧ isSb c Z.k15 = false ∧ isSb c Z.k5 = false := by unfold T0 at h; simpa using h
theorem f5b {c : Tk} (h : F5 c = true) : begT c = false := by unfold F5 at h; simpa using h
theorem sb_ne {c : Tk} {s s' : ByteArray} (h : isSb c s = true) (hn : (s.toList == s'.toList) = false) : isSb c s' = false := by
  unfold isSb at h ⊢
  simp only [Bool.and_eq_true, beq_iff_eq] at h
  rw [h.2, hn, Bool.and_false]
theorem sb_kind {c : Tk} {s : ByteArray} (h : c.1 ≠ 3) (h4 : c.1 ≠ 4) : isSb c s = false := by
  unfold isSb
  have h1 : (((c.1 : Nat) : Int) == (3 : Int)) = false := by simp; omega
  have h2 : (((c.1 : Nat) : Int) == (4 : Int)) = false := by simp; omega
  rw [h1, h2]; rfl
theorem beg_no {c : Tk} {s : ByteArray} (h : begT c = true) (h1 : (Z.k29.toList == s.toList) = false) (h2 : (Z.k13.toList == s.toList) = false) (h3 : (Z.k14.toList == s.toList) = false) (h4 : (Z.k4.toList == s.toList) = false) (h5 : (Z.k18.toList == s.toList) = false) : isSb c s = false := by
  unfold begT at h
  simp only [Bool.or_eq_true, beq_iff_eq] at h
  rcases h with (((((h | h) | h) | h) | h) | h) | h
  · exact sb_kind (by omega) (by omega)
  · exact sb_kind (by omega) (by omega)
  · exact sb_ne h h1
  · exact sb_ne h h2
  · exact sb_ne h h3
  · exact sb_ne h h4
  · exact sb_ne h h5
theorem a1_no {c : Tk} {s : ByteArray} (h : A1 c = true) (h1 : (Z.k29.toList == s.toList) = false) (h2 : (Z.k13.toList == s.toList) = false) (h3 : (Z.k14.toList == s.toList) = false) (h4 : (Z.k4.toList == s.toList) = false) (h5 : (Z.k18.toList == s.toList) = false)
    (h6 : (Z.k38.toList == s.toList) = false) (h7 : (Z.k36.toList == s.toList) = false) (h8 : (Z.k37.toList == s.toList) = false) : isSb c s = false := by
  unfold A1 at h
  simp only [Bool.or_eq_true] at h
  rcases h with ((h | h) | h) | h
  · exact beg_no h h1 h2 h3 h4 h5
  · exact sb_ne h h6
  · exact sb_ne h h7
  · exact sb_ne h h8
section
variable {d : Nat} {t : Nd} {L Lc : List Tk}
theorem app_of_atom {h0 : Tk} {l0 : List Tk} (hL : Lc = h0 :: l0) (hb : begT h0 = true) (h : Rd Tw xx .atom 3 FT d t L Lc) : Acc Tw xx .app .appL 5 FT d t L Lc := by
  intro S k q c rest hk hs hf hx
  obtain ⟨k1, rfl⟩ : ∃ k1, k = k1 + 1 := ⟨k - 1, by omega⟩
  obtain ⟨t', q', e1, r1⟩ := h S k1 q c rest (by omega) hs hf hx
  subst hL
  have n1 := hs.no Z.k38 (beg_no hb (by decide +kernel) (by decide +kernel) (by decide +kernel) (by decide +kernel) (by decide +kernel) : isSb _ Z.k38 = false); have n2 := hs.no Z.k36 (beg_no hb (by decide +kernel) (by decide +kernel) (by decide +kernel) (by decide +kernel) (by decide +kernel) : isSb _ Z.k36 = false); have n3 := hs.no Z.k37 (beg_no hb (by decide +kernel) (by decide +kernel) (by decide +kernel) (by decide +kernel) (by decide +kernel) : isSb _ Z.k37 = false)
  exact ⟨t', q', k1, by simp only [List.length_cons]; omega, by rw [run_succ]; simp only [stepN, appS, n1.1, n1.2, n2.1, n2.2, n3.1, n3.2, e1, Bool.false_eq_true, if_false, reduceIte], r1⟩
theorem rd_app (h : Acc Tw xx .app .appL 5 FT d t L Lc) : Rd Tw xx .app 5 F5 d t L Lc := by
  intro S k q c rest hk hs hf hx
  obtain ⟨t', q', j, hj, e1, r1⟩ := h S k q c rest hk hs rfl hx
  obtain ⟨j1, rfl⟩ : ∃ j1, j = j1 + 1 := ⟨j - 1, by omega⟩
  have b : begB q' = false := by rw [r1.st.beg]; exact f5b hf
  exact ⟨t', q', by rw [e1, run_succ]; simp only [stepN, appLS, b, Bool.false_eq_true, if_false, reduceIte], r1⟩
theorem mul_of_app (hl : Lc ≠ []) (h : Rd Tw xx .app 5 F5 d t L Lc) : Acc Tw xx .mul .mulL 6 F5 d t L Lc := by
  intro S k q c rest hk hs hf hx
  obtain ⟨k1, rfl⟩ : ∃ k1, k = k1 + 1 := ⟨k - 1, by omega⟩
  obtain ⟨t', q', e1, r1⟩ := h S k1 q c rest (by omega) hs hf hx
  have := List.length_pos_iff.2 hl
  exact ⟨t', q', k1, by omega, by rw [run_succ]; simp only [stepN, mulS, e1], r1⟩
theorem rd_mul (h : Acc Tw xx .mul .mulL 6 F5 d t L Lc) : Rd Tw xx .mul 6 F4 d t L Lc := by
  intro S k q c rest hk hs hf hx
  obtain ⟨t', q', j, hj, e1, r1⟩ := h S k q c rest hk hs (f45 hf).1 hx
  obtain ⟨j1, rfl⟩ : ∃ j1, j = j1 + 1 := ⟨j - 1, by omega⟩
  have b := r1.st.no Z.k6 (f45 hf).2
  exact ⟨t', q', by rw [e1, run_succ]; simp only [stepN, mulLS, b.1, b.2, Bool.false_eq_true, if_false, reduceIte], r1⟩
theorem sum_of_mul (hl : Lc ≠ []) (h : Rd Tw xx .mul 6 F4 d t L Lc) : Acc Tw xx .sum .sumL 7 F4 d t L Lc := by
  intro S k q c rest hk hs hf hx
  obtain ⟨k1, rfl⟩ : ∃ k1, k = k1 + 1 := ⟨k - 1, by omega⟩
  obtain ⟨t', q', e1, r1⟩ := h S k1 q c rest (by omega) hs hf hx
  have := List.length_pos_iff.2 hl
  exact ⟨t', q', k1, by omega, by rw [run_succ]; simp only [stepN, sumS, e1], r1⟩
theorem rd_sum (h : Acc Tw xx .sum .sumL 7 F4 d t L Lc) : Rd Tw xx .sum 7 F3 d t L Lc := by
  intro S k q c rest hk hs hf hx
  obtain ⟨t', q', j, hj, e1, r1⟩ := h S k q c rest hk hs (f34 hf).1 hx
  obtain ⟨j1, rfl⟩ : ∃ j1, j = j1 + 1 := ⟨j - 1, by omega⟩
  have b := r1.st.no Z.k10 (f34 hf).2.1; have b2 := r1.st.no Z.k5 (f34 hf).2.2
  exact ⟨t', q', by rw [e1, run_succ]; simp only [stepN, sumLS, b.1, b.2, b2.1, b2.2, Bool.false_eq_true, if_false, reduceIte], r1⟩
theorem cons_of_sum (h : Rd Tw xx .sum 7 F3 d t L Lc) : Rd Tw xx .cons 8 F2 d t L Lc := by
  intro S k q c rest hk hs hf hx
  obtain ⟨k1, rfl⟩ : ∃ k1, k = k1 + 1 := ⟨k - 1, by omega⟩
  obtain ⟨t', q', e1, r1⟩ := h S k1 q c rest (by omega) hs (f23 hf).1 hx
  have b := r1.st.no Z.k9 (f23 hf).2
  exact ⟨t', q', by rw [run_succ]; simp only [stepN, consS, e1, b.1, b.2, Bool.false_eq_true, if_false, reduceIte], r1⟩
theorem comp_of_cons (h : Rd Tw xx .cons 8 F2 d t L Lc) : Rd Tw xx .comp 9 F1 d t L Lc := by
  intro S k q c rest hk hs hf hx
  obtain ⟨k1, rfl⟩ : ∃ k1, k = k1 + 1 := ⟨k - 1, by omega⟩
  obtain ⟨t', q', e1, r1⟩ := h S k1 q c rest (by omega) hs (f12 hf).1 hx
  have b := r1.st.no Z.k8 (f12 hf).2.1; have b2 := r1.st.no Z.k17 (f12 hf).2.2
  exact ⟨t', q', by rw [run_succ]; simp only [stepN, compS, e1, b.1, b.2, b2.1, b2.2, Bool.false_eq_true, if_false, reduceIte], r1⟩
theorem any_plain {S : ByteArray} {k : Nat} {q : Rs} {h0 : Tk} {l0 : List Tk} (hs : St S q (h0 :: l0)) (hb : A1 h0 = true) :
    run S (k + 1) .any q = (if isB (run S k .comp q).2 Z.k48 = true then (.mk 10 (run S k .comp q).1.a Z.E 0 [(run S k .comp q).1, (run S k .expr (hasR S (run S k .comp q).2 Z.k48)).1], (run S k .expr (hasR S (run S k .comp q).2 Z.k48)).2) else ((run S k .comp q).1, hasR S (run S k .comp q).2 Z.k48)) := by
  have n1 := hs.no Z.k12 (a1_no hb (by decide +kernel) (by decide +kernel) (by decide +kernel) (by decide +kernel) (by decide +kernel) (by decide +kernel) (by decide +kernel) (by decide +kernel) : isSb _ Z.k12 = false); have n2 := hs.no Z.k25 (a1_no hb (by decide +kernel) (by decide +kernel) (by decide +kernel) (by decide +kernel) (by decide +kernel) (by decide +kernel) (by decide +kernel) (by decide +kernel) : isSb _ Z.k25 = false); have n3 := hs.no Z.k28 (a1_no hb (by decide +kernel) (by decide +kernel) (by decide +kernel) (by decide +kernel) (by decide +kernel) (by decide +kernel) (by decide +kernel) (by decide +kernel) : isSb _ Z.k28 = false); have n4 := hs.no Z.k32 (a1_no hb (by decide +kernel) (by decide +kernel) (by decide +kernel) (by decide +kernel) (by decide +kernel) (by decide +kernel) (by decide +kernel) (by decide +kernel) : isSb _ Z.k32 = false); have n5 := hs.no Z.k27 (a1_no hb (by decide +kernel) (by decide +kernel) (by decide +kernel) (by decide +kernel) (by decide +kernel) (by decide +kernel) (by decide +kernel) (by decide +kernel) : isSb _ Z.k27 = false); have n6 := hs.no Z.k33 (a1_no hb (by decide +kernel) (by decide +kernel) (by decide +kernel) (by decide +kernel) (by decide +kernel) (by decide +kernel) (by decide +kernel) (by decide +kernel) : isSb _ Z.k33 = false)
  rw [run_succ]
  simp only [stepN, anyS, n1.1, n1.2, n2.1, n2.2, n3.1, n3.2, n4.1, n4.2, n5.1, n5.2, n6.1, n6.2, Bool.false_eq_true, if_false, reduceIte]
theorem any_of_comp {h0 : Tk} {l0 : List Tk} (hL : Lc = h0 :: l0) (hb : A1 h0 = true) (h : Rd Tw xx .comp 9 F1 d t L Lc) : Rd Tw xx .any 10 F0 d t L Lc := by
  intro S k q c rest hk hs hf hx
  obtain ⟨k1, rfl⟩ : ∃ k1, k = k1 + 1 := ⟨k - 1, by omega⟩
  obtain ⟨t', q', e1, r1⟩ := h S k1 q c rest (by omega) hs (f01 hf).1 hx
  have b := r1.st.no Z.k48 (f01 hf).2
  subst hL
  exact ⟨t', q', by rw [any_plain hs hb, e1]; simp only [b.1, b.2, Bool.false_eq_true, if_false, reduceIte], r1⟩
theorem expr_of_any (hd0 : 0 < d) (h : Rd Tw xx .any 10 F0 d t L Lc) : Rd Tw xx .expr 11 F0 (d + 1) t L Lc := by
  intro S k q c rest hk hs hf hx
  obtain ⟨k1, rfl⟩ : ∃ k1, k = k1 + 1 := ⟨k - 1, by omega⟩
  have hx' : q.x + (d + 1) ≤ 201 := hx
  obtain ⟨t', q', e1, r1⟩ := h S k1 { q with x := q.x + 1 } c rest (by omega) (hs.xy rfl rfl rfl rfl rfl) hf (by show q.x + 1 + d ≤ 201; omega)
  have hx1 : q'.x = q.x + 1 := r1.x
  by_cases hq : decide (((q.x : Nat) : Int) ≥ (200 : Int)) = true
  · have := of_decide_eq_true hq; omega
  · exact ⟨t', { q' with x := q'.x - 1 }, by rw [run_succ]; simp only [stepN, exprS, hs.ok, hq, e1, Bool.false_eq_true, if_true, if_false, reduceIte], ⟨r1.st.xy rfl rfl rfl rfl rfl, by show q'.x - 1 = q.x; omega, r1.y, r1.tw, r1.sm⟩⟩
end
structure Hd (t : Nd) (L : List Tk) : Prop where
  hd : ∃ h0 l0, L = h0 :: l0 ∧ isSb h0 Z.k2 = false ∧ (1 ≤ lvl t → A1 h0 = true) ∧ (6 ≤ lvl t ∨ t.k = 8 → begT h0 = true)
theorem beg_a1 {c : Tk} (h : begT c = true) : A1 c = true := by unfold A1; rw [h]; rfl
theorem beg_cp {c : Tk} (hb : begT c = true) : isSb c Z.k2 = false := (beg_no hb (by decide +kernel) (by decide +kernel) (by decide +kernel) (by decide +kernel) (by decide +kernel) : isSb _ Z.k2 = false)
theorem hd_inL {k : Int} {x : Nd} {lx : List Tk} (h : Hd x lx) : ∃ h0 l0, inL k x lx = h0 :: l0 ∧ isSb h0 Z.k2 = false ∧ (1 ≤ k → A1 h0 = true) ∧ (6 ≤ k → begT h0 = true) := by
  unfold inL
  split
  · exact ⟨_, _, rfl, by decide +kernel, fun _ => by decide +kernel, fun _ => by decide +kernel⟩
  · rename_i hl
    obtain ⟨h0, l0, e1, e2, e3, e4⟩ := h.hd
    exact ⟨h0, l0, e1, e2, fun g => e3 (by omega), fun g => e4 (.inl (by omega))⟩
theorem hd_kw {t : Nd} {h0 : Tk} {l0 : List Tk} (hc : isSb h0 Z.k2 = false) (hl : lvl t = 0) (hk : t.k ≠ 8) : Hd t (h0 :: l0) :=
  ⟨h0, l0, rfl, hc, fun g => by omega, fun g => by rcases g with g | g; omega; exact absurd g hk⟩
theorem hd_beg {t : Nd} {h0 : Tk} {l0 : List Tk} (hb : begT h0 = true) : Hd t (h0 :: l0) := ⟨h0, l0, rfl, beg_cp hb, fun _ => beg_a1 hb, fun _ => hb⟩
theorem hd_a1 {t : Nd} {h0 : Tk} {l0 : List Tk} (hc : isSb h0 Z.k2 = false) (ha : A1 h0 = true) (hl : lvl t < 6) (hk : t.k ≠ 8) : Hd t (h0 :: l0) :=
  ⟨h0, l0, rfl, hc, fun _ => ha, fun g => by rcases g with g | g; omega; exact absurd g hk⟩
theorem hd_left {t x : Nd} {k : Int} {lx l : List Tk} (h : Hd x lx) (hk : 1 ≤ k) (hl : lvl t < 6) (h8 : t.k ≠ 8) : Hd t (inL k x lx ++ l) := by
  obtain ⟨h0, l0, e1, e2, e3, e4⟩ := hd_inL (k := k) h
  rw [e1]
  exact hd_a1 e2 (e3 hk) hl h8
theorem lvl18 (a : Nat) (nm : ByteArray) (n : Int) (ks : List Nd) : lvl (.mk 18 a nm n ks) < 6 := by
  simp only [lvl, Nd.k, Nd.nm]
  repeat' split
  all_goals (first | omega | simp_all)
theorem tw_hd {t : Nd} {L : List Tk} (h : Tw t L) : Hd t L := by
  induction h with
  | eint a n h1 h2 h3 => unfold intL; split; exact hd_beg (by decide +kernel); exact hd_beg rfl
  | ebool a n h => rcases h with rfl | rfl; exact hd_beg (by decide +kernel); exact hd_beg (by decide +kernel)
  | eunit a => exact hd_beg (by decide +kernel)
  | evar a nm h => exact hd_beg rfl
  | efn a nm x lx h _ hx => exact hd_kw (by decide +kernel) (by simp [lvl, Nd.k]) (by simp [Nd.k])
  | eapp a x y lx ly _ _ hx hy =>
    split
    · rename_i h8
      obtain ⟨h0, l0, e1, e2, e3, e4⟩ := hx.hd
      rw [e1]
      exact hd_beg (e4 (.inr h8))
    · obtain ⟨h0, l0, e1, e2, e3, e4⟩ := hd_inL (k := 6) hx
      rw [e1]
      exact hd_beg (e4 (by decide))
  | elet0 a nm x y lx ly h _ _ hx hy => exact hd_kw (by decide +kernel) (by simp [lvl, Nd.k]) (by simp [Nd.k])
  | elet1 a nm fa fx x y lx ly h h2 _ _ hx hy => exact hd_kw (by decide +kernel) (by simp [lvl, Nd.k]) (by simp [Nd.k])
  | eseq a x y lx ly _ _ hx hy => rw [List.append_assoc]; exact hd_left hx (by decide) (by simp [lvl, Nd.k]) (by simp [Nd.k])
  | eif a x y z lx ly lz _ _ _ hx hy hz => exact hd_kw (by decide +kernel) (by simp [lvl, Nd.k]) (by simp [Nd.k])
  | epair a x y lx ly _ _ hx hy => exact hd_beg (by decide +kernel)
  | efst a x lx _ hx => exact hd_a1 (by decide +kernel) (by decide +kernel) (by simp [lvl, Nd.k]) (by simp [Nd.k])
  | esnd a x lx _ hx => exact hd_a1 (by decide +kernel) (by decide +kernel) (by simp [lvl, Nd.k]) (by simp [Nd.k])
  | enil a => exact hd_beg (by decide +kernel)
  | econs a x y lx ly _ _ hx hy => rw [List.append_assoc]; exact hd_left hx (by decide) (by simp [lvl, Nd.k]) (by simp [Nd.k])
  | ecase a x y z ua va un vn lx ly lz h h2 _ _ _ hx hy hz => exact hd_kw (by decide +kernel) (by simp [lvl, Nd.k]) (by simp [Nd.k])
  | eop a nm x y lx ly h _ _ hx hy =>
    unfold opL
    split
    · rw [List.append_assoc]; exact hd_left hx (by decide) (lvl18 _ _ _ _) (by simp [Nd.k])
    · split
      · rw [List.append_assoc]; exact hd_left hx (by decide) (lvl18 _ _ _ _) (by simp [Nd.k])
      · rw [List.append_assoc]; exact hd_left hx (by decide) (lvl18 _ _ _ _) (by simp [Nd.k])
  | edo a nm x lx h _ hx => exact hd_a1 (by decide +kernel) (by decide +kernel) (by simp [lvl, Nd.k]) (by simp [Nd.k])
  | ehandle a n x b ra rn lx lb cs hn h hc _ _ _ hx hb hcs => rcases hn with rfl | rfl; exact hd_kw (by decide +kernel) (by simp [lvl, Nd.k]) (by simp [Nd.k]); exact hd_kw (by decide +kernel) (by simp [lvl, Nd.k]) (by simp [Nd.k])
theorem hgt_pos (t : Nd) : 0 < hgt t := by cases t; simp [hgt]
theorem hgtL_kid : ∀ {ks : List Nd} {x : Nd}, x ∈ ks → hgt x ≤ hgtL ks
  | y :: r, x, h => by
    rw [hgtL]
    rcases List.mem_cons.1 h with rfl | h
    · exact Nat.le_max_left _ _
    · exact Nat.le_trans (hgtL_kid h) (Nat.le_max_right _ _)
theorem hgt_kid {k a : Nat} {nm : ByteArray} {n : Int} {ks : List Nd} {x : Nd} (h : x ∈ ks) : hgt x + 1 ≤ hgt (.mk k a nm n ks) := by
  rw [hgt]; have := hgtL_kid h; omega
structure AllE (t : Nd) (L : List Tk) : Prop where
  hd : Hd t L
  any : Rd Tw xx .any 10 F0 (hgt t) t L L
  c1 : 1 ≤ lvl t → Rd Tw xx .comp 9 F1 (hgt t) t L L
  c2 : 2 ≤ lvl t → Rd Tw xx .cons 8 F2 (hgt t) t L L
  c3 : 3 ≤ lvl t → Acc Tw xx .sum .sumL 7 F4 (hgt t) t L L
  c4 : 4 ≤ lvl t → Acc Tw xx .mul .mulL 6 F5 (hgt t) t L L
  c5 : 5 ≤ lvl t → Rd Tw xx .app 5 F5 (hgt t) t L L
  c8 : t.k = 8 → Acc Tw xx .app .appL 5 FT (hgt t) t L L
  c6 : 6 ≤ lvl t → Rd Tw xx .atom 3 FT (hgt t) t L L
theorem Hd.ne {t : Nd} {L : List Tk} (h : Hd t L) : L ≠ [] := by obtain ⟨h0, l0, e1, _⟩ := h.hd; rw [e1]; simp
section
variable {t : Nd} {L : List Tk}
theorem mk0 (hd : Hd t L) (hl : lvl t = 0) (hk : t.k ≠ 8) (h : Rd Tw xx .any 10 F0 (hgt t) t L L) : AllE t L :=
  ⟨hd, h, fun g => by omega, fun g => by omega, fun g => by omega, fun g => by omega, fun g => by omega, fun g => absurd g hk, fun g => by omega⟩
theorem mk1 (hd : Hd t L) (hl : lvl t = 1) (hk : t.k ≠ 8) (h : Rd Tw xx .comp 9 F1 (hgt t) t L L) : AllE t L := by
  obtain ⟨h0, l0, e1, e2, e3, e4⟩ := hd.hd
  exact ⟨hd, any_of_comp e1 (e3 (by omega)) h, fun _ => h, fun g => by omega, fun g => by omega, fun g => by omega, fun g => by omega, fun g => absurd g hk, fun g => by omega⟩
theorem mk2 (hd : Hd t L) (hl : lvl t = 2) (hk : t.k ≠ 8) (h : Rd Tw xx .cons 8 F2 (hgt t) t L L) : AllE t L := by
  obtain ⟨h0, l0, e1, e2, e3, e4⟩ := hd.hd
  have h1 := comp_of_cons h
  exact ⟨hd, any_of_comp e1 (e3 (by omega)) h1, fun _ => h1, fun _ => h, fun g => by omega, fun g => by omega, fun g => by omega, fun g => absurd g hk, fun g => by omega⟩
theorem mk3 (hd : Hd t L) (hl : lvl t = 3) (hk : t.k ≠ 8) (h : Acc Tw xx .sum .sumL 7 F4 (hgt t) t L L) : AllE t L := by
  obtain ⟨h0, l0, e1, e2, e3, e4⟩ := hd.hd
  have h2 := cons_of_sum (rd_sum h)
  have h1 := comp_of_cons h2
  exact ⟨hd, any_of_comp e1 (e3 (by omega)) h1, fun _ => h1, fun _ => h2, fun _ => h, fun g => by omega, fun g => by omega, fun g => absurd g hk, fun g => by omega⟩
theorem mk4 (hd : Hd t L) (hl : lvl t = 4) (hk : t.k ≠ 8) (h : Acc Tw xx .mul .mulL 6 F5 (hgt t) t L L) : AllE t L := by
  obtain ⟨h0, l0, e1, e2, e3, e4⟩ := hd.hd
  have h3 := sum_of_mul hd.ne (rd_mul h)
  have h2 := cons_of_sum (rd_sum h3)
  have h1 := comp_of_cons h2
  exact ⟨hd, any_of_comp e1 (e3 (by omega)) h1, fun _ => h1, fun _ => h2, fun _ => h3, fun _ => h, fun g => by omega, fun g => absurd g hk, fun g => by omega⟩
theorem mk5 (hd : Hd t L) (hl : 1 ≤ lvl t) (hk : t.k = 8 → Acc Tw xx .app .appL 5 FT (hgt t) t L L) (h6 : 6 ≤ lvl t → Rd Tw xx .atom 3 FT (hgt t) t L L) (h : Rd Tw xx .app 5 F5 (hgt t) t L L) : AllE t L := by
  obtain ⟨h0, l0, e1, e2, e3, e4⟩ := hd.hd
  have h4 := mul_of_app hd.ne h
  have h3 := sum_of_mul hd.ne (rd_mul h4)
  have h2 := cons_of_sum (rd_sum h3)
  have h1 := comp_of_cons h2
  exact ⟨hd, any_of_comp e1 (e3 hl) h1, fun _ => h1, fun _ => h2, fun _ => h3, fun _ => h4, fun _ => h, hk, h6⟩
theorem mk6 (hd : Hd t L) (hl : 6 ≤ lvl t) (hk : t.k ≠ 8) (h : Rd Tw xx .atom 3 FT (hgt t) t L L) : AllE t L := by
  obtain ⟨h0, l0, e1, e2, e3, e4⟩ := hd.hd
  exact mk5 hd (by omega) (fun g => absurd g hk) (fun _ => h) (rd_app (app_of_atom e1 (e4 (.inl hl)) h))
theorem mk8 (hd : Hd t L) (hl : lvl t = 5) (h : Acc Tw xx .app .appL 5 FT (hgt t) t L L) : AllE t L :=
  mk5 hd (by omega) (fun _ => h) (fun g => by omega) (rd_app h)
theorem AllE.ex (h : AllE t L) : Rd Tw xx .expr 11 F0 (hgt t + 1) t L L := expr_of_any (hgt_pos t) h.any
theorem paren (h : AllE t L) : Rd Tw xx .atom 3 FT (hgt t + 1) t L ([sg Z.k4] ++ L ++ [sg Z.k2]) := by
  intro S k q c rest hk hs hf hx
  simp only [List.length_append, List.length_cons, List.length_nil] at hk
  obtain ⟨k2, rfl⟩ : ∃ k2, k = k2 + 1 + 1 := ⟨k - 2, by omega⟩
  simp only [List.cons_append, List.nil_append, List.append_assoc] at hs
  have hq := St.head (k := 4) (t := Z.k4) (n := 0) hs
  have n1 := hs.no Z.k29 (by decide +kernel); have n2 := hs.no Z.k13 (by decide +kernel); have n3 := hs.no Z.k14 (by decide +kernel)
  obtain ⟨q1, i1, h1, m1, e1, s1, x1, y1⟩ := hs.eat Z.k4 (by decide +kernel)
  obtain ⟨h0, l0, g1, g2, g3, g4⟩ := h.hd.hd
  have n4 : isB q1 Z.k2 = false ∧ hasR S q1 Z.k2 = q1 := by rw [g1] at s1; exact s1.no _ g2
  obtain ⟨t', q2, e2, r2⟩ := h.ex S k2 q1 (sg Z.k2) (c :: rest) (by omega) s1 (by decide +kernel) (by show q1.x + _ ≤ 201; rw [x1]; exact hx)
  have n5 := r2.st.no Z.k16 (by decide +kernel)
  obtain ⟨q3, i3, h3, m3, e3, s3, x3, y3⟩ := r2.st.eat Z.k2 (by decide +kernel)
  have k1 : (((q.k : Nat) : Int) == (2 : Int)) = false := by rw [hq.1]; rfl
  have k2 : (((q.k : Nat) : Int) == (1 : Int)) = false := by rw [hq.1]; rfl
  exact ⟨t', q3, by rw [run_succ]; simp only [stepN, atomS, hs.ok, k1, k2, n1.1, n1.2, n2.1, n2.2, n3.1, n3.2, i1, h1, run_succ, roundS, n4.1, n4.2, e2, n5.1, n5.2, m3, Bool.false_eq_true, if_true, if_false, reduceIte], ⟨s3, by rw [x3, r2.x, x1], by rw [y3, r2.y, y1], r2.tw, r2.sm⟩⟩
theorem kid6 (h : AllE t L) : Rd Tw xx .atom 3 FT (hgt t + 1) t L (inL 6 t L) := by
  unfold inL; split
  · exact paren h
  · exact (h.c6 (by omega)).mono (Nat.le_succ _)
theorem pr8 (h : AllE t L) : Acc Tw xx .app .appL 5 FT (hgt t + 1) t L ([sg Z.k4] ++ L ++ [sg Z.k2]) := app_of_atom rfl (by decide +kernel) (paren h)
theorem kid5 (h : AllE t L) : Rd Tw xx .app 5 F5 (hgt t + 1) t L (inL 5 t L) := by
  unfold inL; split
  · exact rd_app (pr8 h)
  · exact (h.c5 (by omega)).mono (Nat.le_succ _)
theorem kid4 (h : AllE t L) : Acc Tw xx .mul .mulL 6 F5 (hgt t + 1) t L (inL 4 t L) := by
  unfold inL; split
  · exact mul_of_app (by simp) (rd_app (pr8 h))
  · exact (h.c4 (by omega)).mono (Nat.le_succ _)
theorem pr3 (h : AllE t L) : Acc Tw xx .sum .sumL 7 F4 (hgt t + 1) t L ([sg Z.k4] ++ L ++ [sg Z.k2]) := sum_of_mul (by simp) (rd_mul (mul_of_app (by simp) (rd_app (pr8 h))))
theorem kid3 (h : AllE t L) : Acc Tw xx .sum .sumL 7 F4 (hgt t + 1) t L (inL 3 t L) := by
  unfold inL; split
  · exact pr3 h
  · exact (h.c3 (by omega)).mono (Nat.le_succ _)
theorem kid2 (h : AllE t L) : Rd Tw xx .cons 8 F2 (hgt t + 1) t L (inL 2 t L) := by
  unfold inL; split
  · exact cons_of_sum (rd_sum (pr3 h))
  · exact (h.c2 (by omega)).mono (Nat.le_succ _)
theorem kid1 (h : AllE t L) : Rd Tw xx .comp 9 F1 (hgt t + 1) t L (inL 1 t L) := by
  unfold inL; split
  · exact comp_of_cons (cons_of_sum (rd_sum (pr3 h)))
  · exact (h.c1 (by omega)).mono (Nat.le_succ _)
end
theorem prm (sign : ByteArray) {x : Nd} {lx : List Tk} (hx : AllE x lx) (S : ByteArray) (k : Nat) (q : Rs) (c : Tk) (rest : List Tk) (hk : 16 * lx.length + 12 ≤ k) (hs : St S q (sg sign :: (lx ++ c :: rest))) (hf : F0 c = true) (hd : q.x + (hgt x + 1) ≤ 201) :
    ∃ t' q', run S k (.params sign false) q = (t', q') ∧ Res Tw S q c rest x lx t' q' := by
  obtain ⟨k1, rfl⟩ : ∃ k1, k = k1 + 1 := ⟨k - 1, by omega⟩
  have b : isNameB q = false := by rw [hs.isn]; rfl
  obtain ⟨q1, i1, h1, m1, e1, s1, x1, y1⟩ := hs.eat sign (by unfold isSb; simp)
  obtain ⟨t', q2, e2, r2⟩ := hx.ex S k1 q1 c rest (by omega) s1 hf (by show q1.x + _ ≤ 201; omega)
  have x2 := r2.x; have y2 := r2.y
  exact ⟨t', q2, by rw [run_succ]; simp only [stepN, paramsS, b, m1, e2, Bool.false_eq_true, if_false, reduceIte], ⟨r2.st, by omega, by omega, r2.tw, r2.sm⟩⟩
theorem prm1 (sign : ByteArray) {x : Nd} {lx : List Tk} {nm : ByteArray} (hx : AllE x lx) (S : ByteArray) (k : Nat) (q : Rs) (c : Tk) (rest : List Tk) (hk : 16 * lx.length + 28 ≤ k) (hs : St S q (nmT nm :: sg sign :: (lx ++ c :: rest))) (hf : F0 c = true) (hd : q.x + (hgt x + 1) ≤ 201) :
    ∃ t' q', run S k (.params sign true) q = (.mk 7 q.a nm 0 [t'], q') ∧ Res Tw S q c rest x lx t' q' := by
  obtain ⟨k1, rfl⟩ : ∃ k1, k = k1 + 1 := ⟨k - 1, by omega⟩
  obtain ⟨q1, b1, m1, e1, s1, x1, y1⟩ := hs.nm
  obtain ⟨t', q2, e2, r2⟩ := prm sign hx S k1 q1 c rest (by omega) s1 hf (by omega)
  have x2 := r2.x; have y2 := r2.y
  exact ⟨t', q2, by rw [run_succ]; simp only [stepN, paramsS, paramS, m1, s1.ok, e2, if_true, reduceIte], ⟨r2.st, by omega, by omega, r2.tw, r2.sm⟩⟩
theorem r_efn {a : Nat} {nm : ByteArray} (h : GT (nmT nm)) {x : Nd} {lx : List Tk} (hx : AllE x lx) : Rd Tw xx .any 10 F0 (hgt (Nd.mk 7 a nm 0 [x])) (Nd.mk 7 a nm 0 [x]) ([wd Z.k25, nmT nm, sg Z.k1] ++ lx) ([wd Z.k25, nmT nm, sg Z.k1] ++ lx) := by
  intro S k q c rest hk hs hf hd
  have hd' : q.x + hgt (Nd.mk 7 a nm 0 [x]) ≤ 201 := hd
  have gx : hgt x + 1 ≤ hgt (Nd.mk 7 a nm 0 [x]) := hgt_kid (by simp)
  simp only [List.length_append, List.length_cons, List.length_nil] at hk
  simp only [List.cons_append, List.nil_append, List.append_assoc] at hs
  obtain ⟨k1, rfl⟩ : ∃ k1, k = k1 + 1 := ⟨k - 1, by omega⟩
  have n1 := hs.no Z.k12 (by first | decide +kernel | rfl | simp [isSb])
  obtain ⟨q2, i2, h2, m2, e2, s2, x2, y2⟩ := hs.eat Z.k25 (by decide +kernel)
  obtain ⟨t3, q3, e3, r3⟩ := prm1 Z.k1 hx S k1 q2 _ _ (by omega) s2 hf (by omega)
  have x3 := r3.x; have y3 := r3.y; have s3 := r3.st
  exact ⟨Nd.mk 7 q.a nm 0 [t3], q3, by rw [run_succ]; simp only [stepN, anyS, Nd.k, Nd.nm, Nd.n, Nd.ks, n1.1, n1.2, i2, h2, m2, e2, e3, Bool.false_eq_true, if_true, if_false, reduceIte], ⟨s3, by omega, by omega, Tw.efn q.a nm t3 lx h r3.tw, Sm.mk (.cons r3.sm .nil)⟩⟩
theorem r_elet0 {a : Nat} {nm : ByteArray} (h : GT (nmT nm)) {x : Nd} {lx : List Tk} (hx : AllE x lx) {y : Nd} {ly : List Tk} (hy : AllE y ly) : Rd Tw xx .any 10 F0 (hgt (Nd.mk 9 a nm 0 [x, y])) (Nd.mk 9 a nm 0 [x, y]) ([wd Z.k12, nmT nm, sg Z.k7] ++ lx ++ [wd Z.k21] ++ ly) ([wd Z.k12, nmT nm, sg Z.k7] ++ lx ++ [wd Z.k21] ++ ly) := by
  intro S k q c rest hk hs hf hd
  have hd' : q.x + hgt (Nd.mk 9 a nm 0 [x, y]) ≤ 201 := hd
  have gx : hgt x + 1 ≤ hgt (Nd.mk 9 a nm 0 [x, y]) := hgt_kid (by simp)
  have gy : hgt y + 1 ≤ hgt (Nd.mk 9 a nm 0 [x, y]) := hgt_kid (by simp)
  simp only [List.length_append, List.length_cons, List.length_nil] at hk
  simp only [List.cons_append, List.nil_append, List.append_assoc] at hs
  obtain ⟨k1, rfl⟩ : ∃ k1, k = k1 + 1 + 1 := ⟨k - 2, by omega⟩
  obtain ⟨q1, i1, h1, m1, e1, s1, x1, y1⟩ := hs.eat Z.k12 (by decide +kernel)
  have n2 := s1.no Z.k19 (by first | decide +kernel | rfl | simp [isSb])
  obtain ⟨q3, b3, m3, e3, s3, x3, y3⟩ := s1.nm
  have o4 := s3.ok
  obtain ⟨t5, q5, e5, r5⟩ := prm Z.k7 hx S k1 q3 _ _ (by omega) s3 (by decide +kernel) (by omega)
  have x5 := r5.x; have y5 := r5.y; have s5 := r5.st
  obtain ⟨q6, i6, h6, m6, e6, s6, x6, y6⟩ := s5.eat Z.k21 (by decide +kernel)
  obtain ⟨t7, q7, e7, r7⟩ := hy.ex S k1 q6 _ _ (by omega) s6 hf (by show q6.x + _ ≤ 201; omega)
  have x7 := r7.x; have y7 := r7.y; have s7 := r7.st
  exact ⟨Nd.mk 9 q.a nm 0 [t5, t7], q7, by rw [run_succ]; simp only [stepN, anyS, run_succ, letS, letT, i1, h1, m1, e1, n2.1, n2.2, b3, m3, e3, o4, e5, i6, h6, m6, e6, e7, Bool.false_eq_true, if_true, if_false, reduceIte], ⟨s7, by omega, by omega, Tw.elet0 q.a nm t5 t7 lx ly h r5.tw r7.tw, Sm.mk (.cons r5.sm (.cons r7.sm .nil))⟩⟩
theorem r_elet1 {a fa : Nat} {nm fx : ByteArray} (h : GT (nmT nm)) (gh2 : GT (nmT fx)) {x : Nd} {lx : List Tk} (hx : AllE x lx) {y : Nd} {ly : List Tk} (hy : AllE y ly) : Rd Tw xx .any 10 F0 (hgt (Nd.mk 9 a nm 1 [.mk 7 fa fx 0 [x], y])) (Nd.mk 9 a nm 1 [.mk 7 fa fx 0 [x], y]) ([wd Z.k12, wd Z.k19, nmT nm, nmT fx, sg Z.k7] ++ lx ++ [wd Z.k21] ++ ly) ([wd Z.k12, wd Z.k19, nmT nm, nmT fx, sg Z.k7] ++ lx ++ [wd Z.k21] ++ ly) := by
  intro S k q c rest hk hs hf hd
  have hd' : q.x + hgt (Nd.mk 9 a nm 1 [.mk 7 fa fx 0 [x], y]) ≤ 201 := hd
  have gx0 : hgt x + 1 ≤ hgt (Nd.mk 7 fa fx 0 [x]) := hgt_kid (by simp); have gx : hgt (Nd.mk 7 fa fx 0 [x]) + 1 ≤ hgt (Nd.mk 9 a nm 1 [.mk 7 fa fx 0 [x], y]) := hgt_kid (by simp)
  have gy : hgt y + 1 ≤ hgt (Nd.mk 9 a nm 1 [.mk 7 fa fx 0 [x], y]) := hgt_kid (by simp)
  simp only [List.length_append, List.length_cons, List.length_nil] at hk
  simp only [List.cons_append, List.nil_append, List.append_assoc] at hs
  obtain ⟨k1, rfl⟩ : ∃ k1, k = k1 + 1 + 1 := ⟨k - 2, by omega⟩
  obtain ⟨q1, i1, h1, m1, e1, s1, x1, y1⟩ := hs.eat Z.k12 (by decide +kernel)
  obtain ⟨q2, i2, h2, m2, e2, s2, x2, y2⟩ := s1.eat Z.k19 (by decide +kernel)
  obtain ⟨q3, b3, m3, e3, s3, x3, y3⟩ := s2.nm
  have o4 := s3.ok
  obtain ⟨t5, q5, e5, r5⟩ := prm1 Z.k7 hx S k1 q3 _ _ (by omega) s3 (by decide +kernel) (by omega)
  have x5 := r5.x; have y5 := r5.y; have s5 := r5.st
  obtain ⟨q6, i6, h6, m6, e6, s6, x6, y6⟩ := s5.eat Z.k21 (by decide +kernel)
  obtain ⟨t7, q7, e7, r7⟩ := hy.ex S k1 q6 _ _ (by omega) s6 hf (by show q6.x + _ ≤ 201; omega)
  have x7 := r7.x; have y7 := r7.y; have s7 := r7.st
  exact ⟨Nd.mk 9 q.a nm 1 [.mk 7 q3.a fx 0 [t5], t7], q7, by rw [run_succ]; simp only [stepN, anyS, run_succ, letS, letT, i1, h1, m1, e1, i2, h2, m2, e2, b3, m3, e3, o4, e5, i6, h6, m6, e6, e7, Bool.false_eq_true, if_true, if_false, reduceIte], ⟨s7, by omega, by omega, Tw.elet1 q.a nm q3.a fx t5 t7 lx ly h gh2 r5.tw r7.tw, Sm.mk (.cons (.mk (.cons r5.sm .nil)) (.cons r7.sm .nil))⟩⟩
theorem r_eseq {a : Nat} {x : Nd} {lx : List Tk} (hx : AllE x lx) {y : Nd} {ly : List Tk} (hy : AllE y ly) : Rd Tw xx .any 10 F0 (hgt (Nd.mk 10 a Z.E 0 [x, y])) (Nd.mk 10 a Z.E 0 [x, y]) (inL 1 x lx ++ [sg Z.k48] ++ ly) (inL 1 x lx ++ [sg Z.k48] ++ ly) := by
  intro S k q c rest hk hs hf hd
  have hd' : q.x + hgt (Nd.mk 10 a Z.E 0 [x, y]) ≤ 201 := hd
  have gx : hgt x + 1 ≤ hgt (Nd.mk 10 a Z.E 0 [x, y]) := hgt_kid (by simp)
  have gy : hgt y + 1 ≤ hgt (Nd.mk 10 a Z.E 0 [x, y]) := hgt_kid (by simp)
  simp only [List.length_append, List.length_cons, List.length_nil] at hk
  simp only [List.cons_append, List.nil_append, List.append_assoc] at hs
  obtain ⟨k1, rfl⟩ : ∃ k1, k = k1 + 1 := ⟨k - 1, by omega⟩
  obtain ⟨h0, l0, z1, z2, z3, z4⟩ := hd_inL (k := 1) hx.hd
  have hs0 := hs; rw [z1, List.cons_append] at hs0
  obtain ⟨t1, q1, e1, r1⟩ := (kid1 hx) S k1 q _ _ (by omega) hs (by decide +kernel) (by show q.x + _ ≤ 201; omega)
  have x1 := r1.x; have y1 := r1.y; have s1 := r1.st
  obtain ⟨q2, i2, h2, m2, e2, s2, x2, y2⟩ := s1.eat Z.k48 (by decide +kernel)
  obtain ⟨t3, q3, e3, r3⟩ := hy.ex S k1 q2 _ _ (by omega) s2 hf (by show q2.x + _ ≤ 201; omega)
  have x3 := r3.x; have y3 := r3.y; have s3 := r3.st
  exact ⟨Nd.mk 10 t1.a Z.E 0 [t1, t3], q3, by rw [any_plain hs0 (z3 (by decide))]; simp only [stepN, Nd.k, e1, i2, h2, m2, e2, e3, Bool.false_eq_true, if_true, if_false, reduceIte], ⟨s3, by omega, by omega, (by have z := Tw.eseq t1.a t1 t3 lx ly r1.tw r3.tw; rwa [r1.sm.inL] at z), Sm.mk (.cons r1.sm (.cons r3.sm .nil))⟩⟩
theorem r_eif {a : Nat} {x : Nd} {lx : List Tk} (hx : AllE x lx) {y : Nd} {ly : List Tk} (hy : AllE y ly) {z : Nd} {lz : List Tk} (hz : AllE z lz) : Rd Tw xx .any 10 F0 (hgt (Nd.mk 11 a Z.E 0 [x, y, z])) (Nd.mk 11 a Z.E 0 [x, y, z]) ([wd Z.k28] ++ lx ++ [wd Z.k45] ++ ly ++ [wd Z.k46] ++ lz) ([wd Z.k28] ++ lx ++ [wd Z.k45] ++ ly ++ [wd Z.k46] ++ lz) := by
  intro S k q c rest hk hs hf hd
  have hd' : q.x + hgt (Nd.mk 11 a Z.E 0 [x, y, z]) ≤ 201 := hd
  have gx : hgt x + 1 ≤ hgt (Nd.mk 11 a Z.E 0 [x, y, z]) := hgt_kid (by simp)
  have gy : hgt y + 1 ≤ hgt (Nd.mk 11 a Z.E 0 [x, y, z]) := hgt_kid (by simp)
  have gz : hgt z + 1 ≤ hgt (Nd.mk 11 a Z.E 0 [x, y, z]) := hgt_kid (by simp)
  simp only [List.length_append, List.length_cons, List.length_nil] at hk
  simp only [List.cons_append, List.nil_append, List.append_assoc] at hs
  obtain ⟨k1, rfl⟩ : ∃ k1, k = k1 + 1 := ⟨k - 1, by omega⟩
  have n1 := hs.no Z.k12 (by first | decide +kernel | rfl | simp [isSb])
  have n2 := hs.no Z.k25 (by first | decide +kernel | rfl | simp [isSb])
  obtain ⟨q3, i3, h3, m3, e3, s3, x3, y3⟩ := hs.eat Z.k28 (by decide +kernel)
  obtain ⟨t4, q4, e4, r4⟩ := hx.ex S k1 q3 _ _ (by omega) s3 (by decide +kernel) (by show q3.x + _ ≤ 201; omega)
  have x4 := r4.x; have y4 := r4.y; have s4 := r4.st
  obtain ⟨q5, i5, h5, m5, e5, s5, x5, y5⟩ := s4.eat Z.k45 (by decide +kernel)
  obtain ⟨t6, q6, e6, r6⟩ := hy.ex S k1 q5 _ _ (by omega) s5 (by decide +kernel) (by show q5.x + _ ≤ 201; omega)
  have x6 := r6.x; have y6 := r6.y; have s6 := r6.st
  obtain ⟨q7, i7, h7, m7, e7, s7, x7, y7⟩ := s6.eat Z.k46 (by decide +kernel)
  obtain ⟨t8, q8, e8, r8⟩ := hz.ex S k1 q7 _ _ (by omega) s7 hf (by show q7.x + _ ≤ 201; omega)
  have x8 := r8.x; have y8 := r8.y; have s8 := r8.st
  exact ⟨Nd.mk 11 q.a Z.E 0 [t4, t6, t8], q8, by rw [run_succ]; simp only [stepN, anyS, n1.1, n1.2, n2.1, n2.2, i3, h3, m3, e3, e4, i5, h5, m5, e5, e6, i7, h7, m7, e7, e8, Bool.false_eq_true, if_true, if_false, reduceIte], ⟨s8, by omega, by omega, Tw.eif q.a _ _ _ lx ly lz r4.tw r6.tw r8.tw, Sm.mk (.cons r4.sm (.cons r6.sm (.cons r8.sm .nil)))⟩⟩
theorem r_ecase {a ua va : Nat} {un vn : ByteArray} (h : GT (nmT un)) (gh2 : GT (nmT vn)) {x : Nd} {lx : List Tk} (hx : AllE x lx) {y : Nd} {ly : List Tk} (hy : AllE y ly) {z : Nd} {lz : List Tk} (hz : AllE z lz) : Rd Tw xx .any 10 F0 (hgt (Nd.mk 17 a Z.E 0 [x, y, .mk 23 ua un 0 [], .mk 23 va vn 0 [], z])) (Nd.mk 17 a Z.E 0 [x, y, .mk 23 ua un 0 [], .mk 23 va vn 0 [], z]) ([wd Z.k32] ++ lx ++ [wd Z.k49, sg Z.k18, sg Z.k22, sg Z.k1] ++ ly ++ [sg Z.k24, nmT un, sg Z.k9, nmT vn, sg Z.k1] ++ lz ++ [wd Z.k50]) ([wd Z.k32] ++ lx ++ [wd Z.k49, sg Z.k18, sg Z.k22, sg Z.k1] ++ ly ++ [sg Z.k24, nmT un, sg Z.k9, nmT vn, sg Z.k1] ++ lz ++ [wd Z.k50]) := by
  intro S k q c rest hk hs hf hd
  have hd' : q.x + hgt (Nd.mk 17 a Z.E 0 [x, y, .mk 23 ua un 0 [], .mk 23 va vn 0 [], z]) ≤ 201 := hd
  have gx : hgt x + 1 ≤ hgt (Nd.mk 17 a Z.E 0 [x, y, .mk 23 ua un 0 [], .mk 23 va vn 0 [], z]) := hgt_kid (by simp)
  have gy : hgt y + 1 ≤ hgt (Nd.mk 17 a Z.E 0 [x, y, .mk 23 ua un 0 [], .mk 23 va vn 0 [], z]) := hgt_kid (by simp)
  have gz : hgt z + 1 ≤ hgt (Nd.mk 17 a Z.E 0 [x, y, .mk 23 ua un 0 [], .mk 23 va vn 0 [], z]) := hgt_kid (by simp)
  simp only [List.length_append, List.length_cons, List.length_nil] at hk
  simp only [List.cons_append, List.nil_append, List.append_assoc] at hs
  obtain ⟨k1, rfl⟩ : ∃ k1, k = k1 + 1 + 1 := ⟨k - 2, by omega⟩
  have n1 := hs.no Z.k12 (by first | decide +kernel | rfl | simp [isSb])
  have n2 := hs.no Z.k25 (by first | decide +kernel | rfl | simp [isSb])
  have n3 := hs.no Z.k28 (by first | decide +kernel | rfl | simp [isSb])
  obtain ⟨q4, i4, h4, m4, e4, s4, x4, y4⟩ := hs.eat Z.k32 (by decide +kernel)
  obtain ⟨t5, q5, e5, r5⟩ := hx.ex S k1 q4 _ _ (by omega) s4 (by decide +kernel) (by show q4.x + _ ≤ 201; omega)
  have x5 := r5.x; have y5 := r5.y; have s5 := r5.st
  obtain ⟨q6, i6, h6, m6, e6, s6, x6, y6⟩ := s5.eat Z.k49 (by decide +kernel)
  obtain ⟨q7, i7, h7, m7, e7, s7, x7, y7⟩ := s6.eat Z.k18 (by decide +kernel)
  obtain ⟨q8, i8, h8, m8, e8, s8, x8, y8⟩ := s7.eat Z.k22 (by decide +kernel)
  obtain ⟨q9, i9, h9, m9, e9, s9, x9, y9⟩ := s8.eat Z.k1 (by decide +kernel)
  obtain ⟨t10, q10, e10, r10⟩ := hy.ex S k1 q9 _ _ (by omega) s9 (by decide +kernel) (by show q9.x + _ ≤ 201; omega)
  have x10 := r10.x; have y10 := r10.y; have s10 := r10.st
  obtain ⟨q11, i11, h11, m11, e11, s11, x11, y11⟩ := s10.eat Z.k24 (by decide +kernel)
  obtain ⟨q12, b12, m12, e12, s12, x12, y12⟩ := s11.nm
  have o13 := s12.ok
  obtain ⟨q14, i14, h14, m14, e14, s14, x14, y14⟩ := s12.eat Z.k9 (by decide +kernel)
  obtain ⟨q15, b15, m15, e15, s15, x15, y15⟩ := s14.nm
  have o16 := s15.ok
  obtain ⟨q17, i17, h17, m17, e17, s17, x17, y17⟩ := s15.eat Z.k1 (by decide +kernel)
  obtain ⟨t18, q18, e18, r18⟩ := hz.ex S k1 q17 _ _ (by omega) s17 (by decide +kernel) (by show q17.x + _ ≤ 201; omega)
  have x18 := r18.x; have y18 := r18.y; have s18 := r18.st
  obtain ⟨q19, i19, h19, m19, e19, s19, x19, y19⟩ := s18.eat Z.k50 (by decide +kernel)
  exact ⟨Nd.mk 17 q.a Z.E 0 [t5, t10, .mk 23 q11.a un 0 [], .mk 23 q14.a vn 0 [], t18], q19, by rw [run_succ]; simp only [stepN, anyS, run_succ, casesS, n1.1, n1.2, n2.1, n2.2, n3.1, n3.2, i4, h4, m4, e4, e5, i6, h6, m6, e6, i7, h7, m7, e7, i8, h8, m8, e8, i9, h9, m9, e9, e10, i11, h11, m11, e11, b12, m12, e12, o13, i14, h14, m14, e14, b15, m15, e15, o16, i17, h17, m17, e17, e18, i19, h19, m19, e19, Bool.false_eq_true, if_true, if_false, reduceIte], ⟨s19, by omega, by omega, Tw.ecase q.a _ _ _ _ _ un vn lx ly lz h gh2 r5.tw r10.tw r18.tw, Sm.mk (.cons r5.sm (.cons r10.sm (.cons (.mk .nil) (.cons (.mk .nil) (.cons r18.sm .nil)))))⟩⟩
theorem r_epair {a : Nat} {x : Nd} {lx : List Tk} (hx : AllE x lx) {y : Nd} {ly : List Tk} (hy : AllE y ly) : Rd Tw xx .atom 3 FT (hgt (Nd.mk 12 a Z.E 0 [x, y])) (Nd.mk 12 a Z.E 0 [x, y]) ([sg Z.k4] ++ lx ++ [sg Z.k16] ++ ly ++ [sg Z.k2]) ([sg Z.k4] ++ lx ++ [sg Z.k16] ++ ly ++ [sg Z.k2]) := by
  intro S k q c rest hk hs hf hd
  have hd' : q.x + hgt (Nd.mk 12 a Z.E 0 [x, y]) ≤ 201 := hd
  have gx : hgt x + 1 ≤ hgt (Nd.mk 12 a Z.E 0 [x, y]) := hgt_kid (by simp)
  have gy : hgt y + 1 ≤ hgt (Nd.mk 12 a Z.E 0 [x, y]) := hgt_kid (by simp)
  simp only [List.length_append, List.length_cons, List.length_nil] at hk
  simp only [List.cons_append, List.nil_append, List.append_assoc] at hs
  obtain ⟨k1, rfl⟩ : ∃ k1, k = k1 + 1 + 1 := ⟨k - 2, by omega⟩
  have hq := St.head (k := 4) (t := Z.k4) (n := 0) hs
  have o1 := hs.ok
  have w2 : (((q.k : Nat) : Int) == (2 : Int)) = false := by rw [hq.1]; rfl
  have w1 : (((q.k : Nat) : Int) == (1 : Int)) = false := by rw [hq.1]; rfl
  have n2 := hs.no Z.k29 (by first | decide +kernel | rfl | simp [isSb])
  have n3 := hs.no Z.k13 (by first | decide +kernel | rfl | simp [isSb])
  have n4 := hs.no Z.k14 (by first | decide +kernel | rfl | simp [isSb])
  obtain ⟨q5, i5, h5, m5, e5, s5, x5, y5⟩ := hs.eat Z.k4 (by decide +kernel)
  obtain ⟨h0, l0, z1, z2, z3, z4⟩ := hx.hd.hd
  have n6 : isB q5 Z.k2 = false ∧ hasR S q5 Z.k2 = q5 := by have z := s5; rw [z1] at z; exact z.no _ z2
  obtain ⟨t7, q7, e7, r7⟩ := hx.ex S k1 q5 _ _ (by omega) s5 (by decide +kernel) (by show q5.x + _ ≤ 201; omega)
  have x7 := r7.x; have y7 := r7.y; have s7 := r7.st
  obtain ⟨q8, i8, h8, m8, e8, s8, x8, y8⟩ := s7.eat Z.k16 (by decide +kernel)
  obtain ⟨t9, q9, e9, r9⟩ := hy.ex S k1 q8 _ _ (by omega) s8 (by decide +kernel) (by show q8.x + _ ≤ 201; omega)
  have x9 := r9.x; have y9 := r9.y; have s9 := r9.st
  obtain ⟨q10, i10, h10, m10, e10, s10, x10, y10⟩ := s9.eat Z.k2 (by decide +kernel)
  exact ⟨Nd.mk 12 q.a Z.E 0 [t7, t9], q10, by rw [run_succ]; simp only [stepN, atomS, run_succ, roundS, o1, w1, w2, n2.1, n2.2, n3.1, n3.2, n4.1, n4.2, i5, h5, m5, e5, n6.1, n6.2, e7, i8, h8, m8, e8, e9, i10, h10, m10, e10, Bool.false_eq_true, if_true, if_false, reduceIte], ⟨s10, by omega, by omega, Tw.epair q.a _ _ lx ly r7.tw r9.tw, Sm.mk (.cons r7.sm (.cons r9.sm .nil))⟩⟩
theorem r_eunit {a : Nat} : Rd Tw xx .atom 3 FT (hgt (Nd.mk 5 a Z.E 0 [])) (Nd.mk 5 a Z.E 0 []) ([sg Z.k4, sg Z.k2]) ([sg Z.k4, sg Z.k2]) := by
  intro S k q c rest hk hs hf hd
  have hd' : q.x + hgt (Nd.mk 5 a Z.E 0 []) ≤ 201 := hd
  simp only [List.length_append, List.length_cons, List.length_nil] at hk
  simp only [List.cons_append, List.nil_append, List.append_assoc] at hs
  obtain ⟨k1, rfl⟩ : ∃ k1, k = k1 + 1 + 1 := ⟨k - 2, by omega⟩
  have hq := St.head (k := 4) (t := Z.k4) (n := 0) hs
  have o1 := hs.ok
  have w2 : (((q.k : Nat) : Int) == (2 : Int)) = false := by rw [hq.1]; rfl
  have w1 : (((q.k : Nat) : Int) == (1 : Int)) = false := by rw [hq.1]; rfl
  have n2 := hs.no Z.k29 (by first | decide +kernel | rfl | simp [isSb])
  have n3 := hs.no Z.k13 (by first | decide +kernel | rfl | simp [isSb])
  have n4 := hs.no Z.k14 (by first | decide +kernel | rfl | simp [isSb])
  obtain ⟨q5, i5, h5, m5, e5, s5, x5, y5⟩ := hs.eat Z.k4 (by decide +kernel)
  obtain ⟨q6, i6, h6, m6, e6, s6, x6, y6⟩ := s5.eat Z.k2 (by decide +kernel)
  exact ⟨Nd.mk 5 q.a Z.E 0 [], q6, by rw [run_succ]; simp only [stepN, atomS, run_succ, roundS, o1, w1, w2, n2.1, n2.2, n3.1, n3.2, n4.1, n4.2, i5, h5, m5, e5, i6, h6, m6, e6, Bool.false_eq_true, if_true, if_false, reduceIte], ⟨s6, by omega, by omega, Tw.eunit q.a, Sm.mk .nil⟩⟩
theorem r_enil {a : Nat} : Rd Tw xx .atom 3 FT (hgt (Nd.mk 15 a Z.E 0 [])) (Nd.mk 15 a Z.E 0 []) ([sg Z.k18, sg Z.k22]) ([sg Z.k18, sg Z.k22]) := by
  intro S k q c rest hk hs hf hd
  have hd' : q.x + hgt (Nd.mk 15 a Z.E 0 []) ≤ 201 := hd
  simp only [List.length_append, List.length_cons, List.length_nil] at hk
  simp only [List.cons_append, List.nil_append, List.append_assoc] at hs
  obtain ⟨k1, rfl⟩ : ∃ k1, k = k1 + 1 + 1 := ⟨k - 2, by omega⟩
  have hq := St.head (k := 4) (t := Z.k18) (n := 0) hs
  have o1 := hs.ok
  have w2 : (((q.k : Nat) : Int) == (2 : Int)) = false := by rw [hq.1]; rfl
  have w1 : (((q.k : Nat) : Int) == (1 : Int)) = false := by rw [hq.1]; rfl
  have n2 := hs.no Z.k29 (by first | decide +kernel | rfl | simp [isSb])
  have n3 := hs.no Z.k13 (by first | decide +kernel | rfl | simp [isSb])
  have n4 := hs.no Z.k14 (by first | decide +kernel | rfl | simp [isSb])
  have n5 := hs.no Z.k4 (by first | decide +kernel | rfl | simp [isSb])
  obtain ⟨q6, i6, h6, m6, e6, s6, x6, y6⟩ := hs.eat Z.k18 (by decide +kernel)
  obtain ⟨q7, i7, h7, m7, e7, s7, x7, y7⟩ := s6.eat Z.k22 (by decide +kernel)
  exact ⟨Nd.mk 15 q.a Z.E 0 [], q7, by rw [run_succ]; simp only [stepN, atomS, run_succ, squareS, o1, w1, w2, n2.1, n2.2, n3.1, n3.2, n4.1, n4.2, n5.1, n5.2, i6, h6, m6, e6, i7, h7, m7, e7, Bool.false_eq_true, if_true, if_false, reduceIte], ⟨s7, by omega, by omega, Tw.enil q.a, Sm.mk .nil⟩⟩
theorem r_ebool1 {a : Nat} : Rd Tw xx .atom 3 FT (hgt (Nd.mk 4 a Z.E 1 [])) (Nd.mk 4 a Z.E 1 []) ([wd Z.k13]) ([wd Z.k13]) := by
  intro S k q c rest hk hs hf hd
  have hd' : q.x + hgt (Nd.mk 4 a Z.E 1 []) ≤ 201 := hd
  simp only [List.length_append, List.length_cons, List.length_nil] at hk
  simp only [List.cons_append, List.nil_append, List.append_assoc] at hs
  obtain ⟨k1, rfl⟩ : ∃ k1, k = k1 + 1 := ⟨k - 1, by omega⟩
  have hq := St.head (k := 3) (t := Z.k13) (n := 0) hs
  have o1 := hs.ok
  have w2 : (((q.k : Nat) : Int) == (2 : Int)) = false := by rw [hq.1]; rfl
  have w1 : (((q.k : Nat) : Int) == (1 : Int)) = false := by rw [hq.1]; rfl
  have n2 := hs.no Z.k29 (by first | decide +kernel | rfl | simp [isSb])
  obtain ⟨q3, i3, h3, m3, e3, s3, x3, y3⟩ := hs.eat Z.k13 (by decide +kernel)
  exact ⟨Nd.mk 4 q.a Z.E 1 [], q3, by rw [run_succ]; simp only [stepN, atomS, o1, w1, w2, n2.1, n2.2, i3, h3, m3, e3, Bool.false_eq_true, if_true, if_false, reduceIte], ⟨s3, by omega, by omega, Tw.ebool q.a 1 (.inr rfl), Sm.mk .nil⟩⟩
theorem r_ebool0 {a : Nat} : Rd Tw xx .atom 3 FT (hgt (Nd.mk 4 a Z.E 0 [])) (Nd.mk 4 a Z.E 0 []) ([wd Z.k14]) ([wd Z.k14]) := by
  intro S k q c rest hk hs hf hd
  have hd' : q.x + hgt (Nd.mk 4 a Z.E 0 []) ≤ 201 := hd
  simp only [List.length_append, List.length_cons, List.length_nil] at hk
  simp only [List.cons_append, List.nil_append, List.append_assoc] at hs
  obtain ⟨k1, rfl⟩ : ∃ k1, k = k1 + 1 := ⟨k - 1, by omega⟩
  have hq := St.head (k := 3) (t := Z.k14) (n := 0) hs
  have o1 := hs.ok
  have w2 : (((q.k : Nat) : Int) == (2 : Int)) = false := by rw [hq.1]; rfl
  have w1 : (((q.k : Nat) : Int) == (1 : Int)) = false := by rw [hq.1]; rfl
  have n2 := hs.no Z.k29 (by first | decide +kernel | rfl | simp [isSb])
  have n3 := hs.no Z.k13 (by first | decide +kernel | rfl | simp [isSb])
  obtain ⟨q4, i4, h4, m4, e4, s4, x4, y4⟩ := hs.eat Z.k14 (by decide +kernel)
  exact ⟨Nd.mk 4 q.a Z.E 0 [], q4, by rw [run_succ]; simp only [stepN, atomS, o1, w1, w2, n2.1, n2.2, n3.1, n3.2, i4, h4, m4, e4, Bool.false_eq_true, if_true, if_false, reduceIte], ⟨s4, by omega, by omega, Tw.ebool q.a 0 (.inl rfl), Sm.mk .nil⟩⟩
theorem r_evar {a : Nat} {nm : ByteArray} (h : GT (nmT nm)) : Rd Tw xx .atom 3 FT (hgt (Nd.mk 6 a nm 0 [])) (Nd.mk 6 a nm 0 []) ([nmT nm]) ([nmT nm]) := by
  intro S k q c rest hk hs hf hd
  have hd' : q.x + hgt (Nd.mk 6 a nm 0 []) ≤ 201 := hd
  simp only [List.length_append, List.length_cons, List.length_nil] at hk
  simp only [List.cons_append, List.nil_append, List.append_assoc] at hs
  obtain ⟨k1, rfl⟩ : ∃ k1, k = k1 + 1 := ⟨k - 1, by omega⟩
  have hq := St.head (k := 2) (t := nm) (n := 0) hs; have o0 := hs.ok; have w2 : (((q.k : Nat) : Int) == (2 : Int)) = true := by rw [hq.1]; rfl
  have ht := hq.2.1
  obtain ⟨q1, b1, m1, e1, s1, x1, y1⟩ := hs.nm
  have o2 := s1.ok
  exact ⟨Nd.mk 6 q.a nm 0 [], q1, by rw [run_succ]; simp only [stepN, atomS, o0, w2, ht, b1, m1, e1, o2, Bool.false_eq_true, if_true, if_false, reduceIte], ⟨s1, by omega, by omega, Tw.evar q.a nm h, Sm.mk .nil⟩⟩
theorem r_eint {a : Nat} {n : Int} (h1 : -9223372036854775807 ≤ n) (h2 : n ≤ 9223372036854775807) (h3 : GT (nuT n.natAbs)) : Rd Tw xx .atom 3 FT (hgt (.mk 3 a Z.E n [])) (.mk 3 a Z.E n []) (intL n) (intL n) := by
  intro S k q c rest hk hs hf hd
  have hk : 3 ≤ k := by omega
  obtain ⟨k1, rfl⟩ : ∃ k1, k = k1 + 1 := ⟨k - 1, by omega⟩
  by_cases hn : n < 0
  · rw [show intL n = [sg Z.k29, nuT (-n).toNat] by unfold intL; rw [if_pos hn]] at hs
    simp only [List.cons_append, List.nil_append] at hs
    have hq := St.head (k := 4) (t := Z.k29) (n := 0) hs
    have w2 : (((q.k : Nat) : Int) == (2 : Int)) = false := by rw [hq.1]; rfl
    have w1 : (((q.k : Nat) : Int) == (1 : Int)) = false := by rw [hq.1]; rfl
    obtain ⟨q1, i1, h1', m1, e1, s1, x1, y1⟩ := hs.eat Z.k29 (by decide +kernel)
    have hq1 := St.head (k := 1) (t := e0) (n := (-n).toNat) s1
    obtain ⟨q2, e2, s2, x2, y2⟩ := s1.step (by simp)
    have hk1 : (((q1.k : Nat) : Int) != (1 : Int)) = false := by rw [hq1.1]; rfl
    refine ⟨.mk 3 q.a Z.E n [], q2, ?_, ⟨s2, by omega, by omega, Tw.eint q.a n h1 h2 h3, Sm.mk .nil⟩⟩
    rw [run_succ]
    simp only [stepN, atomS, hs.ok, w1, w2, i1, h1', numS, s1.ok, hk1, e2, hq1.2.2, Bool.false_eq_true, if_true, if_false, reduceIte]
    rw [show -(((-n).toNat : Nat) : Int) = n by omega]
  · rw [show intL n = [nuT n.toNat] by unfold intL; rw [if_neg hn]] at hs
    simp only [List.cons_append, List.nil_append] at hs
    have hq := St.head (k := 1) (t := e0) (n := n.toNat) hs
    have w2 : (((q.k : Nat) : Int) == (2 : Int)) = false := by rw [hq.1]; rfl
    have w1 : (((q.k : Nat) : Int) == (1 : Int)) = true := by rw [hq.1]; rfl
    obtain ⟨q2, e2, s2, x2, y2⟩ := hs.step (by simp)
    refine ⟨.mk 3 q.a Z.E n [], q2, ?_, ⟨s2, by omega, by omega, Tw.eint q.a n h1 h2 h3, Sm.mk .nil⟩⟩
    rw [run_succ]
    simp only [stepN, atomS, hs.ok, w1, w2, hq.2.2, e2, Bool.false_eq_true, if_true, if_false, reduceIte]
    rw [show ((n.toNat : Nat) : Int) = n by omega]
theorem r_edo {a : Nat} {nm : ByteArray} (h : GT (nmT nm)) {x : Nd} {lx : List Tk} (hx : AllE x lx) : Rd Tw xx .app 5 F5 (hgt (Nd.mk 19 a nm 0 [x])) (Nd.mk 19 a nm 0 [x]) ([wd Z.k38, nmT nm] ++ inL 6 x lx) ([wd Z.k38, nmT nm] ++ inL 6 x lx) := by
  intro S k q c rest hk hs hf hd
  have hd' : q.x + hgt (Nd.mk 19 a nm 0 [x]) ≤ 201 := hd
  have gx : hgt x + 1 ≤ hgt (Nd.mk 19 a nm 0 [x]) := hgt_kid (by simp)
  simp only [List.length_append, List.length_cons, List.length_nil] at hk
  simp only [List.cons_append, List.nil_append, List.append_assoc] at hs
  obtain ⟨k1, rfl⟩ : ∃ k1, k = k1 + 1 := ⟨k - 1, by omega⟩
  obtain ⟨q1, i1, h1, m1, e1, s1, x1, y1⟩ := hs.eat Z.k38 (by decide +kernel)
  obtain ⟨q2, b2, m2, e2, s2, x2, y2⟩ := s1.nm
  have o3 := s2.ok
  obtain ⟨t4, q4, e4, r4⟩ := (kid6 hx) S k1 q2 _ _ (by omega) s2 rfl (by show q2.x + _ ≤ 201; omega)
  have x4 := r4.x; have y4 := r4.y; have s4 := r4.st
  exact ⟨Nd.mk 19 q.a nm 0 [t4], q4, by rw [run_succ]; simp only [stepN, appS, i1, h1, m1, e1, b2, m2, e2, o3, e4, Bool.false_eq_true, if_true, if_false, reduceIte], ⟨s4, by omega, by omega, (by have z := Tw.edo q.a nm t4 lx h r4.tw; rwa [r4.sm.inL] at z), Sm.mk (.cons r4.sm .nil)⟩⟩
theorem r_efst {a : Nat} {x : Nd} {lx : List Tk} (hx : AllE x lx) : Rd Tw xx .app 5 F5 (hgt (Nd.mk 13 a Z.E 0 [x])) (Nd.mk 13 a Z.E 0 [x]) ([wd Z.k36] ++ inL 6 x lx) ([wd Z.k36] ++ inL 6 x lx) := by
  intro S k q c rest hk hs hf hd
  have hd' : q.x + hgt (Nd.mk 13 a Z.E 0 [x]) ≤ 201 := hd
  have gx : hgt x + 1 ≤ hgt (Nd.mk 13 a Z.E 0 [x]) := hgt_kid (by simp)
  simp only [List.length_append, List.length_cons, List.length_nil] at hk
  simp only [List.cons_append, List.nil_append, List.append_assoc] at hs
  obtain ⟨k1, rfl⟩ : ∃ k1, k = k1 + 1 := ⟨k - 1, by omega⟩
  have n1 := hs.no Z.k38 (by first | decide +kernel | rfl | simp [isSb])
  obtain ⟨q2, i2, h2, m2, e2, s2, x2, y2⟩ := hs.eat Z.k36 (by decide +kernel)
  obtain ⟨t3, q3, e3, r3⟩ := (kid6 hx) S k1 q2 _ _ (by omega) s2 rfl (by show q2.x + _ ≤ 201; omega)
  have x3 := r3.x; have y3 := r3.y; have s3 := r3.st
  exact ⟨Nd.mk 13 q.a Z.E 0 [t3], q3, by rw [run_succ]; simp only [stepN, appS, n1.1, n1.2, i2, h2, m2, e2, e3, Bool.false_eq_true, if_true, if_false, reduceIte], ⟨s3, by omega, by omega, (by have z := Tw.efst q.a t3 lx r3.tw; rwa [r3.sm.inL] at z), Sm.mk (.cons r3.sm .nil)⟩⟩
theorem r_esnd {a : Nat} {x : Nd} {lx : List Tk} (hx : AllE x lx) : Rd Tw xx .app 5 F5 (hgt (Nd.mk 14 a Z.E 0 [x])) (Nd.mk 14 a Z.E 0 [x]) ([wd Z.k37] ++ inL 6 x lx) ([wd Z.k37] ++ inL 6 x lx) := by
  intro S k q c rest hk hs hf hd
  have hd' : q.x + hgt (Nd.mk 14 a Z.E 0 [x]) ≤ 201 := hd
  have gx : hgt x + 1 ≤ hgt (Nd.mk 14 a Z.E 0 [x]) := hgt_kid (by simp)
  simp only [List.length_append, List.length_cons, List.length_nil] at hk
  simp only [List.cons_append, List.nil_append, List.append_assoc] at hs
  obtain ⟨k1, rfl⟩ : ∃ k1, k = k1 + 1 := ⟨k - 1, by omega⟩
  have n1 := hs.no Z.k38 (by first | decide +kernel | rfl | simp [isSb])
  have n2 := hs.no Z.k36 (by first | decide +kernel | rfl | simp [isSb])
  obtain ⟨q3, i3, h3, m3, e3, s3, x3, y3⟩ := hs.eat Z.k37 (by decide +kernel)
  obtain ⟨t4, q4, e4, r4⟩ := (kid6 hx) S k1 q3 _ _ (by omega) s3 rfl (by show q3.x + _ ≤ 201; omega)
  have x4 := r4.x; have y4 := r4.y; have s4 := r4.st
  exact ⟨Nd.mk 14 q.a Z.E 0 [t4], q4, by rw [run_succ]; simp only [stepN, appS, n1.1, n1.2, n2.1, n2.2, i3, h3, m3, e3, e4, Bool.false_eq_true, if_true, if_false, reduceIte], ⟨s4, by omega, by omega, (by have z := Tw.esnd q.a t4 lx r4.tw; rwa [r4.sm.inL] at z), Sm.mk (.cons r4.sm .nil)⟩⟩
theorem r_eapp0 {a : Nat} {lxx : List Tk} {x : Nd} {lx : List Tk} (hx : AllE x lx) {y : Nd} {ly : List Tk} (hy : AllE y ly) (hlx : lxx = if x.k = 8 then lx else inL 6 x lx) (hl : Acc Tw xx .app .appL 5 FT (hgt x + 1) x lx lxx) : Acc Tw xx .app .appL 5 FT (hgt (Nd.mk 8 a Z.E 0 [x, y])) (Nd.mk 8 a Z.E 0 [x, y]) (lxx ++ inL 6 y ly) (lxx ++ inL 6 y ly) := by
  intro S k q c rest hk hs hf hd
  have hd' : q.x + hgt (Nd.mk 8 a Z.E 0 [x, y]) ≤ 201 := hd
  have gx : hgt x + 1 ≤ hgt (Nd.mk 8 a Z.E 0 [x, y]) := hgt_kid (by simp)
  have gy : hgt y + 1 ≤ hgt (Nd.mk 8 a Z.E 0 [x, y]) := hgt_kid (by simp)
  simp only [List.length_append, List.length_cons, List.length_nil] at hk ⊢
  simp only [List.cons_append, List.nil_append, List.append_assoc] at hs
  obtain ⟨h0, l0, z1, z2, z3, z4⟩ := hd_inL (k := 6) hy.hd
  have hs0 := hs; rw [z1, List.cons_append] at hs0; have zl : 0 < (inL 6 y ly).length := by rw [z1]; simp
  obtain ⟨t1, q1, j1, hj1, e1, r1⟩ := hl S k q _ _ (by omega) hs0 rfl (by show q.x + _ ≤ 201; omega)
  have x1 := r1.x; have y1 := r1.y; have s1 := r1.st
  obtain ⟨jj, rfl⟩ : ∃ jj, j1 = jj + 1 := ⟨j1 - 1, by omega⟩
  have bb : begB q1 = true := by rw [s1.beg]; exact z4 (by decide)
  have s1' : St S q1 (inL 6 y ly ++ c :: rest) := by rw [z1]; exact s1
  obtain ⟨t2, q2, e2, r2⟩ := (kid6 hy) S jj q1 _ _ (by omega) s1' rfl (by show q1.x + _ ≤ 201; omega)
  have x2 := r2.x; have y2 := r2.y; have s2 := r2.st
  exact ⟨Nd.mk 8 t1.a Z.E 0 [t1, t2], q2, jj, by omega, by rw [e1, run_succ]; simp only [stepN, appLS, bb, e2, Bool.false_eq_true, if_true, if_false, reduceIte], ⟨s2, by omega, by omega, (by have z := Tw.eapp t1.a t1 t2 lx ly r1.tw r2.tw; rwa [r1.sm.inL, r2.sm.inL, r1.sm.k, ← hlx] at z), Sm.mk (.cons r1.sm (.cons r2.sm .nil))⟩⟩
theorem r_eapp {a : Nat} {x : Nd} {lx : List Tk} (hx : AllE x lx) {y : Nd} {ly : List Tk} (hy : AllE y ly) : Acc Tw xx .app .appL 5 FT (hgt (.mk 8 a Z.E 0 [x, y])) (.mk 8 a Z.E 0 [x, y]) ((if x.k = 8 then lx else inL 6 x lx) ++ inL 6 y ly) ((if x.k = 8 then lx else inL 6 x lx) ++ inL 6 y ly) := by
  by_cases h8 : x.k = 8
  · exact r_eapp0 (lxx := if x.k = 8 then lx else inL 6 x lx) hx hy rfl (by rw [if_pos h8]; exact (hx.c8 h8).mono (Nat.le_succ _))
  · obtain ⟨h0, l0, z1, z2, z3, z4⟩ := hd_inL (k := 6) hx.hd
    exact r_eapp0 (lxx := if x.k = 8 then lx else inL 6 x lx) hx hy rfl (by rw [if_neg h8]; exact app_of_atom z1 (z4 (by decide)) (kid6 hx))
theorem r_add {a : Nat} {x : Nd} {lx : List Tk} (hx : AllE x lx) {y : Nd} {ly : List Tk} (hy : AllE y ly) : Acc Tw xx .sum .sumL 7 F4 (hgt (Nd.mk 18 a Z.k10 0 [x, y])) (Nd.mk 18 a Z.k10 0 [x, y]) (opL Z.k10 x y lx ly) (inL 3 x lx ++ [sg Z.k10] ++ inL 4 y ly) := by
  intro S k q c rest hk hs hf hd
  have hd' : q.x + hgt (Nd.mk 18 a Z.k10 0 [x, y]) ≤ 201 := hd
  have gx : hgt x + 1 ≤ hgt (Nd.mk 18 a Z.k10 0 [x, y]) := hgt_kid (by simp)
  have gy : hgt y + 1 ≤ hgt (Nd.mk 18 a Z.k10 0 [x, y]) := hgt_kid (by simp)
  simp only [List.length_append, List.length_cons, List.length_nil] at hk ⊢
  simp only [List.cons_append, List.nil_append, List.append_assoc] at hs
  obtain ⟨t1, q1, j1, hj1, e1, r1⟩ := (kid3 hx) S k q _ _ (by omega) hs (by decide +kernel) (by show q.x + _ ≤ 201; omega)
  have x1 := r1.x; have y1 := r1.y; have s1 := r1.st
  obtain ⟨jj, rfl⟩ : ∃ jj, j1 = jj + 1 := ⟨j1 - 1, by omega⟩
  have ht := (St.head (k := 4) (t := Z.k10) (n := 0) s1).2.1
  obtain ⟨q2, i2, h2, m2, e2, s2, x2, y2⟩ := s1.eat Z.k10 (by decide +kernel)
  obtain ⟨t3, q3, e3, r3⟩ := (rd_mul (kid4 hy)) S jj q2 _ _ (by omega) s2 hf (by show q2.x + _ ≤ 201; omega)
  have x3 := r3.x; have y3 := r3.y; have s3 := r3.st
  exact ⟨Nd.mk 18 t1.a Z.k10 0 [t1, t3], q3, jj, by omega, by rw [e1, run_succ]; simp only [stepN, sumLS, two, ht, i2, h2, m2, e2, e3, Bool.false_eq_true, if_true, if_false, reduceIte], ⟨s3, by omega, by omega, (by have z := Tw.eop t1.a Z.k10 t1 t3 lx ly (by simp) r1.tw r3.tw; unfold opL at z ⊢; rwa [r1.sm.inL, r3.sm.inL, r1.sm.inL, r3.sm.inL, r1.sm.inL, r3.sm.inL] at z), Sm.mk (.cons r1.sm (.cons r3.sm .nil))⟩⟩
theorem r_sub {a : Nat} {x : Nd} {lx : List Tk} (hx : AllE x lx) {y : Nd} {ly : List Tk} (hy : AllE y ly) : Acc Tw xx .sum .sumL 7 F4 (hgt (Nd.mk 18 a Z.k5 0 [x, y])) (Nd.mk 18 a Z.k5 0 [x, y]) (opL Z.k5 x y lx ly) (inL 3 x lx ++ [sg Z.k5] ++ inL 4 y ly) := by
  intro S k q c rest hk hs hf hd
  have hd' : q.x + hgt (Nd.mk 18 a Z.k5 0 [x, y]) ≤ 201 := hd
  have gx : hgt x + 1 ≤ hgt (Nd.mk 18 a Z.k5 0 [x, y]) := hgt_kid (by simp)
  have gy : hgt y + 1 ≤ hgt (Nd.mk 18 a Z.k5 0 [x, y]) := hgt_kid (by simp)
  simp only [List.length_append, List.length_cons, List.length_nil] at hk ⊢
  simp only [List.cons_append, List.nil_append, List.append_assoc] at hs
  obtain ⟨t1, q1, j1, hj1, e1, r1⟩ := (kid3 hx) S k q _ _ (by omega) hs (by decide +kernel) (by show q.x + _ ≤ 201; omega)
  have x1 := r1.x; have y1 := r1.y; have s1 := r1.st
  obtain ⟨jj, rfl⟩ : ∃ jj, j1 = jj + 1 := ⟨j1 - 1, by omega⟩
  have ht := (St.head (k := 4) (t := Z.k5) (n := 0) s1).2.1
  have n2 := s1.no Z.k10 (by first | decide +kernel | rfl | simp [isSb])
  obtain ⟨q3, i3, h3, m3, e3, s3, x3, y3⟩ := s1.eat Z.k5 (by decide +kernel)
  obtain ⟨t4, q4, e4, r4⟩ := (rd_mul (kid4 hy)) S jj q3 _ _ (by omega) s3 hf (by show q3.x + _ ≤ 201; omega)
  have x4 := r4.x; have y4 := r4.y; have s4 := r4.st
  exact ⟨Nd.mk 18 t1.a Z.k5 0 [t1, t4], q4, jj, by omega, by rw [e1, run_succ]; simp only [stepN, sumLS, two, ht, n2.1, n2.2, i3, h3, m3, e3, e4, Bool.false_eq_true, if_true, if_false, reduceIte], ⟨s4, by omega, by omega, (by have z := Tw.eop t1.a Z.k5 t1 t4 lx ly (by simp) r1.tw r4.tw; unfold opL at z ⊢; rwa [r1.sm.inL, r4.sm.inL, r1.sm.inL, r4.sm.inL, r1.sm.inL, r4.sm.inL] at z), Sm.mk (.cons r1.sm (.cons r4.sm .nil))⟩⟩
theorem r_mul {a : Nat} {x : Nd} {lx : List Tk} (hx : AllE x lx) {y : Nd} {ly : List Tk} (hy : AllE y ly) : Acc Tw xx .mul .mulL 6 F5 (hgt (Nd.mk 18 a Z.k6 0 [x, y])) (Nd.mk 18 a Z.k6 0 [x, y]) (opL Z.k6 x y lx ly) (inL 4 x lx ++ [sg Z.k6] ++ inL 5 y ly) := by
  intro S k q c rest hk hs hf hd
  have hd' : q.x + hgt (Nd.mk 18 a Z.k6 0 [x, y]) ≤ 201 := hd
  have gx : hgt x + 1 ≤ hgt (Nd.mk 18 a Z.k6 0 [x, y]) := hgt_kid (by simp)
  have gy : hgt y + 1 ≤ hgt (Nd.mk 18 a Z.k6 0 [x, y]) := hgt_kid (by simp)
  simp only [List.length_append, List.length_cons, List.length_nil] at hk ⊢
  simp only [List.cons_append, List.nil_append, List.append_assoc] at hs
  obtain ⟨t1, q1, j1, hj1, e1, r1⟩ := (kid4 hx) S k q _ _ (by omega) hs (by decide +kernel) (by show q.x + _ ≤ 201; omega)
  have x1 := r1.x; have y1 := r1.y; have s1 := r1.st
  obtain ⟨jj, rfl⟩ : ∃ jj, j1 = jj + 1 := ⟨j1 - 1, by omega⟩
  have ht := (St.head (k := 4) (t := Z.k6) (n := 0) s1).2.1
  obtain ⟨q2, i2, h2, m2, e2, s2, x2, y2⟩ := s1.eat Z.k6 (by decide +kernel)
  obtain ⟨t3, q3, e3, r3⟩ := (kid5 hy) S jj q2 _ _ (by omega) s2 hf (by show q2.x + _ ≤ 201; omega)
  have x3 := r3.x; have y3 := r3.y; have s3 := r3.st
  exact ⟨Nd.mk 18 t1.a Z.k6 0 [t1, t3], q3, jj, by omega, by rw [e1, run_succ]; simp only [stepN, mulLS, two, ht, i2, h2, m2, e2, e3, Bool.false_eq_true, if_true, if_false, reduceIte], ⟨s3, by omega, by omega, (by have z := Tw.eop t1.a Z.k6 t1 t3 lx ly (by simp) r1.tw r3.tw; unfold opL at z ⊢; rwa [r1.sm.inL, r3.sm.inL, r1.sm.inL, r3.sm.inL, r1.sm.inL, r3.sm.inL] at z), Sm.mk (.cons r1.sm (.cons r3.sm .nil))⟩⟩
theorem r_econs {a : Nat} {x : Nd} {lx : List Tk} (hx : AllE x lx) {y : Nd} {ly : List Tk} (hy : AllE y ly) : Rd Tw xx .cons 8 F2 (hgt (Nd.mk 16 a Z.E 0 [x, y])) (Nd.mk 16 a Z.E 0 [x, y]) (inL 3 x lx ++ [sg Z.k9] ++ inL 2 y ly) (inL 3 x lx ++ [sg Z.k9] ++ inL 2 y ly) := by
  intro S k q c rest hk hs hf hd
  have hd' : q.x + hgt (Nd.mk 16 a Z.E 0 [x, y]) ≤ 201 := hd
  have gx : hgt x + 1 ≤ hgt (Nd.mk 16 a Z.E 0 [x, y]) := hgt_kid (by simp)
  have gy : hgt y + 1 ≤ hgt (Nd.mk 16 a Z.E 0 [x, y]) := hgt_kid (by simp)
  simp only [List.length_append, List.length_cons, List.length_nil] at hk
  simp only [List.cons_append, List.nil_append, List.append_assoc] at hs
  obtain ⟨k1, rfl⟩ : ∃ k1, k = k1 + 1 := ⟨k - 1, by omega⟩
  obtain ⟨t1, q1, e1, r1⟩ := (rd_sum (kid3 hx)) S k1 q _ _ (by omega) hs (by decide +kernel) (by show q.x + _ ≤ 201; omega)
  have x1 := r1.x; have y1 := r1.y; have s1 := r1.st
  obtain ⟨q2, i2, h2, m2, e2, s2, x2, y2⟩ := s1.eat Z.k9 (by decide +kernel)
  obtain ⟨t3, q3, e3, r3⟩ := (kid2 hy) S k1 q2 _ _ (by omega) s2 hf (by show q2.x + _ ≤ 201; omega)
  have x3 := r3.x; have y3 := r3.y; have s3 := r3.st
  exact ⟨Nd.mk 16 t1.a Z.E 0 [t1, t3], q3, by rw [run_succ]; simp only [stepN, consS, e1, i2, h2, m2, e2, e3, Bool.false_eq_true, if_true, if_false, reduceIte], ⟨s3, by omega, by omega, (by have z := Tw.econs t1.a t1 t3 lx ly r1.tw r3.tw; rwa [r1.sm.inL, r3.sm.inL] at z), Sm.mk (.cons r1.sm (.cons r3.sm .nil))⟩⟩
theorem r_ee {a : Nat} {x : Nd} {lx : List Tk} (hx : AllE x lx) {y : Nd} {ly : List Tk} (hy : AllE y ly) : Rd Tw xx .comp 9 F1 (hgt (Nd.mk 18 a Z.k8 0 [x, y])) (Nd.mk 18 a Z.k8 0 [x, y]) (opL Z.k8 x y lx ly) (inL 2 x lx ++ [sg Z.k8] ++ inL 2 y ly) := by
  intro S k q c rest hk hs hf hd
  have hd' : q.x + hgt (Nd.mk 18 a Z.k8 0 [x, y]) ≤ 201 := hd
  have gx : hgt x + 1 ≤ hgt (Nd.mk 18 a Z.k8 0 [x, y]) := hgt_kid (by simp)
  have gy : hgt y + 1 ≤ hgt (Nd.mk 18 a Z.k8 0 [x, y]) := hgt_kid (by simp)
  simp only [List.length_append, List.length_cons, List.length_nil] at hk
  simp only [List.cons_append, List.nil_append, List.append_assoc] at hs
  obtain ⟨k1, rfl⟩ : ∃ k1, k = k1 + 1 := ⟨k - 1, by omega⟩
  obtain ⟨t1, q1, e1, r1⟩ := (kid2 hx) S k1 q _ _ (by omega) hs (by decide +kernel) (by show q.x + _ ≤ 201; omega)
  have x1 := r1.x; have y1 := r1.y; have s1 := r1.st
  obtain ⟨q2, i2, h2, m2, e2, s2, x2, y2⟩ := s1.eat Z.k8 (by decide +kernel)
  obtain ⟨t3, q3, e3, r3⟩ := (kid2 hy) S k1 q2 _ _ (by omega) s2 (f12 hf).1 (by show q2.x + _ ≤ 201; omega)
  have x3 := r3.x; have y3 := r3.y; have s3 := r3.st
  exact ⟨Nd.mk 18 t1.a Z.k8 0 [t1, t3], q3, by rw [run_succ]; simp only [stepN, compS, two, e1, i2, h2, m2, e2, e3, Bool.false_eq_true, if_true, if_false, reduceIte], ⟨s3, by omega, by omega, (by have z := Tw.eop t1.a Z.k8 t1 t3 lx ly (by simp) r1.tw r3.tw; unfold opL at z ⊢; rwa [r1.sm.inL, r3.sm.inL, r1.sm.inL, r3.sm.inL, r1.sm.inL, r3.sm.inL] at z), Sm.mk (.cons r1.sm (.cons r3.sm .nil))⟩⟩
theorem r_lt {a : Nat} {x : Nd} {lx : List Tk} (hx : AllE x lx) {y : Nd} {ly : List Tk} (hy : AllE y ly) : Rd Tw xx .comp 9 F1 (hgt (Nd.mk 18 a Z.k17 0 [x, y])) (Nd.mk 18 a Z.k17 0 [x, y]) (opL Z.k17 x y lx ly) (inL 2 x lx ++ [sg Z.k17] ++ inL 2 y ly) := by
  intro S k q c rest hk hs hf hd
  have hd' : q.x + hgt (Nd.mk 18 a Z.k17 0 [x, y]) ≤ 201 := hd
  have gx : hgt x + 1 ≤ hgt (Nd.mk 18 a Z.k17 0 [x, y]) := hgt_kid (by simp)
  have gy : hgt y + 1 ≤ hgt (Nd.mk 18 a Z.k17 0 [x, y]) := hgt_kid (by simp)
  simp only [List.length_append, List.length_cons, List.length_nil] at hk
  simp only [List.cons_append, List.nil_append, List.append_assoc] at hs
  obtain ⟨k1, rfl⟩ : ∃ k1, k = k1 + 1 := ⟨k - 1, by omega⟩
  obtain ⟨t1, q1, e1, r1⟩ := (kid2 hx) S k1 q _ _ (by omega) hs (by decide +kernel) (by show q.x + _ ≤ 201; omega)
  have x1 := r1.x; have y1 := r1.y; have s1 := r1.st
  have n2 := s1.no Z.k8 (by first | decide +kernel | rfl | simp [isSb])
  obtain ⟨q3, i3, h3, m3, e3, s3, x3, y3⟩ := s1.eat Z.k17 (by decide +kernel)
  obtain ⟨t4, q4, e4, r4⟩ := (kid2 hy) S k1 q3 _ _ (by omega) s3 (f12 hf).1 (by show q3.x + _ ≤ 201; omega)
  have x4 := r4.x; have y4 := r4.y; have s4 := r4.st
  exact ⟨Nd.mk 18 t1.a Z.k17 0 [t1, t4], q4, by rw [run_succ]; simp only [stepN, compS, two, e1, n2.1, n2.2, i3, h3, m3, e3, e4, Bool.false_eq_true, if_true, if_false, reduceIte], ⟨s4, by omega, by omega, (by have z := Tw.eop t1.a Z.k17 t1 t4 lx ly (by simp) r1.tw r4.tw; unfold opL at z ⊢; rwa [r1.sm.inL, r4.sm.inL, r1.sm.inL, r4.sm.inL, r1.sm.inL, r4.sm.inL] at z), Sm.mk (.cons r1.sm (.cons r4.sm .nil))⟩⟩
theorem hand_rd {cs : List Cd} (hc : ∀ c ∈ cs, GT (nmT c.nm) ∧ GT (nmT c.pn) ∧ GT (nmT c.qn)) (hcs : ∀ c ∈ cs, AllE c.e c.le) : ∀ (S : ByteArray) (k : Nat) (q : Rs) (l : List Nd) (rest : List Tk), 16 * (cs.flatMap Cd.tks).length + 12 ≤ k →
    St S q (cs.flatMap Cd.tks ++ sg Z.k11 :: rest) → (∀ c ∈ cs, q.x + (hgt c.e + 1) ≤ 201) →
    ∃ (cs' : List Cd) (q' : Rs), run S k (.handL l) q = (.mk 0 0 Z.E 0 (l ++ cs'.map Cd.node), q') ∧ St S q' (sg Z.k11 :: rest) ∧ q'.x = q.x ∧ q'.y = q.y ∧ cs'.flatMap Cd.tks = cs.flatMap Cd.tks ∧ SmL (cs.map Cd.node) (cs'.map Cd.node) ∧
      (∀ c ∈ cs', GT (nmT c.nm) ∧ GT (nmT c.pn) ∧ GT (nmT c.qn)) ∧ (∀ c ∈ cs', Tw c.e c.le) := by
  induction cs with
  | nil =>
    intro S k q l rest hk hs hd
    obtain ⟨k1, rfl⟩ : ∃ k1, k = k1 + 1 := ⟨k - 1, by omega⟩
    have n1 := hs.no Z.k24 (by decide +kernel)
    exact ⟨[], q, by rw [run_succ]; simp only [stepN, handLS, n1.1, n1.2, Bool.false_eq_true, if_false, reduceIte, List.map_nil, List.append_nil], hs, rfl, rfl, rfl, .nil, fun c h => (by cases h), fun c h => (by cases h)⟩
  | cons d r ih =>
    intro S k q l rest hk hs hd
    have hc0 := hc d List.mem_cons_self
    have hd0 := hd d List.mem_cons_self
    have h0 := hcs d List.mem_cons_self
    have e0' : (d :: r).flatMap Cd.tks = [sg Z.k24, nmT d.nm, nmT d.pn, nmT d.qn, sg Z.k1] ++ d.le ++ r.flatMap Cd.tks := by simp [Cd.tks]
    rw [e0'] at hk hs
    simp only [List.length_append, List.length_cons, List.length_nil] at hk
    simp only [List.cons_append, List.nil_append, List.append_assoc] at hs
    obtain ⟨k1, rfl⟩ : ∃ k1, k = k1 + 1 := ⟨k - 1, by omega⟩
    obtain ⟨q1, i1, h1, m1, e1, s1, x1, y1⟩ := hs.eat Z.k24 (by decide +kernel)
    obtain ⟨q2, b2, m2, e2, s2, x2, y2⟩ := s1.nm
    obtain ⟨q3, b3, m3, e3, s3, x3, y3⟩ := s2.nm
    obtain ⟨q4, b4, m4, e4, s4, x4, y4⟩ := s3.nm
    obtain ⟨q5, i5, h5, m5, e5, s5, x5, y5⟩ := s4.eat Z.k1 (by decide +kernel)
    have hz : ∃ cz rz, r.flatMap Cd.tks ++ sg Z.k11 :: rest = cz :: rz ∧ F0 cz = true := by
      cases r with
      | nil => exact ⟨_, _, rfl, by decide +kernel⟩
      | cons d2 r2 => exact ⟨_, _, rfl, by decide +kernel⟩
    obtain ⟨cz, rz, z1, z2⟩ := hz
    have s5' := s5
    rw [z1] at s5'
    obtain ⟨t6, q6, e6, r6⟩ := h0.ex S k1 q5 cz rz (by omega) s5' z2 (by show q5.x + _ ≤ 201; omega)
    have x6 := r6.x; have y6 := r6.y; have s6 := r6.st
    rw [← z1] at s6
    obtain ⟨cs', q7, e7, s7, x7, y7, f7, g7, c7, w7⟩ := ih (fun c h => hc c (List.mem_cons_of_mem _ h)) (fun c h => hcs c (List.mem_cons_of_mem _ h)) S k1 q6 (l ++ [.mk 22 q1.a d.nm 0 [.mk 23 q2.a d.pn 0 [], .mk 23 q3.a d.qn 0 [], t6]]) rest (by omega) s6
      (fun c h => by have := hd c (List.mem_cons_of_mem _ h); omega)
    refine ⟨⟨q1.a, d.nm, q2.a, d.pn, q3.a, d.qn, t6, d.le⟩ :: cs', q7, ?_, s7, by omega, by omega, ?_, ?_, ?_, ?_⟩
    · rw [run_succ]
      simp only [stepN, handLS, i1, h1, m2, m3, m4, m5, e6, e7, if_true, reduceIte, List.map_cons, Cd.node, List.append_assoc, List.singleton_append]
    · rw [List.flatMap_cons, List.flatMap_cons, f7]; rfl
    · exact .cons (.mk (.cons (.mk .nil) (.cons (.mk .nil) (.cons r6.sm .nil)))) g7
    · intro c h
      rcases List.mem_cons.1 h with rfl | h
      · exact hc0
      · exact c7 c h
    · intro c h
      rcases List.mem_cons.1 h with rfl | h
      · exact r6.tw
      · exact w7 c h
theorem r_ehandle0 {a ra : Nat} {rn : ByteArray} {x b : Nd} {lx lb : List Tk} {cs : List Cd} (gh : GT (nmT rn)) (hc : ∀ c ∈ cs, GT (nmT c.nm) ∧ GT (nmT c.pn) ∧ GT (nmT c.qn)) (hx : AllE x lx) (hb : AllE b lb) (hcs : ∀ c ∈ cs, AllE c.e c.le) :
    Rd Tw xx .any 10 F0 (hgt (Nd.mk 20 a Z.E 0 (x :: .mk 21 ra rn 0 [b] :: cs.map Cd.node))) (Nd.mk 20 a Z.E 0 (x :: .mk 21 ra rn 0 [b] :: cs.map Cd.node)) ([wd Z.k27] ++ lx ++ [wd Z.k34, sg Z.k20, wd Z.k35, nmT rn, sg Z.k1] ++ lb ++ cs.flatMap Cd.tks ++ [sg Z.k11]) ([wd Z.k27] ++ lx ++ [wd Z.k34, sg Z.k20, wd Z.k35, nmT rn, sg Z.k1] ++ lb ++ cs.flatMap Cd.tks ++ [sg Z.k11]) := by
  intro S k q c rest hk hs hf hd
  have hd' : q.x + hgt (Nd.mk 20 a Z.E 0 (x :: .mk 21 ra rn 0 [b] :: cs.map Cd.node)) ≤ 201 := hd
  have gx : hgt x + 1 ≤ hgt (Nd.mk 20 a Z.E 0 (x :: .mk 21 ra rn 0 [b] :: cs.map Cd.node)) := hgt_kid (by simp)
  have gb0 : hgt b + 1 ≤ hgt (Nd.mk 21 ra rn 0 [b]) := hgt_kid (by simp); have gb : hgt (Nd.mk 21 ra rn 0 [b]) + 1 ≤ hgt (Nd.mk 20 a Z.E 0 (x :: .mk 21 ra rn 0 [b] :: cs.map Cd.node)) := hgt_kid (by simp)
  have gc : ∀ z ∈ cs, hgt z.e + 2 ≤ hgt (Nd.mk 20 a Z.E 0 (x :: .mk 21 ra rn 0 [b] :: cs.map Cd.node)) := fun z hz => by
    have g1 : hgt z.e + 1 ≤ hgt z.node := hgt_kid (by simp)
    have g2 : hgt z.node + 1 ≤ hgt (Nd.mk 20 a Z.E 0 (x :: .mk 21 ra rn 0 [b] :: cs.map Cd.node)) := hgt_kid (by simp only [List.mem_cons, List.mem_map]; exact .inr (.inr ⟨z, hz, rfl⟩))
    omega
  simp only [List.length_append, List.length_cons, List.length_nil] at hk
  simp only [List.cons_append, List.nil_append, List.append_assoc] at hs
  obtain ⟨k1, rfl⟩ : ∃ k1, k = k1 + 1 + 1 := ⟨k - 2, by omega⟩
  have n1 := hs.no Z.k12 (by first | decide +kernel | rfl | simp [isSb])
  have n2 := hs.no Z.k25 (by first | decide +kernel | rfl | simp [isSb])
  have n3 := hs.no Z.k28 (by first | decide +kernel | rfl | simp [isSb])
  have n4 := hs.no Z.k32 (by first | decide +kernel | rfl | simp [isSb])
  obtain ⟨q5, i5, h5, m5, e5, s5, x5, y5⟩ := hs.eat Z.k27 (by decide +kernel)
  obtain ⟨t6, q6, e6, r6⟩ := hx.ex S k1 q5 _ _ (by omega) s5 (by decide +kernel) (by show q5.x + _ ≤ 201; omega)
  have x6 := r6.x; have y6 := r6.y; have s6 := r6.st
  obtain ⟨q7, i7, h7, m7, e7, s7, x7, y7⟩ := s6.eat Z.k34 (by decide +kernel)
  obtain ⟨q8, i8, h8, m8, e8, s8, x8, y8⟩ := s7.eat Z.k20 (by decide +kernel)
  obtain ⟨q9, i9, h9, m9, e9, s9, x9, y9⟩ := s8.eat Z.k35 (by decide +kernel)
  obtain ⟨q10, b10, m10, e10, s10, x10, y10⟩ := s9.nm
  have o11 := s10.ok
  obtain ⟨q12, i12, h12, m12, e12, s12, x12, y12⟩ := s10.eat Z.k1 (by decide +kernel)
  have hz : ∃ cz rz, cs.flatMap Cd.tks ++ sg Z.k11 :: c :: rest = cz :: rz ∧ F0 cz = true := by
    cases cs with
    | nil => exact ⟨_, _, rfl, by decide +kernel⟩
    | cons d2 r2 => exact ⟨_, _, rfl, by decide +kernel⟩
  obtain ⟨cz, rz, z1, z2⟩ := hz
  have sz := s12; rw [z1] at sz
  obtain ⟨t14, q14, e14, r14⟩ := hb.ex S k1 q12 _ _ (by omega) sz z2 (by show q12.x + _ ≤ 201; omega)
  have x14 := r14.x; have y14 := r14.y; have s14 := r14.st
  have sy := s14; rw [← z1] at sy
  obtain ⟨cs', q30, e30, s30, x30, y30, f30, g30, c30, w30⟩ := hand_rd hc hcs S k1 q14 [t6, .mk 21 q8.a rn 0 [t14]] (c :: rest) (by omega) sy (fun z hz => by have := gc z hz; omega)
  obtain ⟨q15, i15, h15, m15, e15, s15, x15, y15⟩ := s30.eat Z.k11 (by decide +kernel)
  refine ⟨Nd.mk 20 q.a Z.E 0 (t6 :: .mk 21 q8.a rn 0 [t14] :: cs'.map Cd.node), q15, ?_, ⟨s15, by omega, by omega, ?_, Sm.mk (.cons r6.sm (.cons (.mk (.cons r14.sm .nil)) g30))⟩⟩
  · rw [run_succ]; simp only [stepN, anyS, run_succ, handleS, handT, Nd.ks, List.cons_append, List.nil_append, n1.1, n1.2, n2.1, n2.2, n3.1, n3.2, n4.1, n4.2, i5, h5, m5, e5, e6, i7, h7, m7, e7, i8, h8, m8, e8, i9, h9, m9, e9, b10, m10, e10, o11, i12, h12, m12, e12, e14, e30, i15, h15, m15, e15, Bool.false_eq_true, if_true, if_false, reduceIte]
  · have z := Tw.ehandle q.a 0 t6 t14 q8.a rn lx lb cs' (.inl rfl) gh c30 r6.tw r14.tw w30; rw [f30] at z; exact z
theorem r_ehandle1 {a ra : Nat} {rn : ByteArray} {x b : Nd} {lx lb : List Tk} {cs : List Cd} (gh : GT (nmT rn)) (hc : ∀ c ∈ cs, GT (nmT c.nm) ∧ GT (nmT c.pn) ∧ GT (nmT c.qn)) (hx : AllE x lx) (hb : AllE b lb) (hcs : ∀ c ∈ cs, AllE c.e c.le) :
    Rd Tw xx .any 10 F0 (hgt (Nd.mk 20 a Z.E 1 (x :: .mk 21 ra rn 0 [b] :: cs.map Cd.node))) (Nd.mk 20 a Z.E 1 (x :: .mk 21 ra rn 0 [b] :: cs.map Cd.node)) ([wd Z.k33] ++ lx ++ [wd Z.k34, sg Z.k20, wd Z.k35, nmT rn, sg Z.k1] ++ lb ++ cs.flatMap Cd.tks ++ [sg Z.k11]) ([wd Z.k33] ++ lx ++ [wd Z.k34, sg Z.k20, wd Z.k35, nmT rn, sg Z.k1] ++ lb ++ cs.flatMap Cd.tks ++ [sg Z.k11]) := by
  intro S k q c rest hk hs hf hd
  have hd' : q.x + hgt (Nd.mk 20 a Z.E 1 (x :: .mk 21 ra rn 0 [b] :: cs.map Cd.node)) ≤ 201 := hd
  have gx : hgt x + 1 ≤ hgt (Nd.mk 20 a Z.E 1 (x :: .mk 21 ra rn 0 [b] :: cs.map Cd.node)) := hgt_kid (by simp)
  have gb0 : hgt b + 1 ≤ hgt (Nd.mk 21 ra rn 0 [b]) := hgt_kid (by simp); have gb : hgt (Nd.mk 21 ra rn 0 [b]) + 1 ≤ hgt (Nd.mk 20 a Z.E 1 (x :: .mk 21 ra rn 0 [b] :: cs.map Cd.node)) := hgt_kid (by simp)
  have gc : ∀ z ∈ cs, hgt z.e + 2 ≤ hgt (Nd.mk 20 a Z.E 1 (x :: .mk 21 ra rn 0 [b] :: cs.map Cd.node)) := fun z hz => by
    have g1 : hgt z.e + 1 ≤ hgt z.node := hgt_kid (by simp)
    have g2 : hgt z.node + 1 ≤ hgt (Nd.mk 20 a Z.E 1 (x :: .mk 21 ra rn 0 [b] :: cs.map Cd.node)) := hgt_kid (by simp only [List.mem_cons, List.mem_map]; exact .inr (.inr ⟨z, hz, rfl⟩))
    omega
  simp only [List.length_append, List.length_cons, List.length_nil] at hk
  simp only [List.cons_append, List.nil_append, List.append_assoc] at hs
  obtain ⟨k1, rfl⟩ : ∃ k1, k = k1 + 1 + 1 := ⟨k - 2, by omega⟩
  have n1 := hs.no Z.k12 (by first | decide +kernel | rfl | simp [isSb])
  have n2 := hs.no Z.k25 (by first | decide +kernel | rfl | simp [isSb])
  have n3 := hs.no Z.k28 (by first | decide +kernel | rfl | simp [isSb])
  have n4 := hs.no Z.k32 (by first | decide +kernel | rfl | simp [isSb])
  have n5 := hs.no Z.k27 (by first | decide +kernel | rfl | simp [isSb])
  obtain ⟨q6, i6, h6, m6, e6, s6, x6, y6⟩ := hs.eat Z.k33 (by decide +kernel)
  obtain ⟨t7, q7, e7, r7⟩ := hx.ex S k1 q6 _ _ (by omega) s6 (by decide +kernel) (by show q6.x + _ ≤ 201; omega)
  have x7 := r7.x; have y7 := r7.y; have s7 := r7.st
  obtain ⟨q8, i8, h8, m8, e8, s8, x8, y8⟩ := s7.eat Z.k34 (by decide +kernel)
  obtain ⟨q9, i9, h9, m9, e9, s9, x9, y9⟩ := s8.eat Z.k20 (by decide +kernel)
  obtain ⟨q10, i10, h10, m10, e10, s10, x10, y10⟩ := s9.eat Z.k35 (by decide +kernel)
  obtain ⟨q11, b11, m11, e11, s11, x11, y11⟩ := s10.nm
  have o12 := s11.ok
  obtain ⟨q13, i13, h13, m13, e13, s13, x13, y13⟩ := s11.eat Z.k1 (by decide +kernel)
  have hz : ∃ cz rz, cs.flatMap Cd.tks ++ sg Z.k11 :: c :: rest = cz :: rz ∧ F0 cz = true := by
    cases cs with
    | nil => exact ⟨_, _, rfl, by decide +kernel⟩
    | cons d2 r2 => exact ⟨_, _, rfl, by decide +kernel⟩
  obtain ⟨cz, rz, z1, z2⟩ := hz
  have sz := s13; rw [z1] at sz
  obtain ⟨t15, q15, e15, r15⟩ := hb.ex S k1 q13 _ _ (by omega) sz z2 (by show q13.x + _ ≤ 201; omega)
  have x15 := r15.x; have y15 := r15.y; have s15 := r15.st
  have sy := s15; rw [← z1] at sy
  obtain ⟨cs', q30, e30, s30, x30, y30, f30, g30, c30, w30⟩ := hand_rd hc hcs S k1 q15 [t7, .mk 21 q9.a rn 0 [t15]] (c :: rest) (by omega) sy (fun z hz => by have := gc z hz; omega)
  obtain ⟨q16, i16, h16, m16, e16, s16, x16, y16⟩ := s30.eat Z.k11 (by decide +kernel)
  refine ⟨Nd.mk 20 q.a Z.E 1 (t7 :: .mk 21 q9.a rn 0 [t15] :: cs'.map Cd.node), q16, ?_, ⟨s16, by omega, by omega, ?_, Sm.mk (.cons r7.sm (.cons (.mk (.cons r15.sm .nil)) g30))⟩⟩
  · rw [run_succ]; simp only [stepN, anyS, run_succ, handleS, handT, Nd.ks, List.cons_append, List.nil_append, n1.1, n1.2, n2.1, n2.2, n3.1, n3.2, n4.1, n4.2, n5.1, n5.2, i6, h6, m6, e6, e7, i8, h8, m8, e8, i9, h9, m9, e9, i10, h10, m10, e10, b11, m11, e11, o12, i13, h13, m13, e13, e15, e30, i16, h16, m16, e16, Bool.false_eq_true, if_true, if_false, reduceIte]
  · have z := Tw.ehandle q.a 1 t7 t15 q9.a rn lx lb cs' (.inr rfl) gh c30 r7.tw r15.tw w30; rw [f30] at z; exact z
theorem tw_all {t : Nd} {L : List Tk} (h : Tw t L) : AllE t L := by
  induction h with
  | eint a n h1 h2 h3 => exact mk6 (tw_hd (.eint a n h1 h2 h3)) (by simp [lvl, Nd.k]) (by simp [Nd.k]) (r_eint h1 h2 h3)
  | ebool a n h => rcases h with rfl | rfl; exact mk6 (tw_hd (.ebool a 0 (.inl rfl))) (by simp [lvl, Nd.k]) (by simp [Nd.k]) r_ebool0; exact mk6 (tw_hd (.ebool a 1 (.inr rfl))) (by simp [lvl, Nd.k]) (by simp [Nd.k]) r_ebool1
  | eunit a => exact mk6 (tw_hd (.eunit a)) (by simp [lvl, Nd.k]) (by simp [Nd.k]) r_eunit
  | evar a nm h => exact mk6 (tw_hd (.evar a nm h)) (by simp [lvl, Nd.k]) (by simp [Nd.k]) (r_evar h)
  | efn a nm x lx h w hx => exact mk0 (tw_hd (.efn a nm x lx h w)) (by simp [lvl, Nd.k]) (by simp [Nd.k]) (r_efn h hx)
  | eapp a x y lx ly w w2 hx hy => exact mk8 (tw_hd (.eapp a x y lx ly w w2)) (by simp [lvl, Nd.k]) (r_eapp hx hy)
  | elet0 a nm x y lx ly h w w2 hx hy => exact mk0 (tw_hd (.elet0 a nm x y lx ly h w w2)) (by simp [lvl, Nd.k]) (by simp [Nd.k]) (r_elet0 h hx hy)
  | elet1 a nm fa fx x y lx ly h h2 w w2 hx hy => exact mk0 (tw_hd (.elet1 a nm fa fx x y lx ly h h2 w w2)) (by simp [lvl, Nd.k]) (by simp [Nd.k]) (r_elet1 h h2 hx hy)
  | eseq a x y lx ly w w2 hx hy => exact mk0 (tw_hd (.eseq a x y lx ly w w2)) (by simp [lvl, Nd.k]) (by simp [Nd.k]) (r_eseq hx hy)
  | eif a x y z lx ly lz w w2 w3 hx hy hz => exact mk0 (tw_hd (.eif a x y z lx ly lz w w2 w3)) (by simp [lvl, Nd.k]) (by simp [Nd.k]) (r_eif hx hy hz)
  | epair a x y lx ly w w2 hx hy => exact mk6 (tw_hd (.epair a x y lx ly w w2)) (by simp [lvl, Nd.k]) (by simp [Nd.k]) (r_epair hx hy)
  | efst a x lx w hx => exact mk5 (tw_hd (.efst a x lx w)) (by simp [lvl, Nd.k]) (fun g => absurd g (by simp [Nd.k])) (fun g => absurd g (by simp [lvl, Nd.k])) (r_efst hx)
  | esnd a x lx w hx => exact mk5 (tw_hd (.esnd a x lx w)) (by simp [lvl, Nd.k]) (fun g => absurd g (by simp [Nd.k])) (fun g => absurd g (by simp [lvl, Nd.k])) (r_esnd hx)
  | enil a => exact mk6 (tw_hd (.enil a)) (by simp [lvl, Nd.k]) (by simp [Nd.k]) r_enil
  | econs a x y lx ly w w2 hx hy => exact mk2 (tw_hd (.econs a x y lx ly w w2)) (by simp [lvl, Nd.k]) (by simp [Nd.k]) (r_econs hx hy)
  | ecase a x y z ua va un vn lx ly lz h h2 w w2 w3 hx hy hz => exact mk0 (tw_hd (.ecase a x y z ua va un vn lx ly lz h h2 w w2 w3)) (by simp [lvl, Nd.k]) (by simp [Nd.k]) (r_ecase h h2 hx hy hz)
  | eop a nm x y lx ly h w w2 hx hy =>
    have hd := tw_hd (.eop a nm x y lx ly h w w2)
    rcases h with rfl | rfl | rfl | rfl | rfl
    · exact mk1 hd (by simp [lvl, Nd.k, Nd.nm]) (by simp [Nd.k]) (r_ee hx hy)
    · exact mk1 hd (by simp [lvl, Nd.k, Nd.nm]) (by simp [Nd.k]) (r_lt hx hy)
    · exact mk3 hd (by simp [lvl, Nd.k, Nd.nm]) (by simp [Nd.k]) (r_add hx hy)
    · exact mk3 hd (by simp [lvl, Nd.k, Nd.nm]) (by simp [Nd.k]) (r_sub hx hy)
    · exact mk4 hd (by simp [lvl, Nd.k, Nd.nm]) (by simp [Nd.k]) (r_mul hx hy)
  | edo a nm x lx h w hx => exact mk5 (tw_hd (.edo a nm x lx h w)) (by simp [lvl, Nd.k]) (fun g => absurd g (by simp [Nd.k])) (fun g => absurd g (by simp [lvl, Nd.k])) (r_edo h hx)
  | ehandle a n x b ra rn lx lb cs hn h hc w w2 w3 hx hb hcs =>
    have hd := tw_hd (.ehandle a n x b ra rn lx lb cs hn h hc w w2 w3)
    rcases hn with rfl | rfl
    · exact mk0 hd (by simp [lvl, Nd.k]) (by simp [Nd.k]) (r_ehandle0 h hc hx hb hcs)
    · exact mk0 hd (by simp [lvl, Nd.k]) (by simp [Nd.k]) (r_ehandle1 h hc hx hb hcs)
structure AllT (t : Nd) (L : List Tk) : Prop where
  typ : Rd Ty yy .typ 11 T0 (hgt t + 1) t L L
  c1 : 1 ≤ lvl t → Rd Ty yy .pair 10 T1 (hgt t) t L L
  c2 : 2 ≤ lvl t → Acc Ty yy .some .listL 9 FT (hgt t) t L L
section
variable {d : Nat} {t : Nd} {L Lc : List Tk}
theorem rd_some (h : Acc Ty yy .some .listL 9 FT d t L Lc) : Rd Ty yy .some 9 T2 d t L Lc := by
  intro S k q c rest hk hs hf hx
  obtain ⟨t', q', j, hj, e1, r1⟩ := h S k q c rest hk hs rfl hx
  obtain ⟨j1, rfl⟩ : ∃ j1, j = j1 + 1 := ⟨j - 1, by omega⟩
  have b := r1.st.no Z.k41 (by unfold T2 at hf; simpa using hf)
  exact ⟨t', q', by rw [e1, run_succ]; simp only [stepN, listLS, b.1, b.2, Bool.false_eq_true, if_false, reduceIte], r1⟩
theorem pair_of_some (h : Rd Ty yy .some 9 T2 d t L Lc) : Rd Ty yy .pair 10 T1 d t L Lc := by
  intro S k q c rest hk hs hf hx
  obtain ⟨k1, rfl⟩ : ∃ k1, k = k1 + 1 := ⟨k - 1, by omega⟩
  obtain ⟨t', q', e1, r1⟩ := h S k1 q c rest (by omega) hs (t12 hf).1 hx
  have b := r1.st.no Z.k6 (t12 hf).2
  exact ⟨t', q', by rw [run_succ]; simp only [stepN, pairS, e1, b.1, b.2, Bool.false_eq_true, if_false, reduceIte], r1⟩
theorem typ_of_pair (hd0 : 0 < d) (h : Rd Ty yy .pair 10 T1 d t L Lc) : Rd Ty yy .typ 11 T0 (d + 1) t L Lc := by
  intro S k q c rest hk hs hf hx
  obtain ⟨k1, rfl⟩ : ∃ k1, k = k1 + 1 := ⟨k - 1, by omega⟩
  have hx' : q.y + (d + 1) ≤ 201 := hx
  obtain ⟨t', q', e1, r1⟩ := h S k1 { q with y := q.y + 1 } c rest (by omega) (hs.xy rfl rfl rfl rfl rfl) (t01 hf).1 (by show q.y + 1 + d ≤ 201; omega)
  have hy1 : q'.y = q.y + 1 := r1.y
  have b := r1.st.no Z.k15 (t01 hf).2.1; have b2 := r1.st.no Z.k5 (t01 hf).2.2
  have hq : decide (((q.y : Nat) : Int) ≥ (200 : Int)) = false := decide_eq_false (by omega)
  exact ⟨t', { q' with y := q'.y - 1 }, by rw [run_succ]; simp only [stepN, typS, hs.ok, hq, e1, fnS, b.1, b.2, b2.1, b2.2, Bool.false_eq_true, if_true, if_false, reduceIte], ⟨r1.st.xy rfl rfl rfl rfl rfl, r1.x, by show q'.y - 1 = q.y; omega, r1.tw, r1.sm⟩⟩
theorem parenT (h : AllT t L) : Acc Ty yy .some .listL 9 FT (hgt t + 1) t L ([sg Z.k4] ++ L ++ [sg Z.k2]) := by
  intro S k q c rest hk hs hf hx
  simp only [List.length_append, List.length_cons, List.length_nil] at hk ⊢
  obtain ⟨k1, rfl⟩ : ∃ k1, k = k1 + 1 := ⟨k - 1, by omega⟩
  simp only [List.cons_append, List.nil_append, List.append_assoc] at hs
  have n1 := hs.no Z.k23 (by decide +kernel); have n2 := hs.no Z.k26 (by decide +kernel); have n3 := hs.no Z.k31 (by decide +kernel)
  obtain ⟨q1, i1, h1, m1, e1, s1, x1, y1⟩ := hs.eat Z.k4 (by decide +kernel)
  obtain ⟨t', q2, e2, r2⟩ := h.typ S k1 q1 (sg Z.k2) (c :: rest) (by omega) s1 (by decide +kernel) (by show q1.y + _ ≤ 201; rw [y1]; exact hx)
  obtain ⟨q3, i3, h3, m3, e3, s3, x3, y3⟩ := r2.st.eat Z.k2 (by decide +kernel)
  exact ⟨t', q3, k1, by omega, by rw [run_succ]; simp only [stepN, someS, n1.1, n1.2, n2.1, n2.2, n3.1, n3.2, i1, h1, e2, m3, Bool.false_eq_true, if_true, if_false, reduceIte], ⟨s3, by rw [x3, r2.x, x1], by rw [y3, r2.y, y1], r2.tw, r2.sm⟩⟩
theorem kid2T (h : AllT t L) : Acc Ty yy .some .listL 9 FT (hgt t + 1) t L (inL 2 t L) := by
  unfold inL; split
  · exact parenT h
  · exact (h.c2 (by omega)).mono (Nat.le_succ _)
theorem kid1T (h : AllT t L) : Rd Ty yy .pair 10 T1 (hgt t + 1) t L (inL 1 t L) := by
  unfold inL; split
  · exact pair_of_some (rd_some (parenT h))
  · exact (h.c1 (by omega)).mono (Nat.le_succ _)
theorem mkT2 (hl : 2 ≤ lvl t) (h : Acc Ty yy .some .listL 9 FT (hgt t) t L L) : AllT t L :=
  ⟨typ_of_pair (hgt_pos t) (pair_of_some (rd_some h)), fun _ => pair_of_some (rd_some h), fun _ => h⟩
theorem mkT1 (hl : lvl t = 1) (h : Rd Ty yy .pair 10 T1 (hgt t) t L L) : AllT t L := ⟨typ_of_pair (hgt_pos t) h, fun _ => h, fun g => by omega⟩
end
theorem pNd_sm : ∀ {ps ps' : List (Nat × ByteArray)}, ps.map (·.2) = ps'.map (·.2) → SmL (ps.map pNd) (ps'.map pNd)
  | [], [], _ => .nil
  | [], _ :: _, h => by cases h
  | _ :: _, [], h => by cases h
  | p :: r, p' :: r', h => by
    simp only [List.map_cons, List.cons.injEq] at h ⊢
    refine .cons ?_ (pNd_sm h.2)
    unfold pNd
    rw [h.1]
    exact .mk .nil
theorem nms_rd {ps : List ByteArray} (hne : ps ≠ []) : ∀ (S : ByteArray) (k : Nat) (q : Rs) (l : List Nd) (c : Tk) (rest : List Tk), 16 * (psL ps).length + 3 ≤ k → St S q (psL ps ++ c :: rest) → isSb c Z.k16 = false →
    ∃ (ps' : List (Nat × ByteArray)) (q' : Rs), run S k (.namesL l) q = (.mk 0 0 Z.E 0 (l ++ ps'.map pNd), q') ∧ St S q' (c :: rest) ∧ q'.x = q.x ∧ q'.y = q.y ∧ ps'.map (·.2) = ps := by
  induction ps with
  | nil => exact absurd rfl hne
  | cons p r ih =>
    intro S k q l c rest hk hs hc
    obtain ⟨k1, rfl⟩ : ∃ k1, k = k1 + 1 := ⟨k - 1, by omega⟩
    cases r with
    | nil =>
      simp only [psL, List.cons_append, List.nil_append] at hs
      obtain ⟨q1, b1, m1, e1, s1, x1, y1⟩ := hs.nm
      have n1 := s1.no Z.k16 hc
      exact ⟨[(q.a, p)], q1, by rw [run_succ]; simp only [stepN, namesLS, m1, n1.1, n1.2, Bool.false_eq_true, if_false, reduceIte, List.map_cons, List.map_nil, pNd], s1, x1, y1, rfl⟩
    | cons p2 r =>
      simp only [psL, List.cons_append, List.nil_append, List.length_cons] at hs hk
      obtain ⟨q1, b1, m1, e1, s1, x1, y1⟩ := hs.nm
      obtain ⟨q2, i2, h2, m2, e2, s2, x2, y2⟩ := s1.eat Z.k16 (by decide +kernel)
      obtain ⟨ps', q3, e3, s3, x3, y3, f3⟩ := ih (by simp) S k1 q2 (l ++ [.mk 23 q.a p 0 []]) c rest (by omega) s2 hc
      exact ⟨(q.a, p) :: ps', q3, by rw [run_succ]; simp only [stepN, namesLS, m1, i2, h2, e3, if_true, reduceIte, List.map_cons, pNd, List.append_assoc, List.singleton_append], s3, by omega, by omega, by rw [List.map_cons, f3]⟩
theorem r_tint {a : Nat} : Acc Ty yy .some .listL 9 FT (hgt (Nd.mk 24 a Z.E 0 [])) (Nd.mk 24 a Z.E 0 []) ([wd Z.k23]) ([wd Z.k23]) := by
  intro S k q c rest hk hs hf hd
  have hd' : q.y + hgt (Nd.mk 24 a Z.E 0 []) ≤ 201 := hd
  simp only [List.length_append, List.length_cons, List.length_nil] at hk ⊢
  simp only [List.cons_append, List.nil_append, List.append_assoc] at hs
  obtain ⟨k1, rfl⟩ : ∃ k1, k = k1 + 1 := ⟨k - 1, by omega⟩
  obtain ⟨q1, i1, h1, m1, e1, s1, x1, y1⟩ := hs.eat Z.k23 (by decide +kernel)
  exact ⟨Nd.mk 24 q.a Z.E 0 [], q1, k1, by omega, by rw [run_succ]; simp only [stepN, someS, i1, h1, m1, e1, Bool.false_eq_true, if_true, if_false, reduceIte], ⟨s1, by omega, by omega, Ty.tint q.a, Sm.mk .nil⟩⟩
theorem r_tbool {a : Nat} : Acc Ty yy .some .listL 9 FT (hgt (Nd.mk 25 a Z.E 0 [])) (Nd.mk 25 a Z.E 0 []) ([wd Z.k26]) ([wd Z.k26]) := by
  intro S k q c rest hk hs hf hd
  have hd' : q.y + hgt (Nd.mk 25 a Z.E 0 []) ≤ 201 := hd
  simp only [List.length_append, List.length_cons, List.length_nil] at hk ⊢
  simp only [List.cons_append, List.nil_append, List.append_assoc] at hs
  obtain ⟨k1, rfl⟩ : ∃ k1, k = k1 + 1 := ⟨k - 1, by omega⟩
  have n1 := hs.no Z.k23 (by first | decide +kernel | rfl | simp [isSb])
  obtain ⟨q2, i2, h2, m2, e2, s2, x2, y2⟩ := hs.eat Z.k26 (by decide +kernel)
  exact ⟨Nd.mk 25 q.a Z.E 0 [], q2, k1, by omega, by rw [run_succ]; simp only [stepN, someS, n1.1, n1.2, i2, h2, m2, e2, Bool.false_eq_true, if_true, if_false, reduceIte], ⟨s2, by omega, by omega, Ty.tbool q.a, Sm.mk .nil⟩⟩
theorem r_tunit {a : Nat} : Acc Ty yy .some .listL 9 FT (hgt (Nd.mk 26 a Z.E 0 [])) (Nd.mk 26 a Z.E 0 []) ([wd Z.k31]) ([wd Z.k31]) := by
  intro S k q c rest hk hs hf hd
  have hd' : q.y + hgt (Nd.mk 26 a Z.E 0 []) ≤ 201 := hd
  simp only [List.length_append, List.length_cons, List.length_nil] at hk ⊢
  simp only [List.cons_append, List.nil_append, List.append_assoc] at hs
  obtain ⟨k1, rfl⟩ : ∃ k1, k = k1 + 1 := ⟨k - 1, by omega⟩
  have n1 := hs.no Z.k23 (by first | decide +kernel | rfl | simp [isSb])
  have n2 := hs.no Z.k26 (by first | decide +kernel | rfl | simp [isSb])
  obtain ⟨q3, i3, h3, m3, e3, s3, x3, y3⟩ := hs.eat Z.k31 (by decide +kernel)
  exact ⟨Nd.mk 26 q.a Z.E 0 [], q3, k1, by omega, by rw [run_succ]; simp only [stepN, someS, n1.1, n1.2, n2.1, n2.2, i3, h3, m3, e3, Bool.false_eq_true, if_true, if_false, reduceIte], ⟨s3, by omega, by omega, Ty.tunit q.a, Sm.mk .nil⟩⟩
theorem r_tlist {a : Nat} {x : Nd} {lx : List Tk} (hx : AllT x lx) : Acc Ty yy .some .listL 9 FT (hgt (Nd.mk 27 a Z.E 0 [x])) (Nd.mk 27 a Z.E 0 [x]) (inL 2 x lx ++ [wd Z.k41]) (inL 2 x lx ++ [wd Z.k41]) := by
  intro S k q c rest hk hs hf hd
  have hd' : q.y + hgt (Nd.mk 27 a Z.E 0 [x]) ≤ 201 := hd
  have gx : hgt x + 1 ≤ hgt (Nd.mk 27 a Z.E 0 [x]) := hgt_kid (by simp)
  simp only [List.length_append, List.length_cons, List.length_nil] at hk ⊢
  simp only [List.cons_append, List.nil_append, List.append_assoc] at hs
  obtain ⟨t1, q1, j1, hj1, e1, r1⟩ := (kid2T hx) S k q _ _ (by omega) hs rfl (by show q.y + _ ≤ 201; omega)
  have x1 := r1.x; have y1 := r1.y; have s1 := r1.st
  obtain ⟨jj, rfl⟩ : ∃ jj, j1 = jj + 1 := ⟨j1 - 1, by omega⟩
  obtain ⟨q2, i2, h2, m2, e2, s2, x2, y2⟩ := s1.eat Z.k41 (by decide +kernel)
  exact ⟨Nd.mk 27 t1.a Z.E 0 [t1], q2, jj, by omega, by rw [e1, run_succ]; simp only [stepN, listLS, i2, h2, m2, e2, Bool.false_eq_true, if_true, if_false, reduceIte], ⟨s2, by omega, by omega, (by have z := Ty.tlist t1.a t1 lx r1.tw; rwa [r1.sm.inL] at z), Sm.mk (.cons r1.sm .nil)⟩⟩
theorem r_tpair {a : Nat} {x : Nd} {lx : List Tk} (hx : AllT x lx) {y : Nd} {ly : List Tk} (hy : AllT y ly) : Rd Ty yy .pair 10 T1 (hgt (Nd.mk 28 a Z.E 0 [x, y])) (Nd.mk 28 a Z.E 0 [x, y]) (inL 2 x lx ++ [sg Z.k6] ++ inL 1 y ly) (inL 2 x lx ++ [sg Z.k6] ++ inL 1 y ly) := by
  intro S k q c rest hk hs hf hd
  have hd' : q.y + hgt (Nd.mk 28 a Z.E 0 [x, y]) ≤ 201 := hd
  have gx : hgt x + 1 ≤ hgt (Nd.mk 28 a Z.E 0 [x, y]) := hgt_kid (by simp)
  have gy : hgt y + 1 ≤ hgt (Nd.mk 28 a Z.E 0 [x, y]) := hgt_kid (by simp)
  simp only [List.length_append, List.length_cons, List.length_nil] at hk
  simp only [List.cons_append, List.nil_append, List.append_assoc] at hs
  obtain ⟨k1, rfl⟩ : ∃ k1, k = k1 + 1 := ⟨k - 1, by omega⟩
  obtain ⟨t1, q1, e1, r1⟩ := (rd_some (kid2T hx)) S k1 q _ _ (by omega) hs (by decide +kernel) (by show q.y + _ ≤ 201; omega)
  have x1 := r1.x; have y1 := r1.y; have s1 := r1.st
  obtain ⟨q2, i2, h2, m2, e2, s2, x2, y2⟩ := s1.eat Z.k6 (by decide +kernel)
  obtain ⟨t3, q3, e3, r3⟩ := (kid1T hy) S k1 q2 _ _ (by omega) s2 hf (by show q2.y + _ ≤ 201; omega)
  have x3 := r3.x; have y3 := r3.y; have s3 := r3.st
  exact ⟨Nd.mk 28 t1.a Z.E 0 [t1, t3], q3, by rw [run_succ]; simp only [stepN, pairS, e1, i2, h2, m2, e2, e3, Bool.false_eq_true, if_true, if_false, reduceIte], ⟨s3, by omega, by omega, (by have z := Ty.tpair t1.a t1 t3 lx ly r1.tw r3.tw; rwa [r1.sm.inL, r3.sm.inL] at z), Sm.mk (.cons r1.sm (.cons r3.sm .nil))⟩⟩
theorem r_tfn0 {a : Nat} {ps : List (Nat × ByteArray)} (hps : ps = []) (gp : ∀ p ∈ ps, GT (nmT p.2)) {x : Nd} {lx : List Tk} (hx : AllT x lx) {y : Nd} {ly : List Tk} (hy : AllT y ly) : Rd Ty yy .typ 11 T0 (hgt (Nd.mk 29 a Z.E 0 (x :: y :: ps.map pNd)) + 1) (Nd.mk 29 a Z.E 0 (x :: y :: ps.map pNd)) (inL 1 x lx ++ arT (ps.map (·.2)) ++ ly) (inL 1 x lx ++ arT (ps.map (·.2)) ++ ly) := by
  intro S k q c rest hk hs hf hd
  have hd' : q.y + (hgt (Nd.mk 29 a Z.E 0 (x :: y :: ps.map pNd)) + 1) ≤ 201 := hd
  have gx : hgt x + 1 ≤ hgt (Nd.mk 29 a Z.E 0 (x :: y :: ps.map pNd)) := hgt_kid (by simp)
  have gy : hgt y + 1 ≤ hgt (Nd.mk 29 a Z.E 0 (x :: y :: ps.map pNd)) := hgt_kid (by simp)
  have hp : arT (ps.map (·.2)) = [sg Z.k15] := by unfold arT; rw [if_pos (by simpa using hps)]
  have hp2 := hp; rw [hp] at hk hs
  simp only [List.length_append, List.length_cons, List.length_nil] at hk
  simp only [List.cons_append, List.nil_append, List.append_assoc] at hs
  obtain ⟨k1, rfl⟩ : ∃ k1, k = k1 + 1 := ⟨k - 1, by omega⟩
  have ho := hs.ok; have hq : decide (((q.y : Nat) : Int) ≥ (200 : Int)) = false := decide_eq_false (by omega)
  have hs1 : St S { q with y := q.y + 1 } _ := hs.xy rfl rfl rfl rfl rfl
  have y0 : ({ q with y := q.y + 1 } : Rs).y = q.y + 1 := rfl; have x0 : ({ q with y := q.y + 1 } : Rs).x = q.x := rfl
  obtain ⟨t1, q1, e1, r1⟩ := (kid1T hx) S k1 { q with y := q.y + 1 } _ _ (by omega) hs1 (by decide +kernel) (by show q.y + 1 + _ ≤ 201; omega)
  have x1 := r1.x; have y1 := r1.y; have s1 := r1.st
  rw [y0] at y1; rw [x0] at x1
  obtain ⟨q2, i2, h2, m2, e2, s2, x2, y2⟩ := s1.eat Z.k15 (by decide +kernel)
  obtain ⟨t3, q3, e3, r3⟩ := hy.typ S k1 q2 _ _ (by omega) s2 hf (by show q2.y + _ ≤ 201; omega)
  have x3 := r3.x; have y3 := r3.y; have s3 := r3.st
  refine ⟨Nd.mk 29 t1.a Z.E 0 (t1 :: t3 :: []), { q3 with y := q3.y - 1 }, by rw [run_succ]; simp only [stepN, typS, fnS, Nd.ks, List.nil_append, List.cons_append, List.append_nil, ho, hq, e1, i2, h2, m2, e2, e3, Bool.false_eq_true, if_true, if_false, reduceIte], ⟨s3.xy rfl rfl rfl rfl rfl, by show q3.x = q.x; omega, by show q3.y - 1 = q.y; omega, ?_, ?_⟩⟩
  · have z := Ty.tfn t1.a t1 t3 lx ly [] (fun p h => by cases h) r1.tw r3.tw; rw [r1.sm.inL] at z; rw [hp2]; exact z
  · subst hps; exact Sm.mk (.cons r1.sm (.cons r3.sm .nil))
theorem r_tfn1 {a : Nat} {ps : List (Nat × ByteArray)} (hps : ps ≠ []) (gp : ∀ p ∈ ps, GT (nmT p.2)) {x : Nd} {lx : List Tk} (hx : AllT x lx) {y : Nd} {ly : List Tk} (hy : AllT y ly) : Rd Ty yy .typ 11 T0 (hgt (Nd.mk 29 a Z.E 0 (x :: y :: ps.map pNd)) + 1) (Nd.mk 29 a Z.E 0 (x :: y :: ps.map pNd)) (inL 1 x lx ++ arT (ps.map (·.2)) ++ ly) (inL 1 x lx ++ arT (ps.map (·.2)) ++ ly) := by
  intro S k q c rest hk hs hf hd
  have hd' : q.y + (hgt (Nd.mk 29 a Z.E 0 (x :: y :: ps.map pNd)) + 1) ≤ 201 := hd
  have gx : hgt x + 1 ≤ hgt (Nd.mk 29 a Z.E 0 (x :: y :: ps.map pNd)) := hgt_kid (by simp)
  have gy : hgt y + 1 ≤ hgt (Nd.mk 29 a Z.E 0 (x :: y :: ps.map pNd)) := hgt_kid (by simp)
  have hp : arT (ps.map (·.2)) = [sg Z.k5, sg Z.k20] ++ psL (ps.map (·.2)) ++ [sg Z.k11, sg Z.k15] := by unfold arT; rw [if_neg (by simpa using hps)]
  have hp2 := hp; rw [hp] at hk hs
  simp only [List.length_append, List.length_cons, List.length_nil] at hk
  simp only [List.cons_append, List.nil_append, List.append_assoc] at hs
  obtain ⟨k1, rfl⟩ : ∃ k1, k = k1 + 1 := ⟨k - 1, by omega⟩
  have ho := hs.ok; have hq : decide (((q.y : Nat) : Int) ≥ (200 : Int)) = false := decide_eq_false (by omega)
  have hs1 : St S { q with y := q.y + 1 } _ := hs.xy rfl rfl rfl rfl rfl
  have y0 : ({ q with y := q.y + 1 } : Rs).y = q.y + 1 := rfl; have x0 : ({ q with y := q.y + 1 } : Rs).x = q.x := rfl
  obtain ⟨t1, q1, e1, r1⟩ := (kid1T hx) S k1 { q with y := q.y + 1 } _ _ (by omega) hs1 (by decide +kernel) (by show q.y + 1 + _ ≤ 201; omega)
  have x1 := r1.x; have y1 := r1.y; have s1 := r1.st
  rw [y0] at y1; rw [x0] at x1
  have n2 := s1.no Z.k15 (by first | decide +kernel | rfl | simp [isSb])
  obtain ⟨q3, i3, h3, m3, e3, s3, x3, y3⟩ := s1.eat Z.k5 (by decide +kernel)
  obtain ⟨q4, i4, h4, m4, e4, s4, x4, y4⟩ := s3.eat Z.k20 (by decide +kernel)
  obtain ⟨ps', q40, e40, s40, x40, y40, f40⟩ := nms_rd (ps := ps.map (·.2)) (by simpa using hps) S k1 q4 [] (sg Z.k11) _ (by omega) s4 (by decide +kernel)
  obtain ⟨q5, i5, h5, m5, e5, s5, x5, y5⟩ := s40.eat Z.k11 (by decide +kernel)
  obtain ⟨q6, i6, h6, m6, e6, s6, x6, y6⟩ := s5.eat Z.k15 (by decide +kernel)
  obtain ⟨t7, q7, e7, r7⟩ := hy.typ S k1 q6 _ _ (by omega) s6 hf (by show q6.y + _ ≤ 201; omega)
  have x7 := r7.x; have y7 := r7.y; have s7 := r7.st
  refine ⟨Nd.mk 29 t1.a Z.E 0 (t1 :: t7 :: ps'.map pNd), { q7 with y := q7.y - 1 }, by rw [run_succ]; simp only [stepN, typS, fnS, Nd.ks, List.nil_append, List.cons_append, List.append_nil, ho, hq, e1, n2.1, n2.2, i3, h3, m3, e3, i4, h4, m4, e4, e40, i5, h5, m5, e5, i6, h6, m6, e6, e7, Bool.false_eq_true, if_true, if_false, reduceIte], ⟨s7.xy rfl rfl rfl rfl rfl, by show q7.x = q.x; omega, by show q7.y - 1 = q.y; omega, ?_, ?_⟩⟩
  · have gp' : ∀ p ∈ ps', GT (nmT p.2) := fun p hp => by
      have hm : p.2 ∈ ps'.map (·.2) := List.mem_map.2 ⟨p, hp, rfl⟩
      rw [f40] at hm
      obtain ⟨p0, h0, e0⟩ := List.mem_map.1 hm
      rw [← e0]; exact gp p0 h0
    have z := Ty.tfn t1.a t1 t7 lx ly ps' gp' r1.tw r7.tw; rw [r1.sm.inL, f40] at z; exact z
  · exact Sm.mk (.cons r1.sm (.cons r7.sm (pNd_sm f40.symm)))
theorem ty_all {t : Nd} {L : List Tk} (h : Ty t L) : AllT t L := by
  induction h with
  | tint a => exact mkT2 (by simp [lvl, Nd.k]) r_tint
  | tbool a => exact mkT2 (by simp [lvl, Nd.k]) r_tbool
  | tunit a => exact mkT2 (by simp [lvl, Nd.k]) r_tunit
  | tlist a x lx w hx => exact mkT2 (by simp [lvl, Nd.k]) (r_tlist hx)
  | tpair a x y lx ly w w2 hx hy => exact mkT1 (by simp [lvl, Nd.k]) (r_tpair hx hy)
  | tfn a x y lx ly ps gp w w2 hx hy =>
    have h1 : Rd Ty yy .typ 11 T0 (hgt (.mk 29 a Z.E 0 (x :: y :: ps.map pNd)) + 1) (.mk 29 a Z.E 0 (x :: y :: ps.map pNd)) (inL 1 x lx ++ arT (ps.map (·.2)) ++ ly) (inL 1 x lx ++ arT (ps.map (·.2)) ++ ly) := by
      by_cases hp : ps = []
      · exact r_tfn0 hp gp hx hy
      · exact r_tfn1 hp gp hx hy
    exact ⟨h1, fun g => absurd g (by simp [lvl, Nd.k]), fun g => absurd g (by simp [lvl, Nd.k])⟩
structure OpD where
  a : Nat
  nm : ByteArray
  n : Int
  x : Nd
  y : Nd
  lx : List Tk
  ly : List Tk
def OpD.node (o : OpD) : Nd := .mk 1 o.a o.nm o.n [o.x, o.y]
def OpD.tks (o : OpD) : List Tk := [wd Z.k51, wd (if o.n = 1 then Z.k39 else Z.k42), nmT o.nm, sg Z.k47] ++ o.lx ++ [sg Z.k1] ++ o.ly
structure OpD.Ok (o : OpD) : Prop where
  n : o.n = 0 ∨ o.n = 1
  nm : GT (nmT o.nm)
  x : Ty o.x o.lx
  y : Ty o.y o.ly
structure DfD where
  a : Nat
  nm : ByteArray
  n : Int
  fa : Nat
  fx : ByteArray
  x : Nd
  lx : List Tk
def DfD.node (o : DfD) : Nd := .mk 2 o.a o.nm o.n [.mk 7 o.fa o.fx 0 [o.x]]
def DfD.tks (o : DfD) : List Tk := [wd Z.k43] ++ (if o.n = 1 then [wd Z.k19] else []) ++ [nmT o.nm, nmT o.fx, sg Z.k7] ++ o.lx
structure DfD.Ok (o : DfD) : Prop where
  n : o.n = 0 ∨ o.n = 1
  nm : GT (nmT o.nm)
  fx : GT (nmT o.fx)
  x : Tw o.x o.lx
theorem ops_rd {os : List OpD} (ho : ∀ o ∈ os, o.Ok) : ∀ (S : ByteArray) (k : Nat) (q : Rs) (l : List Nd) (c : Tk) (rest : List Tk), 16 * (os.flatMap OpD.tks).length + 13 ≤ k → St S q (os.flatMap OpD.tks ++ c :: rest) →
    isSb c Z.k51 = false → T0 c = true → (∀ o ∈ os, q.y + (hgt o.x + 1) ≤ 201 ∧ q.y + (hgt o.y + 1) ≤ 201) →
    ∃ (os' : List OpD) (q' : Rs), run S k (.opsL l) q = (.mk 0 0 Z.E (((l ++ os'.map OpD.node).length : Nat) : Int) (l ++ os'.map OpD.node), q') ∧ St S q' (c :: rest) ∧ q'.x = q.x ∧ q'.y = q.y ∧ os'.length = os.length ∧ os'.flatMap OpD.tks = os.flatMap OpD.tks ∧
      SmL (os.map OpD.node) (os'.map OpD.node) ∧ (∀ o ∈ os', o.Ok) := by
  induction os with
  | nil =>
    intro S k q l c rest hk hs hc hf hd
    obtain ⟨k1, rfl⟩ : ∃ k1, k = k1 + 1 := ⟨k - 1, by omega⟩
    have n1 := St.no (c := c) (r := rest) hs Z.k51 hc
    exact ⟨[], q, by rw [run_succ]; simp only [stepN, opsLS, n1.1, Bool.false_eq_true, if_false, reduceIte, List.map_nil, List.append_nil], hs, rfl, rfl, rfl, rfl, .nil, fun o h => by cases h⟩
  | cons d r ih =>
    intro S k q l c rest hk hs hc hf hd
    have g0 := ho d List.mem_cons_self
    have hd0 := hd d List.mem_cons_self
    have ax := ty_all g0.x
    have ay := ty_all g0.y
    have e0' : (d :: r).flatMap OpD.tks = [wd Z.k51, wd (if d.n = 1 then Z.k39 else Z.k42), nmT d.nm, sg Z.k47] ++ d.lx ++ [sg Z.k1] ++ d.ly ++ r.flatMap OpD.tks := by simp [OpD.tks]
    rw [e0'] at hk hs
    simp only [List.length_append, List.length_cons, List.length_nil] at hk
    simp only [List.cons_append, List.nil_append, List.append_assoc] at hs
    obtain ⟨k1, rfl⟩ : ∃ k1, k = k1 + 1 := ⟨k - 1, by omega⟩
    obtain ⟨q1, i1, h1, m1, e1, s1, x1, y1⟩ := hs.eat Z.k51 (by decide +kernel)
    have hq2 : ∃ q2, (∀ (R : NT → Rs → Nd × Rs), (if isB q1 Z.k39 = true then opsT S R l q.a 1 (nextR S q1) else if isB q1 Z.k42 = true then opsT S R l q.a 0 (nextR S q1) else opsT S R l q.a 0 (noR q1)) = opsT S R l q.a d.n q2) ∧
        St S q2 (nmT d.nm :: sg Z.k47 :: (d.lx ++ (sg Z.k1 :: (d.ly ++ (r.flatMap OpD.tks ++ c :: rest))))) ∧ q2.x = q1.x ∧ q2.y = q1.y := by
      rcases g0.n with hn | hn
      · rw [hn, if_neg (by decide)] at s1
        have n2 := s1.no Z.k39 (by decide +kernel)
        obtain ⟨q2, i2, h2, m2, e2, s2, x2, y2⟩ := s1.eat Z.k42 (by decide +kernel)
        exact ⟨q2, fun R => by rw [n2.1, i2, e2, hn]; simp, s2, x2, y2⟩
      · rw [hn, if_pos rfl] at s1
        obtain ⟨q2, i2, h2, m2, e2, s2, x2, y2⟩ := s1.eat Z.k39 (by decide +kernel)
        exact ⟨q2, fun R => by rw [i2, e2, hn]; simp, s2, x2, y2⟩
    obtain ⟨q2, e2, s2, x2, y2⟩ := hq2
    obtain ⟨q3, b3, m3, e3, s3, x3, y3⟩ := s2.nm
    obtain ⟨q4, i4, h4, m4, e4, s4, x4, y4⟩ := s3.eat Z.k47 (by decide +kernel)
    obtain ⟨t5, q5, e5, r5⟩ := ax.typ S k1 q4 _ _ (by omega) s4 (by decide +kernel) (by show q4.y + _ ≤ 201; omega)
    have x5 := r5.x; have y5 := r5.y
    obtain ⟨q6, i6, h6, m6, e6, s6, x6, y6⟩ := r5.st.eat Z.k1 (by decide +kernel)
    have hz : ∃ cz rz, r.flatMap OpD.tks ++ c :: rest = cz :: rz ∧ T0 cz = true := by
      cases r with
      | nil => exact ⟨_, _, rfl, hf⟩
      | cons d2 r2 => exact ⟨_, _, rfl, by decide +kernel⟩
    obtain ⟨cz, rz, z1, z2⟩ := hz
    rw [z1] at s6
    obtain ⟨t7, q7, e7, r7⟩ := ay.typ S k1 q6 cz rz (by omega) s6 z2 (by show q6.y + _ ≤ 201; omega)
    have x7 := r7.x; have y7 := r7.y; have s7 := r7.st
    rw [← z1] at s7
    obtain ⟨os', q8, e8, s8, x8, y8, l8, f8, g8, c8⟩ := ih (fun o h => ho o (List.mem_cons_of_mem _ h)) S k1 q7 (l ++ [.mk 1 q.a d.nm d.n [t5, t7]]) c rest (by omega) s7 hc hf (fun o h => by have := hd o (List.mem_cons_of_mem _ h); omega)
    refine ⟨⟨q.a, d.nm, d.n, t5, t7, d.lx, d.ly⟩ :: os', q8, ?_, s8, by omega, by omega, by simp [l8], ?_, ?_, ?_⟩
    · rw [run_succ]
      simp only [stepN, opsLS, i1, e1, if_true, reduceIte]
      rw [e2]
      simp only [opsT, m3, m4, e5, m6, e7, e8, List.map_cons, OpD.node, List.append_assoc, List.singleton_append]
    · rw [List.flatMap_cons, List.flatMap_cons, f8]; rfl
    · exact .cons (.mk (.cons r5.sm (.cons r7.sm .nil))) g8
    · intro o h
      rcases List.mem_cons.1 h with rfl | h
      · exact ⟨g0.n, g0.nm, r5.tw, r7.tw⟩
      · exact c8 o h
theorem defs_rd {os : List DfD} (ho : ∀ o ∈ os, o.Ok) : ∀ (S : ByteArray) (k : Nat) (q : Rs) (N : Nat) (l : List Nd) (c : Tk) (rest : List Tk), 16 * (os.flatMap DfD.tks).length + 13 ≤ k → St S q (os.flatMap DfD.tks ++ c :: rest) →
    isSb c Z.k43 = false → F0 c = true → (∀ o ∈ os, q.x + (hgt o.x + 1) ≤ 201) →
    ∃ (os' : List DfD) (q' : Rs), run S k (.defsL N l) q = (.mk 0 0 Z.E ((N : Nat) : Int) (l ++ os'.map DfD.node), q') ∧ St S q' (c :: rest) ∧ q'.x = q.x ∧ q'.y = q.y ∧ os'.length = os.length ∧ os'.flatMap DfD.tks = os.flatMap DfD.tks ∧
      SmL (os.map DfD.node) (os'.map DfD.node) ∧ (∀ o ∈ os', o.Ok) := by
  induction os with
  | nil =>
    intro S k q N l c rest hk hs hc hf hd
    obtain ⟨k1, rfl⟩ : ∃ k1, k = k1 + 1 := ⟨k - 1, by omega⟩
    have n1 := St.no (c := c) (r := rest) hs Z.k43 hc
    exact ⟨[], q, by rw [run_succ]; simp only [stepN, defsLS, n1.1, Bool.false_eq_true, if_false, reduceIte, List.map_nil, List.append_nil], hs, rfl, rfl, rfl, rfl, .nil, fun o h => by cases h⟩
  | cons d r ih =>
    intro S k q N l c rest hk hs hc hf hd
    have g0 := ho d List.mem_cons_self
    have hd0 := hd d List.mem_cons_self
    have ax := tw_all g0.x
    have e0' : (d :: r).flatMap DfD.tks = [wd Z.k43] ++ (if d.n = 1 then [wd Z.k19] else []) ++ [nmT d.nm, nmT d.fx, sg Z.k7] ++ d.lx ++ r.flatMap DfD.tks := by simp [DfD.tks]
    rw [e0'] at hk hs
    simp only [List.length_append, List.length_cons, List.length_nil] at hk
    simp only [List.cons_append, List.nil_append, List.append_assoc] at hs
    obtain ⟨k1, rfl⟩ : ∃ k1, k = k1 + 1 := ⟨k - 1, by omega⟩
    obtain ⟨q1, i1, h1, m1, e1, s1, x1, y1⟩ := hs.eat Z.k43 (by decide +kernel)
    have hq2 : ∃ q2, (∀ (R : NT → Rs → Nd × Rs), (if isB q1 Z.k19 = true then defsT S R N l q.a 1 (hasR S q1 Z.k19) else defsT S R N l q.a 0 (hasR S q1 Z.k19)) = defsT S R N l q.a d.n q2) ∧
        St S q2 (nmT d.nm :: nmT d.fx :: sg Z.k7 :: (d.lx ++ (r.flatMap DfD.tks ++ c :: rest))) ∧ q2.x = q1.x ∧ q2.y = q1.y := by
      rcases g0.n with hn | hn
      · rw [hn, if_neg (by decide), List.nil_append] at s1
        have n2 := s1.no Z.k19 (by first | rfl | simp [isSb])
        exact ⟨q1, fun R => by rw [n2.1, n2.2, hn]; simp, s1, rfl, rfl⟩
      · rw [hn, if_pos rfl] at s1
        obtain ⟨q2, i2, h2, m2, e2, s2, x2, y2⟩ := St.eat (c := wd Z.k19) s1 Z.k19 (by decide +kernel)
        exact ⟨q2, fun R => by rw [i2, h2, hn]; simp, s2, x2, y2⟩
    obtain ⟨q2, e2, s2, x2, y2⟩ := hq2
    obtain ⟨q3, b3, m3, e3, s3, x3, y3⟩ := s2.nm
    have hz : ∃ cz rz, r.flatMap DfD.tks ++ c :: rest = cz :: rz ∧ F0 cz = true := by
      cases r with
      | nil => exact ⟨_, _, rfl, hf⟩
      | cons d2 r2 => exact ⟨wd Z.k43, _, by simp only [List.flatMap_cons, DfD.tks, List.append_assoc, List.cons_append, List.nil_append]; rfl, by decide +kernel⟩
    obtain ⟨cz, rz, z1, z2⟩ := hz
    rw [z1] at s3
    obtain ⟨t7, q7, e7, r7⟩ := prm1 Z.k7 ax S k1 q3 cz rz (by omega) s3 z2 (by omega)
    have x7 := r7.x; have y7 := r7.y; have s7 := r7.st
    rw [← z1] at s7
    obtain ⟨os', q8, e8, s8, x8, y8, l8, f8, g8, c8⟩ := ih (fun o h => ho o (List.mem_cons_of_mem _ h)) S k1 q7 N (l ++ [.mk 2 q.a d.nm d.n [.mk 7 q3.a d.fx 0 [t7]]]) c rest (by omega) s7 hc hf (fun o h => by have := hd o (List.mem_cons_of_mem _ h); omega)
    refine ⟨⟨q.a, d.nm, d.n, q3.a, d.fx, t7, d.lx⟩ :: os', q8, ?_, s8, by omega, by omega, by simp [l8], ?_, ?_, ?_⟩
    · rw [run_succ]
      simp only [stepN, defsLS, i1, e1, if_true, reduceIte]
      rw [e2]
      simp only [defsT, m3, e7, e8, List.map_cons, DfD.node, List.append_assoc, List.singleton_append]
    · rw [List.flatMap_cons, List.flatMap_cons, f8]; rfl
    · exact .cons (.mk (.cons (.mk (.cons r7.sm .nil)) .nil)) g8
    · intro o h
      rcases List.mem_cons.1 h with rfl | h
      · exact ⟨g0.n, g0.nm, g0.fx, r7.tw⟩
      · exact c8 o h
structure PgD where
  os : List OpD
  ds : List DfD
  e : Nd
  le : List Tk
def PgD.node (p : PgD) : Nd := .mk 0 0 Z.E ((p.os.length : Nat) : Int) (p.os.map OpD.node ++ p.ds.map DfD.node ++ [p.e])
def PgD.tks (p : PgD) : List Tk := p.os.flatMap OpD.tks ++ (p.ds.flatMap DfD.tks ++ ([wd Z.k44, sg Z.k7] ++ p.le))
structure PgD.Ok (p : PgD) : Prop where
  os : ∀ o ∈ p.os, o.Ok
  ds : ∀ o ∈ p.ds, o.Ok
  e : Tw p.e p.le
theorem prog_rd {p : PgD} (h : p.Ok) (hh : hgt p.node ≤ 200) {S : ByteArray} {k : Nat} {q : Rs} (hk : 16 * p.tks.length + 14 ≤ k) (hs : St S q (p.tks ++ [tkE])) (hx : q.x = 0) (hy : q.y = 0) :
    ∃ (p' : PgD) (q' : Rs), run S k .prog q = (p'.node, q') ∧ St S q' [tkE] ∧ p'.Ok ∧ p'.tks = p.tks ∧ Sm p.node p'.node := by
  have hkid : ∀ z ∈ p.os.map OpD.node ++ p.ds.map DfD.node ++ [p.e], hgt z + 1 ≤ hgt p.node := fun z hz => hgt_kid hz
  have ho : ∀ o ∈ p.os, hgt o.x + 2 ≤ 200 ∧ hgt o.y + 2 ≤ 200 := fun o hm => by
    have g := hkid o.node (by simp only [List.mem_append, List.mem_map]; exact .inl (.inl ⟨o, hm, rfl⟩))
    have g1 : hgt o.x + 1 ≤ hgt o.node := hgt_kid (by simp)
    have g2 : hgt o.y + 1 ≤ hgt o.node := hgt_kid (by simp)
    omega
  have hd : ∀ o ∈ p.ds, hgt o.x + 3 ≤ 200 := fun o hm => by
    have g := hkid o.node (by simp only [List.mem_append, List.mem_map]; exact .inl (.inr ⟨o, hm, rfl⟩))
    have g1 : hgt (Nd.mk 7 o.fa o.fx 0 [o.x]) + 1 ≤ hgt o.node := hgt_kid (by simp)
    have g2 : hgt o.x + 1 ≤ hgt (Nd.mk 7 o.fa o.fx 0 [o.x]) := hgt_kid (by simp)
    omega
  have he := hkid p.e (by simp)
  unfold PgD.tks at hk hs
  simp only [List.length_append, List.length_cons, List.length_nil] at hk
  simp only [List.cons_append, List.nil_append, List.append_assoc] at hs
  obtain ⟨k1, rfl⟩ : ∃ k1, k = k1 + 1 := ⟨k - 1, by omega⟩
  have hz : ∃ cz rz, p.ds.flatMap DfD.tks ++ wd Z.k44 :: sg Z.k7 :: (p.le ++ [tkE]) = cz :: rz ∧ T0 cz = true ∧ isSb cz Z.k51 = false := by
    cases p.ds with
    | nil => exact ⟨_, _, rfl, by decide +kernel, by decide +kernel⟩
    | cons d2 r2 => exact ⟨wd Z.k43, _, by simp only [List.flatMap_cons, DfD.tks, List.append_assoc, List.cons_append, List.nil_append]; rfl, by decide +kernel, by decide +kernel⟩
  obtain ⟨cz, rz, z1, z2, z3⟩ := hz
  rw [z1] at hs
  obtain ⟨os', q1, e1, s1, x1, y1, l1, f1, g1, c1⟩ := ops_rd h.os S k1 q [] cz rz (by omega) hs z3 z2 (fun o hm => by have := ho o hm; omega)
  rw [← z1] at s1
  rw [List.nil_append] at e1
  obtain ⟨ds', q2, e2, s2, x2, y2, l2, f2, g2, c2⟩ := defs_rd h.ds S k1 q1 (os'.map OpD.node).length (os'.map OpD.node) (wd Z.k44) _ (by omega) s1 (by decide +kernel) (by decide +kernel) (fun o hm => by have := hd o hm; omega)
  rw [List.length_map] at e2
  obtain ⟨q3, i3, h3, m3, e3, s3, x3, y3⟩ := s2.eat Z.k44 (by decide +kernel)
  obtain ⟨q4, i4, h4, m4, e4, s4, x4, y4⟩ := s3.eat Z.k7 (by decide +kernel)
  obtain ⟨t5, q5, e5, r5⟩ := (tw_all h.e).ex S k1 q4 tkE [] (by omega) s4 (by decide +kernel) (by show q4.x + _ ≤ 201; omega)
  refine ⟨⟨os', ds', t5, p.le⟩, q5, ?_, r5.st, ⟨c1, c2, r5.tw⟩, ?_, ?_⟩
  · rw [run_succ]
    simp only [stepN, progS, e1, Nd.ks, e2, m3, m4, e5, PgD.node, List.length_map]
  · unfold PgD.tks; rw [f1, f2]
  · unfold PgD.node
    rw [show (os'.length : Int) = (p.os.length : Int) by rw [l1]]
    exact .mk (SmL.app (SmL.app g1 g2) (.cons r5.sm .nil))
end Go.Ag
