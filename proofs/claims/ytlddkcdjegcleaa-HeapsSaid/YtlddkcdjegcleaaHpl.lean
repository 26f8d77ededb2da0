/- A heap whose things slide together: plain laws (addresses, what is reached, the two searches, where things come to lie). -/
set_option linter.unusedVariables false
set_option linter.unusedSimpArgs false
namespace Go.Hp
structure Cl where
  p : Bool
  n : Int
structure Th where
  kd : Int
  tg : Int
  l : List Cl
def th0 : Th := ⟨0, 0, []⟩
def sz (t : Th) : Nat := t.l.length + 1
def tots (M : List Th) : Nat := (M.map sz).sum
def adr (M : List Th) (i : Nat) : Nat := tots (M.take i)
theorem tots_app (a b : List Th) : tots (a ++ b) = tots a + tots b := by simp [tots]
theorem tots_one (t : Th) : tots [t] = sz t := by simp [tots]
theorem adr_zero (M : List Th) : adr M 0 = 0 := rfl
theorem adr_len (M : List Th) : adr M M.length = tots M := by unfold adr; rw [List.take_length]
theorem adr_succ {M : List Th} {i : Nat} {t : Th} (h : M[i]? = some t) : adr M (i + 1) = adr M i + sz t := by
  unfold adr; rw [List.take_add_one, h, tots_app]; simp [tots]
theorem adr_step {M : List Th} {i : Nat} (h : i < M.length) : ∃ t, M[i]? = some t ∧ adr M (i + 1) = adr M i + sz t := ⟨M[i], List.getElem?_eq_getElem h, adr_succ (List.getElem?_eq_getElem h)⟩
theorem adr_le {M : List Th} {i j : Nat} (h : i ≤ j) (hj : j ≤ M.length) : adr M i ≤ adr M j := by
  induction j with
  | zero => rw [Nat.le_zero.1 h]; exact Nat.le_refl _
  | succ j ih =>
    rcases Nat.lt_or_ge i (j + 1) with q | q
    · obtain ⟨t, _, e⟩ := adr_step (M := M) (i := j) (by omega)
      have := ih (by omega) (by omega); omega
    · rw [show i = j + 1 by omega]; exact Nat.le_refl _
theorem adr_lt {M : List Th} {i j : Nat} {t : Th} (hi : M[i]? = some t) (h : i < j) (hj : j ≤ M.length) : adr M i + sz t ≤ adr M j := by
  rw [← adr_succ hi]; exact adr_le h hj
theorem adr_lt' {M : List Th} {i j : Nat} (h : i < j) (hj : j ≤ M.length) : adr M i < adr M j := by
  obtain ⟨t, ht, _⟩ := adr_step (M := M) (i := i) (by omega)
  have := adr_lt ht h hj; have : 0 < sz t := Nat.succ_pos _; omega
theorem adr_inj {M : List Th} {i j : Nat} (hi : i ≤ M.length) (hj : j ≤ M.length) (h : adr M i = adr M j) : i = j := by
  rcases Nat.lt_trichotomy i j with q | q | q
  · have := adr_lt' q hj; omega
  · exact q
  · have := adr_lt' q hi; omega
theorem adr_lt_iff {M : List Th} {i j : Nat} (hi : i ≤ M.length) (hj : j ≤ M.length) : adr M i < adr M j ↔ i < j := by
  constructor
  · intro h; rcases Nat.lt_or_ge i j with q | q
    · exact q
    · have := adr_le q hi; omega
  · intro h; exact adr_lt' h hj
theorem adr_ge (M : List Th) {i : Nat} (h : i ≤ M.length) : i ≤ adr M i := by
  induction i with
  | zero => exact Nat.zero_le _
  | succ i ih => obtain ⟨t, _, e⟩ := adr_step (M := M) (i := i) (by omega); have := ih (by omega); have : 0 < sz t := Nat.succ_pos _; omega
theorem len_le (M : List Th) : M.length ≤ tots M := by rw [← adr_len]; exact adr_ge M (Nat.le_refl _)
theorem adr_app (M : List Th) (t : Th) {i : Nat} (h : i ≤ M.length) : adr (M ++ [t]) i = adr M i := by unfold adr; rw [List.take_append_of_le_length h]
/-! ### What is reached -/
def tgt (M : List Th) (c : Cl) (i : Nat) : Prop := c.p = true ∧ i < M.length ∧ c.n = (adr M i : Int)
def Ok (M : List Th) (c : Cl) : Prop := c.p = true → ∃ i, tgt M c i
theorem tgt_inj {M : List Th} {c : Cl} {i j : Nat} (h : tgt M c i) (k : tgt M c j) : i = j := by
  obtain ⟨_, h1, h2⟩ := h; obtain ⟨_, k1, k2⟩ := k
  exact adr_inj (M := M) (by omega) (by omega) (by omega)
inductive Rc (M : List Th) (rt : List Cl) : Nat → Prop
  | root {c : Cl} {i : Nat} (hc : c ∈ rt) (h : tgt M c i) : Rc M rt i
  | fld {j : Nat} {t : Th} {c : Cl} {i : Nat} (hj : Rc M rt j) (ht : M[j]? = some t) (hc : c ∈ t.l) (h : tgt M c i) : Rc M rt i
theorem Rc.lt {M : List Th} {rt : List Cl} {i : Nat} (h : Rc M rt i) : i < M.length := by cases h with | root _ h => exact h.2.1 | fld _ _ _ h => exact h.2.1
open Classical in
noncomputable def rb (M : List Th) (rt : List Cl) (i : Nat) : Bool := decide (Rc M rt i)
theorem rb_iff {M : List Th} {rt : List Cl} {i : Nat} : rb M rt i = true ↔ Rc M rt i := by unfold rb; simp
/-- All pointers refer to things; kinds and tags are in bounds. -/
structure Wf (M : List Th) (rt : List Cl) : Prop where
  fld : ∀ t ∈ M, ∀ c ∈ t.l, Ok M c
  root : ∀ c ∈ rt, Ok M c
  kd : ∀ t ∈ M, 0 ≤ t.kd ∧ t.kd ≤ 4 ∧ 0 ≤ t.tg ∧ t.tg ≤ 65535
/-! ### The program's search: a thing is marked where it is met -/
def cnt (M : List Th) (B : Nat → Bool) : Nat := (List.range M.length).countP fun i => B (adr M i)
theorem cnt_le (M : List Th) (B : Nat → Bool) : cnt M B ≤ M.length := by have := List.countP_le_length (p := fun i => B (adr M i)) (l := List.range M.length); rwa [List.length_range] at this
theorem countP_one {n k : Nat} {p q : Nat → Bool} (hk : k < n) (h0 : p k = false) (h1 : q k = true) (h : ∀ i, i ≠ k → q i = p i) : (List.range n).countP q = (List.range n).countP p + 1 := by
  induction n with
  | zero => omega
  | succ n ih =>
    rw [List.range_succ, List.countP_append, List.countP_append, List.countP_singleton, List.countP_singleton]
    rcases Nat.lt_or_ge k n with q1 | q1
    · rw [ih q1, h n (by omega)]; omega
    · obtain rfl : k = n := by omega
      have : (List.range k).countP q = (List.range k).countP p := List.countP_congr fun i hi => by rw [h i (by have := List.mem_range.1 hi; omega)]
      rw [this, h0, h1]; simp
def setB (B : Nat → Bool) (a : Nat) : Nat → Bool := fun x => B x || decide (x = a)
structure Mk (M : List Th) (rt : List Cl) (ex : Nat → Prop) (B : Nat → Bool) (td : List Nat) : Prop where
  sound : ∀ a, B a = true → ∃ i, i < M.length ∧ a = adr M i ∧ Rc M rt i
  tdB : ∀ a ∈ td, B a = true
  closed : ∀ i t, M[i]? = some t → B (adr M i) = true → adr M i ∈ td ∨ ex i ∨ ∀ c ∈ t.l, ∀ k, tgt M c k → B (adr M k) = true
  le : td.length ≤ cnt M B
/-- A cell is met. -/
def meetB (B : Nat → Bool) (c : Cl) : Nat → Bool := if c.p && !B c.n.toNat then setB B c.n.toNat else B
def meetT (B : Nat → Bool) (td : List Nat) (c : Cl) : List Nat := if c.p && !B c.n.toNat then td ++ [c.n.toNat] else td
def meas (M : List Th) (B : Nat → Bool) (td : List Nat) : Nat := 2 * (M.length - cnt M B) + td.length
theorem meetB_mono {B : Nat → Bool} {c : Cl} {a : Nat} (h : B a = true) : meetB B c a = true := by unfold meetB setB; split <;> simp [h]
theorem meetB_tgt {M : List Th} {B : Nat → Bool} {c : Cl} {i : Nat} (h : tgt M c i) : meetB B c (adr M i) = true := by
  obtain ⟨h1, _, h2⟩ := h
  have e : c.n.toNat = adr M i := by omega
  unfold meetB setB
  rw [h1, e]
  cases hb : B (adr M i) <;> simp [hb]
theorem Mk.meet {M : List Th} {rt : List Cl} {ex : Nat → Prop} {B : Nat → Bool} {td : List Nat} (h : Mk M rt ex B td) {c : Cl} (ok : Ok M c) (hr : ∀ i, tgt M c i → Rc M rt i) :
    Mk M rt ex (meetB B c) (meetT B td c) ∧ meas M (meetB B c) (meetT B td c) ≤ meas M B td := by
  unfold meetT
  by_cases hc : (c.p && !B c.n.toNat) = true
  · have hB : meetB B c = setB B c.n.toNat := by unfold meetB; rw [if_pos hc]
    rw [hB, if_pos hc]
    simp only [Bool.and_eq_true, Bool.not_eq_true'] at hc
    obtain ⟨i, ht⟩ := ok hc.1
    have e : c.n.toNat = adr M i := by have := ht.2.2; omega
    rw [e] at hc ⊢
    have hcnt : cnt M (setB B (adr M i)) = cnt M B + 1 := countP_one (k := i) ht.2.1 hc.2 (by simp [setB]) fun j hj => ?_
    · have hle := cnt_le M (setB B (adr M i))
      refine ⟨⟨fun a ha => ?_, fun a ha => ?_, fun j t hj hb => ?_, by rw [hcnt]; simpa using h.le⟩, by unfold meas; rw [hcnt] at hle ⊢; simp; omega⟩
      · simp only [setB, Bool.or_eq_true, decide_eq_true_eq] at ha
        rcases ha with ha | rfl
        · exact h.sound a ha
        · exact ⟨i, ht.2.1, rfl, hr i ht⟩
      · rcases List.mem_append.1 ha with q | q
        · simp [setB, h.tdB a q]
        · simp [setB, List.mem_singleton.1 q]
      · by_cases hji : adr M j = adr M i
        · exact .inl (by rw [hji]; simp)
        · simp only [setB, Bool.or_eq_true, decide_eq_true_eq, hji, or_false] at hb
          rcases h.closed j t hj hb with q | q | q
          · exact .inl (List.mem_append_left _ q)
          · exact .inr (.inl q)
          · exact .inr (.inr fun c hc k hk => by simp [setB, q c hc k hk])
    · rcases Nat.lt_or_ge j M.length with q | q
      · have : adr M j ≠ adr M i := fun e => hj (adr_inj (by omega) (by have := ht.2.1; omega) e)
        simp [setB, this]
      · have : adr M j ≠ adr M i := by
          have h1 : adr M j = tots M := by unfold adr; rw [List.take_of_length_le q]
          have := adr_lt' (M := M) ht.2.1 (Nat.le_refl _)
          rw [adr_len] at this; omega
        simp [setB, this]
  · have hB : meetB B c = B := by unfold meetB; rw [if_neg hc]
    rw [hB, if_neg hc]
    exact ⟨h, Nat.le_refl _⟩
/-- One is taken off. -/
theorem Mk.pop {M : List Th} {rt : List Cl} {B : Nat → Bool} {td : List Nat} {a : Nat} (h : Mk M rt (fun _ => False) B (td ++ [a])) : ∃ i t, M[i]? = some t ∧ a = adr M i ∧ Rc M rt i ∧ Mk M rt (· = i) B td ∧ meas M B td < meas M B (td ++ [a]) := by
  obtain ⟨i, hi, e, hr⟩ := h.sound a (h.tdB a (by simp))
  refine ⟨i, M[i], List.getElem?_eq_getElem hi, e, hr, ⟨h.sound, fun b hb => h.tdB b (List.mem_append_left _ hb), fun j t hj hb => ?_, by have := h.le; simp at this; omega⟩, by unfold meas; simp⟩
  rcases h.closed j t hj hb with q | q | q
  · rcases List.mem_append.1 q with q | q
    · exact .inl q
    · have hjl := (List.getElem?_eq_some_iff.1 hj).1
      exact .inr (.inl (adr_inj (M := M) (by omega) (by omega) (by rw [← e]; exact List.mem_singleton.1 q)))
  · exact q.elim
  · exact .inr (.inr q)
/-- Its fields have been met. -/
theorem Mk.done {M : List Th} {rt : List Cl} {B : Nat → Bool} {td : List Nat} {i : Nat} {t : Th} (h : Mk M rt (· = i) B td) (ht : M[i]? = some t) (hf : ∀ c ∈ t.l, ∀ k, tgt M c k → B (adr M k) = true) : Mk M rt (fun _ => False) B td :=
  ⟨h.sound, h.tdB, fun j u hj hb => by
    rcases h.closed j u hj hb with q | q | q
    · exact .inl q
    · subst q; rw [ht] at hj; cases hj; exact .inr (.inr hf)
    · exact .inr (.inr q), h.le⟩
theorem Mk.init (M : List Th) (rt : List Cl) : Mk M rt (fun _ => False) (fun _ => false) [] := by
  refine ⟨?_, ?_, ?_, Nat.zero_le _⟩
  · intro _ h; cases h
  · intro _ h; cases h
  · intro _ _ _ h; cases h
theorem Mk.all {M : List Th} {rt : List Cl} {B : Nat → Bool} (h : Mk M rt (fun _ => False) B []) (hroot : ∀ c ∈ rt, ∀ k, tgt M c k → B (adr M k) = true) {i : Nat} (hi : i < M.length) : B (adr M i) = rb M rt i := by
  cases hb : B (adr M i) with
  | true =>
    obtain ⟨j, hj, e, hr⟩ := h.sound _ hb
    rw [adr_inj (M := M) (by omega) (by omega) e]; exact (rb_iff.2 hr).symm
  | false =>
    cases hr : rb M rt i with
    | false => rfl
    | true =>
      have key : ∀ k, Rc M rt k → B (adr M k) = true := fun k hk => by
        induction hk with
        | root hc ht => exact hroot _ hc _ ht
        | fld hj ht hc hk ih =>
          rcases h.closed _ _ ht ih with q | q | q
          · cases q
          · exact q.elim
          · exact q _ hc _ hk
      rw [key i (rb_iff.1 hr)] at hb; cases hb
/-! ### The document's search: a thing is marked where it is taken off -/
def uns (M : List Th) (I : Nat → Bool) : Nat := ((List.range M.length).map fun i => if I i then 0 else sz ((M[i]?).getD th0)).sum
theorem sum_one {n k : Nat} {f g : Nat → Nat} (hk : k < n) (h : ∀ i, i ≠ k → g i = f i) : ((List.range n).map g).sum + f k = ((List.range n).map f).sum + g k := by
  induction n with
  | zero => omega
  | succ n ih =>
    rw [List.range_succ, List.map_append, List.map_append, List.sum_append, List.sum_append]
    simp only [List.map_cons, List.map_nil, List.sum_cons, List.sum_nil, Nat.add_zero]
    rcases Nat.lt_or_ge k n with q | q
    · have := ih q; rw [h n (by omega)]; omega
    · obtain rfl : k = n := by omega
      have : (List.range k).map g = (List.range k).map f := List.map_congr_left fun i hi => h i (by have := List.mem_range.1 hi; omega)
      rw [this]; omega
structure Dk (M : List Th) (rt : List Cl) (ex : Nat → Cl → Prop) (I : Nat → Bool) (td : List Nat) : Prop where
  sound : ∀ i, I i = true → i < M.length ∧ Rc M rt i
  tdR : ∀ i ∈ td, i < M.length ∧ Rc M rt i
  closed : ∀ j t c k, M[j]? = some t → I j = true → c ∈ t.l → tgt M c k → I k = true ∨ k ∈ td ∨ ex j c
theorem uns_zero (M : List Th) : uns M (fun _ => false) = tots M := by
  unfold uns tots
  congr 1
  apply List.ext_getElem
  · simp
  · intro i h1 h2
    have hi : i < M.length := by simpa using h1
    simp [hi]
theorem Dk.mark {M : List Th} {rt : List Cl} {I : Nat → Bool} {td : List Nat} {i : Nat} (h : Dk M rt (fun _ _ => False) I (td ++ [i])) : i < M.length ∧ Rc M rt i ∧ Dk M rt (fun j _ => j = i) (setB I i) td := by
  obtain ⟨h1, h2⟩ := h.tdR i (by simp)
  refine ⟨h1, h2, fun j hj => ?_, fun j hj => h.tdR j (List.mem_append_left _ hj), fun j t c k hj hI hc hk => ?_⟩
  · simp only [setB, Bool.or_eq_true, decide_eq_true_eq] at hj
    rcases hj with q | rfl
    · exact h.sound j q
    · exact ⟨h1, h2⟩
  · by_cases q : j = i
    · exact .inr (.inr q)
    · simp only [setB, Bool.or_eq_true, decide_eq_true_eq, q, or_false] at hI
      rcases h.closed j t c k hj hI hc hk with r | r | r
      · exact .inl (by simp [setB, r])
      · rcases List.mem_append.1 r with r | r
        · exact .inr (.inl r)
        · exact .inl (by simp [setB, List.mem_singleton.1 r])
      · exact r.elim
theorem Dk.skip {M : List Th} {rt : List Cl} {I : Nat → Bool} {td : List Nat} {i : Nat} (h : Dk M rt (fun _ _ => False) I (td ++ [i])) (hi : I i = true) : Dk M rt (fun _ _ => False) I td :=
  ⟨h.sound, fun j hj => h.tdR j (List.mem_append_left _ hj), fun j t c k hj hI hc hk => by
    rcases h.closed j t c k hj hI hc hk with r | r | r
    · exact .inl r
    · rcases List.mem_append.1 r with r | r
      · exact .inr (.inl r)
      · exact .inl (by rw [List.mem_singleton.1 r]; exact hi)
    · exact r.elim⟩
theorem Dk.push {M : List Th} {rt : List Cl} {ex : Nat → Cl → Prop} {I : Nat → Bool} {td : List Nat} {k : Nat} (h : Dk M rt ex I td) (hk : k < M.length ∧ Rc M rt k) : Dk M rt ex I (td ++ [k]) :=
  ⟨h.sound, fun j hj => by
    rcases List.mem_append.1 hj with q | q
    · exact h.tdR j q
    · rw [List.mem_singleton.1 q]; exact hk, fun j t c x hj hI hc hx => by
    rcases h.closed j t c x hj hI hc hx with r | r | r
    · exact .inl r
    · exact .inr (.inl (List.mem_append_left _ r))
    · exact .inr (.inr r)⟩
theorem Dk.done {M : List Th} {rt : List Cl} {I : Nat → Bool} {td : List Nat} {i : Nat} {t : Th} (h : Dk M rt (fun j _ => j = i) I td) (ht : M[i]? = some t) (hf : ∀ c ∈ t.l, ∀ k, tgt M c k → I k = true ∨ k ∈ td) : Dk M rt (fun _ _ => False) I td :=
  ⟨h.sound, h.tdR, fun j u c k hj hI hc hk => by
    rcases h.closed j u c k hj hI hc hk with r | r | r
    · exact .inl r
    · exact .inr (.inl r)
    · subst r; rw [ht] at hj; cases hj; rcases hf c hc k hk with q | q
      · exact .inl q
      · exact .inr (.inl q)⟩
theorem Dk.init (M : List Th) (rt : List Cl) : Dk M rt (fun _ _ => False) (fun _ => false) [] := by
  refine ⟨?_, ?_, ?_⟩
  · intro _ h; cases h
  · intro _ h; cases h
  · intro _ _ _ _ _ h; cases h
theorem Dk.all {M : List Th} {rt : List Cl} {I : Nat → Bool} (h : Dk M rt (fun _ _ => False) I []) (hroot : ∀ c ∈ rt, ∀ k, tgt M c k → I k = true) (i : Nat) : I i = rb M rt i := by
  cases hb : I i with
  | true => exact (rb_iff.2 (h.sound i hb).2).symm
  | false =>
    cases hr : rb M rt i with
    | false => rfl
    | true =>
      have key : ∀ k, Rc M rt k → I k = true := fun k hk => by
        induction hk with
        | root hc ht => exact hroot _ hc _ ht
        | fld hj ht hc hk ih =>
          rcases h.closed _ _ _ _ ht ih hc hk with q | q | q
          · exact q
          · cases q
          · exact q.elim
      rw [key i (rb_iff.1 hr)] at hb; cases hb
theorem uns_mark {M : List Th} {I : Nat → Bool} {i : Nat} {t : Th} (ht : M[i]? = some t) (hi : I i = false) : uns M (setB I i) + sz t = uns M I := by
  have hl := (List.getElem?_eq_some_iff.1 ht).1
  have := sum_one (f := fun i => if I i then 0 else sz ((M[i]?).getD th0)) (g := fun j => if setB I i j then 0 else sz ((M[j]?).getD th0)) hl (fun j hj => by simp [setB, hj])
  simp only [hi, ht, setB, Option.getD_some] at this
  simp at this
  unfold uns setB
  simpa using this
/-! ### Where things come to lie -/
def szAt (M : List Th) (i : Nat) : Nat := sz ((M[i]?).getD th0)
theorem szAt_eq {M : List Th} {i : Nat} {t : Th} (h : M[i]? = some t) : szAt M i = sz t := by unfold szAt; rw [h]; rfl
def nx (M : List Th) (f : Nat → Bool) (i : Nat) : Nat := ((List.range i).map fun j => if f j then szAt M j else 0).sum
theorem nx_succ (M : List Th) (f : Nat → Bool) (i : Nat) : nx M f (i + 1) = nx M f i + (if f i then szAt M i else 0) := by unfold nx; rw [List.range_succ]; simp
theorem nx_le {M : List Th} {f : Nat → Bool} {i : Nat} (h : i ≤ M.length) : nx M f i ≤ adr M i := by
  induction i with
  | zero => exact Nat.le_refl _
  | succ i ih =>
    obtain ⟨t, ht, e⟩ := adr_step (M := M) (i := i) (by omega)
    have := ih (by omega)
    rw [nx_succ, e, szAt_eq ht]
    split <;> omega
theorem nx_mono {M : List Th} {f : Nat → Bool} {i j : Nat} (h : i ≤ j) : nx M f i ≤ nx M f j := by
  induction j with
  | zero => rw [Nat.le_zero.1 h]; exact Nat.le_refl _
  | succ j ih =>
    rcases Nat.lt_or_ge i (j + 1) with q | q
    · have := ih (by omega); rw [nx_succ]; omega
    · rw [show i = j + 1 by omega]; exact Nat.le_refl _
/-- Of what lies ahead of a cell. -/
def Sx (M : List Th) (f : Nat → Bool) (b : Nat) : Nat := ((List.range M.length).map fun j => if f j && decide (adr M j < b) then szAt M j else 0).sum
theorem sum_cut {n i : Nat} (h : i ≤ n) (g : Nat → Nat) : ((List.range n).map fun j => if j < i then g j else 0).sum = ((List.range i).map g).sum := by
  induction n with
  | zero => rw [Nat.le_zero.1 h]; rfl
  | succ n ih =>
    rw [List.range_succ, List.map_append, List.sum_append]
    rcases Nat.lt_or_ge n i with q | q
    · obtain rfl : i = n + 1 := by omega
      rw [List.range_succ, List.map_append, List.sum_append]
      congr 1
      · refine congrArg List.sum (List.map_congr_left fun j hj => ?_)
        have := List.mem_range.1 hj
        rw [if_pos (by omega)]
      · simp
    · rw [ih q]; simp [show ¬ n < i by omega]
theorem Sx_congr {M : List Th} {f : Nat → Bool} {b b' : Nat} (h : ∀ j, j < M.length → f j = true → (adr M j < b ↔ adr M j < b')) : Sx M f b = Sx M f b' := by
  unfold Sx
  refine congrArg List.sum (List.map_congr_left fun j hj => ?_)
  have hj := List.mem_range.1 hj
  cases hf : f j with
  | false => rfl
  | true =>
    simp only [Bool.true_and, decide_eq_true_eq]
    by_cases q : adr M j < b
    · rw [if_pos q, if_pos ((h j hj hf).1 q)]
    · rw [if_neg q, if_neg fun k => q ((h j hj hf).2 k)]
theorem Sx_adr {M : List Th} {f : Nat → Bool} {i : Nat} (h : i ≤ M.length) : Sx M f (adr M i) = nx M f i := by
  unfold nx
  rw [← sum_cut h]
  unfold Sx
  refine congrArg List.sum (List.map_congr_left fun j hj => ?_)
  have hj := List.mem_range.1 hj
  rw [show decide (adr M j < adr M i) = decide (j < i) from decide_eq_decide.2 (adr_lt_iff (by omega) h)]
  cases f j <;> simp
theorem Sx_hit {M : List Th} {f : Nat → Bool} {i : Nat} {t : Th} (ht : M[i]? = some t) (hf : f i = true) : Sx M f (adr M i + 1) = Sx M f (adr M i) + sz t := by
  have hi := (List.getElem?_eq_some_iff.1 ht).1
  rw [Sx_adr (by omega)]
  have : Sx M f (adr M i + 1) = Sx M f (adr M (i + 1)) := Sx_congr fun j hj _ => by
    rw [adr_lt_iff (by omega) (by omega)]
    constructor
    · intro h; rcases Nat.lt_or_ge j (i + 1) with q | q
      · exact q
      · have := adr_lt ht (show i < j by omega) (by omega); have : 0 < sz t := Nat.succ_pos _; omega
    · intro h; have := adr_le (M := M) (show j ≤ i by omega) (by omega); omega
  rw [this, Sx_adr (by omega), nx_succ, if_pos hf, szAt_eq ht]
theorem Sx_miss {M : List Th} {f : Nat → Bool} {b : Nat} (h : ∀ i, i < M.length → f i = true → adr M i ≠ b) : Sx M f (b + 1) = Sx M f b := Sx_congr fun j hj hf => by have := h j hj hf; omega
theorem Sx_gap {M : List Th} {f : Nat → Bool} {b b' : Nat} (hb : b ≤ b') (h : ∀ i, i < M.length → f i = true → b ≤ adr M i → b' ≤ adr M i) : Sx M f b' = Sx M f b := Sx_congr fun j hj hf => by have := h j hj hf; omega
/-! ### What is kept -/
def tn (M : List Th) (f : Nat → Bool) (c : Cl) : Cl := if c.p = true then ⟨true, (Sx M f c.n.toNat : Int)⟩ else c
def tnT (M : List Th) (f : Nat → Bool) (t : Th) : Th := ⟨t.kd, t.tg, t.l.map (tn M f)⟩
theorem tnT_sz (M : List Th) (f : Nat → Bool) (t : Th) : sz (tnT M f t) = sz t := by simp [sz, tnT]
def ks (f : Nat → Bool) (n : Nat) : List Nat := (List.range n).filter f
theorem ks_succ (f : Nat → Bool) (n : Nat) : ks f (n + 1) = ks f n ++ (if f n then [n] else []) := by
  unfold ks; rw [List.range_succ, List.filter_append]; cases h : f n <;> simp [h]
def col (M : List Th) (f : Nat → Bool) (n : Nat) : List Th := (ks f n).map fun i => tnT M f ((M[i]?).getD th0)
theorem col_len (M : List Th) (f : Nat → Bool) (n : Nat) : (col M f n).length = (ks f n).length := by simp [col]
theorem col_succ (M : List Th) (f : Nat → Bool) (n : Nat) : col M f (n + 1) = col M f n ++ (if f n then [tnT M f ((M[n]?).getD th0)] else []) := by
  unfold col; rw [ks_succ, List.map_append]; split <;> simp
theorem col_tots (M : List Th) (f : Nat → Bool) (n : Nat) : tots (col M f n) = nx M f n := by
  induction n with
  | zero => rfl
  | succ n ih => rw [col_succ, tots_app, ih, nx_succ]; split <;> simp [tots, tnT_sz, szAt]
theorem ks_pre (f : Nat → Bool) {i n : Nat} (h : i ≤ n) : ks f i <+: ks f n := by
  induction n with
  | zero => rw [Nat.le_zero.1 h]; exact List.prefix_refl _
  | succ n ih =>
    rcases Nat.lt_or_ge i (n + 1) with q | q
    · rw [ks_succ]; exact (ih (by omega)).trans (List.prefix_append _ _)
    · rw [show i = n + 1 by omega]; exact List.prefix_refl _
/-- The number of a thing that is kept. -/
theorem ks_at {f : Nat → Bool} {i n : Nat} (h : i < n) (hf : f i = true) : (ks f n)[(ks f i).length]? = some i := by
  obtain ⟨t, ht⟩ := ks_pre f (show i + 1 ≤ n from h)
  rw [← ht, ks_succ, if_pos hf]
  simp
theorem ks_of {f : Nat → Bool} {n k i : Nat} (h : (ks f n)[k]? = some i) : i < n ∧ f i = true ∧ k = (ks f i).length := by
  have hm := List.mem_of_getElem? h
  simp only [ks, List.mem_filter, List.mem_range] at hm
  refine ⟨hm.1, hm.2, ?_⟩
  have h2 := ks_at hm.1 hm.2
  have nd : (ks f n).Pairwise (· ≠ ·) := List.Pairwise.filter _ List.nodup_range
  obtain ⟨k1, e1⟩ := List.getElem?_eq_some_iff.1 h
  obtain ⟨k2, e2⟩ := List.getElem?_eq_some_iff.1 h2
  have pw := List.pairwise_iff_getElem.1 nd
  rcases Nat.lt_trichotomy k (ks f i).length with q | q | q
  · exact absurd (e1.trans e2.symm) (pw _ _ k1 k2 q)
  · exact q
  · exact absurd (e2.trans e1.symm) (pw _ _ k2 k1 q)
theorem col_at {M : List Th} {f : Nat → Bool} {i n : Nat} {t : Th} (h : i < n) (hf : f i = true) (ht : M[i]? = some t) : (col M f n)[(ks f i).length]? = some (tnT M f t) := by
  unfold col; rw [List.getElem?_map, ks_at h hf]; simp [ht]
theorem col_adr {M : List Th} {f : Nat → Bool} {i n : Nat} (h : i ≤ n) : adr (col M f n) (ks f i).length = nx M f i := by
  have hp : col M f i <+: col M f n := by obtain ⟨t, ht⟩ := ks_pre f h; exact ⟨_, by unfold col; rw [← ht, List.map_append]⟩
  obtain ⟨t, ht⟩ := hp
  unfold adr
  rw [← ht, ← col_len M f i, List.take_left, col_tots]
theorem ks_len_lt {f : Nat → Bool} {i n : Nat} (h : i < n) (hf : f i = true) : (ks f i).length < (ks f n).length := (List.getElem?_eq_some_iff.1 (ks_at h hf)).1
theorem tn_tgt {M : List Th} {f : Nat → Bool} {c : Cl} {j : Nat} (h : tgt M c j) (hf : f j = true) : tgt (col M f M.length) (tn M f c) (ks f j).length := by
  obtain ⟨h1, h2, h3⟩ := h
  unfold tn
  rw [if_pos h1]
  refine ⟨rfl, by rw [col_len]; exact ks_len_lt h2 hf, ?_⟩
  show ((Sx M f c.n.toNat : Nat) : Int) = _
  rw [h3, Int.toNat_natCast, Sx_adr (by omega), col_adr (by omega)]
theorem tn_ok {M : List Th} {f : Nat → Bool} {c : Cl} (ok : Ok M c) (hf : ∀ j, tgt M c j → f j = true) : Ok (col M f M.length) (tn M f c) := fun hp => by
  cases hc : c.p with
  | false => unfold tn at hp; simp [hc] at hp
  | true => obtain ⟨j, hj⟩ := ok hc; exact ⟨_, tn_tgt hj (hf j hj)⟩
theorem Wf.col {M : List Th} {rt : List Cl} (h : Wf M rt) : Wf (col M (rb M rt) M.length) (rt.map (tn M (rb M rt))) := by
  refine ⟨fun t ht c hc => ?_, fun c hc => ?_, fun t ht => ?_⟩
  · obtain ⟨k, hk⟩ := List.getElem?_of_mem ht
    unfold Hp.col at hk
    rw [List.getElem?_map] at hk
    cases hi : (ks (rb M rt) M.length)[k]? with
    | none => rw [hi] at hk; cases hk
    | some i =>
      obtain ⟨h1, h2, _⟩ := ks_of hi
      rw [hi] at hk
      simp only [Option.map_some, List.getElem?_eq_getElem h1, Option.getD_some, Option.some.injEq] at hk
      subst hk
      obtain ⟨c0, hc0, rfl⟩ := List.mem_map.1 hc
      exact tn_ok (h.fld _ (List.getElem_mem h1) _ hc0) fun j hj => rb_iff.2 (.fld (rb_iff.1 h2) (List.getElem?_eq_getElem h1) hc0 hj)
  · obtain ⟨c0, hc0, rfl⟩ := List.mem_map.1 hc
    exact tn_ok (h.root _ hc0) fun j hj => rb_iff.2 (.root hc0 hj)
  · obtain ⟨i, hi, rfl⟩ := List.mem_map.1 ht
    simp only [ks, List.mem_filter, List.mem_range] at hi
    have := h.kd _ (List.getElem_mem hi.1)
    simpa [tnT, List.getElem?_eq_getElem hi.1] using this
/-! ### How the things lie in cells -/
def hdv (t : Th) : Int := (t.l.length : Int) * 524288 + t.tg * 8 + t.kd
structure Lays (M : List Th) (C : Nat → Cl) : Prop where
  hd : ∀ i t, M[i]? = some t → C (adr M i) = ⟨false, hdv t⟩
  fl : ∀ i t j c, M[i]? = some t → t.l[j]? = some c → C (adr M i + 1 + j) = c
end Go.Hp
