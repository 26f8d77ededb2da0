/- Plain law: the tokens of a text, of a blank and of another text behind it are the tokens of both. No program in sight. -/
import Derived.Test.YtinilkomfggjiaaDoorZk
import Derived.Test.YtinilkomfggjiaaDoorLexPlain
set_option linter.unusedVariables false
set_option linter.unusedSimpArgs false
namespace Go.Lex
open Go.Gx (byteAt)
structure Cat (s' s t : ByteArray) (c : UInt8) : Prop where
  size : s'.size = s.size + 1 + t.size
  left : ∀ k, k < s.size → byteAt s' k = byteAt s k
  mid : byteAt s' s.size = c
  right : ∀ k, k < t.size → byteAt s' (s.size + 1 + k) = byteAt t k
theorem ext_same {s t : ByteArray} {a b n : Nat} (h1 : a + n ≤ s.size) (h2 : b + n ≤ t.size) (h : ∀ m, m < n → byteAt s (a + m) = byteAt t (b + m)) : s.extract a (a + n) = t.extract b (b + n) := by
  apply bytes_ext
  rw [ByteArray.toList_eq, ByteArray.toList_eq]
  apply List.ext_getElem?
  intro i
  have e : ∀ (x : ByteArray) (p : Nat), p + n ≤ x.size → (x.extract p (p + n)).data.toList[i]? = if i < n then some (byteAt x (p + i)) else none := by
    intro x p hp
    have hp' : p + n ≤ x.data.size := hp
    rw [ByteArray.data_extract, Array.getElem?_toList, Array.getElem?_extract]
    by_cases hi : i < n
    · rw [if_pos (by omega), if_pos hi]
      unfold byteAt
      rw [Array.getElem?_eq_getElem (by omega)]
      rfl
    · rw [if_neg (by omega), if_neg hi]
  rw [e s a h1, e t b h2]
  by_cases hi : i < n
  · rw [if_pos hi, if_pos hi, h i hi]
  · rw [if_neg hi, if_neg hi]
section
variable {s' s t : ByteArray} {c : UInt8}
theorem Cat.extL (h : Cat s' s t c) {a b : Nat} (hab : a ≤ b) (hb : b ≤ s.size) : s'.extract a b = s.extract a b := by
  have hs := h.size
  obtain ⟨n, rfl⟩ : ∃ n, b = a + n := ⟨b - a, by omega⟩
  exact ext_same (by omega) hb (fun m hm => h.left _ (by omega))
theorem Cat.extR (h : Cat s' s t c) {a b : Nat} (hab : a ≤ b) (hb : b ≤ t.size) : s'.extract (s.size + 1 + a) (s.size + 1 + b) = t.extract a b := by
  have hs := h.size
  obtain ⟨n, rfl⟩ : ∃ n, b = a + n := ⟨b - a, by omega⟩
  have := ext_same (s := s') (t := t) (a := s.size + 1 + a) (b := a) (n := n) (by omega) hb (fun m hm => by rw [Nat.add_assoc]; exact h.right _ (by omega))
  rw [← this]
  congr 1
  omega
theorem Cat.stopL (h : Cat s' s t c) {p : UInt8 → Bool} (hp : p c = false) (k : Nat) (hk : k ≤ s.size) : stop p s' k = stop p s k := by
  have hs := h.size
  by_cases hlt : k < s.size
  · by_cases hpk : p (byteAt s k) = true
    · rw [stop_go hlt hpk, stop_go (by omega) (by rw [h.left k hlt]; exact hpk)]
      exact Cat.stopL h hp (k + 1) hlt
    · rw [stop_at (fun q => hpk q.2), stop_at (fun q => hpk (by rw [← h.left k hlt]; exact q.2))]
  · obtain rfl : k = s.size := by omega
    rw [stop_at (fun q => hlt q.1), stop_at (fun q => by rw [h.mid, hp] at q; cases q.2)]
termination_by s.size - k
theorem Cat.passL (h : Cat s' s t c) (hb : blankB c = true) (hc : c.toNat = 10 ∨ ∀ k, k < s.size → (byteAt s k).toNat ≠ 35) (k : Nat) (hk : k ≤ s.size) :
    (pass s k < s.size → pass s' k = pass s k) ∧ (¬ pass s k < s.size → pass s' k = pass s' (s.size + 1)) := by
  have hs := h.size
  by_cases hlt : k < s.size
  · have hbk := h.left k hlt
    by_cases h1 : blankB (byteAt s k) = true
    · rw [pass_blank hlt h1, pass_blank (s := s') (by omega) (by rw [hbk]; exact h1)]
      exact Cat.passL h hb hc (k + 1) hlt
    · by_cases h2 : ((byteAt s k).toNat : Int) = 35
      · have h10 : c.toNat = 10 := hc.resolve_right (fun q => q k hlt (by omega))
        have hn : notNl c = false := by unfold notNl; simp; omega
        have hst := Cat.stopL h hn (k + 1) hlt
        have hle := stop_le notNl s (k + 1) hlt
        have hge := le_stop notNl s (k + 1)
        rw [pass_remark hlt h2, pass_remark (s := s') (by omega) (by rw [hbk]; exact h2), hst]
        exact Cat.passL h hb hc _ hle
      · rw [pass_here hlt h1 h2, pass_here (s := s') (by omega) (by rw [hbk]; exact h1) (by rw [hbk]; exact h2)]
        exact ⟨fun _ => rfl, fun q => absurd hlt q⟩
  · obtain rfl : k = s.size := by omega
    rw [pass_end hlt]
    refine ⟨fun q => absurd q hlt, fun _ => ?_⟩
    rw [pass_blank (s := s') (by omega) (by rw [h.mid]; exact hb)]
termination_by s.size - k
theorem Cat.dvalL (h : Cat s' s t c) {j : Nat} : ∀ m, j + m ≤ s.size → dval s' j m = dval s j m
  | 0, _ => rfl
  | m + 1, hm => by
    simp only [dval]
    rw [Cat.dvalL h m (by omega), h.left _ (by omega)]
theorem blank_not (hb : blankB c = true) : digitB c = false ∧ letterB c = false := by
  have h0 := (blank_iff c).1 hb
  constructor
  · rw [Bool.eq_false_iff]; intro q; have := (digit_iff c).1 q; omega
  · rw [Bool.eq_false_iff]; intro q; have := (letter_iff c).1 q; omega
theorem longer_second {x : ByteArray} {a b : UInt8} (h : x.toList = [a, b]) (hb : blankB b = true) : longerB x = false := by
  have h0 := (blank_iff b).1 hb
  unfold longerB
  rw [h]
  have : ∀ (p q : UInt8), q.toNat = 58 ∨ q.toNat = 61 ∨ q.toNat = 62 → ([a, b] == (⟨#[p, q]⟩ : ByteArray).toList) = false := by
    intro p q hq
    rw [ByteArray.toList_eq, beq_eq_false_iff_ne]
    intro e
    have e2 : b = q := by simpa using (List.cons.inj (List.cons.inj e).2).1
    subst e2
    omega
  rw [this 58 58 (by decide), this 61 61 (by decide), this 61 62 (by decide), this 45 62 (by decide)]
  rfl
theorem two_ext {x : ByteArray} {j : Nat} (h : j + 2 ≤ x.size) : (x.extract j (j + 2)).toList = [byteAt x j, byteAt x (j + 1)] := by
  have h' : j + 2 ≤ x.data.size := h
  rw [ByteArray.toList_eq, ByteArray.data_extract]
  apply List.ext_getElem?
  intro i
  rw [Array.getElem?_toList, Array.getElem?_extract]
  unfold byteAt
  rcases i with _ | _ | i
  · rw [if_pos (by omega), Array.getElem?_eq_getElem (by omega), Array.getElem?_eq_getElem (by omega)]; rfl
  · rw [if_pos (by omega), Array.getElem?_eq_getElem (by omega), Array.getElem?_eq_getElem (by omega)]; rfl
  · rw [if_neg (by omega)]; rfl
theorem Cat.signL (h : Cat s' s t c) (hb : blankB c = true) {j : Nat} (hj : j < s.size) : signLen s' j = signLen s j := by
  have hs := h.size
  unfold signLen
  by_cases h2 : j + 2 ≤ s.size
  · rw [h.extL (by omega) h2, decide_eq_true (show ((j + 2 : Nat) : Int) ≤ ((s'.size : Nat) : Int) by omega), decide_eq_true (show ((j + 2 : Nat) : Int) ≤ ((s.size : Nat) : Int) by omega)]
  · have e : j + 1 = s.size := by omega
    rw [decide_eq_false (show ¬ ((j + 2 : Nat) : Int) ≤ ((s.size : Nat) : Int) by omega), decide_eq_true (show ((j + 2 : Nat) : Int) ≤ ((s'.size : Nat) : Int) by omega),
      longer_second (two_ext (by omega)) (by rw [e, h.mid]; exact hb)]
    rfl
theorem Cat.tokL (h : Cat s' s t c) (hb : blankB c = true) {j : Nat} (hj : j < s.size) : tokAt s' j = tokAt s j := by
  obtain ⟨hd, hl⟩ := blank_not hb
  have hs1 := stop_le digitB s j (by omega)
  have hs2 := stop_le (fun c => letterB c || digitB c) s j (by omega)
  have hg1 := le_stop digitB s j
  have hg2 := le_stop (fun c => letterB c || digitB c) s j
  unfold tokAt
  rw [h.left j hj]
  by_cases h1 : digitB (byteAt s j) = true
  · rw [if_pos h1, if_pos h1]
    unfold numAt numOk
    rw [h.stopL hd j (by omega), h.dvalL _ (by omega), h.left j hj]
  · rw [if_neg h1, if_neg h1]
    by_cases h2 : letterB (byteAt s j) = true
    · rw [if_pos h2, if_pos h2]
      unfold nameAt
      rw [h.stopL (p := fun c => letterB c || digitB c) (by simp [hd, hl]) j (by omega), h.extL hg2 hs2]
    · rw [if_neg h2, if_neg h2]
      by_cases h3 : signB (byteAt s j) = true
      · have hle : j + signLen s j ≤ s.size := by
          unfold signLen
          split
          · rename_i q
            simp only [Bool.and_eq_true, decide_eq_true_eq] at q
            omega
          · omega
        rw [if_pos h3, if_pos h3, h.signL hb hj, h.extL (by omega) hle]
      · rw [if_neg h3, if_neg h3]
theorem Cat.stopR (h : Cat s' s t c) (p : UInt8 → Bool) (k : Nat) (hk : k ≤ t.size) : stop p s' (s.size + 1 + k) = s.size + 1 + stop p t k := by
  have hs := h.size
  by_cases hlt : k < t.size
  · by_cases hpk : p (byteAt t k) = true
    · rw [stop_go hlt hpk, stop_go (by omega) (by rw [h.right k hlt]; exact hpk)]
      exact Cat.stopR h p (k + 1) hlt
    · rw [stop_at (fun q => hpk q.2), stop_at (fun q => hpk (by rw [← h.right k hlt]; exact q.2))]
  · rw [stop_at (fun q => hlt q.1), stop_at (fun q => by omega)]
termination_by t.size - k
theorem Cat.passR (h : Cat s' s t c) (k : Nat) (hk : k ≤ t.size) : pass s' (s.size + 1 + k) = s.size + 1 + pass t k := by
  have hs := h.size
  by_cases hlt : k < t.size
  · have hbk := h.right k hlt
    by_cases h1 : blankB (byteAt t k) = true
    · rw [pass_blank hlt h1, pass_blank (s := s') (by omega) (by rw [hbk]; exact h1)]
      exact Cat.passR h (k + 1) hlt
    · by_cases h2 : ((byteAt t k).toNat : Int) = 35
      · have hst := Cat.stopR h notNl (k + 1) hlt
        have hle := stop_le notNl t (k + 1) hlt
        have hge := le_stop notNl t (k + 1)
        rw [pass_remark hlt h2, pass_remark (s := s') (by omega) (by rw [hbk]; exact h2), show s.size + 1 + k + 1 = s.size + 1 + (k + 1) by omega, hst]
        exact Cat.passR h _ hle
      · rw [pass_here hlt h1 h2, pass_here (s := s') (by omega) (by rw [hbk]; exact h1) (by rw [hbk]; exact h2)]
  · rw [pass_end hlt, pass_end (by omega)]
termination_by t.size - k
theorem Cat.dvalR (h : Cat s' s t c) {j : Nat} : ∀ m, j + m ≤ t.size → dval s' (s.size + 1 + j) m = dval t j m
  | 0, _ => rfl
  | m + 1, hm => by
    simp only [dval]
    rw [Cat.dvalR h m (by omega), Nat.add_assoc, h.right _ (by omega)]
def sig (x : Nx) : Nat × ByteArray × Nat := (x.kind, x.text, x.n)
theorem Cat.signR (h : Cat s' s t c) {j : Nat} (hj : j < t.size) : signLen s' (s.size + 1 + j) = signLen t j := by
  have hs := h.size
  unfold signLen
  by_cases h2 : j + 2 ≤ t.size
  · rw [Nat.add_assoc (s.size + 1) j 2, h.extR (by omega) h2, decide_eq_true (show ((s.size + 1 + (j + 2) : Nat) : Int) ≤ ((s'.size : Nat) : Int) by omega), decide_eq_true (show ((j + 2 : Nat) : Int) ≤ ((t.size : Nat) : Int) by omega)]
  · rw [decide_eq_false (show ¬ ((j + 2 : Nat) : Int) ≤ ((t.size : Nat) : Int) by omega), decide_eq_false (show ¬ ((s.size + 1 + j + 2 : Nat) : Int) ≤ ((s'.size : Nat) : Int) by omega)]
    rfl
def Moved (o : Nat) (x y : Nx) : Prop := sig x = sig y ∧ x.fk = y.fk ∧ (y.fk = 0 → x.nx = o + y.nx)
theorem Cat.tokR (h : Cat s' s t c) {j : Nat} (hj : j < t.size) : Moved (s.size + 1) (tokAt s' (s.size + 1 + j)) (tokAt t j) := by
  have hs1 := stop_le digitB t j (by omega)
  have hs2 := stop_le (fun c => letterB c || digitB c) t j (by omega)
  have hg1 := le_stop digitB t j
  have hg2 := le_stop (fun c => letterB c || digitB c) t j
  unfold tokAt
  rw [h.right j hj]
  by_cases h1 : digitB (byteAt t j) = true
  · rw [if_pos h1, if_pos h1]
    have e1 : numOk s' (s.size + 1 + j) (stop digitB s' (s.size + 1 + j)) = numOk t j (stop digitB t j) := by
      unfold numOk
      rw [h.stopR digitB j (by omega), show s.size + 1 + stop digitB t j - (s.size + 1 + j) = stop digitB t j - j by omega, h.dvalR _ (by omega), h.right j hj]
    unfold numAt
    rw [e1]
    by_cases h2 : numOk t j (stop digitB t j) = true
    · rw [if_pos h2, if_pos h2, h.stopR digitB j (by omega), show s.size + 1 + stop digitB t j - (s.size + 1 + j) = stop digitB t j - j by omega, h.dvalR _ (by omega)]
      exact ⟨rfl, rfl, fun _ => rfl⟩
    · rw [if_neg h2, if_neg h2]
      exact ⟨rfl, rfl, fun q => by cases q⟩
  · rw [if_neg h1, if_neg h1]
    by_cases h2 : letterB (byteAt t j) = true
    · rw [if_pos h2, if_pos h2]
      unfold nameAt
      rw [h.stopR (fun c => letterB c || digitB c) j (by omega), show s.size + 1 + stop (fun c => letterB c || digitB c) t j - (s.size + 1 + j) = stop (fun c => letterB c || digitB c) t j - j by omega, h.extR hg2 hs2]
      by_cases h3 : stop (fun c => letterB c || digitB c) t j - j > 20
      · rw [if_pos h3, if_pos h3]
        exact ⟨rfl, rfl, fun q => by cases q⟩
      · rw [if_neg h3, if_neg h3]
        exact ⟨rfl, rfl, fun _ => rfl⟩
    · rw [if_neg h2, if_neg h2]
      by_cases h3 : signB (byteAt t j) = true
      · have hle : j + signLen t j ≤ t.size := by
          unfold signLen
          split
          · rename_i q
            simp only [Bool.and_eq_true, decide_eq_true_eq] at q
            omega
          · omega
        rw [if_pos h3, if_pos h3, h.signR hj, Nat.add_assoc (s.size + 1) j, h.extR (by omega) hle]
        exact ⟨rfl, rfl, fun _ => rfl⟩
      · rw [if_neg h3, if_neg h3]
        exact ⟨rfl, rfl, fun q => by cases q⟩
theorem Cat.nextR (h : Cat s' s t c) {i : Nat} (hi : i ≤ t.size) : Moved (s.size + 1) (next s' (s.size + 1 + i)) (next t i) := by
  have hs := h.size
  have hp := h.passR i hi
  have hle := pass_le t i hi
  unfold next
  rw [hp]
  by_cases h1 : pass t i < t.size
  · rw [if_pos h1, if_pos (by omega)]
    exact h.tokR h1
  · rw [if_neg h1, if_neg (by omega)]
    exact ⟨rfl, rfl, fun _ => by rw [hs]⟩
def sigs (r : List Nx × Nat × Nat) : List (Nat × ByteArray × Nat) × Nat := (r.1.map sig, r.2.1)
theorem sigs_add {x y : Nx} {r q : List Nx × Nat × Nat} (h1 : sig x = sig y) (h2 : sigs r = sigs q) : sigs (addTok x r) = sigs (addTok y q) := by
  obtain ⟨a, b, c⟩ := r
  obtain ⟨a', b', c'⟩ := q
  simp only [sigs, Prod.mk.injEq] at h2
  obtain ⟨h3, h4⟩ := h2
  subst h4
  unfold addTok sigs
  by_cases h : b = 0
  · simp [h, h1, h3]
  · simp [h]
theorem Cat.toksR (h : Cat s' s t c) (i : Nat) (hi : i ≤ t.size) : sigs (toks s' (s.size + 1 + i)) = sigs (toks t i) := by
  have hs := h.size
  obtain ⟨m1, m2, m3⟩ := h.nextR hi
  have mk : (next s' (s.size + 1 + i)).kind = (next t i).kind := congrArg Prod.fst m1
  by_cases h1 : (next t i).fk = 0
  · by_cases h2 : (next t i).kind = 0
    · rw [toks_end h1 h2, toks_end (by omega) (by omega)]
      simp [sigs, m1]
    · have hp := next_prog hi h1 h2
      rw [toks_go hi h1 h2, toks_go (by omega) (by omega) (by omega), m3 h1]
      exact sigs_add m1 (Cat.toksR h _ hp.2)
  · rw [toks_fault h1, toks_fault (by omega)]
    simp [sigs, m2]
termination_by t.size - i
theorem next_by_pass {x : ByteArray} {i j : Nat} (h : pass x i = pass x j) : next x i = next x j := by unfold next; rw [h]
theorem toks_by_pass {x : ByteArray} {i j : Nat} (h : pass x i = pass x j) (hi : i ≤ x.size) (hj : j ≤ x.size) : toks x i = toks x j := by
  have e := next_by_pass h
  by_cases h1 : (next x j).fk = 0
  · by_cases h2 : (next x j).kind = 0
    · rw [toks_end h1 h2, toks_end (by rw [e]; exact h1) (by rw [e]; exact h2), e]
    · rw [toks_go hj h1 h2, toks_go hi (by rw [e]; exact h1) (by rw [e]; exact h2), e]
  · rw [toks_fault h1, toks_fault (by rw [e]; exact h1), e]
theorem next_end {x : ByteArray} {i : Nat} (h : (next x i).fk = 0) (hk : (next x i).kind = 0) : ¬ pass x i < x.size := by
  intro hlt
  unfold next at h hk
  rw [if_pos hlt] at h hk
  unfold tokAt at h hk
  split at hk
  · rename_i h1
    rw [if_pos h1] at h
    unfold numAt at h hk
    split at hk
    · cases hk
    · rename_i h2; rw [if_neg h2] at h; cases h
  · rename_i h1
    rw [if_neg h1] at h
    split at hk
    · rename_i h2
      rw [if_pos h2] at h
      unfold nameAt at h hk
      split at hk
      · rename_i h3; rw [if_pos h3] at h; cases h
      · rename_i h3
        simp only at hk
        split at hk <;> cases hk
    · rename_i h2
      rw [if_neg h2] at h
      split at hk
      · cases hk
      · rename_i h3; rw [if_neg h3] at h; cases h
theorem Cat.toksL (h : Cat s' s t c) (hb : blankB c = true) (hc : c.toNat = 10 ∨ ∀ k, k < s.size → (byteAt s k).toNat ≠ 35) (i : Nat) (hi : i ≤ s.size) (hok : (toks s i).2.1 = 0) (ht : (toks t 0).2.1 = 0) :
    sigs (toks s' i) = (((toks s i).1.dropLast ++ (toks t 0).1).map sig, 0) ∧ (toks s i).1 ≠ [] := by
  have hs := h.size
  by_cases h1 : (next s i).fk = 0
  · by_cases h2 : (next s i).kind = 0
    · have hp := (h.passL hb hc i hi).2 (next_end h1 h2)
      have e1 := toks_by_pass hp (by omega) (by omega)
      have e2 := h.toksR 0 (by omega)
      rw [toks_end h1 h2, e1]
      refine ⟨?_, by simp⟩
      rw [Nat.add_zero] at e2
      rw [e2]
      simp [sigs, ht]
    · have hp := next_prog hi h1 h2
      have hlt : pass s i < s.size := by
        rcases Nat.lt_or_ge (pass s i) s.size with q | q
        · exact q
        · exfalso; apply h2; unfold next; rw [if_neg (by omega)]
      have e : next s' i = next s i := by
        unfold next
        rw [(h.passL hb hc i hi).1 hlt, if_pos hlt, if_pos (by omega)]
        exact h.tokL hb hlt
      have hg := toks_go hi h1 h2
      rw [hg] at hok
      have hok2 : (toks s (next s i).nx).2.1 = 0 := by
        unfold addTok at hok
        split at hok
        · assumption
        · exact hok
      have ih := Cat.toksL h hb hc (next s i).nx hp.2 hok2 ht
      rw [toks_go (s := s') (by omega) (by rw [e]; exact h1) (by rw [e]; exact h2), e, hg]
      have ea : addTok (next s i) (toks s (next s i).nx) = (next s i :: (toks s (next s i).nx).1, (toks s (next s i).nx).2) := by unfold addTok; rw [if_pos hok2]
      rw [ea]
      refine ⟨?_, by simp⟩
      have i1 := ih.1
      simp only [sigs, Prod.mk.injEq] at i1
      unfold addTok sigs
      rw [if_pos i1.2]
      simp only [Prod.mk.injEq, List.map_cons]
      refine ⟨?_, i1.2⟩
      rw [i1.1]
      obtain ⟨y, r, hyr⟩ := List.exists_cons_of_ne_nil ih.2
      rw [hyr]
      simp
  · rw [toks_fault h1] at hok
    exact absurd hok h1
termination_by s.size - i
end
theorem byteAt_append {a b : ByteArray} (k : Nat) : byteAt (a ++ b) k = if k < a.size then byteAt a k else byteAt b (k - a.size) := by
  unfold byteAt
  rw [ByteArray.data_append, Array.getElem?_append]
  have : a.data.size = a.size := rfl
  rw [this]
  split <;> rfl
theorem cat_append (s t : ByteArray) (c : UInt8) : Cat ((s ++ ⟨#[c]⟩) ++ t) s t c := by
  have h1 : (⟨#[c]⟩ : ByteArray).size = 1 := rfl
  refine ⟨by simp [ByteArray.size_append, h1], fun k hk => ?_, ?_, fun k hk => ?_⟩
  · rw [byteAt_append, if_pos (by rw [ByteArray.size_append]; omega), byteAt_append, if_pos hk]
  · rw [byteAt_append, if_pos (by rw [ByteArray.size_append, h1]; omega), byteAt_append, if_neg (by omega), Nat.sub_self]
    rfl
  · rw [byteAt_append, if_neg (by rw [ByteArray.size_append, h1]; omega), ByteArray.size_append, h1]
    congr 1
    omega
theorem append_assoc' (a b c : ByteArray) : a ++ b ++ c = a ++ (b ++ c) := by
  apply bytes_ext
  simp [ByteArray.toList_eq, ByteArray.data_append]
theorem nil_append' (a : ByteArray) : Z.E ++ a = a := by
  apply bytes_ext
  simp [ByteArray.toList_eq, ByteArray.data_append]
theorem append_nil' (a : ByteArray) : a ++ Z.E = a := by
  apply bytes_ext
  simp [ByteArray.toList_eq, ByteArray.data_append]
def digB (n : Nat) (acc : ByteArray) : ByteArray :=
  if n / 10 = 0 then (⟨#[UInt8.ofNat (48 + n % 10)]⟩ : ByteArray) ++ acc else digB (n / 10) ((⟨#[UInt8.ofNat (48 + n % 10)]⟩ : ByteArray) ++ acc)
termination_by n
decreasing_by omega
theorem digB_end {n : Nat} {acc : ByteArray} (h : n / 10 = 0) : digB n acc = (⟨#[UInt8.ofNat (48 + n % 10)]⟩ : ByteArray) ++ acc := by rw [digB, if_pos h]
theorem digB_go {n : Nat} {acc : ByteArray} (h : n / 10 ≠ 0) : digB n acc = digB (n / 10) ((⟨#[UInt8.ofNat (48 + n % 10)]⟩ : ByteArray) ++ acc) := by rw [digB, if_neg h]
theorem ext_last {s : ByteArray} {j m : Nat} (h : j + (m + 1) ≤ s.size) : s.extract j (j + (m + 1)) = s.extract j (j + m) ++ ⟨#[byteAt s (j + m)]⟩ := by
  apply bytes_ext
  rw [ByteArray.toList_eq, ByteArray.toList_eq, ByteArray.data_append]
  have h' : j + (m + 1) ≤ s.data.size := h
  apply List.ext_getElem?
  intro i
  rw [Array.getElem?_toList, Array.getElem?_toList, ByteArray.data_extract, ByteArray.data_extract, Array.getElem?_extract, Array.getElem?_append, Array.size_extract, Array.getElem?_extract]
  unfold byteAt
  rcases Nat.lt_trichotomy i m with q | q | q
  · rw [if_pos (by omega), if_pos (by omega), if_pos (by omega)]
  · subst q
    rw [if_pos (by omega), if_neg (by omega), Array.getElem?_eq_getElem (by omega)]
    have : i - (min (j + i) s.data.size - j) = 0 := by omega
    rw [this]
    rfl
  · rw [if_neg (by omega), if_neg (by omega)]
    symm
    rw [Array.getElem?_eq_none]
    show 1 ≤ _
    omega
theorem dval_pos {s : ByteArray} {j m : Nat} (hm : 0 < m) (h0 : (byteAt s j).toNat ≠ 48) (hd : digitB (byteAt s j) = true) : 0 < dval s j m := by
  have h1 := dval_mono s j (m := 1) (m' := m) (by omega)
  have h2 := (digit_iff _).1 hd
  simp only [dval, Nat.add_zero] at h1
  omega
theorem dig_last {s : ByteArray} {j m : Nat} (hd : digitB (byteAt s (j + m)) = true) : UInt8.ofNat (48 + dval s j (m + 1) % 10) = byteAt s (j + m) ∧ dval s j (m + 1) / 10 = dval s j m := by
  have h9 := (digit_iff _).1 hd
  have hdv : dval s j (m + 1) = dval s j m * 10 + ((byteAt s (j + m)).toNat - 48) := rfl
  have hmod : dval s j (m + 1) % 10 = (byteAt s (j + m)).toNat - 48 := by omega
  refine ⟨?_, by omega⟩
  rw [hmod, show 48 + ((byteAt s (j + m)).toNat - 48) = (byteAt s (j + m)).toNat by omega]
  simp
theorem digB_dval {s : ByteArray} {j : Nat} (m : Nat) : ∀ (acc : ByteArray), j + (m + 1) ≤ s.size → (∀ k, k < m + 1 → digitB (byteAt s (j + k)) = true) → (m = 0 ∨ (byteAt s j).toNat ≠ 48) →
    digB (dval s j (m + 1)) acc = s.extract j (j + (m + 1)) ++ acc := by
  induction m with
  | zero =>
    intro acc hsz hd _
    obtain ⟨hc, hdiv⟩ := dig_last (s := s) (j := j) (m := 0) (hd 0 (by omega))
    have hz : dval s j 0 = 0 := rfl
    have he : s.extract j (j + 0) = ⟨#[]⟩ := by
      apply bytes_ext
      simp [ByteArray.toList_eq]
    rw [digB_end (by rw [hdiv, hz]), hc, ext_last hsz, he, nil_append']
  | succ m ih =>
    intro acc hsz hd h0
    obtain ⟨hc, hdiv⟩ := dig_last (s := s) (j := j) (m := m + 1) (hd (m + 1) (by omega))
    have hp := dval_pos (s := s) (j := j) (m := m + 1) (by omega) (h0.resolve_left (by omega)) (hd 0 (by omega))
    rw [digB_go (by rw [hdiv]; omega), hc, hdiv, ih _ (by omega) (fun k hk => hd k (by omega)) (.inr (h0.resolve_left (by omega))), ext_last hsz, append_assoc']
def sayB (x : Nx) : ByteArray := if x.kind = 1 then digB x.n ⟨#[]⟩ else x.text
theorem say_ext {s : ByteArray} {j : Nat} (hj : j < s.size) (h : (tokAt s j).fk = 0) : sayB (tokAt s j) = s.extract j (tokAt s j).nx ∧ j < (tokAt s j).nx ∧ (tokAt s j).nx ≤ s.size := by
  unfold tokAt at *
  by_cases h1 : digitB (byteAt s j) = true
  · rw [if_pos h1] at *
    unfold numAt at *
    by_cases h2 : numOk s j (stop digitB s j) = true
    · rw [if_pos h2] at *
      have a := stop_go hj h1
      have b := le_stop digitB s (j + 1)
      have c := stop_le digitB s j (by omega)
      obtain ⟨m, hm⟩ : ∃ m, stop digitB s j = j + (m + 1) := ⟨stop digitB s j - j - 1, by omega⟩
      refine ⟨?_, by show j < stop digitB s j; omega, c⟩
      show (if (1 : Nat) = 1 then digB (dval s j (stop digitB s j - j)) ⟨#[]⟩ else _) = s.extract j (stop digitB s j)
      rw [if_pos rfl, hm, show j + (m + 1) - j = m + 1 by omega, digB_dval m _ (by omega) (fun k hk => stop_in digitB s j (j + k) (by omega) (by omega)), append_nil']
      unfold numOk at h2
      simp at h2
      omega
    · rw [if_neg h2] at h; cases h
  · rw [if_neg h1] at *
    by_cases h2 : letterB (byteAt s j) = true
    · rw [if_pos h2] at *
      unfold nameAt at *
      by_cases h3 : stop (fun c => letterB c || digitB c) s j - j > 20
      · rw [if_pos h3] at h; cases h
      · rw [if_neg h3] at *
        have a := stop_go (p := fun c => letterB c || digitB c) hj (by simp [h2])
        have b := le_stop (fun c => letterB c || digitB c) s (j + 1)
        have c := stop_le (fun c => letterB c || digitB c) s j (by omega)
        refine ⟨?_, by show j < stop _ s j; omega, c⟩
        unfold sayB
        rw [if_neg]
        show ¬ (if _ then 3 else 2) = 1
        split <;> omega
    · rw [if_neg h2] at *
      by_cases h3 : signB (byteAt s j) = true
      · rw [if_pos h3] at *
        refine ⟨?_, ?_, ?_⟩
        · unfold sayB; rw [if_neg (show ¬ (4 : Nat) = 1 by omega)]
        · show j < j + signLen s j
          unfold signLen; split <;> omega
        · show j + signLen s j ≤ s.size
          unfold signLen
          split
          · rename_i q; simp only [Bool.and_eq_true, decide_eq_true_eq] at q; omega
          · omega
      · rw [if_neg h3] at h; cases h
theorem stop_all {p : UInt8 → Bool} {y : ByteArray} (k : Nat) (hk : k ≤ y.size) (h : ∀ i, i < y.size → p (byteAt y i) = true) : stop p y k = y.size := by
  by_cases q : k < y.size
  · rw [stop_go q (h k q)]
    exact stop_all (k + 1) q h
  · rw [stop_at (fun r => q r.1)]; omega
termination_by y.size - k
theorem not_remark {c : UInt8} (h : digitB c = true ∨ letterB c = true ∨ signB c = true ∨ c = 62) : c.toNat ≠ 35 ∧ blankB c = false := by
  rcases h with h | h | h | rfl
  · have := (digit_iff c).1 h
    refine ⟨by omega, ?_⟩
    rw [Bool.eq_false_iff]; intro q; have := (blank_iff c).1 q; omega
  · have := (letter_iff c).1 h
    refine ⟨by omega, ?_⟩
    rw [Bool.eq_false_iff]; intro q; have := (blank_iff c).1 q; omega
  · have hall : ∀ c : Fin 256, signB (UInt8.ofNat c.val) = true → (UInt8.ofNat c.val).toNat ≠ 35 ∧ blankB (UInt8.ofNat c.val) = false := by decide +kernel
    have := hall ⟨c.toNat, c.toNat_lt⟩ (by simpa using h)
    simpa using this
  · decide +kernel
theorem longer_signs {x : ByteArray} {a b : UInt8} (h : x.toList = [a, b]) (hl : longerB x = true) : signB b = true ∨ b = 62 := by
  unfold longerB at hl
  rw [h] at hl
  have e : ∀ p q : UInt8, (⟨#[p, q]⟩ : ByteArray).toList = [p, q] := fun p q => by rw [ByteArray.toList_eq]
  simp only [e, Bool.or_eq_true, beq_iff_eq, List.cons.injEq, and_true] at hl
  rcases hl with ((⟨_, rfl⟩ | ⟨_, rfl⟩) | ⟨_, rfl⟩) | ⟨_, rfl⟩
  · exact .inl (by decide +kernel)
  · exact .inl (by decide +kernel)
  · exact .inr rfl
  · exact .inr rfl
structure Good (m : Nat) (x : Nx) : Prop where
  kind : 1 ≤ x.kind ∧ x.kind ≤ 4
  num : x.n ≤ maxInt
  size : (sayB x).size ≤ m
  quiet : ∀ k, k < (sayB x).size → (byteAt (sayB x) k).toNat ≠ 35
  toks : sigs (toks (sayB x) 0) = ([sig x, (0, ⟨#[]⟩, 0)], 0)
theorem self_tok {s : ByteArray} {j : Nat} (hj : j < s.size) (h : (tokAt s j).fk = 0) : Good s.size (tokAt s j) := by
  obtain ⟨hs, h1, h2⟩ := say_ext hj h
  -- the text's own bytes, one by one
  have hb : ∀ k, k < (s.extract j (tokAt s j).nx).size → byteAt (s.extract j (tokAt s j).nx) k = byteAt s (j + k) := fun k hk => by rw [size_ext h2] at hk; exact byteAt_ext h2 hk
  have hz := size_ext (s := s) (a := j) h2
  have main : (1 ≤ (tokAt s j).kind ∧ (tokAt s j).kind ≤ 4) ∧ (tokAt s j).n ≤ maxInt ∧ (∀ k, k < (s.extract j (tokAt s j).nx).size → digitB (byteAt s (j + k)) = true ∨ letterB (byteAt s (j + k)) = true ∨ signB (byteAt s (j + k)) = true ∨ byteAt s (j + k) = 62) ∧
      (sig (tokAt (s.extract j (tokAt s j).nx) 0) = sig (tokAt s j) ∧ (tokAt (s.extract j (tokAt s j).nx) 0).fk = 0 ∧ (tokAt (s.extract j (tokAt s j).nx) 0).nx = (s.extract j (tokAt s j).nx).size) := by
    generalize hy : s.extract j (tokAt s j).nx = y at *
    have hb0 : byteAt y 0 = byteAt s j := hb 0 (by omega)
    unfold tokAt at *
    rw [hb0]
    by_cases c1 : digitB (byteAt s j) = true
    · simp only [if_pos c1] at *
      unfold numAt at *
      by_cases c2 : numOk s j (stop digitB s j) = true
      · simp only [if_pos c2] at *
        have hd : ∀ k, k < y.size → digitB (byteAt s (j + k)) = true := fun k hk => stop_in digitB s j (j + k) (by omega) (by omega)
        have hst := stop_all (p := digitB) (y := y) 0 (by omega) (fun i hi => by rw [hb i hi]; exact hd i hi)
        have hok := numOk_extract (s := s) (j := j) (e := stop digitB s j) (le_stop _ _ _) h2
        have hdv := dval_ext (s := s) (j := j) (e := stop digitB s j) h2 (stop digitB s j - j) (Nat.le_refl _)
        rw [hy] at hok hdv
        refine ⟨⟨by simp, by simp⟩, ?_, fun k hk => .inl (hd k hk), ?_⟩
        · unfold numOk at c2; simp at c2; exact c2.2
        · rw [hst, if_pos (by rw [hok]; exact c2)]
          refine ⟨?_, rfl, rfl⟩
          simp only [sig, Prod.mk.injEq, true_and]
          rw [Nat.sub_zero, hz]
          exact hdv
      · rw [if_neg c2] at h; cases h
    · simp only [if_neg c1] at *
      by_cases c2 : letterB (byteAt s j) = true
      · simp only [if_pos c2] at *
        unfold nameAt at *
        by_cases c3 : stop (fun c => letterB c || digitB c) s j - j > 20
        · rw [if_pos c3] at h; cases h
        · simp only [if_neg c3] at *
          have hd : ∀ k, k < y.size → (letterB (byteAt s (j + k)) || digitB (byteAt s (j + k))) = true := fun k hk => stop_in (fun c => letterB c || digitB c) s j (j + k) (by omega) (by omega)
          have hst := stop_all (p := fun c => letterB c || digitB c) (y := y) 0 (by omega) (fun i hi => by rw [hb i hi]; exact hd i hi)
          have hyy : y.extract 0 y.size = y := by
            have := ext_same (s := y) (t := s) (a := 0) (b := j) (n := y.size) (by omega) (by omega) (fun m hm => by rw [Nat.zero_add]; exact hb m hm)
            rw [Nat.zero_add] at this
            rw [this, ← hy]
            congr 1
            rw [hy]; omega
          refine ⟨⟨by split <;> omega, by split <;> omega⟩, by simp, fun k hk => ?_, ?_⟩
          · have := hd k hk
            simp only [Bool.or_eq_true] at this
            rcases this with q | q
            · exact .inr (.inl q)
            · exact .inl q
          · rw [hst, if_neg (by omega), hyy]
            refine ⟨?_, rfl, rfl⟩
            simp only [sig, hy]
      · simp only [if_neg c2] at *
        by_cases c3 : signB (byteAt s j) = true
        · simp only [if_pos c3] at *
          have hsl : signLen y 0 = signLen s j ∧ (signLen s j = 2 → signB (byteAt s (j + 1)) = true ∨ byteAt s (j + 1) = 62) := by
            unfold signLen at *
            by_cases c4 : (decide (((j + 2 : Nat) : Int) ≤ ((s.size : Nat) : Int)) && longerB (s.extract j (j + 2))) = true
            · simp only [if_pos c4] at *
              simp only [Bool.and_eq_true, decide_eq_true_eq] at c4
              have hy2 : y.size = 2 := by omega
              have e2 : y.extract 0 (0 + 2) = s.extract j (j + 2) := ext_same (by omega) (by omega) (fun m hm => by rw [Nat.zero_add]; exact hb m (by omega))
              refine ⟨?_, fun _ => longer_signs (two_ext (by omega)) c4.2⟩
              rw [if_pos]
              rw [e2, c4.2, Bool.and_true, decide_eq_true_eq]
              omega
            · simp only [if_neg c4] at *
              refine ⟨?_, fun q => by cases q⟩
              rw [if_neg]
              intro q
              simp only [Bool.and_eq_true, decide_eq_true_eq] at q
              omega
          have hyy : y.extract 0 y.size = y := by
            have := ext_same (s := y) (t := s) (a := 0) (b := j) (n := y.size) (by omega) (by omega) (fun m hm => by rw [Nat.zero_add]; exact hb m hm)
            rw [Nat.zero_add] at this
            rw [this, ← hy]
            congr 1
            rw [hy]; omega
          have hle : signLen s j = 1 ∨ signLen s j = 2 := by unfold signLen; split <;> simp
          refine ⟨by simp, by simp, fun k hk => ?_, ?_⟩
          · rcases Nat.eq_zero_or_pos k with rfl | q
            · exact .inr (.inr (.inl c3))
            · obtain rfl : k = 1 := by omega
              exact .inr (.inr (hsl.2 (by omega)))
          · have e0 : (0 : Nat) + signLen y 0 = y.size := by rw [hsl.1]; omega
            rw [e0, hyy]
            refine ⟨?_, by trivial, by trivial⟩
            simp only [sig, hy]
        · rw [if_neg c3] at h; cases h
  obtain ⟨m1, m2, m3, m4, m5, m6⟩ := main
  generalize hy : s.extract j (tokAt s j).nx = y at *
  have hq : ∀ k, k < y.size → (byteAt y k).toNat ≠ 35 ∧ blankB (byteAt y k) = false := fun k hk => by rw [hb k hk]; exact not_remark (m3 k hk)
  refine ⟨m1, m2, by rw [hs]; omega, fun k hk => by rw [hs] at hk ⊢; exact (hq k hk).1, ?_⟩
  rw [hs]
  have hy0 : 0 < y.size := by omega
  have hp : pass y 0 = 0 := pass_here hy0 (by rw [(hq 0 hy0).2]; simp) (by have := (hq 0 hy0).1; omega)
  have hn : next y 0 = tokAt y 0 := by unfold next; rw [hp, if_pos hy0]
  have hk : (tokAt y 0).kind = (tokAt s j).kind := congrArg Prod.fst m4
  have hpe : pass y y.size = y.size := pass_end (by omega)
  have hne : next y y.size = ⟨0, y.size, ⟨#[]⟩, 0, y.size, 0, 0⟩ := by unfold next; rw [hpe, if_neg (by omega)]
  rw [toks_go (Nat.zero_le _) (by rw [hn]; exact m5) (by rw [hn]; omega), hn, m6, toks_end (by rw [hne]) (by rw [hne]), hne]
  simp [addTok, sigs, m4]
  rfl
theorem toks_nil0 : toks ⟨#[]⟩ 0 = ([⟨0, 0, ⟨#[]⟩, 0, 0, 0, 0⟩], 0, 0) := by
  have hs : Z.E.size = 0 := rfl
  have hp : pass ⟨#[]⟩ 0 = 0 := pass_end (by rw [hs]; omega)
  have hn : next ⟨#[]⟩ 0 = ⟨0, 0, ⟨#[]⟩, 0, 0, 0, 0⟩ := by unfold next; rw [hp, hs, if_neg (by omega)]
  rw [toks_end (by rw [hn]) (by rw [hn]), hn]
end Go.Lex
