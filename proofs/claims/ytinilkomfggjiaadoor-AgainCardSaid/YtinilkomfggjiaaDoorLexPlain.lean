/- Plain definitions: the bytes, names, numbers and signs of a text, and the token at a place. No program in sight. -/
import Derived.Test.YtinilkomfggjiaaDoorZk
import Derived.Test.YtinilkomfggjiaaDoorGx
set_option linter.unusedVariables false
set_option linter.unusedSimpArgs false
namespace Go.Lex
open Go.Gx (byteAt)
def digitB (c : UInt8) : Bool := decide ((c.toNat : Int) ≥ 48) && decide ((c.toNat : Int) ≤ 57)
def letterB (c : UInt8) : Bool := ((decide ((c.toNat : Int) ≥ 97) && decide ((c.toNat : Int) ≤ 122)) || (decide ((c.toNat : Int) ≥ 65) && decide ((c.toNat : Int) ≤ 90))) || ((c.toNat : Int) == 95)
def blankB (c : UInt8) : Bool := ((((c.toNat : Int) == 9) || ((c.toNat : Int) == 10)) || ((c.toNat : Int) == 13)) || ((c.toNat : Int) == 32)
abbrev sgB : ByteArray := ⟨#[40, 41, 91, 93, 123, 125, 44, 59, 58, 61, 45, 43, 42, 60, 124, 126]⟩
def signB (c : UInt8) : Bool := (List.range 16).any (fun j => (byteAt sgB j).toNat == c.toNat)
theorem signB_yes {c : UInt8} {j : Nat} (h : j < 16) (e : (byteAt sgB j).toNat = c.toNat) : signB c = true := by
  unfold signB; rw [List.any_eq_true]; exact ⟨j, List.mem_range.2 h, by simpa using e⟩
theorem signB_no {c : UInt8} (h : ∀ j, j < 16 → (byteAt sgB j).toNat ≠ c.toNat) : signB c = false := by
  unfold signB; rw [List.any_eq_false]; intro j hj; simpa using h j (List.mem_range.1 hj)
def cls (c : UInt8) : Nat :=
  if blankB c = true then 1 else if ((c.toNat : Int) == 35) = true then 2 else if digitB c = true then 3 else if letterB c = true then 4 else if signB c = true then 5 else 0
theorem sgB_dec : ∀ j, j < 16 → Utf8.decode sgB j = ((byteAt sgB j).toNat, 1) := by decide +kernel
theorem sgB_sz : sgB.size = 16 := rfl
theorem digit_iff (c : UInt8) : digitB c = true ↔ 48 ≤ c.toNat ∧ c.toNat ≤ 57 := by simp [digitB]; omega
theorem letter_iff (c : UInt8) : letterB c = true ↔ (97 ≤ c.toNat ∧ c.toNat ≤ 122) ∨ (65 ≤ c.toNat ∧ c.toNat ≤ 90) ∨ c.toNat = 95 := by simp [letterB]; omega
theorem blank_iff (c : UInt8) : blankB c = true ↔ c.toNat = 9 ∨ c.toNat = 10 ∨ c.toNat = 13 ∨ c.toNat = 32 := by simp [blankB]; omega
theorem cls_digit (c : UInt8) : cls c = 3 ↔ digitB c = true := by
  have h1 := digit_iff c; have h2 := blank_iff c
  unfold cls
  by_cases a : blankB c = true
  · rw [if_pos a]
    constructor
    · intro h; omega
    · intro h; rw [h] at h1; rw [a] at h2; simp at h1 h2; omega
  · rw [if_neg a]
    by_cases b : ((c.toNat : Int) == 35) = true
    · rw [if_pos b]
      constructor
      · intro h; omega
      · intro h; rw [h] at h1; simp at h1 b; omega
    · rw [if_neg b]
      by_cases e : digitB c = true
      · simp [e]
      · simp only [e]
        constructor
        · intro h
          simp at h
          split at h
          · omega
          · split at h <;> omega
        · intro h; cases h
theorem cls_letter (c : UInt8) : cls c = 4 ↔ letterB c = true := by
  have h1 := digit_iff c; have h2 := blank_iff c; have h3 := letter_iff c
  unfold cls
  by_cases a : blankB c = true
  · rw [if_pos a]
    constructor
    · intro h; omega
    · intro h; rw [h] at h3; rw [a] at h2; simp at h3 h2; omega
  · rw [if_neg a]
    by_cases b : ((c.toNat : Int) == 35) = true
    · rw [if_pos b]
      constructor
      · intro h; omega
      · intro h; rw [h] at h3; simp at h3 b; omega
    · rw [if_neg b]
      by_cases e : digitB c = true
      · rw [if_pos e]
        constructor
        · intro h; omega
        · intro h; rw [h] at h3; rw [e] at h1; simp at h1 h3; omega
      · rw [if_neg e]
        by_cases f : letterB c = true
        · simp [f]
        · simp only [f]
          constructor
          · intro h
            simp at h
            split at h <;> omega
          · intro h; cases h
theorem cls_blank (c : UInt8) : cls c = 1 ↔ blankB c = true := by
  unfold cls
  by_cases a : blankB c = true
  · simp [a]
  · simp only [a]
    constructor
    · intro h
      simp at h
      split at h
      · omega
      · split at h
        · omega
        · split at h
          · omega
          · split at h <;> omega
    · intro h; cases h
theorem cls_remark (c : UInt8) : cls c = 2 ↔ c.toNat = 35 := by
  have h2 := blank_iff c
  unfold cls
  by_cases a : blankB c = true
  · rw [if_pos a]
    rw [a] at h2
    simp at h2
    omega
  · rw [if_neg a]
    by_cases b : ((c.toNat : Int) == 35) = true
    · rw [if_pos b]; simp at b; omega
    · rw [if_neg b]
      simp at b
      constructor
      · intro h
        split at h
        · omega
        · split at h
          · omega
          · split at h <;> omega
      · intro h; omega
theorem cls_sign (c : UInt8) (hb : ¬ blankB c = true) (hr : c.toNat ≠ 35) (hd : ¬ digitB c = true) (hl : ¬ letterB c = true) : cls c = if signB c = true then 5 else 0 := by
  unfold cls
  rw [if_neg hb, if_neg (by simpa using (by omega : ¬ (c.toNat : Int) = 35)), if_neg hd, if_neg hl]
theorem cls_let (c : UInt8) : ((((cls c : Nat) : Int) == 4) || (((cls c : Nat) : Int) == 3)) = (letterB c || digitB c) := by
  have h1 := cls_letter c
  have h2 := cls_digit c
  rw [Bool.eq_iff_iff, Bool.or_eq_true, Bool.or_eq_true, ← h1, ← h2, beq_iff_eq, beq_iff_eq]
  omega
def stop (p : UInt8 → Bool) (s : ByteArray) (k : Nat) : Nat :=
  if _h : k < s.size ∧ p (byteAt s k) = true then stop p s (k + 1) else k
termination_by s.size - k
theorem stop_go {p : UInt8 → Bool} {s : ByteArray} {k : Nat} (h : k < s.size) (hp : p (byteAt s k) = true) : stop p s k = stop p s (k + 1) := by
  rw [stop, dif_pos ⟨h, hp⟩]
theorem stop_at {p : UInt8 → Bool} {s : ByteArray} {k : Nat} (h : ¬ (k < s.size ∧ p (byteAt s k) = true)) : stop p s k = k := by
  rw [stop, dif_neg h]
theorem le_stop (p : UInt8 → Bool) (s : ByteArray) (k : Nat) : k ≤ stop p s k := by
  rw [stop]
  split
  · have := le_stop p s (k + 1); omega
  · exact Nat.le_refl _
termination_by s.size - k
theorem stop_le (p : UInt8 → Bool) (s : ByteArray) (k : Nat) (h : k ≤ s.size) : stop p s k ≤ s.size := by
  rw [stop]
  split
  · exact stop_le p s (k + 1) (by omega)
  · exact h
termination_by s.size - k
theorem stop_in (p : UInt8 → Bool) (s : ByteArray) (k j : Nat) (h1 : k ≤ j) (h2 : j < stop p s k) : p (byteAt s j) = true := by
  rw [stop] at h2
  split at h2
  · rename_i h
    by_cases e : k = j
    · subst e; exact h.2
    · exact stop_in p s (k + 1) j (by omega) h2
  · omega
termination_by s.size - k
def notNl (c : UInt8) : Bool := (c.toNat : Int) != 10
def pass (s : ByteArray) (k : Nat) : Nat :=
  if _h : k < s.size then
    if blankB (byteAt s k) = true then pass s (k + 1)
    else if ((byteAt s k).toNat : Int) == 35 then pass s (stop notNl s (k + 1))
    else k
  else k
termination_by s.size - k
decreasing_by
  all_goals (have := le_stop notNl s (k + 1); omega)
theorem pass_blank {s : ByteArray} {k : Nat} (h : k < s.size) (hb : blankB (byteAt s k) = true) : pass s k = pass s (k + 1) := by
  rw [pass, dif_pos h, if_pos hb]
theorem pass_remark {s : ByteArray} {k : Nat} (h : k < s.size) (hb : ((byteAt s k).toNat : Int) = 35) : pass s k = pass s (stop notNl s (k + 1)) := by
  have hn : ¬ blankB (byteAt s k) = true := by rw [blank_iff]; omega
  rw [pass, dif_pos h, if_neg hn, if_pos (by simpa using hb)]
theorem pass_here {s : ByteArray} {k : Nat} (h : k < s.size) (hb : ¬ blankB (byteAt s k) = true) (hr : ¬ ((byteAt s k).toNat : Int) = 35) : pass s k = k := by
  rw [pass, dif_pos h, if_neg hb, if_neg (by simpa using hr)]
theorem pass_end {s : ByteArray} {k : Nat} (h : ¬ k < s.size) : pass s k = k := by
  rw [pass, dif_neg h]
theorem le_pass (s : ByteArray) (k : Nat) : k ≤ pass s k := by
  rw [pass]
  split
  · split
    · have := le_pass s (k + 1); omega
    · split
      · have h1 := le_stop notNl s (k + 1)
        have := le_pass s (stop notNl s (k + 1)); omega
      · omega
  · omega
termination_by s.size - k
decreasing_by
  all_goals (have := le_stop notNl s (k + 1); omega)
theorem pass_le (s : ByteArray) (k : Nat) (h : k ≤ s.size) : pass s k ≤ s.size := by
  rw [pass]
  split
  · split
    · exact pass_le s (k + 1) (by omega)
    · split
      · exact pass_le s _ (stop_le notNl s (k + 1) (by omega))
      · omega
  · exact h
termination_by s.size - k
decreasing_by
  all_goals (have := le_stop notNl s (k + 1); omega)
theorem pass_out (s : ByteArray) (k : Nat) (h : pass s k < s.size) : ¬ blankB (byteAt s (pass s k)) = true ∧ (byteAt s (pass s k)).toNat ≠ 35 := by
  rw [pass] at h ⊢
  split at h
  · rename_i h0
    rw [dif_pos h0]
    split at h
    · rename_i h1
      rw [if_pos h1]
      exact pass_out s (k + 1) h
    · rename_i h1
      rw [if_neg h1]
      split at h
      · rename_i h2
        rw [if_pos h2]
        exact pass_out s _ h
      · rename_i h2
        rw [if_neg h2]
        refine ⟨h1, ?_⟩
        simp at h2
        omega
  · rename_i h0
    rw [dif_neg h0]
    omega
termination_by s.size - k
decreasing_by
  all_goals (have := le_stop notNl s (k + 1); omega)
def maxInt : Nat := 9223372036854775807
def dval (s : ByteArray) (j : Nat) : Nat → Nat
  | 0 => 0
  | m + 1 => dval s j m * 10 + ((byteAt s (j + m)).toNat - 48)
def numOk (s : ByteArray) (j e : Nat) : Bool := !(decide (e - j > 1) && ((byteAt s j).toNat == 48)) && decide (dval s j (e - j) ≤ maxInt)
theorem dval_mono (s : ByteArray) (j : Nat) {m m' : Nat} (h : m ≤ m') : dval s j m ≤ dval s j m' := by
  induction m' with
  | zero => simp_all
  | succ m' ih =>
    rcases Nat.lt_or_ge m (m' + 1) with h1 | h1
    · have := ih (by omega)
      simp only [dval]
      omega
    · obtain rfl : m = m' + 1 := by omega
      exact Nat.le_refl _
theorem fits_no {s : ByteArray} {i m v d : Nat} {f : Bool} (hf : f = decide (dval s i m ≤ maxInt)) (hv : f = true → v = dval s i m) (hd : (byteAt s (i + m)).toNat - 48 = d) (hd9 : d ≤ 9)
    (h : v > (maxInt - d) / 10) : false = decide (dval s i (m + 1) ≤ maxInt) := by
  symm
  rw [decide_eq_false_iff_not]
  simp only [dval, hd]
  cases f with
  | true => have := hv rfl; unfold maxInt at *; omega
  | false => have := of_decide_eq_false hf.symm; unfold maxInt at *; omega
theorem fits_yes {s : ByteArray} {i m v d : Nat} {f : Bool} (hf : f = decide (dval s i m ≤ maxInt)) (hv : f = true → v = dval s i m) (hd : (byteAt s (i + m)).toNat - 48 = d) (hd9 : d ≤ 9)
    (h : ¬ v > (maxInt - d) / 10) : f = decide (dval s i (m + 1) ≤ maxInt) ∧ (f = true → v * 10 + d = dval s i (m + 1)) := by
  cases f with
  | true =>
    have h1 := hv rfl
    refine ⟨?_, fun _ => by simp only [dval, hd]; omega⟩
    symm
    rw [decide_eq_true_iff]
    simp only [dval, hd]
    unfold maxInt at *
    omega
  | false =>
    refine ⟨?_, fun h => by cases h⟩
    symm
    rw [decide_eq_false_iff_not]
    simp only [dval, hd]
    have := of_decide_eq_false hf.symm
    unfold maxInt at *
    omega
theorem numOk_eq {s : ByteArray} {i e : Nat} {f : Bool} (hf : f = decide (dval s i (e - i) ≤ maxInt)) (hi : i ≤ e) :
    (!f || (decide (((e : Nat) : Int) - ((i : Nat) : Int) > (1 : Int)) && (((byteAt s i).toNat : Int) == (48 : Int)))) = !numOk s i e := by
  unfold numOk
  rw [← hf]
  have e1 : decide (((e : Nat) : Int) - ((i : Nat) : Int) > (1 : Int)) = decide (e - i > 1) := by rw [decide_eq_decide]; omega
  have e2 : (((byteAt s i).toNat : Int) == (48 : Int)) = ((byteAt s i).toNat == 48) := by rw [Bool.eq_iff_iff, beq_iff_eq, beq_iff_eq]; omega
  rw [e1, e2]
  cases f <;> simp
def wordsL : List ByteArray := [⟨#[111, 112]⟩, ⟨#[111, 110, 99, 101]⟩, ⟨#[109, 97, 110, 121]⟩, ⟨#[100, 101, 102]⟩, ⟨#[114, 101, 99]⟩, ⟨#[109, 97, 105, 110]⟩, ⟨#[108, 101, 116]⟩, ⟨#[105, 110]⟩, ⟨#[102, 110]⟩, ⟨#[105, 102]⟩, ⟨#[116, 104, 101, 110]⟩, ⟨#[101, 108, 115, 101]⟩, ⟨#[99, 97, 115, 101]⟩, ⟨#[111, 102]⟩, ⟨#[101, 110, 100]⟩, ⟨#[100, 111]⟩, ⟨#[102, 115, 116]⟩, ⟨#[115, 110, 100]⟩, ⟨#[104, 97, 110, 100, 108, 101]⟩, ⟨#[115, 104, 97, 108, 108, 111, 119]⟩, ⟨#[119, 105, 116, 104]⟩, ⟨#[114, 101, 116, 117, 114, 110]⟩, ⟨#[116, 114, 117, 101]⟩, ⟨#[102, 97, 108, 115, 101]⟩, ⟨#[105, 110, 116]⟩, ⟨#[98, 111, 111, 108]⟩, ⟨#[117, 110, 105, 116]⟩, ⟨#[108, 105, 115, 116]⟩]
def wordB (s : ByteArray) : Bool := wordsL.any (fun x => s.toList == x.toList)
theorem wordB_yes {s : ByteArray} (i : Nat) (x : ByteArray) (hx : wordsL[i]? = some x) (h : (s.toList == x.toList) = true) : wordB s = true :=
  List.any_eq_true.2 ⟨x, List.mem_of_getElem? hx, h⟩
theorem wordB_no {s : ByteArray} (h0 : (s.toList == Z.k51.toList) = false) (h1 : (s.toList == Z.k39.toList) = false) (h2 : (s.toList == Z.k42.toList) = false) (h3 : (s.toList == Z.k43.toList) = false) (h4 : (s.toList == Z.k19.toList) = false) (h5 : (s.toList == Z.k44.toList) = false) (h6 : (s.toList == Z.k12.toList) = false) (h7 : (s.toList == Z.k21.toList) = false) (h8 : (s.toList == Z.k25.toList) = false) (h9 : (s.toList == Z.k28.toList) = false) (h10 : (s.toList == Z.k45.toList) = false) (h11 : (s.toList == Z.k46.toList) = false) (h12 : (s.toList == Z.k32.toList) = false) (h13 : (s.toList == Z.k49.toList) = false) (h14 : (s.toList == Z.k50.toList) = false) (h15 : (s.toList == Z.k38.toList) = false) (h16 : (s.toList == Z.k36.toList) = false) (h17 : (s.toList == Z.k37.toList) = false) (h18 : (s.toList == Z.k27.toList) = false) (h19 : (s.toList == Z.k33.toList) = false) (h20 : (s.toList == Z.k34.toList) = false) (h21 : (s.toList == Z.k35.toList) = false) (h22 : (s.toList == Z.k13.toList) = false) (h23 : (s.toList == Z.k14.toList) = false) (h24 : (s.toList == Z.k23.toList) = false) (h25 : (s.toList == Z.k26.toList) = false) (h26 : (s.toList == Z.k31.toList) = false) (b : Bool) (hl : (s.toList == Z.k41.toList) = b) : wordB s = b := by
  simp only [wordB, wordsL, List.any_cons, List.any_nil, h0, h1, h2, h3, h4, h5, h6, h7, h8, h9, h10, h11, h12, h13, h14, h15, h16, h17, h18, h19, h20, h21, h22, h23, h24, h25, h26, hl, Bool.or_false, Bool.false_or]
def longerB (s : ByteArray) : Bool := (((s.toList == Z.k9.toList) || (s.toList == Z.k8.toList)) || (s.toList == Z.k1.toList)) || (s.toList == Z.k15.toList)
theorem bytes_ext {a b : ByteArray} (h : a.toList = b.toList) : a = b := by
  rw [ByteArray.toList_eq, ByteArray.toList_eq] at h
  obtain ⟨⟨x⟩⟩ := a
  obtain ⟨⟨y⟩⟩ := b
  simp only at h
  rw [h]
theorem size_ext {s : ByteArray} {a c : Nat} (h : c ≤ s.size) : (s.extract a c).size = c - a := by
  rw [ByteArray.size_extract]; omega
theorem byteAt_ext {s : ByteArray} {a c m : Nat} (hc : c ≤ s.size) (hm : m < c - a) : byteAt (s.extract a c) m = byteAt s (a + m) := by
  unfold byteAt
  have hs : c ≤ s.data.size := hc
  rw [ByteArray.data_extract, Array.getElem?_extract, if_pos (by omega)]
theorem dval_ext {s : ByteArray} {j e : Nat} (he : e ≤ s.size) : ∀ m, m ≤ e - j → dval (s.extract j e) 0 m = dval s j m
  | 0, _ => rfl
  | m + 1, h => by
    simp only [dval, Nat.zero_add]
    rw [dval_ext he m (by omega), byteAt_ext he (by omega)]
theorem numOk_extract {s : ByteArray} {j e : Nat} (hj : j ≤ e) (he : e ≤ s.size) : numOk (s.extract j e) 0 (s.extract j e).size = numOk s j e := by
  unfold numOk
  rw [size_ext he, Nat.sub_zero, dval_ext he _ (Nat.le_refl _)]
  by_cases h : 1 < e - j
  · rw [byteAt_ext he (by omega), Nat.add_zero]
  · simp [h]
theorem ascii_dec {s : ByteArray} {i m : Nat} (h : i + m < s.size) (ha : (byteAt s (i + m)).toNat < 128) : Utf8.decode (s.extract i s.size) m = ((byteAt s (i + m)).toNat, 1) := by
  have hm : m < (s.extract i s.size).size := by rw [size_ext (Nat.le_refl _)]; omega
  have e : (s.extract i s.size)[m]'hm = byteAt s (i + m) := by
    rw [← byteAt_ext (Nat.le_refl _) (by omega : m < s.size - i)]
    have h' : m < (s.extract i s.size).data.size := hm
    unfold byteAt
    rw [Array.getElem?_eq_getElem h']
    rfl
  have := decode_ascii (s.extract i s.size) m hm (by rw [e]; exact ha)
  rw [this, e]
theorem num_cases (s : ByteArray) (i m : Nat) (h : i + m ≤ s.size) : ¬ i + m < s.size ∨ (i + m < s.size ∧ digitB (byteAt s (i + m)) = true ∧ Utf8.decode (s.extract i s.size) m = ((byteAt s (i + m)).toNat, 1)) ∨
    (i + m < s.size ∧ ¬ digitB (byteAt s (i + m)) = true ∧ ∃ rc wd, Utf8.decode (s.extract i s.size) m = (rc, wd)) := by
  by_cases h1 : i + m < s.size
  · by_cases h2 : digitB (byteAt s (i + m)) = true
    · exact .inr (.inl ⟨h1, h2, ascii_dec h1 (by have := (digit_iff _).1 h2; omega)⟩)
    · exact .inr (.inr ⟨h1, h2, _, _, rfl⟩)
  · exact .inl h1
structure Nx where
  kind : Nat
  at_ : Nat
  text : ByteArray
  n : Nat
  nx : Nat
  fk : Nat
  fa : Nat
def fault (k a : Nat) : Nx := ⟨0, 0, ⟨#[]⟩, 0, 0, k, a⟩
def signLen (s : ByteArray) (j : Nat) : Nat := if (decide (((j + 2 : Nat) : Int) ≤ ((s.size : Nat) : Int)) && longerB (s.extract j (j + 2))) = true then 2 else 1
def numAt (s : ByteArray) (j : Nat) : Nx :=
  if numOk s j (stop digitB s j) = true then ⟨1, j, ⟨#[]⟩, dval s j (stop digitB s j - j), stop digitB s j, 0, 0⟩ else fault 3 j
def nameAt (s : ByteArray) (j : Nat) : Nx :=
  if stop (fun c => letterB c || digitB c) s j - j > 20 then fault 3 j
  else ⟨if wordB (s.extract j (stop (fun c => letterB c || digitB c) s j)) = true then 3 else 2, j, s.extract j (stop (fun c => letterB c || digitB c) s j), 0, stop (fun c => letterB c || digitB c) s j, 0, 0⟩
def tokAt (s : ByteArray) (j : Nat) : Nx :=
  if digitB (byteAt s j) = true then numAt s j
  else if letterB (byteAt s j) = true then nameAt s j
  else if signB (byteAt s j) = true then ⟨4, j, s.extract j (j + signLen s j), 0, j + signLen s j, 0, 0⟩
  else fault 2 j
def next (s : ByteArray) (i : Nat) : Nx :=
  if pass s i < s.size then tokAt s (pass s i) else ⟨0, s.size, ⟨#[]⟩, 0, s.size, 0, 0⟩
def Nx.tokV (x : Nx) : Value := .agg #[.int .i64 (x.kind : Int), .int .i64 (x.at_ : Int), .string x.text, .int .i64 (x.n : Int)]
def Nx.faultV (x : Nx) : Value := .agg #[.int .i64 (x.fk : Int), .int .i64 (x.fa : Int)]
def Nx.V (x : Nx) : Value := .tuple #[x.tokV, .int .i64 (x.nx : Int), x.faultV]
theorem next_prog {s : ByteArray} {i : Nat} (hi : i ≤ s.size) (hf : (next s i).fk = 0) (hk : (next s i).kind ≠ 0) : i < (next s i).nx ∧ (next s i).nx ≤ s.size := by
  have h1 := le_pass s i
  have h2 := pass_le s i hi
  unfold next at *
  split at hk
  · rename_i hlt
    rw [if_pos hlt] at hf
    rw [if_pos hlt]
    unfold tokAt at *
    by_cases hd : digitB (byteAt s (pass s i)) = true
    · rw [if_pos hd] at *
      unfold numAt at *
      split at hk
      · rename_i hn
        rw [if_pos hn]
        have a := stop_go hlt hd
        have b := le_stop digitB s (pass s i + 1)
        have c := stop_le digitB s (pass s i) h2
        show i < stop digitB s (pass s i) ∧ stop digitB s (pass s i) ≤ s.size
        omega
      · exact absurd rfl hk
    · rw [if_neg hd] at *
      by_cases hl : letterB (byteAt s (pass s i)) = true
      · rw [if_pos hl] at *
        unfold nameAt at *
        split at hk
        · exact absurd rfl hk
        · rename_i hn
          rw [if_neg hn]
          have a := stop_go (p := fun c => letterB c || digitB c) hlt (by simp [hl])
          have b := le_stop (fun c => letterB c || digitB c) s (pass s i + 1)
          have c := stop_le (fun c => letterB c || digitB c) s (pass s i) h2
          show i < stop _ s (pass s i) ∧ stop _ s (pass s i) ≤ s.size
          omega
      · rw [if_neg hl] at *
        by_cases hs : signB (byteAt s (pass s i)) = true
        · rw [if_pos hs] at *
          show i < pass s i + signLen s (pass s i) ∧ pass s i + signLen s (pass s i) ≤ s.size
          unfold signLen
          split
          · rename_i h
            simp only [Bool.and_eq_true, decide_eq_true_eq] at h
            omega
          · omega
        · rw [if_neg hs] at *
          exact absurd rfl hk
  · exact absurd rfl hk
def addTok (x : Nx) (r : List Nx × Nat × Nat) : List Nx × Nat × Nat := if r.2.1 = 0 then (x :: r.1, r.2) else ([], r.2)
def toks (s : ByteArray) (i : Nat) : List Nx × Nat × Nat :=
  if (next s i).fk ≠ 0 then ([], (next s i).fk, (next s i).fa)
  else if (next s i).kind = 0 then ([next s i], 0, 0)
  else if _h : i < (next s i).nx ∧ (next s i).nx ≤ s.size then addTok (next s i) (toks s (next s i).nx) else ([], 0, 0)
termination_by s.size - i
theorem toks_fault {s : ByteArray} {i : Nat} (h : (next s i).fk ≠ 0) : toks s i = ([], (next s i).fk, (next s i).fa) := by
  rw [toks, if_pos h]
theorem toks_end {s : ByteArray} {i : Nat} (h : (next s i).fk = 0) (hk : (next s i).kind = 0) : toks s i = ([next s i], 0, 0) := by
  rw [toks, if_neg (by omega), if_pos hk]
theorem toks_go {s : ByteArray} {i : Nat} (hi : i ≤ s.size) (h : (next s i).fk = 0) (hk : (next s i).kind ≠ 0) : toks s i = addTok (next s i) (toks s (next s i).nx) := by
  rw [toks, if_neg (by omega), if_neg hk, dif_pos (next_prog hi h hk)]
end Go.Lex
