/- Bits: heads of things, marks in words. -/
import Derived.Test.YtlddkcdjegcleaaHm
set_option linter.unusedVariables false
set_option linter.unusedSimpArgs false
namespace Go.Hp
open Go
def andI (k : IntKind) (x y : Int) : Int := k.wrap (((BitVec.ofInt k.bits x &&& BitVec.ofInt k.bits y).toNat : Nat) : Int)
def orI (k : IntKind) (x y : Int) : Int := k.wrap (((BitVec.ofInt k.bits x ||| BitVec.ofInt k.bits y).toNat : Nat) : Int)
def shrI (k : IntKind) (x : Int) (n : Nat) : Int := Int.fdiv x (2 ^ min n k.bits)
def shlI (k : IntKind) (x : Int) (n : Nat) : Int := k.wrap (x * 2 ^ min n k.bits)
theorem ofN (x : Nat) (h : x < 2 ^ 64) : (BitVec.ofInt 64 (x : Int)).toNat = x := by
  rw [BitVec.toNat_ofInt]; omega
theorem and64 (x y : Nat) (hx : x < 2 ^ 63) (hy : y < 2 ^ 63) : andI .i64 (x : Int) (y : Int) = ((x &&& y : Nat) : Int) := by
  unfold andI
  show IntKind.i64.wrap (((BitVec.ofInt 64 (x : Int) &&& BitVec.ofInt 64 (y : Int)).toNat : Nat) : Int) = _
  rw [BitVec.toNat_and, ofN x (by omega), ofN y (by omega)]
  exact IntWalk.i64_in _ (by have := Nat.and_le_left (n := x) (m := y); omega)
theorem or64 (x y : Nat) (hx : x < 2 ^ 63) (hy : y < 2 ^ 63) : orI .i64 (x : Int) (y : Int) = ((x ||| y : Nat) : Int) := by
  unfold orI
  show IntKind.i64.wrap (((BitVec.ofInt 64 (x : Int) ||| BitVec.ofInt 64 (y : Int)).toNat : Nat) : Int) = _
  rw [BitVec.toNat_or, ofN x (by omega), ofN y (by omega)]
  exact IntWalk.i64_in _ (by have := Nat.or_lt_two_pow hx hy; omega)
theorem andU (x y : Nat) (hx : x < 2 ^ 64) (hy : y < 2 ^ 64) : andI .u64 (x : Int) (y : Int) = ((x &&& y : Nat) : Int) := by
  unfold andI
  show IntKind.u64.wrap (((BitVec.ofInt 64 (x : Int) &&& BitVec.ofInt 64 (y : Int)).toNat : Nat) : Int) = _
  rw [BitVec.toNat_and, ofN x hx, ofN y hy]
  exact IntWalk.u64_in _ (by have := Nat.and_le_left (n := x) (m := y); omega)
theorem orU (x y : Nat) (hx : x < 2 ^ 64) (hy : y < 2 ^ 64) : orI .u64 (x : Int) (y : Int) = ((x ||| y : Nat) : Int) := by
  unfold orI
  show IntKind.u64.wrap (((BitVec.ofInt 64 (x : Int) ||| BitVec.ofInt 64 (y : Int)).toNat : Nat) : Int) = _
  rw [BitVec.toNat_or, ofN x hx, ofN y hy]
  exact IntWalk.u64_in _ (by have := Nat.or_lt_two_pow hx hy; omega)
theorem fdivN (x n : Nat) : Int.fdiv (x : Int) (2 ^ n) = ((x / 2 ^ n : Nat) : Int) := by
  rw [show (2 : Int) ^ n = ((2 ^ n : Nat) : Int) by simp, Int.fdiv_eq_ediv_of_nonneg _ (Int.natCast_nonneg _)]
  rfl
/-! ### Heads -/
structure HdOk (t : Th) : Prop where
  kd : 0 ≤ t.kd ∧ t.kd ≤ 4
  tg : 0 ≤ t.tg ∧ t.tg ≤ 65535
  ln : t.l.length ≤ 1000000
theorem hdv_nat {t : Th} (h : HdOk t) : ∃ k g : Nat, k ≤ 4 ∧ g ≤ 65535 ∧ t.kd = (k : Int) ∧ t.tg = (g : Int) ∧ hdv t = ((t.l.length * 524288 + g * 8 + k : Nat) : Int) := by
  obtain ⟨⟨a, b⟩, ⟨c, d⟩, e⟩ := h
  refine ⟨t.kd.toNat, t.tg.toNat, by omega, by omega, by omega, by omega, ?_⟩
  unfold hdv; omega
theorem hd_len {t : Th} (h : HdOk t) : shrI .i64 (hdv t) 19 = (t.l.length : Int) := by
  obtain ⟨k, g, hk, hg, _, _, e⟩ := hdv_nat h
  unfold shrI
  show Int.fdiv (hdv t) (2 ^ 19) = _
  rw [e, fdivN]
  congr 1
  omega
theorem hd_kind {t : Th} (h : HdOk t) : andI .i64 (hdv t) 7 = t.kd := by
  obtain ⟨k, g, hk, hg, ek, _, e⟩ := hdv_nat h
  have hl := h.ln
  rw [e, show (7 : Int) = ((7 : Nat) : Int) from rfl, and64 _ _ (by omega) (by omega), ek]
  congr 1
  rw [show (7 : Nat) = 2 ^ 3 - 1 from rfl, Nat.and_two_pow_sub_one_eq_mod]
  omega
theorem hd_tag {t : Th} (h : HdOk t) : andI .i64 (shrI .i64 (hdv t) 3) 65535 = t.tg := by
  obtain ⟨k, g, hk, hg, _, eg, e⟩ := hdv_nat h
  have hl := h.ln
  have e2 : shrI .i64 (hdv t) 3 = ((t.l.length * 65536 + g : Nat) : Int) := by
    unfold shrI
    show Int.fdiv (hdv t) (2 ^ 3) = _
    rw [e, fdivN]
    congr 1
    omega
  rw [e2, show (65535 : Int) = ((65535 : Nat) : Int) from rfl, and64 _ _ (by omega) (by omega), eg]
  congr 1
  rw [show (65535 : Nat) = 2 ^ 16 - 1 from rfl, Nat.and_two_pow_sub_one_eq_mod]
  omega
theorem or_add (a b i : Nat) (h : b < 2 ^ i) : (a * 2 ^ i) ||| b = a * 2 ^ i + b := by
  rw [← Nat.shiftLeft_eq, Nat.shiftLeft_add_eq_or_of_lt h]
/-- What head makes. -/
theorem hd_make {kd tg : Int} {n : Nat} (hk : 0 ≤ kd ∧ kd ≤ 4) (hg : 0 ≤ tg ∧ tg ≤ 65535) (hn : n ≤ 1000000) : orI .i64 (orI .i64 (shlI .i64 (n : Int) 19) (shlI .i64 tg 3)) kd = (n : Int) * 524288 + tg * 8 + kd := by
  obtain ⟨k, rfl⟩ : ∃ k : Nat, kd = (k : Int) := ⟨kd.toNat, by omega⟩
  obtain ⟨g, rfl⟩ : ∃ g : Nat, tg = (g : Int) := ⟨tg.toNat, by omega⟩
  have e1 : shlI .i64 (n : Int) 19 = ((n * 2 ^ 19 : Nat) : Int) := by
    unfold shlI
    show IntKind.i64.wrap ((n : Int) * 2 ^ 19) = _
    rw [IntWalk.i64_in _ (by omega)]; omega
  have e2 : shlI .i64 (g : Int) 3 = ((g * 8 : Nat) : Int) := by
    unfold shlI
    show IntKind.i64.wrap ((g : Int) * 2 ^ 3) = _
    rw [IntWalk.i64_in _ (by omega)]; omega
  rw [e1, e2, or64 _ _ (by omega) (by omega), or_add n (g * 8) 19 (by omega), or64 _ _ (by omega) (by omega)]
  have e3 : n * 2 ^ 19 + g * 8 = (n * 65536 + g) * 2 ^ 3 := by omega
  rw [e3, or_add _ k 3 (by omega)]
  omega
/-! ### Marks -/
def wordN (f : Nat → Bool) : Nat → Nat
  | 0 => 0
  | n + 1 => wordN f n + (if f n then 2 ^ n else 0)
theorem wordN_lt (f : Nat → Bool) (n : Nat) : wordN f n < 2 ^ n := by
  induction n with
  | zero => simp [wordN]
  | succ n ih => simp only [wordN, Nat.pow_succ]; split <;> omega
theorem wordN_bit (f : Nat → Bool) (n j : Nat) (h : j < n) : (wordN f n).testBit j = f j := by
  induction n with
  | zero => omega
  | succ n ih =>
    have hl := wordN_lt f n
    simp only [wordN]
    rcases Nat.lt_or_ge j n with q | q
    · split
      · rw [Nat.add_comm, Nat.testBit_two_pow_add_gt q]; exact ih q
      · rw [Nat.add_zero]; exact ih q
    · obtain rfl : j = n := by omega
      split
      · rename_i hf
        rw [Nat.add_comm, Nat.testBit_two_pow_add_eq, Nat.testBit_lt_two_pow hl, hf]; rfl
      · rename_i hf
        rw [Nat.add_zero, Nat.testBit_lt_two_pow hl]; simp at hf; exact hf.symm
def word (B : Nat → Bool) (i : Nat) : Nat := wordN (fun j => B (64 * i + j)) 64
theorem word_lt (B : Nat → Bool) (i : Nat) : word B i < 2 ^ 64 := wordN_lt _ _
theorem word_bit (B : Nat → Bool) (a : Nat) : (word B (a / 64)).testBit (a % 64) = B a := by
  unfold word; rw [wordN_bit _ _ _ (Nat.mod_lt _ (by decide))]; congr 1; omega
theorem word_ext {x y : Nat} (hx : x < 2 ^ 64) (hy : y < 2 ^ 64) (h : ∀ j, j < 64 → x.testBit j = y.testBit j) : x = y := Nat.eq_of_testBit_eq fun j => by
  rcases Nat.lt_or_ge j 64 with q | q
  · exact h j q
  · rw [Nat.testBit_lt_two_pow (Nat.lt_of_lt_of_le hx (Nat.pow_le_pow_right (by decide) q)), Nat.testBit_lt_two_pow (Nat.lt_of_lt_of_le hy (Nat.pow_le_pow_right (by decide) q))]
def Words (W : Nat → Int) (B : Nat → Bool) : Prop := ∀ i, W i = (word B i : Int)
theorem words_zero : Words (fun _ => 0) (fun _ => false) := fun i => by
  have : word (fun _ => false) i = 0 := word_ext (word_lt _ _) (by decide) fun j hj => by unfold word; rw [wordN_bit _ _ _ hj]; simp
  rw [this]; rfl
def markB (W : Nat → Int) (a : Nat) : Bool := andI .u64 (shrI .u64 (W (a / 64)) (a % 64)) 1 == 1
theorem markB_eq {W : Nat → Int} {B : Nat → Bool} (h : Words W B) (a : Nat) : markB W a = B a := by
  unfold markB shrI
  rw [h]
  show (andI .u64 (Int.fdiv (word B (a / 64) : Int) (2 ^ min (a % 64) 64)) 1 == 1) = _
  rw [Nat.min_eq_left (by omega), fdivN, show (1 : Int) = ((1 : Nat) : Int) from rfl, andU _ _ (Nat.lt_of_le_of_lt (Nat.div_le_self _ _) (word_lt _ _)) (by decide), ← word_bit B a, Nat.testBit, Nat.shiftRight_eq_div_pow, Nat.and_comm]
  have hle : 1 &&& word B (a / 64) / 2 ^ (a % 64) ≤ 1 := Nat.and_le_left
  generalize 1 &&& word B (a / 64) / 2 ^ (a % 64) = z at hle ⊢
  rcases (show z = 0 ∨ z = 1 by omega) with rfl | rfl <;> rfl
def orW (W : Nat → Int) (a : Nat) : Nat → Int := fun j => if j = a / 64 then orI .u64 (W (a / 64)) (shlI .u64 1 (a % 64)) else W j
theorem words_set {W : Nat → Int} {B : Nat → Bool} (h : Words W B) (a : Nat) : Words (orW W a) (setB B a) := fun i => by
  unfold orW
  have hs : shlI .u64 1 (a % 64) = ((2 ^ (a % 64) : Nat) : Int) := by
    unfold shlI
    show IntKind.u64.wrap (1 * 2 ^ min (a % 64) 64) = _
    have hp : (2 : Nat) ^ (a % 64) < 2 ^ 64 := Nat.pow_lt_pow_right (by decide) (Nat.mod_lt _ (by decide))
    rw [Nat.min_eq_left (by omega), Int.one_mul, show (2 : Int) ^ (a % 64) = ((2 ^ (a % 64) : Nat) : Int) by simp]
    generalize 2 ^ (a % 64) = z at hp ⊢
    exact IntWalk.u64_in _ (by omega)
  have hp : (2 : Nat) ^ (a % 64) < 2 ^ 64 := Nat.pow_lt_pow_right (by decide) (Nat.mod_lt _ (by decide))
  split
  · rename_i e
    subst e
    rw [hs, h, orU _ _ (word_lt _ _) hp]
    congr 1
    refine word_ext (Nat.or_lt_two_pow (word_lt _ _) hp) (word_lt _ _) fun j hj => ?_
    rw [Nat.testBit_or, Nat.testBit_two_pow]
    unfold word
    rw [wordN_bit _ _ _ hj, wordN_bit _ _ _ hj]
    unfold setB
    congr 1
    exact decide_eq_decide.2 (by omega)
  · rename_i e
    rw [h]
    congr 1
    refine word_ext (word_lt _ _) (word_lt _ _) fun j hj => ?_
    unfold word
    rw [wordN_bit _ _ _ hj, wordN_bit _ _ _ hj]
    unfold setB
    rw [show decide (64 * i + j = a) = false from decide_eq_false (by omega), Bool.or_false]
end Go.Hp
