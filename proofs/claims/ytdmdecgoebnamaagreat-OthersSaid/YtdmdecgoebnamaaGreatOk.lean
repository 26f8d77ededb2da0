/- A bound of how long a type is written. -/
import Derived.Test.YtdmdecgoebnamaaGreatGraph
import Derived.Test.YtdmdecgoebnamaaGreatGx
import Derived.Lib.ItoaMem
import Derived.Lib.ItoaLen
import Derived.Lib.Join
set_option linter.unusedVariables false
set_option linter.unusedSimpArgs false
namespace Go.Inf
def shM : Nat → Ty → Option Nat
  | 0, _ => none
  | f + 1, .mk k n r o a =>
    if k < 4611686018427387904 ∧ n < 4611686018427387904 ∧ r < 4611686018427387904 ∧ o.length ≤ 1048576 ∧ (o.all fun s => decide (s.size ≤ 1048576)) = true then
      match a with
      | [] => some 30
      | [x] => match shM f x with
        | some m => some (m + 10)
        | none => none
      | [x, y] => match shM f x, shM f y with
        | some m, some l => some (m + l + (o.map fun s => s.size + 2).sum + 60)
        | _, _ => none
      | _ => none
    else none
def okT (f : Nat) (t : Ty) : Bool := match shM f t with
  | some m => decide (m ≤ 1099511627776)
  | none => false
end Go.Inf
namespace Go.Show
inductive TyP where
  | mk (kind n row : Int) (ops : List ByteArray) (args : List TyP)
def TyP.kind : TyP → Int | .mk k _ _ _ _ => k
def e0 : ByteArray := ⟨#[]⟩
def ty0 : TyP := .mk 0 0 0 [] []
def arity (k : Int) : Int := if k = 0 ∨ k = 1 ∨ k = 2 ∨ k = 3 then 0 else if k = 4 then 1 else if k = 5 ∨ k = 6 then 2 else -1
def lvl (k : Int) : Int := if k = 6 then 0 else if k = 5 then 1 else if k = 4 then 2 else 3
def bO : ByteArray := ⟨#[40]⟩
def bC : ByteArray := ⟨#[41]⟩
def parB (least k : Int) (s : ByteArray) : ByteArray := if lvl k < least then (bO ++ s) ++ bC else s
def digB (n : Nat) : ByteArray := ⟨(Lib.decDigits n).toArray⟩
def bA : ByteArray := ⟨#[97]⟩
def varS (n : Int) : ByteArray := if 1 ≤ n ∧ n ≤ 26 then ⟨#[UInt8.ofNat (96 + n).toNat]⟩ else if n < 0 then e0 else bA ++ digB n.toNat
def joinB (l : List ByteArray) : ByteArray := ⟨(Lib.join (l.map (·.data.toList)) [44, 32]).toArray⟩
def bS : ByteArray := ⟨#[32]⟩
def bR : ByteArray := ⟨#[124, 32, 114]⟩
def bL : ByteArray := ⟨#[32, 45, 123]⟩
def bE : ByteArray := ⟨#[125, 45, 62, 32]⟩
def bArr : ByteArray := ⟨#[32, 45, 62, 32]⟩
/-- What stands between the braces. -/
def rowB (j : ByteArray) (row : Int) : ByteArray := if row > 0 then ((if (!(j.toList == (⟨#[]⟩ : ByteArray).toList)) = true then j ++ bS else j) ++ bR) ++ digB row.toNat else j
def arrB (r : ByteArray) : ByteArray := if (!(r.toList == (⟨#[]⟩ : ByteArray).toList)) = true then (bL ++ r) ++ bE else bArr
def showP : TyP → ByteArray
  | .mk k n _ _ [] => if k = 0 then varS n else if k = 1 then ⟨#[105, 110, 116]⟩ else if k = 2 then ⟨#[98, 111, 111, 108]⟩ else if k = 3 then ⟨#[117, 110, 105, 116]⟩ else e0
  | .mk k _ _ _ [a] => if k = 4 then parB 2 a.kind (showP a) ++ ⟨#[32, 108, 105, 115, 116]⟩ else e0
  | .mk k _ row ops [a, b] => if k = 5 then (parB 2 a.kind (showP a) ++ ⟨#[32, 42, 32]⟩) ++ parB 1 b.kind (showP b)
      else if k = 6 then (parB 1 a.kind (showP a) ++ arrB (rowB (joinB ops) row)) ++ parB 0 b.kind (showP b) else e0
  | _ => e0
def inP (least : Int) (t : TyP) : ByteArray := parB least t.kind (showP t)
theorem show_bad {k n row : Int} {ops : List ByteArray} {args : List TyP} (h : ¬ (args.length : Int) = arity k) : showP (.mk k n row ops args) = e0 := by
  unfold arity at h
  match args with
  | [] =>
    rw [showP]
    simp only [List.length_nil] at h
    rw [if_neg (by rintro rfl; simp at h), if_neg (by rintro rfl; simp at h), if_neg (by rintro rfl; simp at h), if_neg (by rintro rfl; simp at h)]
  | [a] => rw [showP, if_neg (by rintro rfl; simp at h)]
  | [a, b] => rw [showP, if_neg (by rintro rfl; simp at h), if_neg (by rintro rfl; simp at h)]
  | a :: b :: c :: r => simp [showP]
theorem show_0 {n row : Int} {ops : List ByteArray} {args : List TyP} (h : args.length = 0) : showP (.mk 0 n row ops args) = varS n := by
  match args, h with
  | [], _ => simp [showP]
theorem show_1 {n row : Int} {ops : List ByteArray} {args : List TyP} (h : args.length = 0) : showP (.mk 1 n row ops args) = ⟨#[105, 110, 116]⟩ := by
  match args, h with
  | [], _ => simp [showP]
theorem show_2 {n row : Int} {ops : List ByteArray} {args : List TyP} (h : args.length = 0) : showP (.mk 2 n row ops args) = ⟨#[98, 111, 111, 108]⟩ := by
  match args, h with
  | [], _ => simp [showP]
theorem show_3 {n row : Int} {ops : List ByteArray} {args : List TyP} (h : args.length = 0) : showP (.mk 3 n row ops args) = ⟨#[117, 110, 105, 116]⟩ := by
  match args, h with
  | [], _ => simp [showP]
theorem show_4 {n row : Int} {ops : List ByteArray} {args : List TyP} (h : args.length = 1) : showP (.mk 4 n row ops args) = inP 2 (args.getD 0 ty0) ++ ⟨#[32, 108, 105, 115, 116]⟩ := by
  match args, h with
  | [a], _ => rw [showP]; simp [inP]
theorem show_5 {n row : Int} {ops : List ByteArray} {args : List TyP} (h : args.length = 2) : showP (.mk 5 n row ops args) = (inP 2 (args.getD 0 ty0) ++ ⟨#[32, 42, 32]⟩) ++ inP 1 (args.getD 1 ty0) := by
  match args, h with
  | [a, b], _ => rw [showP]; simp [inP]
theorem show_6 {n row : Int} {ops : List ByteArray} {args : List TyP} (h : args.length = 2) : showP (.mk 6 n row ops args) = (inP 1 (args.getD 0 ty0) ++ arrB (rowB (joinB ops) row)) ++ inP 0 (args.getD 1 ty0) := by
  match args, h with
  | [a, b], _ => rw [showP]; simp [inP]
theorem arity_range (k : Int) : (arity k = 0 ∧ (k = 0 ∨ k = 1 ∨ k = 2 ∨ k = 3)) ∨ (arity k = 1 ∧ k = 4) ∨ (arity k = 2 ∧ (k = 5 ∨ k = 6)) ∨ arity k = -1 := by
  unfold arity
  split
  · omega
  · split
    · omega
    · split <;> omega
theorem app_e0 (b : ByteArray) : b ++ e0 = b := by apply ByteArray.ext; simp [e0, ByteArray.data_append]
theorem app_assoc (a b c : ByteArray) : a ++ b ++ c = a ++ (b ++ c) := by apply ByteArray.ext; simp [ByteArray.data_append]
theorem size_mk (l : List UInt8) : (⟨l.toArray⟩ : ByteArray).size = l.length := by show l.toArray.size = _; simp
theorem dig_small {m : Nat} (h : m < 10) : digB m = ⟨#[UInt8.ofNat (48 + m)]⟩ := by unfold digB; rw [Lib.decDigits, dif_pos h]
theorem dig_step {m : Nat} (h : ¬ m < 10) : digB m = digB (m / 10) ++ ⟨#[UInt8.ofNat (48 + m % 10)]⟩ := by
  apply ByteArray.ext
  unfold digB
  rw [Lib.decDigits, dif_neg h]
  simp [ByteArray.data_append]
theorem dig_size {m : Nat} (h : m ≤ 9223372036854775807) : (digB m).size ≤ 21 := by
  unfold digB
  rw [size_mk]
  have := Lib.itoa_length_le (m : Int) (by omega) (by omega)
  rw [Lib.itoa_nonneg] at this
  exact this
theorem join_zero : joinB [] = e0 := rfl
theorem join_succ {l : List ByteArray} {i : Nat} (h : i < l.length) : joinB (l.take (i + 1)) = (if i > 0 then joinB (l.take i) ++ ⟨#[44, 32]⟩ else joinB (l.take i)) ++ l.getD i e0 := by
  match l, h with
  | x :: r, h =>
    match i, h with
    | 0, _ =>
      simp only [Nat.zero_add, List.take_succ_cons, List.take_zero, Nat.lt_irrefl, gt_iff_lt, if_false, List.getD_cons_zero]
      apply ByteArray.ext
      simp [joinB, Lib.join_one, Lib.join_nil, ByteArray.data_append]
    | j + 1, h =>
      have hj : j < r.length := by simpa using h
      have e : (r.map (·.data.toList))[j]? = some (r.getD j e0).data.toList := by
        rw [List.getElem?_map, List.getElem?_eq_getElem hj, List.getD_eq_getElem?_getD, List.getElem?_eq_getElem hj]; rfl
      rw [if_pos (by omega), List.getD_cons_succ]
      apply ByteArray.ext
      simp only [joinB, List.take_succ_cons, List.map_cons, Lib.join_cons, List.map_take, Lib.joinTail_take_succ _ _ _ _ e, ByteArray.data_append]
      apply Array.toList_inj.1
      simp [List.append_assoc]
theorem join_all (l : List ByteArray) : joinB (l.take l.length) = joinB l := by rw [List.take_length]
theorem join_size (l : List ByteArray) : (joinB l).size ≤ (l.map (fun s => s.size + 2)).sum := by
  have key : ∀ i, i ≤ l.length → (joinB (l.take i)).size ≤ ((l.take i).map (fun s => s.size + 2)).sum := by
    intro i
    induction i with
    | zero => intro _; simp [join_zero, e0]; rfl
    | succ i ih =>
      intro h
      have hi := ih (by omega)
      rw [join_succ (by omega), ByteArray.size_append]
      have e : l.take (i + 1) = l.take i ++ [l.getD i e0] := by
        rw [List.take_add_one, List.getD_eq_getElem?_getD, List.getElem?_eq_getElem (by omega)]; rfl
      rw [e, List.map_append, List.sum_append]
      have h2 : (⟨#[44, 32]⟩ : ByteArray).size = 2 := rfl
      simp only [List.map_cons, List.map_nil, List.sum_cons, List.sum_nil]
      split
      · rw [ByteArray.size_append]; omega
      · omega
  have := key l.length (Nat.le_refl _)
  rwa [List.take_length] at this
/-- What Proper promises. -/
inductive Wf : TyP → Prop
  | mk {k n row : Int} {ops : List ByteArray} {args : List TyP} (ha : (args.length : Int) = arity k) (h0 : k = 0 → 0 ≤ n) (hr : 0 ≤ row) (hs : ∀ i, i < args.length → Wf (args.getD i ty0)) : Wf (.mk k n row ops args)
def I64 (x : Int) : Prop := -9223372036854775808 ≤ x ∧ x ≤ 9223372036854775807
/-- A type as it lies in a world: its own cells, its operations and its parts in rows. -/
inductive TyIn (w : World) : TyP → Value → Prop
  | mk {k n row : Int} {ops : List ByteArray} {args : List TyP} {A1 A2 : Option Addr} {c1 c2 : Nat} (cs : Nat → List Value)
    (hk : I64 k) (hn : I64 n) (hr : I64 row) (hc1 : ops.length ≤ c1) (hl : ops.length ≤ 1048576 ∧ args.length ≤ 1048576) (hz : ∀ i, (ops.getD i e0).size ≤ 1048576)
    (ho : Gx.Rd w A1 ops.length 1 (fun i => [.string (ops.getD i e0)])) (ha : Gx.Rd w A2 args.length 5 cs) (hV : ∀ i, i < args.length → TyIn w (args.getD i ty0) (.agg (cs i).toArray)) :
    TyIn w (.mk k n row ops args) (.agg #[.int .i64 k, .int .i64 n, .int .i64 row, .slice A1 ops.length c1, .slice A2 args.length c2])
theorem TyIn.ext {w w' : World} {t : TyP} {v : Value} (h : TyIn w t v) (x : Gx.Ext w w') : TyIn w' t v := by
  induction h with
  | mk cs hk hn hr hc1 hl hz ho ha hV ih => exact .mk cs hk hn hr hc1 hl hz (ho.ext (by decide) x) (ha.ext (by decide) x) ih
theorem par_size (least k : Int) (s : ByteArray) : s.size ≤ (parB least k s).size ∧ (parB least k s).size ≤ s.size + 2 := by
  unfold parB
  split
  · simp only [ByteArray.size_append]; have h1 : bO.size = 1 := rfl; have h2 : bC.size = 1 := rfl; omega
  · omega
/-- A part is no longer than the whole. -/
theorem show_part {k n row : Int} {ops : List ByteArray} {args : List TyP} (h : (args.length : Int) = arity k) {i : Nat} (hi : i < args.length) : (showP (args.getD i ty0)).size ≤ (showP (.mk k n row ops args)).size := by
  rcases arity_range k with ⟨h1, _⟩ | ⟨h1, rfl⟩ | ⟨h1, rfl | rfl⟩ | h1
  · omega
  · obtain rfl : i = 0 := by omega
    rw [show_4 (by omega), ByteArray.size_append]
    have := par_size 2 (args.getD 0 ty0).kind (showP (args.getD 0 ty0))
    unfold inP; omega
  · rw [show_5 (by omega), ByteArray.size_append, ByteArray.size_append]
    have h2 := par_size 2 (args.getD 0 ty0).kind (showP (args.getD 0 ty0))
    have h3 := par_size 1 (args.getD 1 ty0).kind (showP (args.getD 1 ty0))
    unfold inP
    obtain rfl | rfl : i = 0 ∨ i = 1 := by omega
    · omega
    · omega
  · rw [show_6 (by omega), ByteArray.size_append, ByteArray.size_append]
    have h2 := par_size 1 (args.getD 0 ty0).kind (showP (args.getD 0 ty0))
    have h3 := par_size 0 (args.getD 1 ty0).kind (showP (args.getD 1 ty0))
    unfold inP
    obtain rfl | rfl : i = 0 ∨ i = 1 := by omega
    · omega
    · omega
  · omega
theorem litz1 (a : UInt8) : (⟨#[a]⟩ : ByteArray).size = 1 := rfl
theorem litz2 (a b : UInt8) : (⟨#[a, b]⟩ : ByteArray).size = 2 := rfl
theorem litz3 (a b c : UInt8) : (⟨#[a, b, c]⟩ : ByteArray).size = 3 := rfl
theorem litz4 (a b c d : UInt8) : (⟨#[a, b, c, d]⟩ : ByteArray).size = 4 := rfl
theorem litz5 (a b c d e : UInt8) : (⟨#[a, b, c, d, e]⟩ : ByteArray).size = 5 := rfl
end Go.Show
