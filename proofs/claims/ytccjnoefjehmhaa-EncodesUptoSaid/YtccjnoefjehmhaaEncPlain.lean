/- Plain law of the encoder: the bytes of numbers. No program in sight. -/
import Derived.Test.YtccjnoefjehmhaaGw
namespace Go.Enc

/-- Byte j (from the lowest) of a number. -/
def byteI (v : Int) (j : Nat) : Nat := (v / 256 ^ j % 256).toNat
theorem byteI_lt (v : Int) (j : Nat) : byteI v j < 256 := by unfold byteI; omega
theorem byteI_cast (v : Int) (j : Nat) : ((byteI v j : Nat) : Int) = v / 256 ^ j % 256 := by unfold byteI; omega
/-- The lowest n bytes of a number, the highest of them first. -/
def bigL (v : Int) (n : Nat) : List UInt8 := (List.range n).map (fun p => UInt8.ofNat (byteI v (n - 1 - p)))
def bigB (v : Int) (n : Nat) : ByteArray := ⟨(bigL v n).toArray⟩
theorem bigL_len (v : Int) (n : Nat) : (bigL v n).length = n := by simp [bigL]
theorem bigB_size (v : Int) (n : Nat) : (bigB v n).size = n := by show (bigL v n).toArray.size = n; simp [bigL]
theorem ofNat_byteI (v : Int) (j : Nat) : (UInt8.ofNat (byteI v j)).toNat = byteI v j := by
  have := byteI_lt v j
  simp [Nat.mod_eq_of_lt this]
theorem bigL_get (v : Int) (n p : Nat) (h : p < n) : ((bigL v n).getD p 0).toNat = byteI v (n - 1 - p) := by
  have : (bigL v n)[p]? = some (UInt8.ofNat (byteI v (n - 1 - p))) := by simp [bigL, h]
  rw [List.getD_eq_getElem?_getD, this]
  exact ofNat_byteI v _
theorem shift_next (v : Int) (j : Nat) : v / 256 ^ j / 2 ^ 8 = v / 256 ^ (j + 1) := by
  have e : (256 : Int) ^ (j + 1) = 256 ^ j * 2 ^ 8 := by rw [Int.pow_succ]; rfl
  rw [e, Int.ediv_ediv_of_nonneg (Int.pow_nonneg (by omega))]
theorem shift_zero (v : Int) : v / 256 ^ 0 = v := by simp

/-- A record of a row of bytes and a mark: so much text, so marked. t: the record's type, e: a byte's. -/
def Wr (t e : TypeId) (w : World) (B wb : Nat) (b : ByteArray) (bad : Bool) : Prop :=
  ∃ v, Gx.Has w wb (.cells #[v, .bool bad] t) ∧ Gx.ownsM w B e v b.size (Lib.strCells b) ∧ B ≤ wb
/-- Does a number go into n bytes? -/
def fitB (v : Int) (n : Nat) : Bool := decide (0 ≤ v) && decide (v < 256 ^ n)
theorem fit_yes {n : Int} {sz : Nat} (h0 : 0 ≤ n) (h1 : n < 256 ^ sz) : fitB n sz = true := by unfold fitB; simp [h0, h1]
theorem fit_no {n : Int} {sz : Nat} (h : n < 0 ∨ 256 ^ sz ≤ n) : fitB n sz = false := by
  unfold fitB
  rw [Bool.and_eq_false_iff, decide_eq_false_iff_not, decide_eq_false_iff_not]
  omega
theorem strCells_append (a b : ByteArray) : Lib.strCells (a ++ b) = Lib.strCells a ++ Lib.strCells b := by simp [Lib.strCells, ByteArray.data_append]
theorem strCells_one (m : Nat) (h : m < 256) : Lib.strCells ⟨#[UInt8.ofNat m]⟩ = [.int .u8 (m : Int)] := by
  have : (UInt8.ofNat m).toNat = m := by simp [Nat.mod_eq_of_lt h]
  simp [Lib.strCells, this]
theorem num_zero (b : ByteArray) (n : Int) (sz : Nat) : b = b ++ ⟨((bigL n sz).take (sz - sz)).toArray⟩ := by
  rw [Nat.sub_self]
  apply ByteArray.ext
  simp [ByteArray.data_append]
theorem num_step {b c : ByteArray} {n : Int} {sz k : Nat} (hk : k + 1 ≤ sz) (hc : c = b ++ ⟨((bigL n sz).take (sz - (k + 1))).toArray⟩) : c ++ ⟨#[UInt8.ofNat (byteI n k)]⟩ = b ++ ⟨((bigL n sz).take (sz - k)).toArray⟩ := by
  have e : (bigL n sz).take (sz - k) = (bigL n sz).take (sz - (k + 1)) ++ [UInt8.ofNat (byteI n k)] := by
    have h : sz - k = (sz - (k + 1)) + 1 := by omega
    rw [h, List.take_add_one]
    congr 1
    have hg : (bigL n sz)[sz - (k + 1)]? = some (UInt8.ofNat (byteI n (sz - 1 - (sz - (k + 1))))) := by
      unfold bigL
      rw [List.getElem?_map, List.getElem?_range (by omega)]
      rfl
    rw [hg, show sz - 1 - (sz - (k + 1)) = k by omega]
    rfl
  rw [hc, e]
  apply ByteArray.ext
  simp [ByteArray.data_append]
theorem num_done {b c : ByteArray} {n : Int} {sz : Nat} (hc : c = b ++ ⟨((bigL n sz).take (sz - 0)).toArray⟩) : c = b ++ bigB n sz := by
  rw [hc, Nat.sub_zero, List.take_of_length_le (by rw [bigL_len]; exact Nat.le_refl _)]
  rfl
theorem pow8 (j : Nat) : (2 : Int) ^ (8 * j) = 256 ^ j := by rw [Int.pow_mul]; rfl

/-! ### A code's bytes, piece by piece -/

abbrev Ch := Option ByteArray
def e0 : ByteArray := ⟨#[]⟩
def cat (p : List Ch) : ByteArray := p.foldl (fun s c => s ++ c.getD e0) e0
def bd (p : List Ch) : Bool := p.any (·.isNone)
theorem cat_snoc (p : List Ch) (c : Ch) : cat (p ++ [c]) = cat p ++ c.getD e0 := by simp [cat]
theorem bd_snoc (p : List Ch) (c : Ch) : bd (p ++ [c]) = (bd p || c.isNone) := by simp [bd]
theorem bd_append (p q : List Ch) : bd (p ++ q) = (bd p || bd q) := by simp [bd]
theorem app_e0 (b : ByteArray) : b ++ e0 = b := by apply ByteArray.ext; simp [e0, ByteArray.data_append]
theorem e0_app (b : ByteArray) : e0 ++ b = b := by apply ByteArray.ext; simp [e0, ByteArray.data_append]
theorem app_assoc (a b c : ByteArray) : a ++ b ++ c = a ++ (b ++ c) := by apply ByteArray.ext; simp [ByteArray.data_append]
theorem foldl_app (p : List Ch) : ∀ s : ByteArray, p.foldl (fun s c => s ++ c.getD e0) s = s ++ cat p := by
  induction p with
  | nil => intro s; simp [cat, app_e0]
  | cons c p ih =>
    intro s
    have h2 : cat (c :: p) = c.getD e0 ++ cat p := by
      show List.foldl _ (e0 ++ c.getD e0) p = _
      rw [ih, e0_app]
    rw [List.foldl_cons, ih, h2, app_assoc]
theorem cat_append (p q : List Ch) : cat (p ++ q) = cat p ++ cat q := by
  unfold cat
  rw [List.foldl_append, foldl_app]
  rfl
theorem cat_one (c : Ch) : cat [c] = c.getD e0 := e0_app _
theorem bd_mem {p : List Ch} (h : none ∈ p) : bd p = true := by
  unfold bd
  rw [List.any_eq_true]
  exact ⟨none, h, rfl⟩
def numC (n : Int) (sz : Nat) : Ch := if fitB n sz then some (bigB n sz) else none
theorem numC_yes {n : Int} {sz : Nat} (h : fitB n sz = true) : numC n sz = some (bigB n sz) := by simp [numC, h]
theorem numC_no {n : Int} {sz : Nat} (h : fitB n sz = false) : numC n sz = none := by simp [numC, h]
theorem numC_size (n : Int) (sz : Nat) : ((numC n sz).getD e0).size ≤ sz := by
  unfold numC
  split
  · show (bigB n sz).size ≤ sz; rw [bigB_size]; exact Nat.le_refl _
  · show e0.size ≤ sz; exact Nat.zero_le _
def flagN (b : Bool) : Int := bif b then 1 else 0
def flagC (b : Bool) : Ch := numC (flagN b) 1
/-- A mark alone: wrong or not. -/
def markC (b : Bool) : Ch := if b then none else some e0
structure InsP where
  op : Int
  a : Int
  b : Int
  n : Int
structure OpP where
  name : ByteArray
  once : Bool
structure HdP where
  shallow : Bool
  ops : List Int
structure FunP where
  free : Int
  slots : Int
  ins : List InsP
def ins0 : InsP := ⟨0, 0, 0, 0⟩
def op0 : OpP := ⟨e0, false⟩
def hd0 : HdP := ⟨false, []⟩
def fun0 : FunP := ⟨0, 0, []⟩
/-- An instruction's operands: 0 none, 1 A, 2 A and B, 8 N. -/
def form (op : Int) : Nat :=
  if op = 0 then 8 else if op = 2 ∨ op = 3 ∨ op = 4 ∨ op = 12 ∨ op = 13 ∨ op = 18 ∨ op = 19 ∨ op = 21 ∨ op = 22 then 1 else if op = 14 then 2 else 0
def operandsB (op : Int) : ByteArray := match form op with
  | 8 => ⟨#[78]⟩
  | 1 => ⟨#[65]⟩
  | 2 => ⟨#[65, 66]⟩
  | _ => ⟨#[]⟩
/-- What is left over. -/
def over (x : InsP) : Bool := match form x.op with
  | 8 => x.a != 0 || x.b != 0
  | 1 => x.b != 0 || x.n != 0
  | 2 => x.n != 0
  | _ => x.a != 0 || x.b != 0 || x.n != 0
def insC (x : InsP) : List Ch :=
  if x.op < 0 ∨ x.op ≥ 23 then [none]
  else [numC x.op 1] ++ (match form x.op with
    | 8 => [some (bigB x.n 8)]
    | 1 => [numC x.a 2]
    | 2 => [numC x.a 2, numC x.b 2]
    | _ => []) ++ [markC (over x)]
def opC (o : OpP) : List Ch := [markC (decide (((o.name.size : Nat) : Int) > 20)), numC o.name.size 1, some o.name, flagC o.once]
def hdC (h : HdP) : List Ch := [flagC h.shallow, numC h.ops.length 1] ++ h.ops.flatMap (fun o => [numC o 1])
def fnC (f : FunP) : List Ch := [numC f.free 2, numC f.slots 2, numC f.ins.length 2] ++ f.ins.flatMap insC
/-- The first so many. -/
def upTo {α : Type} (f : α → List Ch) (l : List α) (i : Nat) : List Ch := (l.take i).flatMap f
theorem upTo_zero {α : Type} (f : α → List Ch) (l : List α) : upTo f l 0 = [] := rfl
theorem upTo_succ {α : Type} (f : α → List Ch) (l : List α) (d : α) {i : Nat} (h : i < l.length) : upTo f l (i + 1) = upTo f l i ++ f (l.getD i d) := by
  unfold upTo
  rw [List.take_add_one, List.flatMap_append, List.getD_eq_getElem?_getD, List.getElem?_eq_getElem h]
  simp
theorem upTo_all {α : Type} (f : α → List Ch) (l : List α) {i : Nat} (h : ¬ i < l.length) : upTo f l i = l.flatMap f := by
  unfold upTo
  rw [List.take_of_length_le (by omega)]
def ef1 : ByteArray := ⟨#[69, 70, 49]⟩
def chA (shape : ByteArray) (ops : List OpP) : List Ch := [some ef1, numC shape.size 2, some shape, numC ops.length 1]
def chB (shape : ByteArray) (ops : List OpP) (hds : List HdP) : List Ch := chA shape ops ++ ops.flatMap opC ++ [numC hds.length 2]
def chC (shape : ByteArray) (ops : List OpP) (hds : List HdP) (funs : List FunP) : List Ch := chB shape ops hds ++ hds.flatMap hdC ++ [numC funs.length 2]
def chunks (shape : ByteArray) (ops : List OpP) (hds : List HdP) (funs : List FunP) : List Ch := chC shape ops hds funs ++ funs.flatMap fnC
def resS (p : List Ch) : ByteArray := if bd p then e0 else if (cat p).size > 4000000 then e0 else cat p
def resK (p : List Ch) : Int := if bd p then 14 else if (cat p).size > 4000000 then 1 else 0
def I64 (x : Int) : Prop := -9223372036854775808 ≤ x ∧ x ≤ 9223372036854775807
theorem res_bad {p : List Ch} (h : bd p = true) : resS p = e0 ∧ resK p = 14 := by simp [resS, resK, h]
theorem res_long {p : List Ch} (h : bd p = false) (k : (cat p).size > 4000000) : resS p = e0 ∧ resK p = 1 := by simp [resS, resK, h, k]
theorem res_ok {p : List Ch} (h : bd p = false) (k : ¬ (cat p).size > 4000000) : resS p = cat p ∧ resK p = 0 := by simp [resS, resK, h]; omega
theorem markC_none (b : Bool) : (markC b).isNone = b := by cases b <;> rfl
theorem markC_e0 (b : Bool) : (markC b).getD e0 = e0 := by cases b <;> rfl
/-- A byte of a number read without its sign. -/
theorem byte_u64 (n : Int) (k : Nat) (h : k < 8) : n % 18446744073709551616 / 2 ^ (8 * k) % 256 = (byteI n k : Int) := by
  rw [byteI_cast, pow8]
  have e : k = 0 ∨ k = 1 ∨ k = 2 ∨ k = 3 ∨ k = 4 ∨ k = 5 ∨ k = 6 ∨ k = 7 := by omega
  rcases e with rfl | rfl | rfl | rfl | rfl | rfl | rfl | rfl <;> simp only [Int.pow_zero, Int.reducePow] <;> omega

/-! ### For the document's encoder, which stops at the first fault -/

theorem bd_cons (c : Ch) (q : List Ch) : bd (c :: q) = (c.isNone || bd q) := by simp [bd]
theorem bd_nil : bd [] = false := rfl
theorem cat_cons (c : Ch) (q : List Ch) : cat (c :: q) = c.getD e0 ++ cat q := by rw [show c :: q = [c] ++ q from rfl, cat_append, cat_one]
theorem cat_nil : cat [] = e0 := rfl
theorem numC_isNone (n : Int) (sz : Nat) : (numC n sz).isNone = !fitB n sz := by unfold numC; cases fitB n sz <;> rfl
theorem numC_e0 {n : Int} {sz : Nat} (h : fitB n sz = true) : (numC n sz).getD e0 = bigB n sz := by rw [numC_yes h]; rfl
theorem flag_fits (b : Bool) : fitB (flagN b) 1 = true := by cases b <;> rfl
theorem flagC_isNone (b : Bool) : (flagC b).isNone = false := by unfold flagC; rw [numC_isNone, flag_fits]; rfl
theorem flagC_e0 (b : Bool) : (flagC b).getD e0 = bigB (flagN b) 1 := numC_e0 (flag_fits b)
theorem flagB_eq (b : Bool) : bigB (flagN b) 1 = bif b then ⟨#[1]⟩ else ⟨#[0]⟩ := by cases b <;> rfl
theorem bigB_one (n : Int) : bigB n 1 = ⟨#[UInt8.ofNat (byteI n 0)]⟩ := rfl
theorem strCells_big1 (n : Int) : Lib.strCells (bigB n 1) = [.int .u8 ((byteI n 0 : Nat) : Int)] := by rw [bigB_one, strCells_one _ (byteI_lt n 0)]
theorem fit1 {n : Int} (h : 0 ≤ n ∧ n ≤ 255) : fitB n 1 = true := fit_yes h.1 (by omega)
theorem fit2 {n : Int} (h : 0 ≤ n ∧ n ≤ 65535) : fitB n 2 = true := fit_yes h.1 (by omega)
theorem unfit1 {n : Int} (h : ¬ (0 ≤ n ∧ n ≤ 255)) : fitB n 1 = false := fit_no (by omega)
theorem unfit2 {n : Int} (h : ¬ (0 ≤ n ∧ n ≤ 65535)) : fitB n 2 = false := fit_no (by omega)
theorem ownM_app {w : World} {base : Nat} {e : TypeId} {v : Value} {p q : List Ch} {m : Nat} {news : List Value} (h : Gx.ownsM w base e v ((cat p).size + m) (Lib.strCells (cat p) ++ news)) (hq : Lib.strCells (cat q) = news) (hm : (cat q).size = m) :
    Gx.ownsM w base e v (cat (p ++ q)).size (Lib.strCells (cat (p ++ q))) := by
  rw [cat_append, ByteArray.size_append, strCells_append, hq, hm]
  exact h
theorem bd_flat {α : Type} {f : α → List Ch} {l : List α} (d : α) {i : Nat} (h : i < l.length) (hb : bd (f (l.getD i d)) = true) : bd (l.flatMap f) = true := by
  rw [List.getD_eq_getElem?_getD, List.getElem?_eq_getElem h, Option.getD_some] at hb
  unfold bd at hb ⊢
  rw [List.any_eq_true] at hb ⊢
  obtain ⟨c, hc, hn⟩ := hb
  exact ⟨c, List.mem_flatMap.2 ⟨_, List.getElem_mem h, hc⟩, hn⟩
theorem form_cases (op : Int) : form op = 8 ∨ form op = 1 ∨ form op = 2 ∨ form op = 0 := by
  unfold form
  split
  · exact .inl rfl
  · split
    · exact .inr (.inl rfl)
    · split
      · exact .inr (.inr (.inl rfl))
      · exact .inr (.inr (.inr rfl))
theorem bd_ins {x : InsP} (h : 0 ≤ x.op ∧ x.op < 23) : bd (insC x) = (over x || (match form x.op with | 1 => !fitB x.a 2 | 2 => !fitB x.a 2 || !fitB x.b 2 | _ => false)) := by
  unfold insC
  rw [if_neg (by omega)]
  have e : fitB x.op 1 = true := fit1 (by omega)
  split
  all_goals simp only [bd_append, bd_cons, bd_nil, numC_isNone, markC_none, e, Bool.not_true, Bool.false_or, Bool.or_false, Option.isNone_some]
  all_goals simp_all
  all_goals rw [Bool.or_comm]
theorem cat_ins {x : InsP} (h : 0 ≤ x.op ∧ x.op < 23) (k : bd (insC x) = false) : cat (insC x) = (match form x.op with | 8 => bigB x.op 1 ++ bigB x.n 8 | 1 => bigB x.op 1 ++ bigB x.a 2 | 2 => bigB x.op 1 ++ bigB x.a 2 ++ bigB x.b 2 | _ => bigB x.op 1) := by
  have hb := bd_ins h
  rw [k] at hb
  unfold insC
  rw [if_neg (by omega)]
  have e : fitB x.op 1 = true := fit1 (by omega)
  have hf : form x.op = 8 ∨ form x.op = 1 ∨ form x.op = 2 ∨ form x.op = 0 := form_cases x.op
  rcases hf with hf | hf | hf | hf
  all_goals simp only [hf] at hb ⊢
  · simp only [cat_append, cat_one, cat_cons, cat_nil, numC_e0 e, markC_e0, app_e0]
    simp only [Option.getD_some]
  · have h1 : fitB x.a 2 = true := by simpa using (Bool.or_eq_false_iff.1 hb.symm).2
    simp only [cat_append, cat_one, cat_cons, cat_nil, numC_e0 e, markC_e0, app_e0, numC_e0 h1]
  · have h2 := (Bool.or_eq_false_iff.1 hb.symm).2
    have h1 : fitB x.a 2 = true := by simpa using (Bool.or_eq_false_iff.1 h2).1
    have h3 : fitB x.b 2 = true := by simpa using (Bool.or_eq_false_iff.1 h2).2
    simp only [cat_append, cat_one, cat_cons, cat_nil, numC_e0 e, markC_e0, app_e0, numC_e0 h1, numC_e0 h3, app_assoc]
  · simp only [cat_append, cat_one, cat_cons, cat_nil, numC_e0 e, markC_e0, app_e0]
theorem ins_wrong {x : InsP} (h : x.op < 0 ∨ x.op ≥ 23) : bd (insC x) = true := by unfold insC; rw [if_pos h]; rfl
theorem ins_size (x : InsP) : (cat (insC x)).size ≤ 9 := by
  unfold insC
  split
  · exact Nat.zero_le _
  · have h1 := numC_size x.op 1
    have h2 := numC_size x.a 2
    have h3 := numC_size x.b 2
    have h4 := bigB_size x.n 8
    have h5 : (e0 : ByteArray).size = 0 := rfl
    split
    all_goals simp only [cat_append, cat_one, cat_cons, cat_nil, markC_e0, ByteArray.size_append, Option.getD_some]
    all_goals omega
theorem op_ok {o : OpP} (h : ¬ ((o.name.size : Nat) : Int) > 20) : bd (opC o) = false ∧ cat (opC o) = bigB o.name.size 1 ++ o.name ++ bigB (flagN o.once) 1 := by
  have e : fitB ((o.name.size : Nat) : Int) 1 = true := fit1 (by omega)
  constructor
  · simp only [opC, bd_cons, bd_nil, markC_none, numC_isNone, flagC_isNone, e, Option.isNone_some]; simp; omega
  · simp only [opC, cat_cons, cat_nil, markC_e0, numC_e0 e, flagC_e0, Option.getD_some, e0_app, app_e0, app_assoc]
theorem op_bad {o : OpP} (h : ((o.name.size : Nat) : Int) > 20) : bd (opC o) = true := by
  simp only [opC, bd_cons, markC_none]; simp; left; omega
theorem bd_eq_chunks (shape : ByteArray) (ops : List OpP) (hds : List HdP) (funs : List FunP) : bd (chunks shape ops hds funs) =
    (bd (chA shape ops) || bd (ops.flatMap opC) || !fitB hds.length 2 || bd (hds.flatMap hdC) || !fitB funs.length 2 || bd (funs.flatMap fnC)) := by
  simp only [chunks, chC, chB, bd_append, bd_cons, bd_nil, numC_isNone, Bool.or_false, Bool.or_assoc]
theorem chunks_bad {shape : ByteArray} {ops : List OpP} {hds : List HdP} {funs : List FunP} (h : shape.size > 65535 ∨ ops.length > 255 ∨ hds.length > 65535 ∨ funs.length > 65535) : bd (chunks shape ops hds funs) = true := by
  rw [bd_eq_chunks]
  rcases h with h | h | h | h
  · have e : fitB ((shape.size : Nat) : Int) 2 = false := unfit2 (by omega)
    simp [chA, bd_cons, numC_isNone, e]
  · have e : fitB ((ops.length : Nat) : Int) 1 = false := unfit1 (by omega)
    simp [chA, bd_cons, numC_isNone, e]
  · have e : fitB ((hds.length : Nat) : Int) 2 = false := unfit2 (by omega)
    simp [e]
  · have e : fitB ((funs.length : Nat) : Int) 2 = false := unfit2 (by omega)
    simp [e]
theorem chunks_ops {shape : ByteArray} {ops : List OpP} {hds : List HdP} {funs : List FunP} (h : bd (ops.flatMap opC) = true) : bd (chunks shape ops hds funs) = true := by rw [bd_eq_chunks]; simp [h]
theorem chunks_hds {shape : ByteArray} {ops : List OpP} {hds : List HdP} {funs : List FunP} (h : bd (hds.flatMap hdC) = true) : bd (chunks shape ops hds funs) = true := by rw [bd_eq_chunks]; simp [h]
theorem chunks_funs {shape : ByteArray} {ops : List OpP} {hds : List HdP} {funs : List FunP} (h : bd (funs.flatMap fnC) = true) : bd (chunks shape ops hds funs) = true := by rw [bd_eq_chunks]; simp [h]
theorem hd_bad1 {h : HdP} (k : h.ops.length > 255) : bd (hdC h) = true := by
  have e : fitB ((h.ops.length : Nat) : Int) 1 = false := unfit1 (by omega)
  simp [hdC, bd_append, bd_cons, numC_isNone, e]
theorem hd_bad2 {h : HdP} {j : Nat} (hj : j < h.ops.length) (k : ¬ (0 ≤ h.ops.getD j 0 ∧ h.ops.getD j 0 ≤ 255)) : bd (hdC h) = true := by
  have e : bd (h.ops.flatMap (fun o => [numC o 1])) = true := bd_flat 0 hj (by simp only [bd_cons, bd_nil, numC_isNone, unfit1 k]; rfl)
  unfold hdC
  rw [bd_append, e, Bool.or_true]
theorem fn_bad1 {f : FunP} (k : ¬ (0 ≤ f.free ∧ f.free ≤ 65535) ∨ ¬ (0 ≤ f.slots ∧ f.slots ≤ 65535) ∨ f.ins.length > 65535) : bd (fnC f) = true := by
  rcases k with k | k | k
  · simp [fnC, bd_append, bd_cons, numC_isNone, unfit2 k]
  · simp [fnC, bd_append, bd_cons, numC_isNone, unfit2 k]
  · have e : fitB ((f.ins.length : Nat) : Int) 2 = false := unfit2 (by omega)
    simp [fnC, bd_append, bd_cons, numC_isNone, e]
theorem fn_bad2 {f : FunP} {j : Nat} (hj : j < f.ins.length) (k : bd (insC (f.ins.getD j ins0)) = true) : bd (fnC f) = true := by
  have e : bd (f.ins.flatMap insC) = true := bd_flat ins0 hj k
  unfold fnC
  rw [bd_append, e, Bool.or_true]
theorem chA_ok {shape : ByteArray} {ops : List OpP} (h1 : ¬ shape.size > 65535) (h2 : ¬ ops.length > 255) :
    bd (chA shape ops) = false ∧ cat (chA shape ops) = (((⟨#[69, 70, 49]⟩ : ByteArray) ++ bigB ((shape.size : Nat) : Int) 2) ++ shape) ++ bigB ((ops.length : Nat) : Int) 1 := by
  have e1 : fitB ((shape.size : Nat) : Int) 2 = true := fit2 (by omega)
  have e2 : fitB ((ops.length : Nat) : Int) 1 = true := fit1 (by omega)
  constructor
  · simp only [chA, bd_cons, bd_nil, numC_isNone, e1, e2, Option.isNone_some]; rfl
  · simp only [chA, cat_cons, cat_nil, numC_e0 e1, numC_e0 e2, Option.getD_some, app_e0, app_assoc]; rfl
theorem num2_ok {n : Nat} (h : ¬ n > 65535) : bd [numC ((n : Nat) : Int) 2] = false ∧ cat [numC ((n : Nat) : Int) 2] = bigB ((n : Nat) : Int) 2 := by
  have e : fitB ((n : Nat) : Int) 2 = true := fit2 (by omega)
  exact ⟨by simp only [bd_cons, bd_nil, numC_isNone, e]; rfl, by rw [cat_one, numC_e0 e]⟩
theorem num1_ok {o : Int} (h : 0 ≤ o ∧ o ≤ 255) : bd [numC o 1] = false ∧ cat [numC o 1] = bigB o 1 := by
  have e : fitB o 1 = true := fit1 h
  exact ⟨by simp only [bd_cons, bd_nil, numC_isNone, e]; rfl, by rw [cat_one, numC_e0 e]⟩
theorem hd_ok {b : Bool} {n : Nat} (h : ¬ n > 255) : bd [flagC b, numC ((n : Nat) : Int) 1] = false ∧ cat [flagC b, numC ((n : Nat) : Int) 1] = bigB (flagN b) 1 ++ bigB ((n : Nat) : Int) 1 := by
  have e : fitB ((n : Nat) : Int) 1 = true := fit1 (by omega)
  exact ⟨by simp only [bd_cons, bd_nil, numC_isNone, flagC_isNone, e]; rfl, by simp only [cat_cons, cat_nil, flagC_e0, numC_e0 e, app_e0]⟩
theorem fn_ok {a b : Int} {n : Nat} (h : (0 ≤ a ∧ a ≤ 65535) ∧ (0 ≤ b ∧ b ≤ 65535) ∧ ¬ n > 65535) :
    bd [numC a 2, numC b 2, numC ((n : Nat) : Int) 2] = false ∧ cat [numC a 2, numC b 2, numC ((n : Nat) : Int) 2] = (bigB a 2 ++ bigB b 2) ++ bigB ((n : Nat) : Int) 2 := by
  have e : fitB ((n : Nat) : Int) 2 = true := fit2 (by omega)
  exact ⟨by simp only [bd_cons, bd_nil, numC_isNone, fit2 h.1, fit2 h.2.1, e]; rfl, by simp only [cat_cons, cat_nil, numC_e0 (fit2 h.1), numC_e0 (fit2 h.2.1), numC_e0 e, app_e0, app_assoc]⟩
theorem ins_ok {x : InsP} (h : bd (insC x) = false) : bd (insC x) = false ∧ cat (insC x) = bif bd (insC x) then e0 else cat (insC x) := ⟨h, by rw [h]; rfl⟩
theorem ins_size' (x : InsP) : (bif bd (insC x) then e0 else cat (insC x)).size ≤ 9 := by
  cases bd (insC x)
  · exact ins_size x
  · exact Nat.zero_le _
end Go.Enc
