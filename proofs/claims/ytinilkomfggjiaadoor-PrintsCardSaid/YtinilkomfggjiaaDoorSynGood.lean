/- What trees the document's reader makes, and how they are written: plain laws. -/
import Derived.Test.YtinilkomfggjiaaDoorSynPlain
import Derived.Test.YtinilkomfggjiaaDoorShowPlain
set_option linter.unusedVariables false
set_option linter.unusedSimpArgs false
namespace Go.Syn
open Go.Show (digB)
open Go.Lex

def lvl (t : Nd) : Int :=
  if t.k = 9 ∨ t.k = 7 ∨ t.k = 11 ∨ t.k = 17 ∨ t.k = 20 ∨ t.k = 10 ∨ t.k = 29 then 0 else if t.k = 28 then 1 else if t.k = 27 then 2 else if t.k = 24 ∨ t.k = 25 ∨ t.k = 26 then 3 else if t.k = 16 then 2
  else if t.k = 8 ∨ t.k = 19 ∨ t.k = 13 ∨ t.k = 14 then 5 else if t.k = 18 then (if t.nm = (⟨#[61, 61]⟩ : ByteArray) ∨ t.nm = (⟨#[60]⟩ : ByteArray) then 1 else if t.nm = (⟨#[42]⟩ : ByteArray) then 4 else 3) else 6
def inT (least : Int) (t : Nd) (s : ByteArray) : ByteArray := if lvl t < least then ((⟨#[40, 32]⟩ : ByteArray) ++ s) ++ (⟨#[32, 41]⟩ : ByteArray) else s
def intT (n : Int) : ByteArray := if n < 0 then (⟨#[126, 32]⟩ : ByteArray) ++ digB (-n).toNat else digB n.toNat
def arL (ps : List Nd) : Nat → ByteArray
  | 0 => (⟨#[32, 45, 32, 123, 32]⟩ : ByteArray)
  | i + 1 => (if i > 0 then arL ps i ++ (⟨#[32, 44, 32]⟩ : ByteArray) else arL ps i) ++ (ps.getD i nd0).nm
def arrT (ps : List Nd) : ByteArray := if ps.length = 0 then (⟨#[32, 45, 62, 32]⟩ : ByteArray) else arL ps ps.length ++ (⟨#[32, 125, 32, 45, 62, 32]⟩ : ByteArray)
def cl1 (c : Nd) (s b : ByteArray) : ByteArray := (((((((b ++ (⟨#[32, 124, 32]⟩ : ByteArray)) ++ c.nm) ++ (⟨#[32]⟩ : ByteArray)) ++ (c.ks.getD 0 nd0).nm) ++ (⟨#[32]⟩ : ByteArray)) ++ (c.ks.getD 1 nd0).nm) ++ (⟨#[32, 61, 62, 32]⟩ : ByteArray)) ++ s
def clT : List Nd → List ByteArray → ByteArray → ByteArray
  | c :: cs, s :: ss, b => clT cs ss (cl1 c s b)
  | _, _, b => b
def opT (nm : ByteArray) (x y : Nd) (sx sy : ByteArray) : ByteArray :=
  if nm = (⟨#[61, 61]⟩ : ByteArray) ∨ nm = (⟨#[60]⟩ : ByteArray) then (((inT 2 x sx ++ (⟨#[32]⟩ : ByteArray)) ++ nm) ++ (⟨#[32]⟩ : ByteArray)) ++ inT 2 y sy
  else if nm = (⟨#[42]⟩ : ByteArray) then (((inT 4 x sx ++ (⟨#[32]⟩ : ByteArray)) ++ nm) ++ (⟨#[32]⟩ : ByteArray)) ++ inT 5 y sy
  else (((inT 3 x sx ++ (⟨#[32]⟩ : ByteArray)) ++ nm) ++ (⟨#[32]⟩ : ByteArray)) ++ inT 4 y sy

/-- The tree is one that the reader makes, and it is written so. -/
inductive Wr : Nd → ByteArray → Prop
  | eint (a : Nat) (nm : ByteArray) (n : Int) : -9223372036854775807 ≤ n → n ≤ 9223372036854775807 → Wr (.mk 3 a nm n []) (intT n)
  | ebool (a : Nat) (nm : ByteArray) (n : Int) : Wr (.mk 4 a nm n []) (if n = 1 then (⟨#[116, 114, 117, 101]⟩ : ByteArray) else (⟨#[102, 97, 108, 115, 101]⟩ : ByteArray))
  | eunit (a : Nat) (nm : ByteArray) (n : Int) : Wr (.mk 5 a nm n []) (⟨#[40, 32, 41]⟩ : ByteArray)
  | evar (a : Nat) (nm : ByteArray) (n : Int) : 0 < nm.size → Wr (.mk 6 a nm n []) nm
  | efn (a : Nat) (nm : ByteArray) (n : Int) (x : Nd) (sx : ByteArray) : 0 < nm.size → Wr x sx → Wr (.mk 7 a nm n [x]) ((((⟨#[102, 110, 32]⟩ : ByteArray) ++ nm) ++ (⟨#[32, 61, 62, 32]⟩ : ByteArray)) ++ sx)
  | eapp (a : Nat) (nm : ByteArray) (n : Int) (x y : Nd) (sx sy : ByteArray) : Wr x sx → Wr y sy → Wr (.mk 8 a nm n [x, y]) (((if x.k = 8 then sx else inT 6 x sx) ++ (⟨#[32]⟩ : ByteArray)) ++ inT 6 y sy)
  | elet0 (a : Nat) (nm : ByteArray) (x y : Nd) (sx sy : ByteArray) : 0 < nm.size → Wr x sx → Wr y sy → Wr (.mk 9 a nm 0 [x, y]) ((((((⟨#[108, 101, 116, 32]⟩ : ByteArray) ++ nm) ++ (⟨#[32, 61, 32]⟩ : ByteArray)) ++ sx) ++ (⟨#[32, 105, 110, 32]⟩ : ByteArray)) ++ sy)
  | elet1 (a : Nat) (nm : ByteArray) (fa : Nat) (fx : ByteArray) (fm : Int) (x y : Nd) (sx sy : ByteArray) : 0 < nm.size → 0 < fx.size → Wr x sx → Wr y sy →
      Wr (.mk 9 a nm 1 [.mk 7 fa fx fm [x], y]) ((((((⟨#[108, 101, 116, 32, 114, 101, 99, 32]⟩ : ByteArray) ++ nm) ++ (⟨#[32]⟩ : ByteArray)) ++ ((fx ++ (⟨#[32, 61, 32]⟩ : ByteArray)) ++ sx)) ++ (⟨#[32, 105, 110, 32]⟩ : ByteArray)) ++ sy)
  | eseq (a : Nat) (nm : ByteArray) (n : Int) (x y : Nd) (sx sy : ByteArray) : Wr x sx → Wr y sy → Wr (.mk 10 a nm n [x, y]) ((inT 1 x sx ++ (⟨#[32, 59, 32]⟩ : ByteArray)) ++ sy)
  | eif (a : Nat) (nm : ByteArray) (n : Int) (x y z : Nd) (sx sy sz : ByteArray) : Wr x sx → Wr y sy → Wr z sz → Wr (.mk 11 a nm n [x, y, z]) ((((((⟨#[105, 102, 32]⟩ : ByteArray) ++ sx) ++ (⟨#[32, 116, 104, 101, 110, 32]⟩ : ByteArray)) ++ sy) ++ (⟨#[32, 101, 108, 115, 101, 32]⟩ : ByteArray)) ++ sz)
  | epair (a : Nat) (nm : ByteArray) (n : Int) (x y : Nd) (sx sy : ByteArray) : Wr x sx → Wr y sy → Wr (.mk 12 a nm n [x, y]) (((((⟨#[40, 32]⟩ : ByteArray) ++ sx) ++ (⟨#[32, 44, 32]⟩ : ByteArray)) ++ sy) ++ (⟨#[32, 41]⟩ : ByteArray))
  | efst (a : Nat) (nm : ByteArray) (n : Int) (x : Nd) (sx : ByteArray) : Wr x sx → Wr (.mk 13 a nm n [x]) ((⟨#[102, 115, 116, 32]⟩ : ByteArray) ++ inT 6 x sx)
  | esnd (a : Nat) (nm : ByteArray) (n : Int) (x : Nd) (sx : ByteArray) : Wr x sx → Wr (.mk 14 a nm n [x]) ((⟨#[115, 110, 100, 32]⟩ : ByteArray) ++ inT 6 x sx)
  | enil (a : Nat) (nm : ByteArray) (n : Int) : Wr (.mk 15 a nm n []) (⟨#[91, 32, 93]⟩ : ByteArray)
  | econs (a : Nat) (nm : ByteArray) (n : Int) (x y : Nd) (sx sy : ByteArray) : Wr x sx → Wr y sy → Wr (.mk 16 a nm n [x, y]) ((inT 3 x sx ++ (⟨#[32, 58, 58, 32]⟩ : ByteArray)) ++ inT 2 y sy)
  | ecase (a : Nat) (nm : ByteArray) (n : Int) (x y u v z : Nd) (sx sy sz : ByteArray) : 0 < u.nm.size → 0 < v.nm.size → Wr x sx → Wr y sy → Wr z sz →
      Wr (.mk 17 a nm n [x, y, u, v, z]) (((((((((((⟨#[99, 97, 115, 101, 32]⟩ : ByteArray) ++ sx) ++ (⟨#[32, 111, 102, 32, 91, 32, 93, 32, 61, 62, 32]⟩ : ByteArray)) ++ sy) ++ (⟨#[32, 124, 32]⟩ : ByteArray)) ++ u.nm) ++ (⟨#[32, 58, 58, 32]⟩ : ByteArray)) ++ v.nm) ++ (⟨#[32, 61, 62, 32]⟩ : ByteArray)) ++ sz) ++ (⟨#[32, 101, 110, 100]⟩ : ByteArray))
  | eop (a : Nat) (nm : ByteArray) (n : Int) (x y : Nd) (sx sy : ByteArray) : (nm = (⟨#[61, 61]⟩ : ByteArray) ∨ nm = (⟨#[60]⟩ : ByteArray) ∨ nm = (⟨#[43]⟩ : ByteArray) ∨ nm = (⟨#[45]⟩ : ByteArray) ∨ nm = (⟨#[42]⟩ : ByteArray)) → Wr x sx → Wr y sy → Wr (.mk 18 a nm n [x, y]) (opT nm x y sx sy)
  | edo (a : Nat) (nm : ByteArray) (n : Int) (x : Nd) (sx : ByteArray) : 0 < nm.size → Wr x sx → Wr (.mk 19 a nm n [x]) ((((⟨#[100, 111, 32]⟩ : ByteArray) ++ nm) ++ (⟨#[32]⟩ : ByteArray)) ++ inT 6 x sx)
  | ehandle (a : Nat) (nm : ByteArray) (n : Int) (x r : Nd) (sx sb : ByteArray) (cs : List Nd) (ss : List ByteArray) : (n = 0 ∨ n = 1) → 0 < r.nm.size → r.ks.length = 1 → ss.length = cs.length →
      (∀ i, i < cs.length → (cs.getD i nd0).ks.length = 3 ∧ 0 < (cs.getD i nd0).nm.size ∧ 0 < ((cs.getD i nd0).ks.getD 0 nd0).nm.size ∧ 0 < ((cs.getD i nd0).ks.getD 1 nd0).nm.size) →
      Wr x sx → Wr (r.ks.getD 0 nd0) sb → (∀ i, i < cs.length → Wr ((cs.getD i nd0).ks.getD 2 nd0) (ss.getD i (⟨#[]⟩ : ByteArray))) →
      Wr (.mk 20 a nm n (x :: r :: cs)) (clT cs ss ((((((if n = 1 then (⟨#[115, 104, 97, 108, 108, 111, 119, 32]⟩ : ByteArray) else (⟨#[104, 97, 110, 100, 108, 101, 32]⟩ : ByteArray)) ++ sx) ++ (⟨#[32, 119, 105, 116, 104, 32, 123, 32, 114, 101, 116, 117, 114, 110, 32]⟩ : ByteArray)) ++ r.nm) ++ (⟨#[32, 61, 62, 32]⟩ : ByteArray)) ++ sb) ++ (⟨#[32, 125]⟩ : ByteArray))
  | tint (a : Nat) (nm : ByteArray) (n : Int) : Wr (.mk 24 a nm n []) (⟨#[105, 110, 116]⟩ : ByteArray)
  | tbool (a : Nat) (nm : ByteArray) (n : Int) : Wr (.mk 25 a nm n []) (⟨#[98, 111, 111, 108]⟩ : ByteArray)
  | tunit (a : Nat) (nm : ByteArray) (n : Int) : Wr (.mk 26 a nm n []) (⟨#[117, 110, 105, 116]⟩ : ByteArray)
  | tlist (a : Nat) (nm : ByteArray) (n : Int) (x : Nd) (sx : ByteArray) : Wr x sx → Wr (.mk 27 a nm n [x]) (inT 2 x sx ++ (⟨#[32, 108, 105, 115, 116]⟩ : ByteArray))
  | tpair (a : Nat) (nm : ByteArray) (n : Int) (x y : Nd) (sx sy : ByteArray) : Wr x sx → Wr y sy → Wr (.mk 28 a nm n [x, y]) ((inT 2 x sx ++ (⟨#[32, 42, 32]⟩ : ByteArray)) ++ inT 1 y sy)
  | tfn (a : Nat) (nm : ByteArray) (n : Int) (x y : Nd) (sx sy : ByteArray) (ps : List Nd) : (∀ i, i < ps.length → 0 < (ps.getD i nd0).nm.size) → Wr x sx → Wr y sy → Wr (.mk 29 a nm n (x :: y :: ps)) ((inT 1 x sx ++ arrT ps) ++ sy)

/-- A definition, and what is written for it behind s. -/
inductive Dc : Nd → (ByteArray → ByteArray) → Prop
  | op (a : Nat) (nm : ByteArray) (n : Int) (x y : Nd) (sx sy : ByteArray) : (n = 0 ∨ n = 1) → 0 < nm.size → Wr x sx → Wr y sy →
      Dc (.mk 1 a nm n [x, y]) (fun s => (((((((s ++ (⟨#[111, 112, 32]⟩ : ByteArray)) ++ (if n = 1 then (⟨#[111, 110, 99, 101, 32]⟩ : ByteArray) else (⟨#[109, 97, 110, 121, 32]⟩ : ByteArray))) ++ nm) ++ (⟨#[32, 58, 32]⟩ : ByteArray)) ++ sx) ++ (⟨#[32, 61, 62, 32]⟩ : ByteArray)) ++ sy) ++ (⟨#[32]⟩ : ByteArray))
  | df (a : Nat) (nm : ByteArray) (n : Int) (fa : Nat) (fx : ByteArray) (fm : Int) (x : Nd) (sx : ByteArray) : 0 < nm.size → 0 < fx.size → Wr x sx →
      Dc (.mk 2 a nm n [.mk 7 fa fx fm [x]]) (fun s => (((((s ++ (⟨#[100, 101, 102, 32]⟩ : ByteArray)) ++ (if n = 1 then (⟨#[114, 101, 99, 32]⟩ : ByteArray) else (⟨#[]⟩ : ByteArray))) ++ nm) ++ (⟨#[32]⟩ : ByteArray)) ++ ((fx ++ (⟨#[32, 61, 32]⟩ : ByteArray)) ++ sx)) ++ (⟨#[32]⟩ : ByteArray))
  | main (x : Nd) (sx : ByteArray) : 3 ≤ x.k → Wr x sx → Dc x (fun s => (s ++ (⟨#[109, 97, 105, 110, 32, 61, 32]⟩ : ByteArray)) ++ sx)
inductive DL : List Nd → List (ByteArray → ByteArray) → Prop
  | nil : DL [] []
  | cons {d : Nd} {f : ByteArray → ByteArray} {ds : List Nd} {fs : List (ByteArray → ByteArray)} : Dc d f → DL ds fs → DL (d :: ds) (f :: fs)
def pgF (fs : List (ByteArray → ByteArray)) (b : ByteArray) : ByteArray := fs.foldl (fun s f => f s) b

/-! ### Sizes -/

theorem inT_le (l : Int) (t : Nd) (s : ByteArray) : (inT l t s).size ≤ s.size + 4 ∧ s.size ≤ (inT l t s).size := by
  unfold inT
  split
  · rw [ByteArray.size_append, ByteArray.size_append]
    have h1 : (⟨#[40, 32]⟩ : ByteArray).size = 2 := rfl
    have h2 : (⟨#[32, 41]⟩ : ByteArray).size = 2 := rfl
    omega
  · omega
theorem wr_kind {t : Nd} {s : ByteArray} (h : Wr t s) : 3 ≤ t.k := by
  cases h <;> simp [Nd.k]
theorem dig_pos (m : Nat) : 0 < (digB m).size := by
  unfold digB
  rw [Show.size_mk, Lib.decDigits]
  split <;> simp

/-- So much is written for what is read between q and q'. -/
def G (S : ByteArray) (q q' : Rs) (W : Nat) (t : Nd) : Prop := ∃ s, Wr t s ∧ 0 < s.size ∧ s.size + 100 + 100000 * M S q' ≤ 100000 * M S q + W
def FnP (S : ByteArray) (q q' : Rs) (t : Nd) : Prop := ∃ (a : Nat) (nx : ByteArray) (z : Nd) (sz : ByteArray), t = .mk 7 a nx 0 [z] ∧ 0 < nx.size ∧ Wr z sz ∧ 0 < sz.size ∧ nx.size + sz.size + 200 + 100000 * M S q' ≤ 100000 * M S q
def Post (S : ByteArray) (nt : NT) (q : Rs) (t : Nd) (q' : Rs) : Prop :=
  match nt with
  | .listL a | .sumL a | .mulL a | .appL a => ∀ sa W, Wr a sa → 0 < sa.size → sa.size + 100 ≤ W → G S q q' W t
  | .namesL l => ∃ ps, t.ks = l ++ ps ∧ (∀ i, i < ps.length → 0 < (ps.getD i nd0).nm.size ∧ (ps.getD i nd0).nm.size ≤ 3000) ∧ ps.length + M S q' ≤ M S q
  | .params _ f => G S q q' 0 t ∧ (f = true → FnP S q q' t)
  | .handL l => ∃ cs ss, t.ks = l ++ cs ∧ ss.length = cs.length ∧ (∀ i, i < cs.length → (cs.getD i nd0).ks.length = 3 ∧ 0 < (cs.getD i nd0).nm.size ∧ 0 < ((cs.getD i nd0).ks.getD 0 nd0).nm.size ∧ 0 < ((cs.getD i nd0).ks.getD 1 nd0).nm.size) ∧
      (∀ i, i < cs.length → Wr ((cs.getD i nd0).ks.getD 2 nd0) (ss.getD i (⟨#[]⟩ : ByteArray))) ∧ ∀ b, (clT cs ss b).size + 100000 * M S q' ≤ b.size + 100000 * M S q
  | .squareL l => ∃ es, t.ks = l ++ es ∧ ∀ at_, ∃ s, Wr (consAll at_ es) s ∧ 0 < s.size ∧ s.size + 100000 * M S q' ≤ 100000 * M S q + 3
  | .opsL l | .defsL _ l => ∃ ds fs, t.ks = l ++ ds ∧ DL ds fs ∧ (∀ d ∈ ds, d.k = 1 ∨ d.k = 2) ∧ ∀ b, (pgF fs b).size + 100000 * M S q' ≤ b.size + 100000 * M S q
  | .prog => t.k = 0 ∧ ∃ ds e fs, t.ks = ds ++ [e] ∧ (∀ d ∈ ds, d.k = 1 ∨ d.k = 2) ∧ 3 ≤ e.k ∧ DL t.ks fs ∧ ∀ b, (pgF fs b).size + 100000 * M S q' ≤ b.size + 100000 * M S q
  | _ => G S q q' 0 t

theorem Tr.ok0 {S : ByteArray} {q q' : Rs} (h : Tr S q q') (f : q'.fk = 0) : q.fk = 0 := by
  by_cases g : q.fk = 0
  · exact g
  · rw [h.fk g] at f; exact f
theorem must_lt {S : ByteArray} {q : Rs} {s : ByteArray} (h : Ok S q) (f : (mustR S q s).fk = 0) : M S (mustR S q s) < M S q := by
  by_cases i : isB q s = true
  · have := is_lt h i
    unfold mustR; rw [if_pos i]; exact this
  · unfold mustR at f; rw [if_neg i] at f
    exact (no_ok ((okB_iff _).2 f)).elim
theorem name_good {S : ByteArray} {q : Rs} (h : Ok S q) (f : (nameR S q).2.fk = 0) : 0 < (nameR S q).1.1.size ∧ (nameR S q).1.1.size ≤ 3000 ∧ M S (nameR S q).2 < M S q := by
  have l := name_lt h ((okB_iff _).2 f)
  refine ⟨?_, ?_, l⟩
  all_goals (unfold nameR at f ⊢; split)
  · rename_i g
    simp only [isNameB, Bool.and_eq_true, beq_iff_eq] at g
    exact h.nm ((okB_iff q).1 g.1) (by omega)
  · rename_i g; rw [if_neg g] at f; exact (no_ok ((okB_iff _).2 f)).elim
  · exact Nat.le_trans h.t h.size
  · exact Nat.zero_le _
theorem has_no {S : ByteArray} {q : Rs} {s : ByteArray} (h : ¬ isB q s = true) : hasR S q s = q := by unfold hasR; rw [if_neg h]
theorem arL_le {ps : List Nd} (h : ∀ i, i < ps.length → 0 < (ps.getD i nd0).nm.size ∧ (ps.getD i nd0).nm.size ≤ 3000) : ∀ i, i ≤ ps.length → (arL ps i).size ≤ 5 + i * 3003 ∧ 0 < (arL ps i).size := by
  intro i
  induction i with
  | zero => intro _; exact ⟨by show 5 ≤ _; omega, by show 0 < 5; omega⟩
  | succ i ih =>
    intro hi
    have h1 := ih (by omega)
    have h2 := h i (by omega)
    have h3 : (⟨#[32, 44, 32]⟩ : ByteArray).size = 3 := rfl
    unfold arL
    split <;> simp only [ByteArray.size_append, h3] <;> omega
theorem arrT_le {ps : List Nd} (h : ∀ i, i < ps.length → 0 < (ps.getD i nd0).nm.size ∧ (ps.getD i nd0).nm.size ≤ 3000) : (arrT ps).size ≤ 12 + ps.length * 3003 := by
  have h1 := arL_le h ps.length (Nat.le_refl _)
  unfold arrT
  split
  · show 4 ≤ _; omega
  · rw [ByteArray.size_append]; have : (⟨#[32, 125, 32, 45, 62, 32]⟩ : ByteArray).size = 6 := rfl; omega
theorem zap (a b : ByteArray) : (a ++ b).size = a.size + b.size := ByteArray.size_append
theorem zli (l : List UInt8) : (⟨l.toArray⟩ : ByteArray).size = l.length := rfl
theorem lz1 (a0 : UInt8) : (⟨#[a0]⟩ : ByteArray).size = 1 := rfl
theorem lz2 (a0 a1 : UInt8) : (⟨#[a0, a1]⟩ : ByteArray).size = 2 := rfl
theorem lz3 (a0 a1 a2 : UInt8) : (⟨#[a0, a1, a2]⟩ : ByteArray).size = 3 := rfl
theorem lz4 (a0 a1 a2 a3 : UInt8) : (⟨#[a0, a1, a2, a3]⟩ : ByteArray).size = 4 := rfl
theorem lz5 (a0 a1 a2 a3 a4 : UInt8) : (⟨#[a0, a1, a2, a3, a4]⟩ : ByteArray).size = 5 := rfl
theorem lz6 (a0 a1 a2 a3 a4 a5 : UInt8) : (⟨#[a0, a1, a2, a3, a4, a5]⟩ : ByteArray).size = 6 := rfl
theorem lz7 (a0 a1 a2 a3 a4 a5 a6 : UInt8) : (⟨#[a0, a1, a2, a3, a4, a5, a6]⟩ : ByteArray).size = 7 := rfl
theorem lz8 (a0 a1 a2 a3 a4 a5 a6 a7 : UInt8) : (⟨#[a0, a1, a2, a3, a4, a5, a6, a7]⟩ : ByteArray).size = 8 := rfl

section
variable {S : ByteArray} {R : NT → Rs → Nd × Rs}

theorem fn_good (hT : ∀ nt q, Ok S q → Tr S q (R nt q).2) (ih : ∀ nt q, Ok S q → (R nt q).2.fk = 0 → Post S nt q (R nt q).1 (R nt q).2) (a : Nd) (q1 : Rs) (sa : ByteArray) (W : Nat) (h : Ok S q1) (wa : Wr a sa) (za : 0 < sa.size) (ka : sa.size + 100 ≤ W) (hf : (fnS S R a q1).2.fk = 0) : G S q1 (fnS S R a q1).2 W (fnS S R a q1).1 := by
  unfold fnS at hf ⊢
  dsimp only at hf ⊢
  split
  · rename_i h1
    rw [if_pos h1] at hf
    have tq2 := has_tr (s := (⟨#[45, 62]⟩ : ByteArray)) h
    have lq2 := has_lt (s := (⟨#[45, 62]⟩ : ByteArray)) h h1
    generalize hasR S q1 (⟨#[45, 62]⟩ : ByteArray) = q2 at tq2 lq2 hf ⊢
    have pr := ih (.typ) q2 tq2.ok
    have tr := hT (.typ) q2 tq2.ok
    generalize R (.typ) q2 = r at pr tr hf ⊢
    have mr := tr.m
    have fr := tr.ok0 hf
    have mq2 := tq2.m
    have fq2 := tq2.ok0 fr
    have gr := pr hf
    obtain ⟨sr, wr, zr, kr⟩ := gr
    have ha : (arrT []).size = 4 := rfl
    have := inT_le 1 a sa
    refine ⟨_, Wr.tfn _ _ _ a r.1 sa sr [] (fun i hi => absurd hi (Nat.not_lt_zero i)) wa wr, ?_, ?_⟩ <;> (simp only [ha, zap, zli, List.length]) <;> omega
  · rename_i h1
    rw [if_neg h1] at hf
    rw [has_no h1] at hf ⊢
    split
    · rename_i h2
      rw [if_pos h2] at hf
      have tq3 := has_tr (s := (⟨#[45]⟩ : ByteArray)) h
      have lq3 := has_lt (s := (⟨#[45]⟩ : ByteArray)) h h2
      generalize hasR S q1 (⟨#[45]⟩ : ByteArray) = q3 at tq3 lq3 hf ⊢
      have tq4 := must_tr (s := (⟨#[123]⟩ : ByteArray)) tq3.ok
      have lq4 := must_lt (s := (⟨#[123]⟩ : ByteArray)) tq3.ok
      generalize mustR S q3 (⟨#[123]⟩ : ByteArray) = q4 at tq4 lq4 hf ⊢
      have pr4 := ih (.namesL []) q4 tq4.ok
      have tr4 := hT (.namesL []) q4 tq4.ok
      generalize R (.namesL []) q4 = r4 at pr4 tr4 hf ⊢
      have tq5 := must_tr (s := (⟨#[125]⟩ : ByteArray)) tr4.ok
      have lq5 := must_lt (s := (⟨#[125]⟩ : ByteArray)) tr4.ok
      generalize mustR S r4.2 (⟨#[125]⟩ : ByteArray) = q5 at tq5 lq5 hf ⊢
      have tq6 := must_tr (s := (⟨#[45, 62]⟩ : ByteArray)) tq5.ok
      have lq6 := must_lt (s := (⟨#[45, 62]⟩ : ByteArray)) tq5.ok
      generalize mustR S q5 (⟨#[45, 62]⟩ : ByteArray) = q6 at tq6 lq6 hf ⊢
      have pr6 := ih (.typ) q6 tq6.ok
      have tr6 := hT (.typ) q6 tq6.ok
      generalize R (.typ) q6 = r6 at pr6 tr6 hf ⊢
      have mr6 := tr6.m
      have fr6 := tr6.ok0 hf
      have mq6 := tq6.m
      have fq6 := tq6.ok0 fr6
      have mq5 := tq5.m
      have fq5 := tq5.ok0 fq6
      have mr4 := tr4.m
      have fr4 := tr4.ok0 fq5
      have mq4 := tq4.m
      have fq4 := tq4.ok0 fr4
      have mq3 := tq3.m
      have fq3 := tq3.ok0 fq4
      have gq4 := lq4 fr4
      have gr4 := pr4 fq5
      have gq5 := lq5 fq6
      have gq6 := lq6 fr6
      have gr6 := pr6 hf
      obtain ⟨sr6, wr6, zr6, kr6⟩ := gr6
      obtain ⟨ps, e1, hp, kp⟩ := gr4
      rw [List.nil_append] at e1
      rw [e1]
      have ha := arrT_le hp
      have := inT_le 1 a sa
      refine ⟨_, Wr.tfn _ _ _ a r6.1 sa sr6 ps (fun i hi => (hp i hi).1) wa wr6, ?_, ?_⟩ <;> (simp only [zap, zli, List.length]) <;> omega
    · rename_i h2
      rw [if_neg h2] at hf
      rw [has_no h2] at hf ⊢
      exact ⟨sa, wa, za, by dsimp only; omega⟩
theorem typ_good (hT : ∀ nt q, Ok S q → Tr S q (R nt q).2) (ih : ∀ nt q, Ok S q → (R nt q).2.fk = 0 → Post S nt q (R nt q).1 (R nt q).2) (q : Rs) (h : Ok S q) (hf : (typS S R q).2.fk = 0) : G S q (typS S R q).2 0 (typS S R q).1 := by
  unfold typS at hf ⊢
  split
  · rename_i f
    rw [if_pos f] at hf
    split
    · rename_i g; rw [if_pos g] at hf; cases hf
    · rename_i g
      rw [if_neg g] at hf
      have hy : q.y < 200 := by simp at g; omega
      have o1 : Ok S { q with y := q.y + 1 } := ⟨h.size, h.e, h.x, by show q.y + 1 ≤ 200; omega, h.a, h.n, h.t, h.k, h.end_, h.nm⟩
      have e1 : M S { q with y := q.y + 1 } = M S q := rfl
      generalize ({ q with y := q.y + 1 } : Rs) = q0 at o1 e1 hf ⊢
      dsimp only at hf ⊢
      have p1 := ih .pair q0 o1
      have t1 := hT .pair q0 o1
      generalize R .pair q0 = r1 at p1 t1 hf ⊢
      have t2 := fn_tr (a := r1.1) hT (Tr.refl t1.ok)
      have m1 := t1.m
      obtain ⟨s1, w1, z1, k1⟩ := p1 (t2.ok0 hf)
      obtain ⟨s, w, z, k⟩ := fn_good hT ih r1.1 r1.2 s1 (s1.size + 100) t1.ok w1 z1 (Nat.le_refl _) hf
      refine ⟨s, w, z, ?_⟩
      show s.size + 100 + 100000 * M S (fnS S R r1.1 r1.2).2 ≤ _
      omega
  · rename_i f; rw [if_neg f] at hf; exact absurd ((okB_iff q).2 hf) f
theorem expr_good (hT : ∀ nt q, Ok S q → Tr S q (R nt q).2) (ih : ∀ nt q, Ok S q → (R nt q).2.fk = 0 → Post S nt q (R nt q).1 (R nt q).2) (q : Rs) (h : Ok S q) (hf : (exprS R q).2.fk = 0) : G S q (exprS R q).2 0 (exprS R q).1 := by
  unfold exprS at hf ⊢
  split
  · rename_i f
    rw [if_pos f] at hf
    split
    · rename_i g; rw [if_pos g] at hf; cases hf
    · rename_i g
      rw [if_neg g] at hf
      have hy : q.x < 200 := by simp at g; omega
      have o1 : Ok S { q with x := q.x + 1 } := ⟨h.size, h.e, by show q.x + 1 ≤ 200; omega, h.y, h.a, h.n, h.t, h.k, h.end_, h.nm⟩
      have e1 : M S { q with x := q.x + 1 } = M S q := rfl
      generalize ({ q with x := q.x + 1 } : Rs) = q0 at o1 e1 hf ⊢
      dsimp only at hf ⊢
      have p1 := ih .any q0 o1
      generalize R .any q0 = r1 at p1 hf ⊢
      obtain ⟨s1, w1, z1, k1⟩ := p1 hf
      refine ⟨s1, w1, z1, ?_⟩
      show s1.size + 100 + 100000 * M S r1.2 ≤ _
      omega
  · rename_i f; rw [if_neg f] at hf; exact absurd ((okB_iff q).2 hf) f
theorem pair_good (hT : ∀ nt q, Ok S q → Tr S q (R nt q).2) (ih : ∀ nt q, Ok S q → (R nt q).2.fk = 0 → Post S nt q (R nt q).1 (R nt q).2) (q : Rs) (h : Ok S q) (hf : (pairS S R q).2.fk = 0) : G S q (pairS S R q).2 0 (pairS S R q).1 := by
  unfold pairS at hf ⊢
  dsimp only at hf ⊢
  have pr1 := ih (.some) q h
  have tr1 := hT (.some) q h
  generalize R (.some) q = r1 at pr1 tr1 hf ⊢
  split
  · rename_i h1
    rw [if_pos h1] at hf
    have tq2 := has_tr (s := (⟨#[42]⟩ : ByteArray)) tr1.ok
    have lq2 := has_lt (s := (⟨#[42]⟩ : ByteArray)) tr1.ok h1
    generalize hasR S r1.2 (⟨#[42]⟩ : ByteArray) = q2 at tq2 lq2 hf ⊢
    have pr2 := ih (.pair) q2 tq2.ok
    have tr2 := hT (.pair) q2 tq2.ok
    generalize R (.pair) q2 = r2 at pr2 tr2 hf ⊢
    have mr2 := tr2.m
    have fr2 := tr2.ok0 hf
    have mq2 := tq2.m
    have fq2 := tq2.ok0 fr2
    have mr1 := tr1.m
    have fr1 := tr1.ok0 fq2
    have gr1 := pr1 fq2
    have gr2 := pr2 hf
    obtain ⟨sr1, wr1, zr1, kr1⟩ := gr1
    obtain ⟨sr2, wr2, zr2, kr2⟩ := gr2
    have := inT_le 2 r1.1 sr1
    have := inT_le 1 r2.1 sr2
    refine ⟨_, Wr.tpair _ _ _ r1.1 r2.1 sr1 sr2 wr1 wr2, ?_, ?_⟩ <;> (simp only [zap, zli, List.length]) <;> omega
  · rename_i h1
    rw [if_neg h1] at hf
    rw [has_no h1] at hf ⊢
    exact pr1 hf
theorem some_good (hT : ∀ nt q, Ok S q → Tr S q (R nt q).2) (ih : ∀ nt q, Ok S q → (R nt q).2.fk = 0 → Post S nt q (R nt q).1 (R nt q).2) (q : Rs) (h : Ok S q) (hf : (someS S R q).2.fk = 0) : G S q (someS S R q).2 0 (someS S R q).1 := by
  unfold someS at hf ⊢
  dsimp only at hf ⊢
  split
  · rename_i h1
    rw [if_pos h1] at hf
    have tq2 := has_tr (s := (⟨#[105, 110, 116]⟩ : ByteArray)) h
    have lq2 := has_lt (s := (⟨#[105, 110, 116]⟩ : ByteArray)) h h1
    generalize hasR S q (⟨#[105, 110, 116]⟩ : ByteArray) = q2 at tq2 lq2 hf ⊢
    have p := ih (.listL (.mk 24 q.a (⟨#[]⟩ : ByteArray) 0 [])) q2 tq2.ok hf
    obtain ⟨s, w, z, k⟩ := p _ 200 (Wr.tint _ _ _) (by decide) (by decide)
    exact ⟨s, w, z, by omega⟩
  · rename_i h1
    rw [if_neg h1] at hf
    rw [has_no h1] at hf ⊢
    split
    · rename_i h2
      rw [if_pos h2] at hf
      have tq2 := has_tr (s := (⟨#[98, 111, 111, 108]⟩ : ByteArray)) h
      have lq2 := has_lt (s := (⟨#[98, 111, 111, 108]⟩ : ByteArray)) h h2
      generalize hasR S q (⟨#[98, 111, 111, 108]⟩ : ByteArray) = q2 at tq2 lq2 hf ⊢
      have p := ih (.listL (.mk 25 q.a (⟨#[]⟩ : ByteArray) 0 [])) q2 tq2.ok hf
      obtain ⟨s, w, z, k⟩ := p _ 200 (Wr.tbool _ _ _) (by decide) (by decide)
      exact ⟨s, w, z, by omega⟩
    · rename_i h2
      rw [if_neg h2] at hf
      rw [has_no h2] at hf ⊢
      split
      · rename_i h3
        rw [if_pos h3] at hf
        have tq2 := has_tr (s := (⟨#[117, 110, 105, 116]⟩ : ByteArray)) h
        have lq2 := has_lt (s := (⟨#[117, 110, 105, 116]⟩ : ByteArray)) h h3
        generalize hasR S q (⟨#[117, 110, 105, 116]⟩ : ByteArray) = q2 at tq2 lq2 hf ⊢
        have p := ih (.listL (.mk 26 q.a (⟨#[]⟩ : ByteArray) 0 [])) q2 tq2.ok hf
        obtain ⟨s, w, z, k⟩ := p _ 200 (Wr.tunit _ _ _) (by decide) (by decide)
        exact ⟨s, w, z, by omega⟩
      · rename_i h3
        rw [if_neg h3] at hf
        rw [has_no h3] at hf ⊢
        split
        · rename_i h4
          rw [if_pos h4] at hf
          have tq2 := has_tr (s := (⟨#[40]⟩ : ByteArray)) h
          have lq2 := has_lt (s := (⟨#[40]⟩ : ByteArray)) h h4
          generalize hasR S q (⟨#[40]⟩ : ByteArray) = q2 at tq2 lq2 hf ⊢
          have pr := ih (.typ) q2 tq2.ok
          have tr := hT (.typ) q2 tq2.ok
          generalize R (.typ) q2 = r at pr tr hf ⊢
          have tq3 := must_tr (s := (⟨#[41]⟩ : ByteArray)) tr.ok
          have lq3 := must_lt (s := (⟨#[41]⟩ : ByteArray)) tr.ok
          generalize mustR S r.2 (⟨#[41]⟩ : ByteArray) = q3 at tq3 lq3 hf ⊢
          have t4 := hT (.listL r.1) q3 tq3.ok
          have m4 := t4.m
          have f4 := t4.ok0 hf
          have mq3 := tq3.m
          have fq3 := tq3.ok0 f4
          have mr := tr.m
          have fr := tr.ok0 fq3
          have mq2 := tq2.m
          have fq2 := tq2.ok0 fr
          have gr := pr fq3
          have gq3 := lq3 f4
          obtain ⟨s1, w1, z1, k1⟩ := gr
          obtain ⟨s, w, z, k⟩ := ih (.listL r.1) q3 tq3.ok hf s1 (s1.size + 100) w1 z1 (Nat.le_refl _)
          exact ⟨s, w, z, by omega⟩
        · rename_i h4
          rw [if_neg h4] at hf
          rw [has_no h4] at hf ⊢
          have t4 := hT (.listL nd0) (noR q) (no_tr h).ok
          exact (no_ok ((okB_iff _).2 (t4.ok0 hf))).elim

theorem opT_le {nm : ByteArray} {x y : Nd} {sx sy : ByteArray} (h : nm.size ≤ 2) : (opT nm x y sx sy).size ≤ sx.size + sy.size + 12 ∧ sx.size ≤ (opT nm x y sx sy).size := by
  have a1 := inT_le 2 x sx
  have a2 := inT_le 3 x sx
  have a3 := inT_le 4 x sx
  have b1 := inT_le 2 y sy
  have b2 := inT_le 4 y sy
  have b3 := inT_le 5 y sy
  unfold opT
  repeat' split
  all_goals (simp only [ByteArray.size_append, lz1]; omega)
theorem intT_le {n : Int} (h1 : -9223372036854775807 ≤ n) (h2 : n ≤ 9223372036854775807) : 0 < (intT n).size ∧ (intT n).size ≤ 30 := by
  unfold intT
  split
  · have := Show.dig_size (m := (-n).toNat) (by omega)
    simp only [ByteArray.size_append, lz2]; omega
  · have := Show.dig_size (m := n.toNat) (by omega)
    have := dig_pos n.toNat
    omega
theorem DL.append {a b : List Nd} {f g : List (ByteArray → ByteArray)} (h : DL a f) (k : DL b g) : DL (a ++ b) (f ++ g) := by
  induction h with
  | nil => exact k
  | cons h1 _ ih => exact .cons h1 ih
theorem pgF_append (f g : List (ByteArray → ByteArray)) (b : ByteArray) : pgF (f ++ g) b = pgF g (pgF f b) := by simp [pgF, List.foldl_append]

theorem listL_good (hT : ∀ nt q, Ok S q → Tr S q (R nt q).2) (ih : ∀ nt q, Ok S q → (R nt q).2.fk = 0 → Post S nt q (R nt q).1 (R nt q).2) (a : Nd) (q : Rs) (sa : ByteArray) (W : Nat) (h : Ok S q) (wa : Wr a sa) (za : 0 < sa.size) (ka : sa.size + 100 ≤ W) (hf : (listLS S R a q).2.fk = 0) : G S q (listLS S R a q).2 W (listLS S R a q).1 := by
  unfold listLS at hf ⊢
  dsimp only at hf ⊢
  split
  · rename_i h1
    rw [if_pos h1] at hf
    have ht := (isB_ok h1).2.2
    have tq2 := has_tr (s := (⟨#[108, 105, 115, 116]⟩ : ByteArray)) h
    have lq2 := has_lt (s := (⟨#[108, 105, 115, 116]⟩ : ByteArray)) h h1
    generalize hasR S q (⟨#[108, 105, 115, 116]⟩ : ByteArray) = q2 at tq2 lq2 hf ⊢
    have t4 := hT (.listL (.mk 27 a.a (⟨#[]⟩ : ByteArray) 0 [a])) q2 tq2.ok
    have p4 := fun W' s0 w0 z0 k0 => ih (.listL (.mk 27 a.a (⟨#[]⟩ : ByteArray) 0 [a])) q2 tq2.ok hf s0 W' w0 z0 k0
    have m4 := t4.m
    have f4 := t4.ok0 hf
    have mq2 := tq2.m
    have fq2 := tq2.ok0 f4
    have := inT_le 2 a sa
    obtain ⟨s, w, z, k⟩ := p4 (W + 100000 * (M S q - M S q2)) _ (Wr.tlist _ _ _ a sa wa) (by simp only [zap, zli, List.length]; omega) (by simp only [zap, zli, List.length]; omega)
    exact ⟨s, w, z, by omega⟩
  · rename_i h1
    rw [if_neg h1] at hf
    rw [has_no h1] at hf ⊢
    exact ⟨sa, wa, za, by dsimp only; omega⟩
theorem sumL_good (hT : ∀ nt q, Ok S q → Tr S q (R nt q).2) (ih : ∀ nt q, Ok S q → (R nt q).2.fk = 0 → Post S nt q (R nt q).1 (R nt q).2) (a : Nd) (q : Rs) (sa : ByteArray) (W : Nat) (h : Ok S q) (wa : Wr a sa) (za : 0 < sa.size) (ka : sa.size + 100 ≤ W) (hf : (sumLS S R a q).2.fk = 0) : G S q (sumLS S R a q).2 W (sumLS S R a q).1 := by
  unfold sumLS at hf ⊢
  dsimp only at hf ⊢
  split
  · rename_i h1
    rw [if_pos h1] at hf
    have ht := (isB_ok h1).2.2
    rw [ht] at hf ⊢
    have tq2 := has_tr (s := (⟨#[43]⟩ : ByteArray)) h
    have lq2 := has_lt (s := (⟨#[43]⟩ : ByteArray)) h h1
    generalize hasR S q (⟨#[43]⟩ : ByteArray) = q2 at tq2 lq2 hf ⊢
    have pr := ih (.mul) q2 tq2.ok
    have tr := hT (.mul) q2 tq2.ok
    generalize R (.mul) q2 = r at pr tr hf ⊢
    have t4 := hT (.sumL (two (⟨#[43]⟩ : ByteArray) a r.1)) r.2 tr.ok
    have p4 := fun W' s0 w0 z0 k0 => ih (.sumL (two (⟨#[43]⟩ : ByteArray) a r.1)) r.2 tr.ok hf s0 W' w0 z0 k0
    have m4 := t4.m
    have f4 := t4.ok0 hf
    have mr := tr.m
    have fr := tr.ok0 f4
    have mq2 := tq2.m
    have fq2 := tq2.ok0 fr
    have gr := pr f4
    obtain ⟨sr, wr, zr, kr⟩ := gr
    have ho := opT_le (nm := (⟨#[43]⟩ : ByteArray)) (x := a) (y := r.1) (sx := sa) (sy := sr) (by decide)
    obtain ⟨s, w, z, k⟩ := p4 (W + 100000 * (M S q - M S r.2)) _ (Wr.eop _ _ _ a r.1 sa sr (by decide) wa wr) (by omega) (by omega)
    exact ⟨s, w, z, by omega⟩
  · rename_i h1
    rw [if_neg h1] at hf
    rw [has_no h1] at hf ⊢
    split
    · rename_i h2
      rw [if_pos h2] at hf
      have ht := (isB_ok h2).2.2
      rw [ht] at hf ⊢
      have tq2 := has_tr (s := (⟨#[45]⟩ : ByteArray)) h
      have lq2 := has_lt (s := (⟨#[45]⟩ : ByteArray)) h h2
      generalize hasR S q (⟨#[45]⟩ : ByteArray) = q2 at tq2 lq2 hf ⊢
      have pr := ih (.mul) q2 tq2.ok
      have tr := hT (.mul) q2 tq2.ok
      generalize R (.mul) q2 = r at pr tr hf ⊢
      have t4 := hT (.sumL (two (⟨#[45]⟩ : ByteArray) a r.1)) r.2 tr.ok
      have p4 := fun W' s0 w0 z0 k0 => ih (.sumL (two (⟨#[45]⟩ : ByteArray) a r.1)) r.2 tr.ok hf s0 W' w0 z0 k0
      have m4 := t4.m
      have f4 := t4.ok0 hf
      have mr := tr.m
      have fr := tr.ok0 f4
      have mq2 := tq2.m
      have fq2 := tq2.ok0 fr
      have gr := pr f4
      obtain ⟨sr, wr, zr, kr⟩ := gr
      have ho := opT_le (nm := (⟨#[45]⟩ : ByteArray)) (x := a) (y := r.1) (sx := sa) (sy := sr) (by decide)
      obtain ⟨s, w, z, k⟩ := p4 (W + 100000 * (M S q - M S r.2)) _ (Wr.eop _ _ _ a r.1 sa sr (by decide) wa wr) (by omega) (by omega)
      exact ⟨s, w, z, by omega⟩
    · rename_i h2
      rw [if_neg h2] at hf
      rw [has_no h2] at hf ⊢
      exact ⟨sa, wa, za, by dsimp only; omega⟩
theorem mulL_good (hT : ∀ nt q, Ok S q → Tr S q (R nt q).2) (ih : ∀ nt q, Ok S q → (R nt q).2.fk = 0 → Post S nt q (R nt q).1 (R nt q).2) (a : Nd) (q : Rs) (sa : ByteArray) (W : Nat) (h : Ok S q) (wa : Wr a sa) (za : 0 < sa.size) (ka : sa.size + 100 ≤ W) (hf : (mulLS S R a q).2.fk = 0) : G S q (mulLS S R a q).2 W (mulLS S R a q).1 := by
  unfold mulLS at hf ⊢
  dsimp only at hf ⊢
  split
  · rename_i h1
    rw [if_pos h1] at hf
    have ht := (isB_ok h1).2.2
    have tq2 := has_tr (s := (⟨#[42]⟩ : ByteArray)) h
    have lq2 := has_lt (s := (⟨#[42]⟩ : ByteArray)) h h1
    generalize hasR S q (⟨#[42]⟩ : ByteArray) = q2 at tq2 lq2 hf ⊢
    have pr := ih (.app) q2 tq2.ok
    have tr := hT (.app) q2 tq2.ok
    generalize R (.app) q2 = r at pr tr hf ⊢
    have t4 := hT (.mulL (two (⟨#[42]⟩ : ByteArray) a r.1)) r.2 tr.ok
    have p4 := fun W' s0 w0 z0 k0 => ih (.mulL (two (⟨#[42]⟩ : ByteArray) a r.1)) r.2 tr.ok hf s0 W' w0 z0 k0
    have m4 := t4.m
    have f4 := t4.ok0 hf
    have mr := tr.m
    have fr := tr.ok0 f4
    have mq2 := tq2.m
    have fq2 := tq2.ok0 fr
    have gr := pr f4
    obtain ⟨sr, wr, zr, kr⟩ := gr
    have ho := opT_le (nm := (⟨#[42]⟩ : ByteArray)) (x := a) (y := r.1) (sx := sa) (sy := sr) (by decide)
    obtain ⟨s, w, z, k⟩ := p4 (W + 100000 * (M S q - M S r.2)) _ (Wr.eop _ _ _ a r.1 sa sr (by decide) wa wr) (by omega) (by omega)
    exact ⟨s, w, z, by omega⟩
  · rename_i h1
    rw [if_neg h1] at hf
    rw [has_no h1] at hf ⊢
    exact ⟨sa, wa, za, by dsimp only; omega⟩
theorem namesL_good (hT : ∀ nt q, Ok S q → Tr S q (R nt q).2) (ih : ∀ nt q, Ok S q → (R nt q).2.fk = 0 → Post S nt q (R nt q).1 (R nt q).2) (l : List Nd) (q : Rs) (h : Ok S q) (hf : (namesLS S R l q).2.fk = 0) : ∃ ps, (namesLS S R l q).1.ks = l ++ ps ∧ (∀ i, i < ps.length → 0 < (ps.getD i nd0).nm.size ∧ (ps.getD i nd0).nm.size ≤ 3000) ∧ ps.length + M S (namesLS S R l q).2 ≤ M S q := by
  unfold namesLS at hf ⊢
  dsimp only at hf ⊢
  have tr := name_tr (S := S) (q := q) h
  have lr := name_good (S := S) (q := q) h
  generalize nameR S q = r at tr lr hf ⊢
  split
  · rename_i h1
    rw [if_pos h1] at hf
    have tq1 := has_tr (s := (⟨#[44]⟩ : ByteArray)) tr.ok
    have lq1 := has_lt (s := (⟨#[44]⟩ : ByteArray)) tr.ok h1
    generalize hasR S r.2 (⟨#[44]⟩ : ByteArray) = q1 at tq1 lq1 hf ⊢
    have pr2 := ih (.namesL (l ++ [.mk 23 r.1.2 r.1.1 0 []])) q1 tq1.ok
    have tr2 := hT (.namesL (l ++ [.mk 23 r.1.2 r.1.1 0 []])) q1 tq1.ok
    generalize R (.namesL (l ++ [.mk 23 r.1.2 r.1.1 0 []])) q1 = r2 at pr2 tr2 hf ⊢
    have mr2 := tr2.m
    have fr2 := tr2.ok0 hf
    have mq1 := tq1.m
    have fq1 := tq1.ok0 fr2
    have mr := tr.m
    have fr := tr.ok0 fq1
    have gr := lr fq1
    have gr2 := pr2 hf
    obtain ⟨ps, e1, hp, kp⟩ := gr2
    refine ⟨.mk 23 r.1.2 r.1.1 0 [] :: ps, by rw [e1]; simp, fun i hi => ?_, by rw [List.length_cons]; omega⟩
    cases i with
    | zero => exact ⟨gr.1, gr.2.1⟩
    | succ i => exact hp i (by simpa using hi)
  · rename_i h1
    rw [if_neg h1] at hf
    rw [has_no h1] at hf ⊢
    dsimp only at hf ⊢
    have mr := tr.m
    have gr := lr hf
    refine ⟨[.mk 23 r.1.2 r.1.1 0 []], rfl, fun i hi => ?_, by rw [List.length_singleton]; omega⟩
    cases i with
    | zero => exact ⟨gr.1, gr.2.1⟩
    | succ i => exact absurd hi (by simp)
theorem param_good (hT : ∀ nt q, Ok S q → Tr S q (R nt q).2) (ih : ∀ nt q, Ok S q → (R nt q).2.fk = 0 → Post S nt q (R nt q).1 (R nt q).2) (sign : ByteArray) (q : Rs) (h : Ok S q) (hf : (paramS S R sign q).2.fk = 0) : FnP S q (paramS S R sign q).2 (paramS S R sign q).1 := by
  unfold paramS at hf ⊢
  dsimp only at hf ⊢
  have tr := name_tr (S := S) (q := q) h
  have lr := name_good (S := S) (q := q) h
  generalize nameR S q = r at tr lr hf ⊢
  split
  · rename_i h1
    rw [if_pos h1] at hf
    have pr2 := ih (.params sign false) r.2 tr.ok
    have tr2 := hT (.params sign false) r.2 tr.ok
    generalize R (.params sign false) r.2 = r2 at pr2 tr2 hf ⊢
    have mr2 := tr2.m
    have fr2 := tr2.ok0 hf
    have mr := tr.m
    have fr := tr.ok0 fr2
    have gr := lr fr2
    have gr2 := pr2 hf
    obtain ⟨⟨s2, w2, z2, k2⟩, _⟩ := gr2
    exact ⟨r.1.2, r.1.1, r2.1, s2, rfl, gr.1, w2, z2, by dsimp only; omega⟩
  · rename_i h1
    rw [if_neg h1] at hf
    exact absurd ((okB_iff _).2 hf) h1
theorem FnP.good {q q' : Rs} {t : Nd} (h : FnP S q q' t) : G S q q' 0 t := by
  obtain ⟨a, nx, z, sz, rfl, hn, wz, zz, k⟩ := h
  refine ⟨_, Wr.efn _ _ _ z sz hn wz, ?_, ?_⟩ <;> (simp only [zap, zli, List.length]) <;> omega
theorem params_good (hT : ∀ nt q, Ok S q → Tr S q (R nt q).2) (ih : ∀ nt q, Ok S q → (R nt q).2.fk = 0 → Post S nt q (R nt q).1 (R nt q).2) (sign : ByteArray) (first : Bool) (q : Rs) (h : Ok S q) (hf : (paramsS S R sign first q).2.fk = 0) :
    G S q (paramsS S R sign first q).2 0 (paramsS S R sign first q).1 ∧ (first = true → FnP S q (paramsS S R sign first q).2 (paramsS S R sign first q).1) := by
  unfold paramsS at hf ⊢
  split
  · rename_i h1
    rw [if_pos h1] at hf
    have p := param_good hT ih sign q h hf
    exact ⟨p.good, fun _ => p⟩
  · rename_i h1
    rw [if_neg h1] at hf
    refine ⟨?_, fun f => absurd f h1⟩
    split
    · rename_i h2
      rw [if_pos h2] at hf
      exact (param_good hT ih sign q h hf).good
    · rename_i h2
      rw [if_neg h2] at hf
      have tq2 := must_tr (s := sign) h
      have lq2 := must_lt (s := sign) h
      generalize mustR S q sign = q2 at tq2 lq2 hf ⊢
      have prz := ih (.expr) q2 tq2.ok
      have trz := hT (.expr) q2 tq2.ok
      generalize R (.expr) q2 = rz at prz trz hf ⊢
      have mrz := trz.m
      have frz := trz.ok0 hf
      have mq2 := tq2.m
      have fq2 := tq2.ok0 frz
      have gq2 := lq2 frz
      have grz := prz hf
      obtain ⟨srz, wrz, zrz, krz⟩ := grz
      exact ⟨srz, wrz, zrz, by omega⟩
theorem any_good (hT : ∀ nt q, Ok S q → Tr S q (R nt q).2) (ih : ∀ nt q, Ok S q → (R nt q).2.fk = 0 → Post S nt q (R nt q).1 (R nt q).2) (q : Rs) (h : Ok S q) (hf : (anyS S R q).2.fk = 0) : G S q (anyS S R q).2 0 (anyS S R q).1 := by
  unfold anyS at hf ⊢
  dsimp only at hf ⊢
  split
  · rename_i h1
    rw [if_pos h1] at hf
    have tq1 := has_tr (s := (⟨#[108, 101, 116]⟩ : ByteArray)) h
    have lq1 := has_lt (s := (⟨#[108, 101, 116]⟩ : ByteArray)) h h1
    generalize hasR S q (⟨#[108, 101, 116]⟩ : ByteArray) = q1 at tq1 lq1 hf ⊢
    have prz := ih (.letN q.a) q1 tq1.ok
    have trz := hT (.letN q.a) q1 tq1.ok
    generalize R (.letN q.a) q1 = rz at prz trz hf ⊢
    have mrz := trz.m
    have frz := trz.ok0 hf
    have mq1 := tq1.m
    have fq1 := tq1.ok0 frz
    have grz := prz hf
    obtain ⟨srz, wrz, zrz, krz⟩ := grz
    exact ⟨srz, wrz, zrz, by omega⟩
  · rename_i h1
    rw [if_neg h1] at hf
    rw [has_no h1] at hf ⊢
    split
    · rename_i h2
      rw [if_pos h2] at hf
      have tq1 := has_tr (s := (⟨#[102, 110]⟩ : ByteArray)) h
      have lq1 := has_lt (s := (⟨#[102, 110]⟩ : ByteArray)) h h2
      generalize hasR S q (⟨#[102, 110]⟩ : ByteArray) = q1 at tq1 lq1 hf ⊢
      have pr := ih (.params (⟨#[61, 62]⟩ : ByteArray) true) q1 tq1.ok
      have tr := hT (.params (⟨#[61, 62]⟩ : ByteArray) true) q1 tq1.ok
      generalize R (.params (⟨#[61, 62]⟩ : ByteArray) true) q1 = r at pr tr hf ⊢
      have mr := tr.m
      have fr := tr.ok0 hf
      have mq1 := tq1.m
      have fq1 := tq1.ok0 fr
      have gr := pr hf
      obtain ⟨a, nx, z, sz, e1, hn, wz, zz, k1⟩ := gr.2 rfl
      rw [e1]
      show G S q r.2 0 (.mk 7 q.a nx 0 [z])
      refine ⟨_, Wr.efn _ _ _ z sz hn wz, ?_, ?_⟩ <;> (simp only [zap, zli, List.length]) <;> omega
    · rename_i h2
      rw [if_neg h2] at hf
      rw [has_no h2] at hf ⊢
      split
      · rename_i h3
        rw [if_pos h3] at hf
        have tq1 := has_tr (s := (⟨#[105, 102]⟩ : ByteArray)) h
        have lq1 := has_lt (s := (⟨#[105, 102]⟩ : ByteArray)) h h3
        generalize hasR S q (⟨#[105, 102]⟩ : ByteArray) = q1 at tq1 lq1 hf ⊢
        have pra := ih (.expr) q1 tq1.ok
        have tra := hT (.expr) q1 tq1.ok
        generalize R (.expr) q1 = ra at pra tra hf ⊢
        have tqa := must_tr (s := (⟨#[116, 104, 101, 110]⟩ : ByteArray)) tra.ok
        have lqa := must_lt (s := (⟨#[116, 104, 101, 110]⟩ : ByteArray)) tra.ok
        generalize mustR S ra.2 (⟨#[116, 104, 101, 110]⟩ : ByteArray) = qa at tqa lqa hf ⊢
        have prb := ih (.expr) qa tqa.ok
        have trb := hT (.expr) qa tqa.ok
        generalize R (.expr) qa = rb at prb trb hf ⊢
        have tqb := must_tr (s := (⟨#[101, 108, 115, 101]⟩ : ByteArray)) trb.ok
        have lqb := must_lt (s := (⟨#[101, 108, 115, 101]⟩ : ByteArray)) trb.ok
        generalize mustR S rb.2 (⟨#[101, 108, 115, 101]⟩ : ByteArray) = qb at tqb lqb hf ⊢
        have prc := ih (.expr) qb tqb.ok
        have trc := hT (.expr) qb tqb.ok
        generalize R (.expr) qb = rc at prc trc hf ⊢
        have mrc := trc.m
        have frc := trc.ok0 hf
        have mqb := tqb.m
        have fqb := tqb.ok0 frc
        have mrb := trb.m
        have frb := trb.ok0 fqb
        have mqa := tqa.m
        have fqa := tqa.ok0 frb
        have mra := tra.m
        have fra := tra.ok0 fqa
        have mq1 := tq1.m
        have fq1 := tq1.ok0 fra
        have gra := pra fqa
        have gqa := lqa frb
        have grb := prb fqb
        have gqb := lqb frc
        have grc := prc hf
        obtain ⟨sra, wra, zra, kra⟩ := gra
        obtain ⟨srb, wrb, zrb, krb⟩ := grb
        obtain ⟨src, wrc, zrc, krc⟩ := grc
        refine ⟨_, Wr.eif _ _ _ ra.1 rb.1 rc.1 sra srb src wra wrb wrc, ?_, ?_⟩ <;> (simp only [zap, zli, List.length]) <;> omega
      · rename_i h3
        rw [if_neg h3] at hf
        rw [has_no h3] at hf ⊢
        split
        · rename_i h4
          rw [if_pos h4] at hf
          have tq1 := has_tr (s := (⟨#[99, 97, 115, 101]⟩ : ByteArray)) h
          have lq1 := has_lt (s := (⟨#[99, 97, 115, 101]⟩ : ByteArray)) h h4
          generalize hasR S q (⟨#[99, 97, 115, 101]⟩ : ByteArray) = q1 at tq1 lq1 hf ⊢
          have prz := ih (.cases q.a) q1 tq1.ok
          have trz := hT (.cases q.a) q1 tq1.ok
          generalize R (.cases q.a) q1 = rz at prz trz hf ⊢
          have mrz := trz.m
          have frz := trz.ok0 hf
          have mq1 := tq1.m
          have fq1 := tq1.ok0 frz
          have grz := prz hf
          obtain ⟨srz, wrz, zrz, krz⟩ := grz
          exact ⟨srz, wrz, zrz, by omega⟩
        · rename_i h4
          rw [if_neg h4] at hf
          rw [has_no h4] at hf ⊢
          split
          · rename_i h5
            rw [if_pos h5] at hf
            have prz := ih (.handle q.a) q h
            have trz := hT (.handle q.a) q h
            generalize R (.handle q.a) q = rz at prz trz hf ⊢
            have mrz := trz.m
            have frz := trz.ok0 hf
            have grz := prz hf
            obtain ⟨srz, wrz, zrz, krz⟩ := grz
            exact ⟨srz, wrz, zrz, by omega⟩
          · rename_i h5
            rw [if_neg h5] at hf
            split
            · rename_i h6
              rw [if_pos h6] at hf
              have prz := ih (.handle q.a) q h
              have trz := hT (.handle q.a) q h
              generalize R (.handle q.a) q = rz at prz trz hf ⊢
              have mrz := trz.m
              have frz := trz.ok0 hf
              have grz := prz hf
              obtain ⟨srz, wrz, zrz, krz⟩ := grz
              exact ⟨srz, wrz, zrz, by omega⟩
            · rename_i h6
              rw [if_neg h6] at hf
              have pr := ih (.comp) q h
              have tr := hT (.comp) q h
              generalize R (.comp) q = r at pr tr hf ⊢
              split
              · rename_i h7
                rw [if_pos h7] at hf
                have tq5 := has_tr (s := (⟨#[59]⟩ : ByteArray)) tr.ok
                have lq5 := has_lt (s := (⟨#[59]⟩ : ByteArray)) tr.ok h7
                generalize hasR S r.2 (⟨#[59]⟩ : ByteArray) = q5 at tq5 lq5 hf ⊢
                have pr2 := ih (.expr) q5 tq5.ok
                have tr2 := hT (.expr) q5 tq5.ok
                generalize R (.expr) q5 = r2 at pr2 tr2 hf ⊢
                have mr2 := tr2.m
                have fr2 := tr2.ok0 hf
                have mq5 := tq5.m
                have fq5 := tq5.ok0 fr2
                have mr := tr.m
                have fr := tr.ok0 fq5
                have gr := pr fq5
                have gr2 := pr2 hf
                obtain ⟨sr, wr, zr, kr⟩ := gr
                obtain ⟨sr2, wr2, zr2, kr2⟩ := gr2
                have := inT_le 1 r.1 sr
                refine ⟨_, Wr.eseq _ _ _ r.1 r2.1 sr sr2 wr wr2, ?_, ?_⟩ <;> (simp only [zap, zli, List.length]) <;> omega
              · rename_i h7
                rw [if_neg h7] at hf
                rw [has_no h7] at hf ⊢
                have mr := tr.m
                have fr := tr.ok0 hf
                have gr := pr hf
                obtain ⟨sr, wr, zr, kr⟩ := gr
                exact ⟨sr, wr, zr, by omega⟩
theorem let1_good (hT : ∀ nt q, Ok S q → Tr S q (R nt q).2) (ih : ∀ nt q, Ok S q → (R nt q).2.fk = 0 → Post S nt q (R nt q).1 (R nt q).2) (at_ : Nat) (q : Rs) (h : Ok S q) (hf : (letT S R at_ 1 true q).2.fk = 0) : G S q (letT S R at_ 1 true q).2 0 (letT S R at_ 1 true q).1 := by
  unfold letT at hf ⊢
  dsimp only at hf ⊢
  have tr := name_tr (S := S) (q := q) h
  have lr := name_good (S := S) (q := q) h
  generalize nameR S q = r at tr lr hf ⊢
  have pr2 := ih (.params (⟨#[61]⟩ : ByteArray) true) r.2 tr.ok
  have tr2 := hT (.params (⟨#[61]⟩ : ByteArray) true) r.2 tr.ok
  generalize R (.params (⟨#[61]⟩ : ByteArray) true) r.2 = r2 at pr2 tr2 hf ⊢
  have tq3 := must_tr (s := (⟨#[105, 110]⟩ : ByteArray)) tr2.ok
  have lq3 := must_lt (s := (⟨#[105, 110]⟩ : ByteArray)) tr2.ok
  generalize mustR S r2.2 (⟨#[105, 110]⟩ : ByteArray) = q3 at tq3 lq3 hf ⊢
  have pr4 := ih (.expr) q3 tq3.ok
  have tr4 := hT (.expr) q3 tq3.ok
  generalize R (.expr) q3 = r4 at pr4 tr4 hf ⊢
  have mr4 := tr4.m
  have fr4 := tr4.ok0 hf
  have mq3 := tq3.m
  have fq3 := tq3.ok0 fr4
  have mr2 := tr2.m
  have fr2 := tr2.ok0 fq3
  have mr := tr.m
  have fr := tr.ok0 fr2
  have gr := lr fr2
  have gr2 := pr2 fq3
  have gq3 := lq3 fr4
  have gr4 := pr4 hf
  obtain ⟨sr4, wr4, zr4, kr4⟩ := gr4
  obtain ⟨fa, fx, z, sz, e1, hn, wz, zz, k1⟩ := gr2.2 rfl
  rw [e1]
  refine ⟨_, Wr.elet1 _ _ _ _ _ z r4.1 sz sr4 gr.1 hn wz wr4, ?_, ?_⟩ <;> (simp only [zap, zli, List.length]) <;> omega
theorem let0_good (hT : ∀ nt q, Ok S q → Tr S q (R nt q).2) (ih : ∀ nt q, Ok S q → (R nt q).2.fk = 0 → Post S nt q (R nt q).1 (R nt q).2) (at_ : Nat) (q : Rs) (h : Ok S q) (hf : (letT S R at_ 0 false q).2.fk = 0) : G S q (letT S R at_ 0 false q).2 0 (letT S R at_ 0 false q).1 := by
  unfold letT at hf ⊢
  dsimp only at hf ⊢
  have tr := name_tr (S := S) (q := q) h
  have lr := name_good (S := S) (q := q) h
  generalize nameR S q = r at tr lr hf ⊢
  have pr2 := ih (.params (⟨#[61]⟩ : ByteArray) false) r.2 tr.ok
  have tr2 := hT (.params (⟨#[61]⟩ : ByteArray) false) r.2 tr.ok
  generalize R (.params (⟨#[61]⟩ : ByteArray) false) r.2 = r2 at pr2 tr2 hf ⊢
  have tq3 := must_tr (s := (⟨#[105, 110]⟩ : ByteArray)) tr2.ok
  have lq3 := must_lt (s := (⟨#[105, 110]⟩ : ByteArray)) tr2.ok
  generalize mustR S r2.2 (⟨#[105, 110]⟩ : ByteArray) = q3 at tq3 lq3 hf ⊢
  have pr4 := ih (.expr) q3 tq3.ok
  have tr4 := hT (.expr) q3 tq3.ok
  generalize R (.expr) q3 = r4 at pr4 tr4 hf ⊢
  have mr4 := tr4.m
  have fr4 := tr4.ok0 hf
  have mq3 := tq3.m
  have fq3 := tq3.ok0 fr4
  have mr2 := tr2.m
  have fr2 := tr2.ok0 fq3
  have mr := tr.m
  have fr := tr.ok0 fr2
  have gr := lr fr2
  have gr2 := pr2 fq3
  have gq3 := lq3 fr4
  have gr4 := pr4 hf
  obtain ⟨sr4, wr4, zr4, kr4⟩ := gr4
  obtain ⟨⟨s2, w2, z2, k2⟩, _⟩ := gr2
  refine ⟨_, Wr.elet0 _ _ r2.1 r4.1 s2 sr4 gr.1 w2 wr4, ?_, ?_⟩ <;> (simp only [zap, zli, List.length]) <;> omega
theorem G.back {q q1 q' : Rs} {W : Nat} {t : Nd} (h : G S q1 q' W t) (m : M S q1 ≤ M S q) : G S q q' W t := by
  obtain ⟨s, w, z, k⟩ := h
  exact ⟨s, w, z, by omega⟩
theorem let_good (hT : ∀ nt q, Ok S q → Tr S q (R nt q).2) (ih : ∀ nt q, Ok S q → (R nt q).2.fk = 0 → Post S nt q (R nt q).1 (R nt q).2) (at_ : Nat) (q : Rs) (h : Ok S q) (hf : (letS S R at_ q).2.fk = 0) : G S q (letS S R at_ q).2 0 (letS S R at_ q).1 := by
  unfold letS at hf ⊢
  dsimp only at hf ⊢
  have t := has_tr (s := (⟨#[114, 101, 99]⟩ : ByteArray)) h
  split
  · rename_i h1
    rw [if_pos h1] at hf
    exact (let1_good hT ih at_ _ t.ok hf).back t.m
  · rename_i h1
    rw [if_neg h1] at hf
    exact (let0_good hT ih at_ _ t.ok hf).back t.m
theorem cases_good (hT : ∀ nt q, Ok S q → Tr S q (R nt q).2) (ih : ∀ nt q, Ok S q → (R nt q).2.fk = 0 → Post S nt q (R nt q).1 (R nt q).2) (at_ : Nat) (q : Rs) (h : Ok S q) (hf : (casesS S R at_ q).2.fk = 0) : G S q (casesS S R at_ q).2 0 (casesS S R at_ q).1 := by
  unfold casesS at hf ⊢
  dsimp only at hf ⊢
  have pr := ih (.expr) q h
  have tr := hT (.expr) q h
  generalize R (.expr) q = r at pr tr hf ⊢
  have tq1 := must_tr (s := (⟨#[111, 102]⟩ : ByteArray)) tr.ok
  have lq1 := must_lt (s := (⟨#[111, 102]⟩ : ByteArray)) tr.ok
  generalize mustR S r.2 (⟨#[111, 102]⟩ : ByteArray) = q1 at tq1 lq1 hf ⊢
  have tq2 := must_tr (s := (⟨#[91]⟩ : ByteArray)) tq1.ok
  have lq2 := must_lt (s := (⟨#[91]⟩ : ByteArray)) tq1.ok
  generalize mustR S q1 (⟨#[91]⟩ : ByteArray) = q2 at tq2 lq2 hf ⊢
  have tq3 := must_tr (s := (⟨#[93]⟩ : ByteArray)) tq2.ok
  have lq3 := must_lt (s := (⟨#[93]⟩ : ByteArray)) tq2.ok
  generalize mustR S q2 (⟨#[93]⟩ : ByteArray) = q3 at tq3 lq3 hf ⊢
  have tq4 := must_tr (s := (⟨#[61, 62]⟩ : ByteArray)) tq3.ok
  have lq4 := must_lt (s := (⟨#[61, 62]⟩ : ByteArray)) tq3.ok
  generalize mustR S q3 (⟨#[61, 62]⟩ : ByteArray) = q4 at tq4 lq4 hf ⊢
  have pr5 := ih (.expr) q4 tq4.ok
  have tr5 := hT (.expr) q4 tq4.ok
  generalize R (.expr) q4 = r5 at pr5 tr5 hf ⊢
  have tq6 := must_tr (s := (⟨#[124]⟩ : ByteArray)) tr5.ok
  have lq6 := must_lt (s := (⟨#[124]⟩ : ByteArray)) tr5.ok
  generalize mustR S r5.2 (⟨#[124]⟩ : ByteArray) = q6 at tq6 lq6 hf ⊢
  have tr7 := name_tr (S := S) (q := q6) tq6.ok
  have lr7 := name_good (S := S) (q := q6) tq6.ok
  generalize nameR S q6 = r7 at tr7 lr7 hf ⊢
  have tq8 := must_tr (s := (⟨#[58, 58]⟩ : ByteArray)) tr7.ok
  have lq8 := must_lt (s := (⟨#[58, 58]⟩ : ByteArray)) tr7.ok
  generalize mustR S r7.2 (⟨#[58, 58]⟩ : ByteArray) = q8 at tq8 lq8 hf ⊢
  have tr9 := name_tr (S := S) (q := q8) tq8.ok
  have lr9 := name_good (S := S) (q := q8) tq8.ok
  generalize nameR S q8 = r9 at tr9 lr9 hf ⊢
  have tq10 := must_tr (s := (⟨#[61, 62]⟩ : ByteArray)) tr9.ok
  have lq10 := must_lt (s := (⟨#[61, 62]⟩ : ByteArray)) tr9.ok
  generalize mustR S r9.2 (⟨#[61, 62]⟩ : ByteArray) = q10 at tq10 lq10 hf ⊢
  have pr11 := ih (.expr) q10 tq10.ok
  have tr11 := hT (.expr) q10 tq10.ok
  generalize R (.expr) q10 = r11 at pr11 tr11 hf ⊢
  have tq12 := must_tr (s := (⟨#[101, 110, 100]⟩ : ByteArray)) tr11.ok
  have lq12 := must_lt (s := (⟨#[101, 110, 100]⟩ : ByteArray)) tr11.ok
  generalize mustR S r11.2 (⟨#[101, 110, 100]⟩ : ByteArray) = q12 at tq12 lq12 hf ⊢
  have mq12 := tq12.m
  have fq12 := tq12.ok0 hf
  have mr11 := tr11.m
  have fr11 := tr11.ok0 fq12
  have mq10 := tq10.m
  have fq10 := tq10.ok0 fr11
  have mr9 := tr9.m
  have fr9 := tr9.ok0 fq10
  have mq8 := tq8.m
  have fq8 := tq8.ok0 fr9
  have mr7 := tr7.m
  have fr7 := tr7.ok0 fq8
  have mq6 := tq6.m
  have fq6 := tq6.ok0 fr7
  have mr5 := tr5.m
  have fr5 := tr5.ok0 fq6
  have mq4 := tq4.m
  have fq4 := tq4.ok0 fr5
  have mq3 := tq3.m
  have fq3 := tq3.ok0 fq4
  have mq2 := tq2.m
  have fq2 := tq2.ok0 fq3
  have mq1 := tq1.m
  have fq1 := tq1.ok0 fq2
  have mr := tr.m
  have fr := tr.ok0 fq1
  have gr := pr fq1
  have gq1 := lq1 fq2
  have gq2 := lq2 fq3
  have gq3 := lq3 fq4
  have gq4 := lq4 fr5
  have gr5 := pr5 fq6
  have gq6 := lq6 fr7
  have gr7 := lr7 fq8
  have gq8 := lq8 fr9
  have gr9 := lr9 fq10
  have gq10 := lq10 fr11
  have gr11 := pr11 fq12
  have gq12 := lq12 hf
  obtain ⟨sr, wr, zr, kr⟩ := gr
  obtain ⟨sr5, wr5, zr5, kr5⟩ := gr5
  obtain ⟨sr11, wr11, zr11, kr11⟩ := gr11
  have n7 : (Nd.mk 23 r7.1.2 r7.1.1 0 []).nm = r7.1.1 := rfl
  have n9 : (Nd.mk 23 r9.1.2 r9.1.1 0 []).nm = r9.1.1 := rfl
  refine ⟨_, Wr.ecase _ _ _ r.1 r5.1 (.mk 23 r7.1.2 r7.1.1 0 []) (.mk 23 r9.1.2 r9.1.1 0 []) r11.1 sr sr5 sr11 gr7.1 gr9.1 wr wr5 wr11, ?_, ?_⟩ <;> (simp only [n7, n9, zap, zli, List.length]) <;> omega
theorem hand0_good (hT : ∀ nt q, Ok S q → Tr S q (R nt q).2) (ih : ∀ nt q, Ok S q → (R nt q).2.fk = 0 → Post S nt q (R nt q).1 (R nt q).2) (at_ : Nat) (q : Rs) (h : Ok S q) (hf : (handT S R at_ 0 q).2.fk = 0) : G S q (handT S R at_ 0 q).2 0 (handT S R at_ 0 q).1 := by
  unfold handT at hf ⊢
  dsimp only at hf ⊢
  have pr := ih (.expr) q h
  have tr := hT (.expr) q h
  generalize R (.expr) q = r at pr tr hf ⊢
  have tq2 := must_tr (s := (⟨#[119, 105, 116, 104]⟩ : ByteArray)) tr.ok
  have lq2 := must_lt (s := (⟨#[119, 105, 116, 104]⟩ : ByteArray)) tr.ok
  generalize mustR S r.2 (⟨#[119, 105, 116, 104]⟩ : ByteArray) = q2 at tq2 lq2 hf ⊢
  have tq3 := must_tr (s := (⟨#[123]⟩ : ByteArray)) tq2.ok
  have lq3 := must_lt (s := (⟨#[123]⟩ : ByteArray)) tq2.ok
  generalize mustR S q2 (⟨#[123]⟩ : ByteArray) = q3 at tq3 lq3 hf ⊢
  have tq4 := must_tr (s := (⟨#[114, 101, 116, 117, 114, 110]⟩ : ByteArray)) tq3.ok
  have lq4 := must_lt (s := (⟨#[114, 101, 116, 117, 114, 110]⟩ : ByteArray)) tq3.ok
  generalize mustR S q3 (⟨#[114, 101, 116, 117, 114, 110]⟩ : ByteArray) = q4 at tq4 lq4 hf ⊢
  have tr5 := name_tr (S := S) (q := q4) tq4.ok
  have lr5 := name_good (S := S) (q := q4) tq4.ok
  generalize nameR S q4 = r5 at tr5 lr5 hf ⊢
  have tq6 := must_tr (s := (⟨#[61, 62]⟩ : ByteArray)) tr5.ok
  have lq6 := must_lt (s := (⟨#[61, 62]⟩ : ByteArray)) tr5.ok
  generalize mustR S r5.2 (⟨#[61, 62]⟩ : ByteArray) = q6 at tq6 lq6 hf ⊢
  have pr7 := ih (.expr) q6 tq6.ok
  have tr7 := hT (.expr) q6 tq6.ok
  generalize R (.expr) q6 = r7 at pr7 tr7 hf ⊢
  have pr8 := ih (.handL [r.1, .mk 21 q3.a r5.1.1 0 [r7.1]]) r7.2 tr7.ok
  have tr8 := hT (.handL [r.1, .mk 21 q3.a r5.1.1 0 [r7.1]]) r7.2 tr7.ok
  generalize R (.handL [r.1, .mk 21 q3.a r5.1.1 0 [r7.1]]) r7.2 = r8 at pr8 tr8 hf ⊢
  have tq9 := must_tr (s := (⟨#[125]⟩ : ByteArray)) tr8.ok
  have lq9 := must_lt (s := (⟨#[125]⟩ : ByteArray)) tr8.ok
  generalize mustR S r8.2 (⟨#[125]⟩ : ByteArray) = q9 at tq9 lq9 hf ⊢
  have mq9 := tq9.m
  have fq9 := tq9.ok0 hf
  have mr8 := tr8.m
  have fr8 := tr8.ok0 fq9
  have mr7 := tr7.m
  have fr7 := tr7.ok0 fr8
  have mq6 := tq6.m
  have fq6 := tq6.ok0 fr7
  have mr5 := tr5.m
  have fr5 := tr5.ok0 fq6
  have mq4 := tq4.m
  have fq4 := tq4.ok0 fr5
  have mq3 := tq3.m
  have fq3 := tq3.ok0 fq4
  have mq2 := tq2.m
  have fq2 := tq2.ok0 fq3
  have mr := tr.m
  have fr := tr.ok0 fq2
  have gr := pr fq2
  have gq2 := lq2 fq3
  have gq3 := lq3 fq4
  have gq4 := lq4 fr5
  have gr5 := lr5 fq6
  have gq6 := lq6 fr7
  have gr7 := pr7 fr8
  have gr8 := pr8 fq9
  have gq9 := lq9 hf
  obtain ⟨sr, wr, zr, kr⟩ := gr
  obtain ⟨sr7, wr7, zr7, kr7⟩ := gr7
  obtain ⟨cs, ss, e1, hl, hc, hw, kb⟩ := gr8
  rw [e1]
  have n7 : (Nd.mk 21 q3.a r5.1.1 0 [r7.1]).nm = r5.1.1 := rfl
  refine ⟨_, Wr.ehandle _ _ _ r.1 (.mk 21 q3.a r5.1.1 0 [r7.1]) sr sr7 cs ss (by decide) gr5.1 rfl hl hc wr wr7 hw, ?_, ?_⟩
  · simp only [zap, zli, List.length]; omega
  · rw [ByteArray.size_append]
    refine Nat.le_trans (Nat.add_le_add_right (Nat.add_le_add_right (Nat.add_le_add_right (Nat.le_sub_of_add_le (kb _)) _) _) _) ?_
    rw [if_neg (by decide)]
    simp only [n7, zap, zli, List.length]; omega
theorem hand1_good (hT : ∀ nt q, Ok S q → Tr S q (R nt q).2) (ih : ∀ nt q, Ok S q → (R nt q).2.fk = 0 → Post S nt q (R nt q).1 (R nt q).2) (at_ : Nat) (q : Rs) (h : Ok S q) (hf : (handT S R at_ 1 q).2.fk = 0) : G S q (handT S R at_ 1 q).2 0 (handT S R at_ 1 q).1 := by
  unfold handT at hf ⊢
  dsimp only at hf ⊢
  have pr := ih (.expr) q h
  have tr := hT (.expr) q h
  generalize R (.expr) q = r at pr tr hf ⊢
  have tq2 := must_tr (s := (⟨#[119, 105, 116, 104]⟩ : ByteArray)) tr.ok
  have lq2 := must_lt (s := (⟨#[119, 105, 116, 104]⟩ : ByteArray)) tr.ok
  generalize mustR S r.2 (⟨#[119, 105, 116, 104]⟩ : ByteArray) = q2 at tq2 lq2 hf ⊢
  have tq3 := must_tr (s := (⟨#[123]⟩ : ByteArray)) tq2.ok
  have lq3 := must_lt (s := (⟨#[123]⟩ : ByteArray)) tq2.ok
  generalize mustR S q2 (⟨#[123]⟩ : ByteArray) = q3 at tq3 lq3 hf ⊢
  have tq4 := must_tr (s := (⟨#[114, 101, 116, 117, 114, 110]⟩ : ByteArray)) tq3.ok
  have lq4 := must_lt (s := (⟨#[114, 101, 116, 117, 114, 110]⟩ : ByteArray)) tq3.ok
  generalize mustR S q3 (⟨#[114, 101, 116, 117, 114, 110]⟩ : ByteArray) = q4 at tq4 lq4 hf ⊢
  have tr5 := name_tr (S := S) (q := q4) tq4.ok
  have lr5 := name_good (S := S) (q := q4) tq4.ok
  generalize nameR S q4 = r5 at tr5 lr5 hf ⊢
  have tq6 := must_tr (s := (⟨#[61, 62]⟩ : ByteArray)) tr5.ok
  have lq6 := must_lt (s := (⟨#[61, 62]⟩ : ByteArray)) tr5.ok
  generalize mustR S r5.2 (⟨#[61, 62]⟩ : ByteArray) = q6 at tq6 lq6 hf ⊢
  have pr7 := ih (.expr) q6 tq6.ok
  have tr7 := hT (.expr) q6 tq6.ok
  generalize R (.expr) q6 = r7 at pr7 tr7 hf ⊢
  have pr8 := ih (.handL [r.1, .mk 21 q3.a r5.1.1 0 [r7.1]]) r7.2 tr7.ok
  have tr8 := hT (.handL [r.1, .mk 21 q3.a r5.1.1 0 [r7.1]]) r7.2 tr7.ok
  generalize R (.handL [r.1, .mk 21 q3.a r5.1.1 0 [r7.1]]) r7.2 = r8 at pr8 tr8 hf ⊢
  have tq9 := must_tr (s := (⟨#[125]⟩ : ByteArray)) tr8.ok
  have lq9 := must_lt (s := (⟨#[125]⟩ : ByteArray)) tr8.ok
  generalize mustR S r8.2 (⟨#[125]⟩ : ByteArray) = q9 at tq9 lq9 hf ⊢
  have mq9 := tq9.m
  have fq9 := tq9.ok0 hf
  have mr8 := tr8.m
  have fr8 := tr8.ok0 fq9
  have mr7 := tr7.m
  have fr7 := tr7.ok0 fr8
  have mq6 := tq6.m
  have fq6 := tq6.ok0 fr7
  have mr5 := tr5.m
  have fr5 := tr5.ok0 fq6
  have mq4 := tq4.m
  have fq4 := tq4.ok0 fr5
  have mq3 := tq3.m
  have fq3 := tq3.ok0 fq4
  have mq2 := tq2.m
  have fq2 := tq2.ok0 fq3
  have mr := tr.m
  have fr := tr.ok0 fq2
  have gr := pr fq2
  have gq2 := lq2 fq3
  have gq3 := lq3 fq4
  have gq4 := lq4 fr5
  have gr5 := lr5 fq6
  have gq6 := lq6 fr7
  have gr7 := pr7 fr8
  have gr8 := pr8 fq9
  have gq9 := lq9 hf
  obtain ⟨sr, wr, zr, kr⟩ := gr
  obtain ⟨sr7, wr7, zr7, kr7⟩ := gr7
  obtain ⟨cs, ss, e1, hl, hc, hw, kb⟩ := gr8
  rw [e1]
  have n7 : (Nd.mk 21 q3.a r5.1.1 0 [r7.1]).nm = r5.1.1 := rfl
  refine ⟨_, Wr.ehandle _ _ _ r.1 (.mk 21 q3.a r5.1.1 0 [r7.1]) sr sr7 cs ss (by decide) gr5.1 rfl hl hc wr wr7 hw, ?_, ?_⟩
  · simp only [zap, zli, List.length]; omega
  · rw [ByteArray.size_append]
    refine Nat.le_trans (Nat.add_le_add_right (Nat.add_le_add_right (Nat.add_le_add_right (Nat.le_sub_of_add_le (kb _)) _) _) _) ?_
    rw [if_pos rfl]
    simp only [n7, zap, zli, List.length]; omega
theorem handle_good (hT : ∀ nt q, Ok S q → Tr S q (R nt q).2) (ih : ∀ nt q, Ok S q → (R nt q).2.fk = 0 → Post S nt q (R nt q).1 (R nt q).2) (at_ : Nat) (q : Rs) (h : Ok S q) (hf : (handleS S R at_ q).2.fk = 0) : G S q (handleS S R at_ q).2 0 (handleS S R at_ q).1 := by
  unfold handleS at hf ⊢
  dsimp only at hf ⊢
  have t := has_tr (s := (⟨#[104, 97, 110, 100, 108, 101]⟩ : ByteArray)) h
  split
  · rename_i h1
    rw [if_pos h1] at hf
    exact (hand0_good hT ih at_ _ t.ok hf).back t.m
  · rename_i h1
    rw [if_neg h1] at hf
    have t2 := bNext t
    exact (hand1_good hT ih at_ _ t2.ok hf).back t2.m
theorem handL_good (hT : ∀ nt q, Ok S q → Tr S q (R nt q).2) (ih : ∀ nt q, Ok S q → (R nt q).2.fk = 0 → Post S nt q (R nt q).1 (R nt q).2) (l : List Nd) (q : Rs) (h : Ok S q) (hf : (handLS S R l q).2.fk = 0) : ∃ cs ss, ((handLS S R l q).1).ks = l ++ cs ∧ ss.length = cs.length ∧ (∀ i, i < cs.length → (cs.getD i nd0).ks.length = 3 ∧ 0 < (cs.getD i nd0).nm.size ∧ 0 < ((cs.getD i nd0).ks.getD 0 nd0).nm.size ∧ 0 < ((cs.getD i nd0).ks.getD 1 nd0).nm.size) ∧ (∀ i, i < cs.length → Wr ((cs.getD i nd0).ks.getD 2 nd0) (ss.getD i (⟨#[]⟩ : ByteArray))) ∧ ∀ b, (clT cs ss b).size + 100000 * M S ((handLS S R l q).2) ≤ b.size + 100000 * M S q := by
  unfold handLS at hf ⊢
  dsimp only at hf ⊢
  split
  · rename_i h1
    rw [if_pos h1] at hf
    have tq1 := has_tr (s := (⟨#[124]⟩ : ByteArray)) h
    have lq1 := has_lt (s := (⟨#[124]⟩ : ByteArray)) h h1
    generalize hasR S q (⟨#[124]⟩ : ByteArray) = q1 at tq1 lq1 hf ⊢
    have tr2 := name_tr (S := S) (q := q1) tq1.ok
    have lr2 := name_good (S := S) (q := q1) tq1.ok
    generalize nameR S q1 = r2 at tr2 lr2 hf ⊢
    have tr3 := name_tr (S := S) (q := r2.2) tr2.ok
    have lr3 := name_good (S := S) (q := r2.2) tr2.ok
    generalize nameR S r2.2 = r3 at tr3 lr3 hf ⊢
    have tr4 := name_tr (S := S) (q := r3.2) tr3.ok
    have lr4 := name_good (S := S) (q := r3.2) tr3.ok
    generalize nameR S r3.2 = r4 at tr4 lr4 hf ⊢
    have tq5 := must_tr (s := (⟨#[61, 62]⟩ : ByteArray)) tr4.ok
    have lq5 := must_lt (s := (⟨#[61, 62]⟩ : ByteArray)) tr4.ok
    generalize mustR S r4.2 (⟨#[61, 62]⟩ : ByteArray) = q5 at tq5 lq5 hf ⊢
    have pr6 := ih (.expr) q5 tq5.ok
    have tr6 := hT (.expr) q5 tq5.ok
    generalize R (.expr) q5 = r6 at pr6 tr6 hf ⊢
    have pr8 := ih (.handL (l ++ [.mk 22 r2.1.2 r2.1.1 0 [.mk 23 r3.1.2 r3.1.1 0 [], .mk 23 r4.1.2 r4.1.1 0 [], r6.1]])) r6.2 tr6.ok
    have tr8 := hT (.handL (l ++ [.mk 22 r2.1.2 r2.1.1 0 [.mk 23 r3.1.2 r3.1.1 0 [], .mk 23 r4.1.2 r4.1.1 0 [], r6.1]])) r6.2 tr6.ok
    generalize R (.handL (l ++ [.mk 22 r2.1.2 r2.1.1 0 [.mk 23 r3.1.2 r3.1.1 0 [], .mk 23 r4.1.2 r4.1.1 0 [], r6.1]])) r6.2 = r8 at pr8 tr8 hf ⊢
    have mr8 := tr8.m
    have fr8 := tr8.ok0 hf
    have mr6 := tr6.m
    have fr6 := tr6.ok0 fr8
    have mq5 := tq5.m
    have fq5 := tq5.ok0 fr6
    have mr4 := tr4.m
    have fr4 := tr4.ok0 fq5
    have mr3 := tr3.m
    have fr3 := tr3.ok0 fr4
    have mr2 := tr2.m
    have fr2 := tr2.ok0 fr3
    have mq1 := tq1.m
    have fq1 := tq1.ok0 fr2
    have gr2 := lr2 fr3
    have gr3 := lr3 fr4
    have gr4 := lr4 fq5
    have gq5 := lq5 fr6
    have gr6 := pr6 fr8
    have gr8 := pr8 hf
    obtain ⟨sr6, wr6, zr6, kr6⟩ := gr6
    obtain ⟨cs, ss, e1, hl, hc, hw, kb⟩ := gr8
    refine ⟨.mk 22 r2.1.2 r2.1.1 0 [.mk 23 r3.1.2 r3.1.1 0 [], .mk 23 r4.1.2 r4.1.1 0 [], r6.1] :: cs, sr6 :: ss, by rw [e1]; simp, by rw [List.length_cons, List.length_cons, hl], fun i hi => ?_, fun i hi => ?_, fun b => ?_⟩
    · cases i with
      | zero => exact ⟨rfl, gr2.1, gr3.1, gr4.1⟩
      | succ i => exact hc i (by simpa using hi)
    · cases i with
      | zero => exact wr6
      | succ i => exact hw i (by simpa using hi)
    · have kb := kb (cl1 (.mk 22 r2.1.2 r2.1.1 0 [.mk 23 r3.1.2 r3.1.1 0 [], .mk 23 r4.1.2 r4.1.1 0 [], r6.1]) sr6 b)
      have e2 : (cl1 (.mk 22 r2.1.2 r2.1.1 0 [.mk 23 r3.1.2 r3.1.1 0 [], .mk 23 r4.1.2 r4.1.1 0 [], r6.1]) sr6 b).size = ((((((((b ++ (⟨#[32, 124, 32]⟩ : ByteArray)) ++ r2.1.1) ++ (⟨#[32]⟩ : ByteArray)) ++ r3.1.1) ++ (⟨#[32]⟩ : ByteArray)) ++ r4.1.1) ++ (⟨#[32, 61, 62, 32]⟩ : ByteArray)) ++ sr6).size := rfl
      rw [e2] at kb
      simp only [zap, zli, List.length] at kb
      show (clT cs ss (cl1 _ sr6 b)).size + _ ≤ _
      omega
  · rename_i h1
    rw [if_neg h1] at hf
    rw [has_no h1] at hf ⊢
    exact ⟨[], [], (List.append_nil l).symm, rfl, fun i hi => absurd hi (Nat.not_lt_zero i), fun i hi => absurd hi (Nat.not_lt_zero i), fun b => Nat.le_refl _⟩
theorem comp_good (hT : ∀ nt q, Ok S q → Tr S q (R nt q).2) (ih : ∀ nt q, Ok S q → (R nt q).2.fk = 0 → Post S nt q (R nt q).1 (R nt q).2) (q : Rs) (h : Ok S q) (hf : (compS S R q).2.fk = 0) : G S q (compS S R q).2 0 (compS S R q).1 := by
  unfold compS at hf ⊢
  dsimp only at hf ⊢
  have pr := ih (.cons) q h
  have tr := hT (.cons) q h
  generalize R (.cons) q = r at pr tr hf ⊢
  split
  · rename_i h1
    rw [if_pos h1] at hf
    have tq1 := has_tr (s := (⟨#[61, 61]⟩ : ByteArray)) tr.ok
    have lq1 := has_lt (s := (⟨#[61, 61]⟩ : ByteArray)) tr.ok h1
    generalize hasR S r.2 (⟨#[61, 61]⟩ : ByteArray) = q1 at tq1 lq1 hf ⊢
    have pr2 := ih (.cons) q1 tq1.ok
    have tr2 := hT (.cons) q1 tq1.ok
    generalize R (.cons) q1 = r2 at pr2 tr2 hf ⊢
    have mr2 := tr2.m
    have fr2 := tr2.ok0 hf
    have mq1 := tq1.m
    have fq1 := tq1.ok0 fr2
    have mr := tr.m
    have fr := tr.ok0 fq1
    have gr := pr fq1
    have gr2 := pr2 hf
    obtain ⟨sr, wr, zr, kr⟩ := gr
    obtain ⟨sr2, wr2, zr2, kr2⟩ := gr2
    have ho := opT_le (nm := (⟨#[61, 61]⟩ : ByteArray)) (x := r.1) (y := r2.1) (sx := sr) (sy := sr2) (by decide)
    exact ⟨_, Wr.eop _ _ _ r.1 r2.1 sr sr2 (by decide) wr wr2, by omega, by dsimp only; omega⟩
  · rename_i h1
    rw [if_neg h1] at hf
    rw [has_no h1] at hf ⊢
    split
    · rename_i h2
      rw [if_pos h2] at hf
      have tq1 := has_tr (s := (⟨#[60]⟩ : ByteArray)) tr.ok
      have lq1 := has_lt (s := (⟨#[60]⟩ : ByteArray)) tr.ok h2
      generalize hasR S r.2 (⟨#[60]⟩ : ByteArray) = q1 at tq1 lq1 hf ⊢
      have pr2 := ih (.cons) q1 tq1.ok
      have tr2 := hT (.cons) q1 tq1.ok
      generalize R (.cons) q1 = r2 at pr2 tr2 hf ⊢
      have mr2 := tr2.m
      have fr2 := tr2.ok0 hf
      have mq1 := tq1.m
      have fq1 := tq1.ok0 fr2
      have mr := tr.m
      have fr := tr.ok0 fq1
      have gr := pr fq1
      have gr2 := pr2 hf
      obtain ⟨sr, wr, zr, kr⟩ := gr
      obtain ⟨sr2, wr2, zr2, kr2⟩ := gr2
      have ho := opT_le (nm := (⟨#[60]⟩ : ByteArray)) (x := r.1) (y := r2.1) (sx := sr) (sy := sr2) (by decide)
      exact ⟨_, Wr.eop _ _ _ r.1 r2.1 sr sr2 (by decide) wr wr2, by omega, by dsimp only; omega⟩
    · rename_i h2
      rw [if_neg h2] at hf
      rw [has_no h2] at hf ⊢
      have mr := tr.m
      have fr := tr.ok0 hf
      have gr := pr hf
      obtain ⟨sr, wr, zr, kr⟩ := gr
      exact ⟨sr, wr, zr, by dsimp only; omega⟩
theorem cons_good (hT : ∀ nt q, Ok S q → Tr S q (R nt q).2) (ih : ∀ nt q, Ok S q → (R nt q).2.fk = 0 → Post S nt q (R nt q).1 (R nt q).2) (q : Rs) (h : Ok S q) (hf : (consS S R q).2.fk = 0) : G S q (consS S R q).2 0 (consS S R q).1 := by
  unfold consS at hf ⊢
  dsimp only at hf ⊢
  have pr := ih (.sum) q h
  have tr := hT (.sum) q h
  generalize R (.sum) q = r at pr tr hf ⊢
  split
  · rename_i h1
    rw [if_pos h1] at hf
    have tq1 := has_tr (s := (⟨#[58, 58]⟩ : ByteArray)) tr.ok
    have lq1 := has_lt (s := (⟨#[58, 58]⟩ : ByteArray)) tr.ok h1
    generalize hasR S r.2 (⟨#[58, 58]⟩ : ByteArray) = q1 at tq1 lq1 hf ⊢
    have pr2 := ih (.cons) q1 tq1.ok
    have tr2 := hT (.cons) q1 tq1.ok
    generalize R (.cons) q1 = r2 at pr2 tr2 hf ⊢
    have mr2 := tr2.m
    have fr2 := tr2.ok0 hf
    have mq1 := tq1.m
    have fq1 := tq1.ok0 fr2
    have mr := tr.m
    have fr := tr.ok0 fq1
    have gr := pr fq1
    have gr2 := pr2 hf
    obtain ⟨sr, wr, zr, kr⟩ := gr
    obtain ⟨sr2, wr2, zr2, kr2⟩ := gr2
    have := inT_le 3 r.1 sr
    have := inT_le 2 r2.1 sr2
    refine ⟨_, Wr.econs _ _ _ r.1 r2.1 sr sr2 wr wr2, ?_, ?_⟩ <;> (simp only [zap, zli, List.length]) <;> omega
  · rename_i h1
    rw [if_neg h1] at hf
    rw [has_no h1] at hf ⊢
    have mr := tr.m
    have fr := tr.ok0 hf
    have gr := pr hf
    obtain ⟨sr, wr, zr, kr⟩ := gr
    exact ⟨sr, wr, zr, by dsimp only; omega⟩
theorem sum_good (hT : ∀ nt q, Ok S q → Tr S q (R nt q).2) (ih : ∀ nt q, Ok S q → (R nt q).2.fk = 0 → Post S nt q (R nt q).1 (R nt q).2) (q : Rs) (h : Ok S q) (hf : (sumS R q).2.fk = 0) : G S q (sumS R q).2 0 (sumS R q).1 := by
  unfold sumS at hf ⊢
  dsimp only at hf ⊢
  have pr := ih (.mul) q h
  have tr := hT (.mul) q h
  generalize R (.mul) q = r at pr tr hf ⊢
  have t4 := hT (.sumL r.1) r.2 tr.ok
  have p4 := fun W' s0 w0 z0 k0 => ih (.sumL r.1) r.2 tr.ok hf s0 W' w0 z0 k0
  have m4 := t4.m
  have f4 := t4.ok0 hf
  have mr := tr.m
  have fr := tr.ok0 f4
  have gr := pr f4
  obtain ⟨sr, wr, zr, kr⟩ := gr
  obtain ⟨s, w, z, k⟩ := p4 (sr.size + 100) sr wr zr (Nat.le_refl _)
  exact ⟨s, w, z, by omega⟩
theorem mul_good (hT : ∀ nt q, Ok S q → Tr S q (R nt q).2) (ih : ∀ nt q, Ok S q → (R nt q).2.fk = 0 → Post S nt q (R nt q).1 (R nt q).2) (q : Rs) (h : Ok S q) (hf : (mulS R q).2.fk = 0) : G S q (mulS R q).2 0 (mulS R q).1 := by
  unfold mulS at hf ⊢
  dsimp only at hf ⊢
  have pr := ih (.app) q h
  have tr := hT (.app) q h
  generalize R (.app) q = r at pr tr hf ⊢
  have t4 := hT (.mulL r.1) r.2 tr.ok
  have p4 := fun W' s0 w0 z0 k0 => ih (.mulL r.1) r.2 tr.ok hf s0 W' w0 z0 k0
  have m4 := t4.m
  have f4 := t4.ok0 hf
  have mr := tr.m
  have fr := tr.ok0 f4
  have gr := pr f4
  obtain ⟨sr, wr, zr, kr⟩ := gr
  obtain ⟨s, w, z, k⟩ := p4 (sr.size + 100) sr wr zr (Nat.le_refl _)
  exact ⟨s, w, z, by omega⟩
theorem app_good (hT : ∀ nt q, Ok S q → Tr S q (R nt q).2) (ih : ∀ nt q, Ok S q → (R nt q).2.fk = 0 → Post S nt q (R nt q).1 (R nt q).2) (q : Rs) (h : Ok S q) (hf : (appS S R q).2.fk = 0) : G S q (appS S R q).2 0 (appS S R q).1 := by
  unfold appS at hf ⊢
  dsimp only at hf ⊢
  split
  · rename_i h1
    rw [if_pos h1] at hf
    have tq1 := has_tr (s := (⟨#[100, 111]⟩ : ByteArray)) h
    have lq1 := has_lt (s := (⟨#[100, 111]⟩ : ByteArray)) h h1
    generalize hasR S q (⟨#[100, 111]⟩ : ByteArray) = q1 at tq1 lq1 hf ⊢
    have tr := name_tr (S := S) (q := q1) tq1.ok
    have lr := name_good (S := S) (q := q1) tq1.ok
    generalize nameR S q1 = r at tr lr hf ⊢
    have pr2 := ih (.atom) r.2 tr.ok
    have tr2 := hT (.atom) r.2 tr.ok
    generalize R (.atom) r.2 = r2 at pr2 tr2 hf ⊢
    have mr2 := tr2.m
    have fr2 := tr2.ok0 hf
    have mr := tr.m
    have fr := tr.ok0 fr2
    have mq1 := tq1.m
    have fq1 := tq1.ok0 fr
    have gr := lr fr2
    have gr2 := pr2 hf
    obtain ⟨sr2, wr2, zr2, kr2⟩ := gr2
    have := inT_le 6 r2.1 sr2
    refine ⟨_, Wr.edo _ _ _ r2.1 sr2 gr.1 wr2, ?_, ?_⟩ <;> (simp only [zap, zli, List.length]) <;> omega
  · rename_i h1
    rw [if_neg h1] at hf
    rw [has_no h1] at hf ⊢
    split
    · rename_i h2
      rw [if_pos h2] at hf
      have tq1 := has_tr (s := (⟨#[102, 115, 116]⟩ : ByteArray)) h
      have lq1 := has_lt (s := (⟨#[102, 115, 116]⟩ : ByteArray)) h h2
      generalize hasR S q (⟨#[102, 115, 116]⟩ : ByteArray) = q1 at tq1 lq1 hf ⊢
      have pr := ih (.atom) q1 tq1.ok
      have tr := hT (.atom) q1 tq1.ok
      generalize R (.atom) q1 = r at pr tr hf ⊢
      have mr := tr.m
      have fr := tr.ok0 hf
      have mq1 := tq1.m
      have fq1 := tq1.ok0 fr
      have gr := pr hf
      obtain ⟨sr, wr, zr, kr⟩ := gr
      have := inT_le 6 r.1 sr
      refine ⟨_, Wr.efst _ _ _ r.1 sr wr, ?_, ?_⟩ <;> (simp only [zap, zli, List.length]) <;> omega
    · rename_i h2
      rw [if_neg h2] at hf
      rw [has_no h2] at hf ⊢
      split
      · rename_i h3
        rw [if_pos h3] at hf
        have tq1 := has_tr (s := (⟨#[115, 110, 100]⟩ : ByteArray)) h
        have lq1 := has_lt (s := (⟨#[115, 110, 100]⟩ : ByteArray)) h h3
        generalize hasR S q (⟨#[115, 110, 100]⟩ : ByteArray) = q1 at tq1 lq1 hf ⊢
        have pr := ih (.atom) q1 tq1.ok
        have tr := hT (.atom) q1 tq1.ok
        generalize R (.atom) q1 = r at pr tr hf ⊢
        have mr := tr.m
        have fr := tr.ok0 hf
        have mq1 := tq1.m
        have fq1 := tq1.ok0 fr
        have gr := pr hf
        obtain ⟨sr, wr, zr, kr⟩ := gr
        have := inT_le 6 r.1 sr
        refine ⟨_, Wr.esnd _ _ _ r.1 sr wr, ?_, ?_⟩ <;> (simp only [zap, zli, List.length]) <;> omega
      · rename_i h3
        rw [if_neg h3] at hf
        rw [has_no h3] at hf ⊢
        have pr := ih (.atom) q h
        have tr := hT (.atom) q h
        generalize R (.atom) q = r at pr tr hf ⊢
        have t4 := hT (.appL r.1) r.2 tr.ok
        have p4 := fun W' s0 w0 z0 k0 => ih (.appL r.1) r.2 tr.ok hf s0 W' w0 z0 k0
        have m4 := t4.m
        have f4 := t4.ok0 hf
        have mr := tr.m
        have fr := tr.ok0 f4
        have gr := pr f4
        obtain ⟨sr, wr, zr, kr⟩ := gr
        obtain ⟨s, w, z, k⟩ := p4 (sr.size + 100) sr wr zr (Nat.le_refl _)
        exact ⟨s, w, z, by omega⟩
theorem appL_good (hT : ∀ nt q, Ok S q → Tr S q (R nt q).2) (ih : ∀ nt q, Ok S q → (R nt q).2.fk = 0 → Post S nt q (R nt q).1 (R nt q).2) (a : Nd) (q : Rs) (sa : ByteArray) (W : Nat) (h : Ok S q) (wa : Wr a sa) (za : 0 < sa.size) (ka : sa.size + 100 ≤ W) (hf : (appLS R a q).2.fk = 0) : G S q (appLS R a q).2 W (appLS R a q).1 := by
  unfold appLS at hf ⊢
  dsimp only at hf ⊢
  split
  · rename_i h1
    rw [if_pos h1] at hf
    have pr := ih (.atom) q h
    have tr := hT (.atom) q h
    generalize R (.atom) q = r at pr tr hf ⊢
    have t4 := hT (.appL (Nd.mk 8 a.a (⟨#[]⟩ : ByteArray) 0 [a, r.1])) r.2 tr.ok
    have p4 := fun W' s0 w0 z0 k0 => ih (.appL (Nd.mk 8 a.a (⟨#[]⟩ : ByteArray) 0 [a, r.1])) r.2 tr.ok hf s0 W' w0 z0 k0
    have m4 := t4.m
    have f4 := t4.ok0 hf
    have mr := tr.m
    have fr := tr.ok0 f4
    have gr := pr f4
    obtain ⟨sr, wr, zr, kr⟩ := gr
    have := inT_le 6 a sa
    have := inT_le 6 r.1 sr
    have hi : (if a.k = 8 then sa else inT 6 a sa).size ≤ sa.size + 4 ∧ sa.size ≤ (if a.k = 8 then sa else inT 6 a sa).size := by split <;> omega
    obtain ⟨s, w, z, k⟩ := p4 (W + 100000 * (M S q - M S r.2)) _ (Wr.eapp _ _ _ a r.1 sa sr wa wr) (by simp only [zap, zli, List.length]; omega) (by simp only [zap, zli, List.length]; omega)
    exact ⟨s, w, z, by omega⟩
  · rename_i h1
    rw [if_neg h1] at hf
    exact ⟨sa, wa, za, by dsimp only; omega⟩
theorem next_lt' {q : Rs} (h : Ok S q) (f0 : q.fk = 0) (hk : q.k ≠ 0) : 100000 * M S (nextR S q) + 100000 ≤ 100000 * M S q := by
  have := next_lt h f0 hk
  omega
theorem num_good (q q1 : Rs) (h1 : Ok S q1) (hf : (numS S q q1).2.fk = 0) : G S q1 (numS S q q1).2 99990 (numS S q q1).1 := by
  have hn := h1.n
  have hi := intT_le (n := -((q1.n : Nat) : Int)) (by omega) (by omega)
  unfold numS at hf ⊢
  split
  · split
    · have t := bNext (no_tr h1)
      have := t.m
      exact ⟨_, Wr.eint _ _ _ (by omega) (by omega), hi.1, by dsimp only; omega⟩
    · have t := next_tr h1
      have := t.m
      exact ⟨_, Wr.eint _ _ _ (by omega) (by omega), hi.1, by dsimp only; omega⟩
  · have t := next_tr h1
    have := t.m
    exact ⟨_, Wr.eint _ _ _ (by omega) (by omega), hi.1, by dsimp only; omega⟩
theorem atom_good (hT : ∀ nt q, Ok S q → Tr S q (R nt q).2) (ih : ∀ nt q, Ok S q → (R nt q).2.fk = 0 → Post S nt q (R nt q).1 (R nt q).2) (q : Rs) (h : Ok S q) (hf : (atomS S R q).2.fk = 0) : G S q (atomS S R q).2 0 (atomS S R q).1 := by
  unfold atomS at hf ⊢
  dsimp only at hf ⊢
  split
  · rename_i h1
    rw [if_pos h1] at hf
    split
    · rename_i h2
      rw [if_pos h2] at hf
      simp only [beq_iff_eq] at h2
      have l := next_lt' h ((okB_iff q).1 h1) (by omega)
      have z := h.nm ((okB_iff q).1 h1) (by omega)
      have := h.t
      have := h.size
      exact ⟨_, Wr.evar _ _ _ z, z, by dsimp only; omega⟩
    · rename_i h2
      rw [if_neg h2] at hf
      split
      · rename_i h3
        rw [if_pos h3] at hf
        simp only [beq_iff_eq] at h3
        have l := next_lt' h ((okB_iff q).1 h1) (by omega)
        have hn := h.n
        have hi := intT_le (n := ((q.n : Nat) : Int)) (by omega) (by omega)
        exact ⟨_, Wr.eint _ _ _ (by omega) (by omega), hi.1, by dsimp only; omega⟩
      · rename_i h3
        rw [if_neg h3] at hf
        split
        · rename_i h4
          rw [if_pos h4] at hf
          have tq1 := has_tr (s := (⟨#[126]⟩ : ByteArray)) h
          have lq1 := has_lt (s := (⟨#[126]⟩ : ByteArray)) h h4
          generalize hasR S q (⟨#[126]⟩ : ByteArray) = q1 at tq1 lq1 hf ⊢
          obtain ⟨s, w, z, k⟩ := num_good q q1 tq1.ok hf
          exact ⟨s, w, z, by omega⟩
        · rename_i h4
          rw [if_neg h4] at hf
          rw [has_no h4] at hf ⊢
          split
          · rename_i h5
            rw [if_pos h5] at hf
            have tq1 := has_tr (s := (⟨#[116, 114, 117, 101]⟩ : ByteArray)) h
            have lq1 := has_lt (s := (⟨#[116, 114, 117, 101]⟩ : ByteArray)) h h5
            generalize hasR S q (⟨#[116, 114, 117, 101]⟩ : ByteArray) = q1 at tq1 lq1 hf ⊢
            exact ⟨_, Wr.ebool _ _ _, by decide, by dsimp only; rw [if_pos rfl]; simp only [zap, zli, List.length]; omega⟩
          · rename_i h5
            rw [if_neg h5] at hf
            rw [has_no h5] at hf ⊢
            split
            · rename_i h6
              rw [if_pos h6] at hf
              have tq1 := has_tr (s := (⟨#[102, 97, 108, 115, 101]⟩ : ByteArray)) h
              have lq1 := has_lt (s := (⟨#[102, 97, 108, 115, 101]⟩ : ByteArray)) h h6
              generalize hasR S q (⟨#[102, 97, 108, 115, 101]⟩ : ByteArray) = q1 at tq1 lq1 hf ⊢
              exact ⟨_, Wr.ebool _ _ _, by decide, by dsimp only; rw [if_neg (by decide)]; simp only [zap, zli, List.length]; omega⟩
            · rename_i h6
              rw [if_neg h6] at hf
              rw [has_no h6] at hf ⊢
              split
              · rename_i h7
                rw [if_pos h7] at hf
                have tq1 := has_tr (s := (⟨#[40]⟩ : ByteArray)) h
                have lq1 := has_lt (s := (⟨#[40]⟩ : ByteArray)) h h7
                generalize hasR S q (⟨#[40]⟩ : ByteArray) = q1 at tq1 lq1 hf ⊢
                have prz := ih (.round q.a) q1 tq1.ok
                have trz := hT (.round q.a) q1 tq1.ok
                generalize R (.round q.a) q1 = rz at prz trz hf ⊢
                have mrz := trz.m
                have frz := trz.ok0 hf
                have mq1 := tq1.m
                have fq1 := tq1.ok0 frz
                have grz := prz hf
                obtain ⟨srz, wrz, zrz, krz⟩ := grz
                exact ⟨srz, wrz, zrz, by omega⟩
              · rename_i h7
                rw [if_neg h7] at hf
                rw [has_no h7] at hf ⊢
                split
                · rename_i h8
                  rw [if_pos h8] at hf
                  have tq1 := has_tr (s := (⟨#[91]⟩ : ByteArray)) h
                  have lq1 := has_lt (s := (⟨#[91]⟩ : ByteArray)) h h8
                  generalize hasR S q (⟨#[91]⟩ : ByteArray) = q1 at tq1 lq1 hf ⊢
                  have prz := ih (.square q.a) q1 tq1.ok
                  have trz := hT (.square q.a) q1 tq1.ok
                  generalize R (.square q.a) q1 = rz at prz trz hf ⊢
                  have mrz := trz.m
                  have frz := trz.ok0 hf
                  have mq1 := tq1.m
                  have fq1 := tq1.ok0 frz
                  have grz := prz hf
                  obtain ⟨srz, wrz, zrz, krz⟩ := grz
                  exact ⟨srz, wrz, zrz, by omega⟩
                · rename_i h8
                  rw [if_neg h8] at hf
                  rw [has_no h8] at hf ⊢
                  exact (no_ok ((okB_iff _).2 hf)).elim
  · rename_i h1
    rw [if_neg h1] at hf
    exact absurd ((okB_iff _).2 hf) h1
theorem round_good (hT : ∀ nt q, Ok S q → Tr S q (R nt q).2) (ih : ∀ nt q, Ok S q → (R nt q).2.fk = 0 → Post S nt q (R nt q).1 (R nt q).2) (at_ : Nat) (q : Rs) (h : Ok S q) (hf : (roundS S R at_ q).2.fk = 0) : G S q (roundS S R at_ q).2 0 (roundS S R at_ q).1 := by
  unfold roundS at hf ⊢
  dsimp only at hf ⊢
  split
  · rename_i h1
    rw [if_pos h1] at hf
    have tq1 := has_tr (s := (⟨#[41]⟩ : ByteArray)) h
    have lq1 := has_lt (s := (⟨#[41]⟩ : ByteArray)) h h1
    generalize hasR S q (⟨#[41]⟩ : ByteArray) = q1 at tq1 lq1 hf ⊢
    exact ⟨_, Wr.eunit _ _ _, by decide, by dsimp only; simp only [zap, zli, List.length]; omega⟩
  · rename_i h1
    rw [if_neg h1] at hf
    rw [has_no h1] at hf ⊢
    have pr := ih (.expr) q h
    have tr := hT (.expr) q h
    generalize R (.expr) q = r at pr tr hf ⊢
    split
    · rename_i h2
      rw [if_pos h2] at hf
      have tq2 := has_tr (s := (⟨#[44]⟩ : ByteArray)) tr.ok
      have lq2 := has_lt (s := (⟨#[44]⟩ : ByteArray)) tr.ok h2
      generalize hasR S r.2 (⟨#[44]⟩ : ByteArray) = q2 at tq2 lq2 hf ⊢
      have pr2 := ih (.expr) q2 tq2.ok
      have tr2 := hT (.expr) q2 tq2.ok
      generalize R (.expr) q2 = r2 at pr2 tr2 hf ⊢
      have tq3 := must_tr (s := (⟨#[41]⟩ : ByteArray)) tr2.ok
      have lq3 := must_lt (s := (⟨#[41]⟩ : ByteArray)) tr2.ok
      generalize mustR S r2.2 (⟨#[41]⟩ : ByteArray) = q3 at tq3 lq3 hf ⊢
      have mq3 := tq3.m
      have fq3 := tq3.ok0 hf
      have mr2 := tr2.m
      have fr2 := tr2.ok0 fq3
      have mq2 := tq2.m
      have fq2 := tq2.ok0 fr2
      have mr := tr.m
      have fr := tr.ok0 fq2
      have gr := pr fq2
      have gr2 := pr2 fq3
      have gq3 := lq3 hf
      obtain ⟨sr, wr, zr, kr⟩ := gr
      obtain ⟨sr2, wr2, zr2, kr2⟩ := gr2
      refine ⟨_, Wr.epair _ _ _ r.1 r2.1 sr sr2 wr wr2, ?_, ?_⟩ <;> (simp only [zap, zli, List.length]) <;> omega
    · rename_i h2
      rw [if_neg h2] at hf
      rw [has_no h2] at hf ⊢
      have tq3 := must_tr (s := (⟨#[41]⟩ : ByteArray)) tr.ok
      have lq3 := must_lt (s := (⟨#[41]⟩ : ByteArray)) tr.ok
      generalize mustR S r.2 (⟨#[41]⟩ : ByteArray) = q3 at tq3 lq3 hf ⊢
      have mq3 := tq3.m
      have fq3 := tq3.ok0 hf
      have mr := tr.m
      have fr := tr.ok0 fq3
      have gr := pr fq3
      have gq3 := lq3 hf
      obtain ⟨sr, wr, zr, kr⟩ := gr
      exact ⟨sr, wr, zr, by dsimp only; omega⟩
theorem square_good (hT : ∀ nt q, Ok S q → Tr S q (R nt q).2) (ih : ∀ nt q, Ok S q → (R nt q).2.fk = 0 → Post S nt q (R nt q).1 (R nt q).2) (at_ : Nat) (q : Rs) (h : Ok S q) (hf : (squareS S R at_ q).2.fk = 0) : G S q (squareS S R at_ q).2 0 (squareS S R at_ q).1 := by
  unfold squareS at hf ⊢
  dsimp only at hf ⊢
  split
  · rename_i h1
    rw [if_pos h1] at hf
    have tq1 := has_tr (s := (⟨#[93]⟩ : ByteArray)) h
    have lq1 := has_lt (s := (⟨#[93]⟩ : ByteArray)) h h1
    generalize hasR S q (⟨#[93]⟩ : ByteArray) = q1 at tq1 lq1 hf ⊢
    exact ⟨_, Wr.enil _ _ _, by decide, by dsimp only; simp only [zap, zli, List.length]; omega⟩
  · rename_i h1
    rw [if_neg h1] at hf
    rw [has_no h1] at hf ⊢
    have pr := ih (.squareL []) q h
    have tr := hT (.squareL []) q h
    generalize R (.squareL []) q = r at pr tr hf ⊢
    have tq3 := must_tr (s := (⟨#[93]⟩ : ByteArray)) tr.ok
    have lq3 := must_lt (s := (⟨#[93]⟩ : ByteArray)) tr.ok
    generalize mustR S r.2 (⟨#[93]⟩ : ByteArray) = q3 at tq3 lq3 hf ⊢
    have mq3 := tq3.m
    have fq3 := tq3.ok0 hf
    have mr := tr.m
    have fr := tr.ok0 fq3
    have gr := pr fq3
    have gq3 := lq3 hf
    obtain ⟨es, e1, k⟩ := gr
    obtain ⟨s, w, z, k⟩ := k at_
    rw [List.nil_append] at e1
    rw [e1]
    exact ⟨s, w, z, by dsimp only; omega⟩
theorem squareL_good (hT : ∀ nt q, Ok S q → Tr S q (R nt q).2) (ih : ∀ nt q, Ok S q → (R nt q).2.fk = 0 → Post S nt q (R nt q).1 (R nt q).2) (l : List Nd) (q : Rs) (h : Ok S q) (hf : (squareLS S R l q).2.fk = 0) : ∃ es, (squareLS S R l q).1.ks = l ++ es ∧ ∀ at_, ∃ s, Wr (consAll at_ es) s ∧ 0 < s.size ∧ s.size + 100000 * M S (squareLS S R l q).2 ≤ 100000 * M S q + 3 := by
  unfold squareLS at hf ⊢
  dsimp only at hf ⊢
  have pr := ih (.expr) q h
  have tr := hT (.expr) q h
  generalize R (.expr) q = r at pr tr hf ⊢
  split
  · rename_i h1
    rw [if_pos h1] at hf
    have tq1 := has_tr (s := (⟨#[44]⟩ : ByteArray)) tr.ok
    have lq1 := has_lt (s := (⟨#[44]⟩ : ByteArray)) tr.ok h1
    generalize hasR S r.2 (⟨#[44]⟩ : ByteArray) = q1 at tq1 lq1 hf ⊢
    have pr2 := ih (.squareL (l ++ [r.1])) q1 tq1.ok
    have tr2 := hT (.squareL (l ++ [r.1])) q1 tq1.ok
    generalize R (.squareL (l ++ [r.1])) q1 = r2 at pr2 tr2 hf ⊢
    have mr2 := tr2.m
    have fr2 := tr2.ok0 hf
    have mq1 := tq1.m
    have fq1 := tq1.ok0 fr2
    have mr := tr.m
    have fr := tr.ok0 fq1
    have gr := pr fq1
    have gr2 := pr2 hf
    obtain ⟨sr, wr, zr, kr⟩ := gr
    obtain ⟨es, e1, k⟩ := gr2
    refine ⟨r.1 :: es, by rw [e1]; simp, fun at_ => ?_⟩
    obtain ⟨s, w, z, k⟩ := k at_
    have := inT_le 3 r.1 sr
    have := inT_le 2 (consAll at_ es) s
    refine ⟨_, Wr.econs _ _ _ r.1 (consAll at_ es) sr s wr w, ?_, ?_⟩ <;> (simp only [zap, zli, List.length]) <;> omega
  · rename_i h1
    rw [if_neg h1] at hf
    rw [has_no h1] at hf ⊢
    have mr := tr.m
    have fr := tr.ok0 hf
    have gr := pr hf
    obtain ⟨sr, wr, zr, kr⟩ := gr
    refine ⟨[r.1], rfl, fun at_ => ?_⟩
    have := inT_le 3 r.1 sr
    have h0 := inT_le 2 (Nd.mk 15 at_ (⟨#[]⟩ : ByteArray) 0 []) (⟨#[91, 32, 93]⟩ : ByteArray)
    simp only [lz3] at h0
    refine ⟨_, Wr.econs _ _ _ r.1 (.mk 15 at_ (⟨#[]⟩ : ByteArray) 0 []) sr _ wr (Wr.enil _ _ _), ?_, ?_⟩ <;> (simp only [zap, zli, List.length]) <;> omega
theorem ops0_good (hT : ∀ nt q, Ok S q → Tr S q (R nt q).2) (ih : ∀ nt q, Ok S q → (R nt q).2.fk = 0 → Post S nt q (R nt q).1 (R nt q).2) (l : List Nd) (at_ : Nat) (q : Rs) (h : Ok S q) (hf : (opsT S R l at_ 0 q).2.fk = 0) : ∃ ds fs, ((opsT S R l at_ 0 q).1).ks = l ++ ds ∧ DL ds fs ∧ (∀ d ∈ ds, d.k = 1 ∨ d.k = 2) ∧ ∀ b, (pgF fs b).size + 100000 * M S ((opsT S R l at_ 0 q).2) ≤ b.size + 100000 * M S q := by
  unfold opsT at hf ⊢
  dsimp only at hf ⊢
  have tr := name_tr (S := S) (q := q) h
  have lr := name_good (S := S) (q := q) h
  generalize nameR S q = r at tr lr hf ⊢
  have tq3 := must_tr (s := (⟨#[58]⟩ : ByteArray)) tr.ok
  have lq3 := must_lt (s := (⟨#[58]⟩ : ByteArray)) tr.ok
  generalize mustR S r.2 (⟨#[58]⟩ : ByteArray) = q3 at tq3 lq3 hf ⊢
  have pra := ih (.typ) q3 tq3.ok
  have tra := hT (.typ) q3 tq3.ok
  generalize R (.typ) q3 = ra at pra tra hf ⊢
  have tq4 := must_tr (s := (⟨#[61, 62]⟩ : ByteArray)) tra.ok
  have lq4 := must_lt (s := (⟨#[61, 62]⟩ : ByteArray)) tra.ok
  generalize mustR S ra.2 (⟨#[61, 62]⟩ : ByteArray) = q4 at tq4 lq4 hf ⊢
  have prb := ih (.typ) q4 tq4.ok
  have trb := hT (.typ) q4 tq4.ok
  generalize R (.typ) q4 = rb at prb trb hf ⊢
  have prc := ih (.opsL (l ++ [Nd.mk 1 at_ r.1.1 0 [ra.1, rb.1]])) rb.2 trb.ok
  have trc := hT (.opsL (l ++ [Nd.mk 1 at_ r.1.1 0 [ra.1, rb.1]])) rb.2 trb.ok
  generalize R (.opsL (l ++ [Nd.mk 1 at_ r.1.1 0 [ra.1, rb.1]])) rb.2 = rc at prc trc hf ⊢
  have mrc := trc.m
  have frc := trc.ok0 hf
  have mrb := trb.m
  have frb := trb.ok0 frc
  have mq4 := tq4.m
  have fq4 := tq4.ok0 frb
  have mra := tra.m
  have fra := tra.ok0 fq4
  have mq3 := tq3.m
  have fq3 := tq3.ok0 fra
  have mr := tr.m
  have fr := tr.ok0 fq3
  have gr := lr fq3
  have gq3 := lq3 fra
  have gra := pra fq4
  have gq4 := lq4 frb
  have grb := prb frc
  have grc := prc hf
  obtain ⟨sra, wra, zra, kra⟩ := gra
  obtain ⟨srb, wrb, zrb, krb⟩ := grb
  obtain ⟨ds, fs, e1, hd, hdk, kb⟩ := grc
  have hc := Dc.op at_ r.1.1 0 ra.1 rb.1 sra srb (by decide) gr.1 wra wrb
  refine ⟨_ :: ds, _ :: fs, by rw [e1]; simp, .cons hc hd, fun d hd => ?_, fun b => ?_⟩
  · rcases List.mem_cons.1 hd with rfl | hd
    · first | exact .inl rfl | exact .inr rfl
    · exact hdk d hd
  refine Nat.le_trans (kb _) ?_
  rw [if_neg (by decide)]
  simp only [zap, zli, List.length]; omega
theorem ops1_good (hT : ∀ nt q, Ok S q → Tr S q (R nt q).2) (ih : ∀ nt q, Ok S q → (R nt q).2.fk = 0 → Post S nt q (R nt q).1 (R nt q).2) (l : List Nd) (at_ : Nat) (q : Rs) (h : Ok S q) (hf : (opsT S R l at_ 1 q).2.fk = 0) : ∃ ds fs, ((opsT S R l at_ 1 q).1).ks = l ++ ds ∧ DL ds fs ∧ (∀ d ∈ ds, d.k = 1 ∨ d.k = 2) ∧ ∀ b, (pgF fs b).size + 100000 * M S ((opsT S R l at_ 1 q).2) ≤ b.size + 100000 * M S q := by
  unfold opsT at hf ⊢
  dsimp only at hf ⊢
  have tr := name_tr (S := S) (q := q) h
  have lr := name_good (S := S) (q := q) h
  generalize nameR S q = r at tr lr hf ⊢
  have tq3 := must_tr (s := (⟨#[58]⟩ : ByteArray)) tr.ok
  have lq3 := must_lt (s := (⟨#[58]⟩ : ByteArray)) tr.ok
  generalize mustR S r.2 (⟨#[58]⟩ : ByteArray) = q3 at tq3 lq3 hf ⊢
  have pra := ih (.typ) q3 tq3.ok
  have tra := hT (.typ) q3 tq3.ok
  generalize R (.typ) q3 = ra at pra tra hf ⊢
  have tq4 := must_tr (s := (⟨#[61, 62]⟩ : ByteArray)) tra.ok
  have lq4 := must_lt (s := (⟨#[61, 62]⟩ : ByteArray)) tra.ok
  generalize mustR S ra.2 (⟨#[61, 62]⟩ : ByteArray) = q4 at tq4 lq4 hf ⊢
  have prb := ih (.typ) q4 tq4.ok
  have trb := hT (.typ) q4 tq4.ok
  generalize R (.typ) q4 = rb at prb trb hf ⊢
  have prc := ih (.opsL (l ++ [Nd.mk 1 at_ r.1.1 1 [ra.1, rb.1]])) rb.2 trb.ok
  have trc := hT (.opsL (l ++ [Nd.mk 1 at_ r.1.1 1 [ra.1, rb.1]])) rb.2 trb.ok
  generalize R (.opsL (l ++ [Nd.mk 1 at_ r.1.1 1 [ra.1, rb.1]])) rb.2 = rc at prc trc hf ⊢
  have mrc := trc.m
  have frc := trc.ok0 hf
  have mrb := trb.m
  have frb := trb.ok0 frc
  have mq4 := tq4.m
  have fq4 := tq4.ok0 frb
  have mra := tra.m
  have fra := tra.ok0 fq4
  have mq3 := tq3.m
  have fq3 := tq3.ok0 fra
  have mr := tr.m
  have fr := tr.ok0 fq3
  have gr := lr fq3
  have gq3 := lq3 fra
  have gra := pra fq4
  have gq4 := lq4 frb
  have grb := prb frc
  have grc := prc hf
  obtain ⟨sra, wra, zra, kra⟩ := gra
  obtain ⟨srb, wrb, zrb, krb⟩ := grb
  obtain ⟨ds, fs, e1, hd, hdk, kb⟩ := grc
  have hc := Dc.op at_ r.1.1 1 ra.1 rb.1 sra srb (by decide) gr.1 wra wrb
  refine ⟨_ :: ds, _ :: fs, by rw [e1]; simp, .cons hc hd, fun d hd => ?_, fun b => ?_⟩
  · rcases List.mem_cons.1 hd with rfl | hd
    · first | exact .inl rfl | exact .inr rfl
    · exact hdk d hd
  refine Nat.le_trans (kb _) ?_
  rw [if_pos rfl]
  simp only [zap, zli, List.length]; omega
theorem lz0 : (⟨#[]⟩ : ByteArray).size = 0 := rfl
theorem defs0_good (hT : ∀ nt q, Ok S q → Tr S q (R nt q).2) (ih : ∀ nt q, Ok S q → (R nt q).2.fk = 0 → Post S nt q (R nt q).1 (R nt q).2) (n0 : Nat) (l : List Nd) (at_ : Nat) (q : Rs) (h : Ok S q) (hf : (defsT S R n0 l at_ 0 q).2.fk = 0) : ∃ ds fs, ((defsT S R n0 l at_ 0 q).1).ks = l ++ ds ∧ DL ds fs ∧ (∀ d ∈ ds, d.k = 1 ∨ d.k = 2) ∧ ∀ b, (pgF fs b).size + 100000 * M S ((defsT S R n0 l at_ 0 q).2) ≤ b.size + 100000 * M S q := by
  unfold defsT at hf ⊢
  dsimp only at hf ⊢
  have tr := name_tr (S := S) (q := q) h
  have lr := name_good (S := S) (q := q) h
  generalize nameR S q = r at tr lr hf ⊢
  have pr2 := ih (.params (⟨#[61]⟩ : ByteArray) true) r.2 tr.ok
  have tr2 := hT (.params (⟨#[61]⟩ : ByteArray) true) r.2 tr.ok
  generalize R (.params (⟨#[61]⟩ : ByteArray) true) r.2 = r2 at pr2 tr2 hf ⊢
  have prc := ih (.defsL n0 (l ++ [Nd.mk 2 at_ r.1.1 0 [r2.1]])) r2.2 tr2.ok
  have trc := hT (.defsL n0 (l ++ [Nd.mk 2 at_ r.1.1 0 [r2.1]])) r2.2 tr2.ok
  generalize R (.defsL n0 (l ++ [Nd.mk 2 at_ r.1.1 0 [r2.1]])) r2.2 = rc at prc trc hf ⊢
  have mrc := trc.m
  have frc := trc.ok0 hf
  have mr2 := tr2.m
  have fr2 := tr2.ok0 frc
  have mr := tr.m
  have fr := tr.ok0 fr2
  have gr := lr fr2
  have gr2 := pr2 frc
  have grc := prc hf
  obtain ⟨ds, fs, e1, hd, hdk, kb⟩ := grc
  obtain ⟨fa, fx, z, sz, e2, hn, wz, zz, k1⟩ := gr2.2 rfl
  rw [e2] at e1
  have hc := Dc.df at_ r.1.1 0 fa fx 0 z sz gr.1 hn wz
  refine ⟨_ :: ds, _ :: fs, by rw [e1]; simp, .cons hc hd, fun d hd => ?_, fun b => ?_⟩
  · rcases List.mem_cons.1 hd with rfl | hd
    · first | exact .inl rfl | exact .inr rfl
    · exact hdk d hd
  refine Nat.le_trans (kb _) ?_
  rw [if_neg (by decide)]
  simp only [lz0, zap, zli, List.length]; omega
theorem defs1_good (hT : ∀ nt q, Ok S q → Tr S q (R nt q).2) (ih : ∀ nt q, Ok S q → (R nt q).2.fk = 0 → Post S nt q (R nt q).1 (R nt q).2) (n0 : Nat) (l : List Nd) (at_ : Nat) (q : Rs) (h : Ok S q) (hf : (defsT S R n0 l at_ 1 q).2.fk = 0) : ∃ ds fs, ((defsT S R n0 l at_ 1 q).1).ks = l ++ ds ∧ DL ds fs ∧ (∀ d ∈ ds, d.k = 1 ∨ d.k = 2) ∧ ∀ b, (pgF fs b).size + 100000 * M S ((defsT S R n0 l at_ 1 q).2) ≤ b.size + 100000 * M S q := by
  unfold defsT at hf ⊢
  dsimp only at hf ⊢
  have tr := name_tr (S := S) (q := q) h
  have lr := name_good (S := S) (q := q) h
  generalize nameR S q = r at tr lr hf ⊢
  have pr2 := ih (.params (⟨#[61]⟩ : ByteArray) true) r.2 tr.ok
  have tr2 := hT (.params (⟨#[61]⟩ : ByteArray) true) r.2 tr.ok
  generalize R (.params (⟨#[61]⟩ : ByteArray) true) r.2 = r2 at pr2 tr2 hf ⊢
  have prc := ih (.defsL n0 (l ++ [Nd.mk 2 at_ r.1.1 1 [r2.1]])) r2.2 tr2.ok
  have trc := hT (.defsL n0 (l ++ [Nd.mk 2 at_ r.1.1 1 [r2.1]])) r2.2 tr2.ok
  generalize R (.defsL n0 (l ++ [Nd.mk 2 at_ r.1.1 1 [r2.1]])) r2.2 = rc at prc trc hf ⊢
  have mrc := trc.m
  have frc := trc.ok0 hf
  have mr2 := tr2.m
  have fr2 := tr2.ok0 frc
  have mr := tr.m
  have fr := tr.ok0 fr2
  have gr := lr fr2
  have gr2 := pr2 frc
  have grc := prc hf
  obtain ⟨ds, fs, e1, hd, hdk, kb⟩ := grc
  obtain ⟨fa, fx, z, sz, e2, hn, wz, zz, k1⟩ := gr2.2 rfl
  rw [e2] at e1
  have hc := Dc.df at_ r.1.1 1 fa fx 0 z sz gr.1 hn wz
  refine ⟨_ :: ds, _ :: fs, by rw [e1]; simp, .cons hc hd, fun d hd => ?_, fun b => ?_⟩
  · rcases List.mem_cons.1 hd with rfl | hd
    · first | exact .inl rfl | exact .inr rfl
    · exact hdk d hd
  refine Nat.le_trans (kb _) ?_
  rw [if_pos rfl]
  simp only [lz0, zap, zli, List.length]; omega
theorem opsL_good (hT : ∀ nt q, Ok S q → Tr S q (R nt q).2) (ih : ∀ nt q, Ok S q → (R nt q).2.fk = 0 → Post S nt q (R nt q).1 (R nt q).2) (l : List Nd) (q : Rs) (h : Ok S q) (hf : (opsLS S R l q).2.fk = 0) : ∃ ds fs, ((opsLS S R l q).1).ks = l ++ ds ∧ DL ds fs ∧ (∀ d ∈ ds, d.k = 1 ∨ d.k = 2) ∧ ∀ b, (pgF fs b).size + 100000 * M S ((opsLS S R l q).2) ≤ b.size + 100000 * M S q := by
  unfold opsLS at hf ⊢
  split
  · rename_i h1
    rw [if_pos h1] at hf
    have t := next_tr h
    generalize nextR S q = q1 at t hf ⊢
    dsimp only at hf ⊢
    split
    · rename_i h2
      rw [if_pos h2] at hf
      have t2 := bNext t
      obtain ⟨ds, fs, e1, hd, hdk, kb⟩ := ops1_good hT ih l q.a _ t2.ok hf; exact ⟨ds, fs, e1, hd, hdk, fun b => by have := kb b; have := t2.m; omega⟩
    · rename_i h2
      rw [if_neg h2] at hf
      split
      · rename_i h3
        rw [if_pos h3] at hf
        have t2 := bNext t
        obtain ⟨ds, fs, e1, hd, hdk, kb⟩ := ops0_good hT ih l q.a _ t2.ok hf; exact ⟨ds, fs, e1, hd, hdk, fun b => by have := kb b; have := t2.m; omega⟩
      · rename_i h3
        rw [if_neg h3] at hf
        have t2 := bNo t
        obtain ⟨ds, fs, e1, hd, hdk, kb⟩ := ops0_good hT ih l q.a _ t2.ok hf; exact ⟨ds, fs, e1, hd, hdk, fun b => by have := kb b; have := t2.m; omega⟩
  · exact ⟨[], [], (List.append_nil l).symm, .nil, (fun d hd => by cases hd), fun b => Nat.le_refl _⟩
theorem defsL_good (hT : ∀ nt q, Ok S q → Tr S q (R nt q).2) (ih : ∀ nt q, Ok S q → (R nt q).2.fk = 0 → Post S nt q (R nt q).1 (R nt q).2) (n0 : Nat) (l : List Nd) (q : Rs) (h : Ok S q) (hf : (defsLS S R n0 l q).2.fk = 0) : ∃ ds fs, ((defsLS S R n0 l q).1).ks = l ++ ds ∧ DL ds fs ∧ (∀ d ∈ ds, d.k = 1 ∨ d.k = 2) ∧ ∀ b, (pgF fs b).size + 100000 * M S ((defsLS S R n0 l q).2) ≤ b.size + 100000 * M S q := by
  unfold defsLS at hf ⊢
  split
  · rename_i h1
    rw [if_pos h1] at hf
    have t := next_tr h
    generalize nextR S q = q1 at t hf ⊢
    dsimp only at hf ⊢
    have t2 := bHas (s := (⟨#[114, 101, 99]⟩ : ByteArray)) t
    split
    · rename_i h2
      rw [if_pos h2] at hf
      obtain ⟨ds, fs, e1, hd, hdk, kb⟩ := defs1_good hT ih n0 l q.a _ t2.ok hf; exact ⟨ds, fs, e1, hd, hdk, fun b => by have := kb b; have := t2.m; omega⟩
    · rename_i h2
      rw [if_neg h2] at hf
      obtain ⟨ds, fs, e1, hd, hdk, kb⟩ := defs0_good hT ih n0 l q.a _ t2.ok hf; exact ⟨ds, fs, e1, hd, hdk, fun b => by have := kb b; have := t2.m; omega⟩
  · exact ⟨[], [], (List.append_nil l).symm, .nil, (fun d hd => by cases hd), fun b => Nat.le_refl _⟩
theorem prog_good (hT : ∀ nt q, Ok S q → Tr S q (R nt q).2) (ih : ∀ nt q, Ok S q → (R nt q).2.fk = 0 → Post S nt q (R nt q).1 (R nt q).2) (q : Rs) (h : Ok S q) (hf : (progS S R q).2.fk = 0) : (progS S R q).1.k = 0 ∧ ∃ ds e fs, (progS S R q).1.ks = ds ++ [e] ∧ (∀ d ∈ ds, d.k = 1 ∨ d.k = 2) ∧ 3 ≤ e.k ∧ DL (progS S R q).1.ks fs ∧ ∀ b, (pgF fs b).size + 100000 * M S (progS S R q).2 ≤ b.size + 100000 * M S q := by
  unfold progS at hf ⊢
  dsimp only at hf ⊢
  have pr := ih (.opsL []) q h
  have tr := hT (.opsL []) q h
  generalize R (.opsL []) q = r at pr tr hf ⊢
  have pr2 := ih (.defsL r.1.ks.length r.1.ks) r.2 tr.ok
  have tr2 := hT (.defsL r.1.ks.length r.1.ks) r.2 tr.ok
  generalize R (.defsL r.1.ks.length r.1.ks) r.2 = r2 at pr2 tr2 hf ⊢
  have tq3 := must_tr (s := (⟨#[109, 97, 105, 110]⟩ : ByteArray)) tr2.ok
  have lq3 := must_lt (s := (⟨#[109, 97, 105, 110]⟩ : ByteArray)) tr2.ok
  generalize mustR S r2.2 (⟨#[109, 97, 105, 110]⟩ : ByteArray) = q3 at tq3 lq3 hf ⊢
  have tq4 := must_tr (s := (⟨#[61]⟩ : ByteArray)) tq3.ok
  have lq4 := must_lt (s := (⟨#[61]⟩ : ByteArray)) tq3.ok
  generalize mustR S q3 (⟨#[61]⟩ : ByteArray) = q4 at tq4 lq4 hf ⊢
  have pr5 := ih (.expr) q4 tq4.ok
  have tr5 := hT (.expr) q4 tq4.ok
  generalize R (.expr) q4 = r5 at pr5 tr5 hf ⊢
  have mr5 := tr5.m
  have fr5 := tr5.ok0 hf
  have mq4 := tq4.m
  have fq4 := tq4.ok0 fr5
  have mq3 := tq3.m
  have fq3 := tq3.ok0 fq4
  have mr2 := tr2.m
  have fr2 := tr2.ok0 fq3
  have mr := tr.m
  have fr := tr.ok0 fr2
  have gr := pr fr2
  have gr2 := pr2 fq3
  have gq3 := lq3 fq4
  have gq4 := lq4 fr5
  have gr5 := pr5 hf
  obtain ⟨sr5, wr5, zr5, kr5⟩ := gr5
  obtain ⟨d1, f1, e1, h1, g1, k1⟩ := gr
  obtain ⟨d2, f2, e2, h2, g2, k2⟩ := gr2
  rw [List.nil_append] at e1
  refine ⟨rfl, d1 ++ d2, r5.1, (f1 ++ f2) ++ [fun s => (s ++ (⟨#[109, 97, 105, 110, 32, 61, 32]⟩ : ByteArray)) ++ sr5], ?_, ?_, wr_kind wr5, ?_, fun b => ?_⟩
  · show r2.1.ks ++ [r5.1] = _
    rw [e2, e1]
  · intro d hd
    rcases List.mem_append.1 hd with h | h
    · exact g1 d h
    · exact g2 d h
  · show DL (r2.1.ks ++ [r5.1]) _
    rw [e2, e1]
    exact (h1.append h2).append (.cons (.main r5.1 sr5 (wr_kind wr5) wr5) .nil)
  · rw [pgF_append, pgF_append]
    have k1 := k1 b
    have k2 := k2 (pgF f1 b)
    show (((pgF f2 (pgF f1 b)) ++ (⟨#[109, 97, 105, 110, 32, 61, 32]⟩ : ByteArray)) ++ sr5).size + _ ≤ _
    simp only [zap, zli, List.length]
    omega
theorem step_good (hT : ∀ nt q, Ok S q → Tr S q (R nt q).2) (ih : ∀ nt q, Ok S q → (R nt q).2.fk = 0 → Post S nt q (R nt q).1 (R nt q).2) (nt : NT) (q : Rs) (h : Ok S q) (hf : (stepN S R nt q).2.fk = 0) : Post S nt q (stepN S R nt q).1 (stepN S R nt q).2 := by
  cases nt with
  | typ  => exact typ_good hT ih  q h hf
  | pair  => exact pair_good hT ih  q h hf
  | some  => exact some_good hT ih  q h hf
  | expr  => exact expr_good hT ih  q h hf
  | any  => exact any_good hT ih  q h hf
  | comp  => exact comp_good hT ih  q h hf
  | cons  => exact cons_good hT ih  q h hf
  | sum  => exact sum_good hT ih  q h hf
  | mul  => exact mul_good hT ih  q h hf
  | app  => exact app_good hT ih  q h hf
  | atom  => exact atom_good hT ih  q h hf
  | prog  => exact prog_good hT ih  q h hf
  | letN v0 => exact let_good hT ih v0 q h hf
  | cases v0 => exact cases_good hT ih v0 q h hf
  | handle v0 => exact handle_good hT ih v0 q h hf
  | round v0 => exact round_good hT ih v0 q h hf
  | square v0 => exact square_good hT ih v0 q h hf
  | namesL v0 => exact namesL_good hT ih v0 q h hf
  | handL v0 => exact handL_good hT ih v0 q h hf
  | squareL v0 => exact squareL_good hT ih v0 q h hf
  | opsL v0 => exact opsL_good hT ih v0 q h hf
  | defsL v0 v1 => exact defsL_good hT ih v0 v1 q h hf
  | params v0 v1 => exact params_good hT ih v0 v1 q h hf
  | listL a => exact fun sa W wa za ka => listL_good hT ih a q sa W h wa za ka hf
  | sumL a => exact fun sa W wa za ka => sumL_good hT ih a q sa W h wa za ka hf
  | mulL a => exact fun sa W wa za ka => mulL_good hT ih a q sa W h wa za ka hf
  | appL a => exact fun sa W wa za ka => appL_good hT ih a q sa W h wa za ka hf
end
theorem run_good {S : ByteArray} (k : Nat) : ∀ (nt : NT) (q : Rs), Ok S q → (run S k nt q).2.fk = 0 → Post S nt q (run S k nt q).1 (run S k nt q).2 := by
  induction k with
  | zero => exact fun _ _ _ f => (no_ok ((okB_iff _).2 f)).elim
  | succ k ih => exact fun nt q h f => step_good (run_tr k) ih nt q h f
/-- What the reader gives, when it finds no fault. -/
theorem parse_good {s : ByteArray} {t : Nd} {a : Nat} (h : parseP s = (t, 0, a)) : t.k = 0 ∧ ∃ ds e fs, t.ks = ds ++ [e] ∧ (∀ d ∈ ds, d.k = 1 ∨ d.k = 2) ∧ 3 ≤ e.k ∧ DL t.ks fs ∧ (pgF fs (⟨#[]⟩ : ByteArray)).size ≤ 400000000 := by
  unfold parseP at h
  split at h
  · cases h
  · rename_i hs
    have o := first_ok (S := s) (by omega)
    have tr := run_tr (S := s) fuelP .prog _ o
    have g := run_good (S := s) fuelP .prog _ o
    have m := M_le o
    generalize run s fuelP .prog (nextR s q00) = r at h tr g
    dsimp only at h
    split at h
    · rename_i hl
      have f : r.2.fk = 0 := by
        unfold lastR at hl
        split at hl
        · rename_i ho; exact (okB_iff _).1 ho
        · rename_i ho; exact absurd hl ho
      obtain ⟨e0, ds, e, fs, ek, hdk, h3, hd, kb⟩ := g f
      cases h
      refine ⟨e0, ds, e, fs, ek, hdk, h3, hd, ?_⟩
      have := kb (⟨#[]⟩ : ByteArray)
      have e1 : ((⟨#[]⟩ : ByteArray) : ByteArray).size = 0 := rfl
      omega
    · rename_i hl
      simp only [Prod.mk.injEq] at h
      exact absurd ((okB_iff _).2 h.2.1) hl
section
end
end Go.Syn
