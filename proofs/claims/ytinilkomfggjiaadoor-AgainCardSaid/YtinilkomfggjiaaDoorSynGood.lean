/- What trees the document's reader makes, and how they are written: plain laws. -/
import Derived.Test.YtinilkomfggjiaaDoorZk
import Derived.Test.YtinilkomfggjiaaDoorSynPlain
import Derived.Test.YtinilkomfggjiaaDoorShowPlain
set_option linter.unusedVariables false
set_option linter.unusedSimpArgs false
namespace Go.Syn
open Go.Show (digB)
open Go.Lex
def lvl (t : Nd) : Int :=
  if t.k = 9 ∨ t.k = 7 ∨ t.k = 11 ∨ t.k = 17 ∨ t.k = 20 ∨ t.k = 10 ∨ t.k = 29 then 0 else if t.k = 28 then 1 else if t.k = 27 then 2 else if t.k = 24 ∨ t.k = 25 ∨ t.k = 26 then 3 else if t.k = 16 then 2
  else if t.k = 8 ∨ t.k = 19 ∨ t.k = 13 ∨ t.k = 14 then 5 else if t.k = 18 then (if t.nm = Z.k8 ∨ t.nm = Z.k17 then 1 else if t.nm = Z.k6 then 4 else 3) else 6
def inT (least : Int) (t : Nd) (s : ByteArray) : ByteArray := if lvl t < least then (Z.k56 ++ s) ++ Z.k57 else s
def intT (n : Int) : ByteArray := if n < 0 then (⟨#[126, 32]⟩ : ByteArray) ++ digB (-n).toNat else digB n.toNat
def arL (ps : List Nd) : Nat → ByteArray
  | 0 => (⟨#[32, 45, 32, 123, 32]⟩ : ByteArray)
  | i + 1 => (if i > 0 then arL ps i ++ Z.k60 else arL ps i) ++ (ps.getD i nd0).nm
def arrT (ps : List Nd) : ByteArray := if ps.length = 0 then (⟨#[32, 45, 62, 32]⟩ : ByteArray) else arL ps ps.length ++ (⟨#[32, 125, 32, 45, 62, 32]⟩ : ByteArray)
def cl1 (c : Nd) (s b : ByteArray) : ByteArray := (((((((b ++ (⟨#[32, 124, 32]⟩ : ByteArray)) ++ c.nm) ++ Z.k3) ++ (c.ks.getD 0 nd0).nm) ++ Z.k3) ++ (c.ks.getD 1 nd0).nm) ++ Z.k30) ++ s
def clT : List Nd → List ByteArray → ByteArray → ByteArray
  | c :: cs, s :: ss, b => clT cs ss (cl1 c s b)
  | _, _, b => b
def opT (nm : ByteArray) (x y : Nd) (sx sy : ByteArray) : ByteArray :=
  if nm = Z.k8 ∨ nm = Z.k17 then (((inT 2 x sx ++ Z.k3) ++ nm) ++ Z.k3) ++ inT 2 y sy
  else if nm = Z.k6 then (((inT 4 x sx ++ Z.k3) ++ nm) ++ Z.k3) ++ inT 5 y sy
  else (((inT 3 x sx ++ Z.k3) ++ nm) ++ Z.k3) ++ inT 4 y sy
inductive Wr : Nd → ByteArray → Prop
  | eint (a : Nat) (nm : ByteArray) (n : Int) : -9223372036854775807 ≤ n → n ≤ 9223372036854775807 → Wr (.mk 3 a nm n []) (intT n)
  | ebool (a : Nat) (nm : ByteArray) (n : Int) : Wr (.mk 4 a nm n []) (if n = 1 then Z.k13 else Z.k14)
  | eunit (a : Nat) (nm : ByteArray) (n : Int) : Wr (.mk 5 a nm n []) (⟨#[40, 32, 41]⟩ : ByteArray)
  | evar (a : Nat) (nm : ByteArray) (n : Int) : 0 < nm.size → Wr (.mk 6 a nm n []) nm
  | efn (a : Nat) (nm : ByteArray) (n : Int) (x : Nd) (sx : ByteArray) : 0 < nm.size → Wr x sx → Wr (.mk 7 a nm n [x]) ((((⟨#[102, 110, 32]⟩ : ByteArray) ++ nm) ++ Z.k30) ++ sx)
  | eapp (a : Nat) (nm : ByteArray) (n : Int) (x y : Nd) (sx sy : ByteArray) : Wr x sx → Wr y sy → Wr (.mk 8 a nm n [x, y]) (((if x.k = 8 then sx else inT 6 x sx) ++ Z.k3) ++ inT 6 y sy)
  | elet0 (a : Nat) (nm : ByteArray) (x y : Nd) (sx sy : ByteArray) : 0 < nm.size → Wr x sx → Wr y sy → Wr (.mk 9 a nm 0 [x, y]) ((((((⟨#[108, 101, 116, 32]⟩ : ByteArray) ++ nm) ++ Z.k52) ++ sx) ++ Z.k58) ++ sy)
  | elet1 (a : Nat) (nm : ByteArray) (fa : Nat) (fx : ByteArray) (fm : Int) (x y : Nd) (sx sy : ByteArray) : 0 < nm.size → 0 < fx.size → Wr x sx → Wr y sy →
      Wr (.mk 9 a nm 1 [.mk 7 fa fx fm [x], y]) (((((Z.k62 ++ nm) ++ Z.k3) ++ ((fx ++ Z.k52) ++ sx)) ++ Z.k58) ++ sy)
  | eseq (a : Nat) (nm : ByteArray) (n : Int) (x y : Nd) (sx sy : ByteArray) : Wr x sx → Wr y sy → Wr (.mk 10 a nm n [x, y]) ((inT 1 x sx ++ (⟨#[32, 59, 32]⟩ : ByteArray)) ++ sy)
  | eif (a : Nat) (nm : ByteArray) (n : Int) (x y z : Nd) (sx sy sz : ByteArray) : Wr x sx → Wr y sy → Wr z sz → Wr (.mk 11 a nm n [x, y, z]) ((((((⟨#[105, 102, 32]⟩ : ByteArray) ++ sx) ++ Z.k63) ++ sy) ++ Z.k64) ++ sz)
  | epair (a : Nat) (nm : ByteArray) (n : Int) (x y : Nd) (sx sy : ByteArray) : Wr x sx → Wr y sy → Wr (.mk 12 a nm n [x, y]) ((((Z.k56 ++ sx) ++ Z.k60) ++ sy) ++ Z.k57)
  | efst (a : Nat) (nm : ByteArray) (n : Int) (x : Nd) (sx : ByteArray) : Wr x sx → Wr (.mk 13 a nm n [x]) ((⟨#[102, 115, 116, 32]⟩ : ByteArray) ++ inT 6 x sx)
  | esnd (a : Nat) (nm : ByteArray) (n : Int) (x : Nd) (sx : ByteArray) : Wr x sx → Wr (.mk 14 a nm n [x]) ((⟨#[115, 110, 100, 32]⟩ : ByteArray) ++ inT 6 x sx)
  | enil (a : Nat) (nm : ByteArray) (n : Int) : Wr (.mk 15 a nm n []) (⟨#[91, 32, 93]⟩ : ByteArray)
  | econs (a : Nat) (nm : ByteArray) (n : Int) (x y : Nd) (sx sy : ByteArray) : Wr x sx → Wr y sy → Wr (.mk 16 a nm n [x, y]) ((inT 3 x sx ++ Z.k59) ++ inT 2 y sy)
  | ecase (a : Nat) (nm : ByteArray) (n : Int) (x y u v z : Nd) (sx sy sz : ByteArray) : 0 < u.nm.size → 0 < v.nm.size → Wr x sx → Wr y sy → Wr z sz →
      Wr (.mk 17 a nm n [x, y, u, v, z]) (((((((((((⟨#[99, 97, 115, 101, 32]⟩ : ByteArray) ++ sx) ++ Z.k65) ++ sy) ++ (⟨#[32, 124, 32]⟩ : ByteArray)) ++ u.nm) ++ Z.k59) ++ v.nm) ++ Z.k30) ++ sz) ++ (⟨#[32, 101, 110, 100]⟩ : ByteArray))
  | eop (a : Nat) (nm : ByteArray) (n : Int) (x y : Nd) (sx sy : ByteArray) : (nm = Z.k8 ∨ nm = Z.k17 ∨ nm = Z.k10 ∨ nm = Z.k5 ∨ nm = Z.k6) → Wr x sx → Wr y sy → Wr (.mk 18 a nm n [x, y]) (opT nm x y sx sy)
  | edo (a : Nat) (nm : ByteArray) (n : Int) (x : Nd) (sx : ByteArray) : 0 < nm.size → Wr x sx → Wr (.mk 19 a nm n [x]) ((((⟨#[100, 111, 32]⟩ : ByteArray) ++ nm) ++ Z.k3) ++ inT 6 x sx)
  | ehandle (a : Nat) (nm : ByteArray) (n : Int) (x r : Nd) (sx sb : ByteArray) (cs : List Nd) (ss : List ByteArray) : (n = 0 ∨ n = 1) → 0 < r.nm.size → r.ks.length = 1 → ss.length = cs.length →
      (∀ i, i < cs.length → (cs.getD i nd0).ks.length = 3 ∧ 0 < (cs.getD i nd0).nm.size ∧ 0 < ((cs.getD i nd0).ks.getD 0 nd0).nm.size ∧ 0 < ((cs.getD i nd0).ks.getD 1 nd0).nm.size) →
      Wr x sx → Wr (r.ks.getD 0 nd0) sb → (∀ i, i < cs.length → Wr ((cs.getD i nd0).ks.getD 2 nd0) (ss.getD i Z.E)) →
      Wr (.mk 20 a nm n (x :: r :: cs)) (clT cs ss ((((((if n = 1 then Z.k55 else Z.k54) ++ sx) ++ Z.k40) ++ r.nm) ++ Z.k30) ++ sb) ++ (⟨#[32, 125]⟩ : ByteArray))
  | tint (a : Nat) (nm : ByteArray) (n : Int) : Wr (.mk 24 a nm n []) Z.k23
  | tbool (a : Nat) (nm : ByteArray) (n : Int) : Wr (.mk 25 a nm n []) Z.k26
  | tunit (a : Nat) (nm : ByteArray) (n : Int) : Wr (.mk 26 a nm n []) Z.k31
  | tlist (a : Nat) (nm : ByteArray) (n : Int) (x : Nd) (sx : ByteArray) : Wr x sx → Wr (.mk 27 a nm n [x]) (inT 2 x sx ++ Z.k66)
  | tpair (a : Nat) (nm : ByteArray) (n : Int) (x y : Nd) (sx sy : ByteArray) : Wr x sx → Wr y sy → Wr (.mk 28 a nm n [x, y]) ((inT 2 x sx ++ (⟨#[32, 42, 32]⟩ : ByteArray)) ++ inT 1 y sy)
  | tfn (a : Nat) (nm : ByteArray) (n : Int) (x y : Nd) (sx sy : ByteArray) (ps : List Nd) : (∀ i, i < ps.length → 0 < (ps.getD i nd0).nm.size) → Wr x sx → Wr y sy → Wr (.mk 29 a nm n (x :: y :: ps)) ((inT 1 x sx ++ arrT ps) ++ sy)
inductive Dc : Nd → (ByteArray → ByteArray) → Prop
  | op (a : Nat) (nm : ByteArray) (n : Int) (x y : Nd) (sx sy : ByteArray) : (n = 0 ∨ n = 1) → 0 < nm.size → Wr x sx → Wr y sy →
      Dc (.mk 1 a nm n [x, y]) (fun s => (((((((s ++ (⟨#[111, 112, 32]⟩ : ByteArray)) ++ (if n = 1 then (⟨#[111, 110, 99, 101, 32]⟩ : ByteArray) else (⟨#[109, 97, 110, 121, 32]⟩ : ByteArray))) ++ nm) ++ (⟨#[32, 58, 32]⟩ : ByteArray)) ++ sx) ++ Z.k30) ++ sy) ++ Z.k3)
  | df (a : Nat) (nm : ByteArray) (n : Int) (fa : Nat) (fx : ByteArray) (fm : Int) (x : Nd) (sx : ByteArray) : 0 < nm.size → 0 < fx.size → Wr x sx →
      Dc (.mk 2 a nm n [.mk 7 fa fx fm [x]]) (fun s => (((((s ++ (⟨#[100, 101, 102, 32]⟩ : ByteArray)) ++ (if n = 1 then (⟨#[114, 101, 99, 32]⟩ : ByteArray) else Z.E)) ++ nm) ++ Z.k3) ++ ((fx ++ Z.k52) ++ sx)) ++ Z.k3)
  | main (x : Nd) (sx : ByteArray) : 3 ≤ x.k → Wr x sx → Dc x (fun s => (s ++ Z.k61) ++ sx)
inductive DL : List Nd → List (ByteArray → ByteArray) → Prop
  | nil : DL [] []
  | cons {d : Nd} {f : ByteArray → ByteArray} {ds : List Nd} {fs : List (ByteArray → ByteArray)} : Dc d f → DL ds fs → DL (d :: ds) (f :: fs)
def pgF (fs : List (ByteArray → ByteArray)) (b : ByteArray) : ByteArray := fs.foldl (fun s f => f s) b
theorem inT_le (l : Int) (t : Nd) (s : ByteArray) : (inT l t s).size ≤ s.size + 4 ∧ s.size ≤ (inT l t s).size := by
  unfold inT
  split
  · rw [ByteArray.size_append, ByteArray.size_append]
    have h1 : Z.k56.size = 2 := rfl
    have h2 : Z.k57.size = 2 := rfl
    omega
  · omega
theorem wr_kind {t : Nd} {s : ByteArray} (h : Wr t s) : 3 ≤ t.k := by
  cases h <;> simp [Nd.k]
theorem dig_pos (m : Nat) : 0 < (digB m).size := by
  unfold digB
  rw [Show.size_mk, Lib.decDigits]
  split <;> simp
def G (S : ByteArray) (q q' : Rs) (W : Nat) (t : Nd) : Prop := ∃ s, Wr t s ∧ 0 < s.size ∧ s.size + 100 + 100000 * M S q' ≤ 100000 * M S q + W
def FnP (S : ByteArray) (q q' : Rs) (t : Nd) : Prop := ∃ (a : Nat) (nx : ByteArray) (z : Nd) (sz : ByteArray), t = .mk 7 a nx 0 [z] ∧ 0 < nx.size ∧ Wr z sz ∧ 0 < sz.size ∧ nx.size + sz.size + 200 + 100000 * M S q' ≤ 100000 * M S q
theorem wr_mk {t : Nd} {s s' : ByteArray} (h : Wr t s) (e : s = s') : Wr t s' := e ▸ h
theorem zap (a b : ByteArray) : (a ++ b).size = a.size + b.size := ByteArray.size_append
theorem zli (l : List UInt8) : (⟨l.toArray⟩ : ByteArray).size = l.length := rfl
theorem lz1 (a0 : UInt8) : (⟨#[a0]⟩ : ByteArray).size = 1 := rfl
theorem lz2 (a0 a1 : UInt8) : (⟨#[a0, a1]⟩ : ByteArray).size = 2 := rfl
theorem lz3 (a0 a1 a2 : UInt8) : (⟨#[a0, a1, a2]⟩ : ByteArray).size = 3 := rfl
theorem lz4 (a0 a1 a2 a3 : UInt8) : (⟨#[a0, a1, a2, a3]⟩ : ByteArray).size = 4 := rfl
theorem lz5 (a0 a1 a2 a3 a4 : UInt8) : (⟨#[a0, a1, a2, a3, a4]⟩ : ByteArray).size = 5 := rfl
theorem lz6 (a0 a1 a2 a3 a4 a5 : UInt8) : (⟨#[a0, a1, a2, a3, a4, a5]⟩ : ByteArray).size = 6 := rfl
theorem lz7 (a0 a1 a2 a3 a4 a5 a6 : UInt8) : (⟨#[a0, a1, a2, a3, a4, a5, a6]⟩ : ByteArray).size = 7 := rfl
theorem lz8 (a0 a1 a2 a3 a4 a5 a6 a7 : UInt8) : (⟨#[a0, a1, a2, a3, a4, a5, a6, a7]⟩ : ByteArray).size = 8 := rfl
section
variable {S : ByteArray} {R : NT → Rs → Nd × Rs}
theorem opT_le {nm : ByteArray} {x y : Nd} {sx sy : ByteArray} (h : nm.size ≤ 2) : (opT nm x y sx sy).size ≤ sx.size + sy.size + 12 ∧ sx.size ≤ (opT nm x y sx sy).size := by
  have a1 := inT_le 2 x sx
  have a2 := inT_le 3 x sx
  have a3 := inT_le 4 x sx
  have b1 := inT_le 2 y sy
  have b2 := inT_le 4 y sy
  have b3 := inT_le 5 y sy
  unfold opT
  repeat' split
  all_goals (simp only [ByteArray.size_append, lz1]; omega)
theorem intT_le {n : Int} (h1 : -9223372036854775807 ≤ n) (h2 : n ≤ 9223372036854775807) : 0 < (intT n).size ∧ (intT n).size ≤ 30 := by
  unfold intT
  split
  · have := Show.dig_size (m := (-n).toNat) (by omega)
    simp only [ByteArray.size_append, lz2]; omega
  · have := Show.dig_size (m := n.toNat) (by omega)
    have := dig_pos n.toNat
    omega
theorem DL.append {a b : List Nd} {f g : List (ByteArray → ByteArray)} (h : DL a f) (k : DL b g) : DL (a ++ b) (f ++ g) := by
  induction h with
  | nil => exact k
  | cons h1 _ ih => exact .cons h1 ih
theorem FnP.good {q q' : Rs} {t : Nd} (h : FnP S q q' t) : G S q q' 0 t := by
  obtain ⟨a, nx, z, sz, rfl, hn, wz, zz, k⟩ := h
  refine ⟨_, Wr.efn _ _ _ z sz hn wz, ?_, ?_⟩ <;> (simp only [zap, zli, List.length]) <;> omega
theorem lz0 : Z.E.size = 0 := rfl
end
section
end
end Go.Syn
