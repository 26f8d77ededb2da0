/- Types and how they are shown: plain laws. -/
import Derived.Test.YtinilkomfggjiaaDoorGw
import Derived.Lib.ItoaMem
import Derived.Lib.ItoaLen
import Derived.Lib.Join
set_option linter.unusedVariables false
set_option linter.unusedSimpArgs false
namespace Go.Show
inductive TyP where
  | mk (kind n row : Int) (ops : List ByteArray) (args : List TyP)
def TyP.kind : TyP → Int | .mk k _ _ _ _ => k
def e0 : ByteArray := ⟨#[]⟩
def ty0 : TyP := .mk 0 0 0 [] []
def arity (k : Int) : Int := if k = 0 ∨ k = 1 ∨ k = 2 ∨ k = 3 then 0 else if k = 4 then 1 else if k = 5 ∨ k = 6 then 2 else -1
def lvl (k : Int) : Int := if k = 6 then 0 else if k = 5 then 1 else if k = 4 then 2 else 3
def digB (n : Nat) : ByteArray := ⟨(Lib.decDigits n).toArray⟩
def bR : ByteArray := ⟨#[124, 32, 114]⟩
theorem app_e0 (b : ByteArray) : b ++ e0 = b := by apply ByteArray.ext; simp [e0, ByteArray.data_append]
theorem app_assoc (a b c : ByteArray) : a ++ b ++ c = a ++ (b ++ c) := by apply ByteArray.ext; simp [ByteArray.data_append]
theorem size_mk (l : List UInt8) : (⟨l.toArray⟩ : ByteArray).size = l.length := by show l.toArray.size = _; simp
theorem dig_small {m : Nat} (h : m < 10) : digB m = ⟨#[UInt8.ofNat (48 + m)]⟩ := by unfold digB; rw [Lib.decDigits, dif_pos h]
theorem dig_step {m : Nat} (h : ¬ m < 10) : digB m = digB (m / 10) ++ ⟨#[UInt8.ofNat (48 + m % 10)]⟩ := by
  apply ByteArray.ext
  unfold digB
  rw [Lib.decDigits, dif_neg h]
  simp [ByteArray.data_append]
theorem dig_size {m : Nat} (h : m ≤ 9223372036854775807) : (digB m).size ≤ 21 := by
  unfold digB
  rw [size_mk]
  have := Lib.itoa_length_le (m : Int) (by omega) (by omega)
  rw [Lib.itoa_nonneg] at this
  exact this
theorem itoa_dig {n : Int} (h : 0 ≤ n) : (⟨(Lib.itoa n).toArray⟩ : ByteArray) = digB n.toNat := by
  unfold digB Lib.itoa
  rw [if_neg (by omega)]
inductive Wf : TyP → Prop
  | mk {k n row : Int} {ops : List ByteArray} {args : List TyP} (ha : (args.length : Int) = arity k) (h0 : k = 0 → 0 ≤ n) (hr : 0 ≤ row) (hs : ∀ i, i < args.length → Wf (args.getD i ty0)) : Wf (.mk k n row ops args)
def I64 (x : Int) : Prop := -9223372036854775808 ≤ x ∧ x ≤ 9223372036854775807
inductive TyIn (w : World) : TyP → Value → Prop
  | mk {k n row : Int} {ops : List ByteArray} {args : List TyP} {A1 A2 : Option Addr} {c1 c2 : Nat} (cs : Nat → List Value)
    (hk : I64 k) (hn : I64 n) (hr : I64 row) (hc1 : ops.length ≤ c1) (hl : ops.length ≤ 1048576 ∧ args.length ≤ 1048576) (hz : ∀ i, (ops.getD i e0).size ≤ 1048576)
    (ho : Gx.Rd w A1 ops.length 1 (fun i => [.string (ops.getD i e0)])) (ha : Gx.Rd w A2 args.length 5 cs) (hV : ∀ i, i < args.length → TyIn w (args.getD i ty0) (.agg (cs i).toArray)) :
    TyIn w (.mk k n row ops args) (.agg #[.int .i64 k, .int .i64 n, .int .i64 row, .slice A1 ops.length c1, .slice A2 args.length c2])
theorem TyIn.ext {w w' : World} {t : TyP} {v : Value} (h : TyIn w t v) (x : Gx.Ext w w') : TyIn w' t v := by
  induction h with
  | mk cs hk hn hr hc1 hl hz ho ha hV ih => exact .mk cs hk hn hr hc1 hl hz (ho.ext (by decide) x) (ha.ext (by decide) x) ih
end Go.Show
