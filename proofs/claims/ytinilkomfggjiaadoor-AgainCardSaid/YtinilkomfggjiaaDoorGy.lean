/- More steps: strings put together, bytes as a string, remainders, pieces of slices, appends of many. -/
import Derived.Test.YtinilkomfggjiaaDoorGx
set_option linter.unusedVariables false
set_option linter.unusedSimpArgs false
namespace Go.Gx
section
variable {P : Program} {Q : Exit → Act → World → Prop} {w : World} {ops : Array Oper} {b : Nat → Value} {n : Nat} {l : List (Nat × Value)} {d : List Deferred} {K : Act → World → Prop}
theorem run_concat {o : Oper} {t t' : TypeId} {x y : Operand} (hop : o.op = .binOp .add t x y t') (s u : ByteArray) (hx : ev b n l x = .string s) (hy : ev b n l y = .string u) (hsz : s.size + u.size ≤ 9223372036854775807) :
    (execOp (ev b n l) o).run P w = .ok (.value (.string (s ++ u))) w := by
  unfold execOp
  have h : ¬ (((s.size + u.size : Nat) : Int) > IntKind.i64.max) := by
    have : IntKind.i64.max = 9223372036854775807 := by decide
    rw [this]; omega
  have h' : ¬ (IntKind.i64.max < (s.size : Int) + (u.size : Int)) := by
    have : IntKind.i64.max = 9223372036854775807 := by decide
    rw [this]; omega
  simp [hop, hx, hy, eqGuard, Sem.run_bind, binOp, Op.stringOp, h']
  omega
theorem op_concat {i : Nat} {o : Oper} {t t' : TypeId} {x y : Operand} (ho : ops[i]? = some o) (hg : Region.wanted o (yl ops b n l) = true) (hop : o.op = .binOp .add t x y t') (s u : ByteArray)
    (hx : ev b n l x = .string s) (hy : ev b n l y = .string u) (hsz : s.size + u.size ≤ 9223372036854775807)
    (k : K (Fr b n (putL o (.string (s ++ u)) l) d) w) : wpOp P ops Q i K (Fr b n l d) w :=
  op_val ho hg (run_concat hop s u hx hy hsz) k
theorem own_updr {w w' : World} {base : Nat} {e : TypeId} {size : Nat} {v : Value} {n : Nat} {xs : List Value} {r : Option Nat} (h : w.ownsRow base e size v n xs) (k : G w w' r) (hne : ∀ q, v.ownBlock = some q → ∀ j, r = some j → q ≠ j) : w'.ownsRow base e size v n xs :=
  h.kept k (by cases hv : v.ownBlock with | none => simp | some q => right; intro e; exact hne q hv q e.symm rfl)
end
end Go.Gx
