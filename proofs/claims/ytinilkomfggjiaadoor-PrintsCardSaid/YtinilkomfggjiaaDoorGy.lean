/- More steps: strings put together, bytes as a string, remainders, pieces of slices, appends of many. -/
import Derived.Test.YtinilkomfggjiaaDoorGx
set_option linter.unusedVariables false
set_option linter.unusedSimpArgs false
namespace Go.Gx
section
variable {P : Program} {Q : Exit → Act → World → Prop} {w : World} {ops : Array Oper} {b : Nat → Value} {n : Nat} {l : List (Nat × Value)} {d : List Deferred} {K : Act → World → Prop}

theorem run_concat {o : Oper} {t t' : TypeId} {x y : Operand} (hop : o.op = .binOp .add t x y t') (s u : ByteArray) (hx : ev b n l x = .string s) (hy : ev b n l y = .string u) (hsz : s.size + u.size ≤ 9223372036854775807) :
    (execOp (ev b n l) o).run P w = .ok (.value (.string (s ++ u))) w := by
  unfold execOp
  have h : ¬ (((s.size + u.size : Nat) : Int) > IntKind.i64.max) := by
    have : IntKind.i64.max = 9223372036854775807 := by decide
    rw [this]; omega
  have h' : ¬ (IntKind.i64.max < (s.size : Int) + (u.size : Int)) := by
    have : IntKind.i64.max = 9223372036854775807 := by decide
    rw [this]; omega
  simp [hop, hx, hy, eqGuard, Sem.run_bind, binOp, Op.stringOp, h']
  omega
theorem op_concat {i : Nat} {o : Oper} {t t' : TypeId} {x y : Operand} (ho : ops[i]? = some o) (hg : Region.wanted o (yl ops b n l) = true) (hop : o.op = .binOp .add t x y t') (s u : ByteArray)
    (hx : ev b n l x = .string s) (hy : ev b n l y = .string u) (hsz : s.size + u.size ≤ 9223372036854775807)
    (k : K (Fr b n (putL o (.string (s ++ u)) l) d) w) : wpOp P ops Q i K (Fr b n l d) w :=
  op_val ho hg (run_concat hop s u hx hy hsz) k

theorem op_bstr {i : Nat} {o : Oper} {src dst : TypeId} {x : Operand} (ho : ops[i]? = some o) (hg : Region.wanted o (yl ops b n l) = true) (hop : o.op = .convert src dst x) (e : TypeId)
    (hs : P.underlying src = some (.slice e)) (hd : P.underlying dst = some .string) (he : P.underlying e = some (.int .u8)) {bk : Nat} (off len cap : Nat) (hx : ev b n l x = .slice (some ⟨bk, off, none⟩) len cap)
    {cs : Array Value} {e' : TypeId} {fr : Nat × Nat} (hb : Has w bk (.cells cs e' fr)) (xs : List UInt8) (hl : xs.length = len) (hc : ∀ j, j < len → cs[off + j]? = some (.int .u8 ((xs.getD j 0).toNat : Int)))
    (k : K (Fr b n (putL o (.string ⟨xs.toArray⟩) l) d) w) : wpOp P ops Q i K (Fr b n l d) w := by
  subst hl
  have h := run_convert_bytes_back (P := P) w src dst e ⟨bk, off, none⟩ cap xs hs he hd (fun j hj => by
    have hadd : (⟨bk, off, none⟩ : Addr).add j = ⟨bk, off + j, none⟩ := by unfold Addr.add; split <;> simp_all
    rw [hadd, cell_of_row w bk (off + j) cs e' fr hb, hc j hj]
    simp [List.getD, hj])
  refine op_val ho hg ?_ k
  unfold execOp
  simp [hop, hx, Sem.run_bind, h]

theorem bstr1 {m : Nat} (h : m < 256) : ∀ j, j < 1 → (#[Value.int .u8 (m : Int)] : Array Value)[0 + j]? = some (.int .u8 (([UInt8.ofNat m].getD j 0).toNat : Int)) := by
  intro j hj
  obtain rfl : j = 0 := by omega
  have : (UInt8.ofNat m).toNat = m := by simp [Nat.mod_eq_of_lt h]
  simp [this]
end
end Go.Gx
