/- More steps: strings put together, bytes as a string, remainders, pieces of slices, appends of many. -/
import Derived.Test.YtlddkcdjegcleaaGx
set_option linter.unusedVariables false
set_option linter.unusedSimpArgs false
namespace Go.Gx
section
variable {P : Program} {Q : Exit → Act → World → Prop} {w : World} {ops : Array Oper} {b : Nat → Value} {n : Nat} {l : List (Nat × Value)} {d : List Deferred} {K : Act → World → Prop}
theorem run_concat {o : Oper} {t t' : TypeId} {x y : Operand} (hop : o.op = .binOp .add t x y t') (s u : ByteArray) (hx : ev b n l x = .string s) (hy : ev b n l y = .string u) (hsz : s.size + u.size ≤ 9223372036854775807) :
    (execOp (ev b n l) o).run P w = .ok (.value (.string (s ++ u))) w := by
  unfold execOp
  have h : ¬ (((s.size + u.size : Nat) : Int) > IntKind.i64.max) := by
    have : IntKind.i64.max = 9223372036854775807 := by decide
    rw [this]; omega
  have h' : ¬ (IntKind.i64.max < (s.size : Int) + (u.size : Int)) := by
    have : IntKind.i64.max = 9223372036854775807 := by decide
    rw [this]; omega
  simp [hop, hx, hy, eqGuard, Sem.run_bind, binOp, Op.stringOp, h']
  omega
theorem op_concat {i : Nat} {o : Oper} {t t' : TypeId} {x y : Operand} (ho : ops[i]? = some o) (hg : Region.wanted o (yl ops b n l) = true) (hop : o.op = .binOp .add t x y t') (s u : ByteArray)
    (hx : ev b n l x = .string s) (hy : ev b n l y = .string u) (hsz : s.size + u.size ≤ 9223372036854775807)
    (k : K (Fr b n (putL o (.string (s ++ u)) l) d) w) : wpOp P ops Q i K (Fr b n l d) w :=
  op_val ho hg (run_concat hop s u hx hy hsz) k
theorem op_bstr {i : Nat} {o : Oper} {src dst : TypeId} {x : Operand} (ho : ops[i]? = some o) (hg : Region.wanted o (yl ops b n l) = true) (hop : o.op = .convert src dst x) (e : TypeId)
    (hs : P.underlying src = some (.slice e)) (hd : P.underlying dst = some .string) (he : P.underlying e = some (.int .u8)) {bk : Nat} (off len cap : Nat) (hx : ev b n l x = .slice (some ⟨bk, off, none⟩) len cap)
    {cs : Array Value} {e' : TypeId} {fr : Nat × Nat} (hb : Has w bk (.cells cs e' fr)) (xs : List UInt8) (hl : xs.length = len) (hc : ∀ j, j < len → cs[off + j]? = some (.int .u8 ((xs.getD j 0).toNat : Int)))
    (k : K (Fr b n (putL o (.string ⟨xs.toArray⟩) l) d) w) : wpOp P ops Q i K (Fr b n l d) w := by
  subst hl
  have h := run_convert_bytes_back (P := P) w src dst e ⟨bk, off, none⟩ cap xs hs he hd (fun j hj => by
    have hadd : (⟨bk, off, none⟩ : Addr).add j = ⟨bk, off + j, none⟩ := by unfold Addr.add; split <;> simp_all
    rw [hadd, cell_of_row w bk (off + j) cs e' fr hb, hc j hj]
    simp [List.getD, hj])
  refine op_val ho hg ?_ k
  unfold execOp
  simp [hop, hx, Sem.run_bind, h]
theorem op_slice_hi {i : Nat} {o : Oper} {t : TypeId} {x hi : Operand} (ho : ops[i]? = some o) (hg : Region.wanted o (yl ops b n l) = true) (hop : o.op = .slice t x none (some hi) none) (e : TypeId)
    (ht : P.underlying t = some (.slice e)) (hsz : (P.info? e).isSome = true) {bk : Nat} (off len cap : Nat) (hx : ev b n l x = .slice (some ⟨bk, off, none⟩) len cap)
    (kd : IntKind) (m : Nat) (hh : ev b n l hi = .int kd (m : Int)) (hm : m ≤ cap)
    (k : K (Fr b n (putL o (.slice (some ⟨bk, off, none⟩) m cap) l) d) w) : wpOp P ops Q i K (Fr b n l d) w := by
  have he : P.elem t = e := by unfold Program.elem; rw [ht]
  have ht' : P.underlying t = some (.slice (P.elem t)) := by rw [he]; exact ht
  refine op_val ho hg ?_ k
  obtain ⟨inf, hinf⟩ := Option.isSome_iff_exists.1 hsz
  have hadd : (⟨bk, off, none⟩ : Addr).add 0 = ⟨bk, off, none⟩ := by unfold Addr.add; split <;> simp_all
  have h := run_slice_h (P := P) w t (some ⟨bk, off, none⟩) len cap ht' kd (m : Int) (by omega) (by omega)
  unfold execOp
  simp [hop, hx, hh, Sem.run_bind, run_sliceAt_slice w t _ _ _ _ ht', h, sizeOf, typeInfo, he, hinf, sliced, hadd]
/-- Append of the first cells of a block. -/
theorem op_appendP {i : Nat} {o : Oper} {s x : Operand} {t : TypeId} (ho : ops[i]? = some o) (hg : Region.wanted o (yl ops b n l) = true)
    (hop : o.op = .call { callee := .builtin .append, args := #[s, x], argTypes := #[t, t] }) (e : TypeId) (size bytes : Nat) (ht : P.underlying t = some (.slice e))
    (hi : (P.info? e).map (fun i => (i.zero.map (·.cells.size), i.size, i.bytes)) = some (some size, size, bytes)) (hsz : Nat.blt 0 size = true)
    (base : Nat) {v : Value} {m : Nat} {xs : List Value} (hs : ev b n l s = v) (hown : w.ownsRow base e size v m xs)
    {bk : Nat} (off k' c : Nat) (hx : ev b n l x = .slice (some ⟨bk, off, none⟩) k' c) {cs : Array Value} {e' : TypeId} {fr : Nat × Nat} (hb : Has w bk (.cells cs e' fr))
    (news : List Value) (hn : (cs.toList.drop off).take (k' * size) = news) (hl : news.length = k' * size) (h1 : ∀ u ∈ news, u.oneCell' = true)
    (h63 : m + k' ≤ maxLen) (hbytes : (m + k') * bytes ≤ 140737488355328) (hbase : base ≤ w.heap.size)
    (k : ∀ v' w', w'.ownsRow base e size v' (m + k') (xs ++ news) → G w w' v.ownBlock → (v' = .slice none 0 0 ↔ v = .slice none 0 0 ∧ k' = 0) → K (Fr b n (putL o v' l) d) w') : wpOp P ops Q i K (Fr b n l d) w := by
  cases hinf : P.info? e with
  | none => simp [hinf] at hi
  | some info =>
    simp only [hinf, Option.map_some, Option.some.injEq, Prod.mk.injEq, Option.map_eq_some_iff] at hi
    obtain ⟨⟨z, hz, hzs⟩, hsize, hby⟩ := hi
    have hc : ∀ j, w.cell? ⟨bk, j, none⟩ = cs[j]? := fun j => cell_of_row w bk j cs e' fr hb
    have hcells : ∀ j u, news[j]? = some u → w.cell? ((⟨bk, off, none⟩ : Addr).add j) = some u := fun j u hu => by
      have hadd : (⟨bk, off, none⟩ : Addr).add j = ⟨bk, off + j, none⟩ := by unfold Addr.add; split <;> simp_all
      rw [hadd, hc]
      rw [← hn, List.getElem?_take] at hu
      split at hu
      · rw [List.getElem?_drop] at hu; simpa using hu
      · cases hu
    obtain ⟨v', w', hrun, hown', hgr, hnil⟩ := run_append_own (P := P) w base t o.type e info z size bytes ht hinf hz hsize hby hzs (Nat.le_of_ble_eq_true hsz) v m xs hown ⟨bk, off, none⟩ k' c news
      hl hcells h1 h63 hbytes hbase
    refine op_val ho hg ?_ (k v' w' hown' hgr hnil)
    unfold execOp
    simp [hop, hs, hx, resolve, invoke, builtin, Sem.run_bind, hrun]
theorem bstr1 {m : Nat} (h : m < 256) : ∀ j, j < 1 → (#[Value.int .u8 (m : Int)] : Array Value)[0 + j]? = some (.int .u8 (([UInt8.ofNat m].getD j 0).toNat : Int)) := by
  intro j hj
  obtain rfl : j = 0 := by omega
  have : (UInt8.ofNat m).toNat = m := by simp [Nat.mod_eq_of_lt h]
  simp [this]
theorem own_empty {w : World} {bk : Nat} {e : TypeId} {size : Nat} (h : Has w bk (.cells #[] e)) : w.ownsRow bk e size (.slice (some ⟨bk, 0, none⟩) 0 0) 0 [] :=
  ⟨by simp, .inr ⟨bk, 0, #[], rfl, Nat.le_refl _, h, Nat.le_refl _, by unfold maxLen; omega, by simp, by simp⟩⟩
theorem own_cap {w : World} {base : Nat} {e : TypeId} {size : Nat} {a : Option Addr} {m cap n : Nat} {xs : List Value} (h : w.ownsRow base e size (.slice a m cap) n xs) (hn : 0 < n) : n ≤ cap := by
  rcases h.2 with ⟨_, h0⟩ | ⟨g, cap', cur, hv, _, _, hnc, _⟩
  · omega
  · cases hv; exact hnc
theorem own_updr {w w' : World} {base : Nat} {e : TypeId} {size : Nat} {v : Value} {n : Nat} {xs : List Value} {r : Option Nat} (h : w.ownsRow base e size v n xs) (k : G w w' r) (hne : ∀ q, v.ownBlock = some q → ∀ j, r = some j → q ≠ j) : w'.ownsRow base e size v n xs :=
  h.kept k (by cases hv : v.ownBlock with | none => simp | some q => right; intro e; exact hne q hv q e.symm rfl)
/-- A cell by itself. -/
theorem loadB_cell {t : TypeId} {cs : Array Value} {off : Nat} {v : Value} (hu : (∃ k, P.underlying t = some (.int k)) ∨ P.underlying t = some .string ∨ P.underlying t = some .bool) (hv : cs[off]? = some v) : loadB P t cs off = some v := by
  unfold loadB
  rcases hu with ⟨k, hu⟩ | hu | hu <;> simp [hu, hv]
end
end Go.Gx
