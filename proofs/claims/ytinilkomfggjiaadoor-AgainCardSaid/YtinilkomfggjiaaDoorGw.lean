/- More steps: loops that go round so often, rows of the caller at any address, own rows of bytes whose block bears a mark. -/
import Derived.Test.YtinilkomfggjiaaDoorGz
import Derived.LoopN
import Derived.Lib.SlBytesConst
import Derived.Lib.FrozenHead
set_option linter.unusedVariables false
set_option linter.unusedSimpArgs false
namespace Go.Gx
section
variable {P : Program} {Q : Exit → Act → World → Prop} {w : World}
theorem rounds_step {c : Code} {n : Nat} {a : Act} (h : c.wp P (Exit.then (fun a w => Code.rounds P c Q n a w) Q) a w) : Code.rounds P c Q (n + 1) a w := h
end
def Rd (w : World) (A : Option Addr) (n sz : Nat) (row : Nat → List Value) : Prop := ∀ i, i < n → ∃ a, A = some a ∧ w.cells? 0 (a.add (i * sz)) sz = some (row i)
theorem cells_ext {w w' : World} {a : Addr} {n : Nat} {cs : List Value} (h : w.cells? 0 a n = some cs) (hn : 0 < n) (x : Ext w w') : w'.cells? 0 a n = some cs := by
  have hb := World.cells?_block h hn
  have e : (fun i => w'.cell? (a.add i)) = fun i => w.cell? (a.add i) := funext fun i => by
    unfold World.cell?
    rw [x.block (a.add i).block (by show (a.add i).block < _; unfold Addr.add; split <;> exact hb) (by simp)]
  unfold World.cells? at h ⊢
  rw [e]
  exact h
theorem Rd.ext {w w' : World} {A : Option Addr} {n sz : Nat} {row : Nat → List Value} (h : Rd w A n sz row) (hsz : 0 < sz) (x : Ext w w') : Rd w' A n sz row := fun i hi => by
  obtain ⟨a, e, k⟩ := h i hi
  exact ⟨a, e, cells_ext k hsz x⟩
section
variable {P : Program} {Q : Exit → Act → World → Prop} {w : World} {ops : Array Oper} {b : Nat → Value} {n : Nat} {l : List (Nat × Value)} {d : List Deferred} {K : Act → World → Prop}
theorem run_isAgg {t : TypeId} {dsc : TypeDesc} (hu : P.underlying t = some dsc) (hd : dsc.isRow = true) : (isAgg t).run P w = .ok true w := by
  unfold isAgg
  rw [Sem.run_bind, run_underlying hu w]
  cases dsc <;> simp_all
theorem run_loadVar_any {t : TypeId} {a : Addr} {cs : List Value} {dsc : TypeDesc} (hc : w.cells? 0 a cs.length = some cs) (hu : P.underlying t = some dsc) (v : Value)
    (hv : (match dsc with | .struct _ | .array _ _ => (P.info? t).map (·.size) = some cs.length ∧ v = .agg cs.toArray | _ => cs = [v])) : (loadVar t a).run P w = .ok v w := by
  obtain ⟨_, _, hg⟩ := World.cells?_some hc
  have agg : ∀ (hd : dsc.isRow = true), (P.info? t).map (·.size) = some cs.length ∧ v = .agg cs.toArray → (loadVar t a).run P w = .ok v w := by
    rintro hd ⟨hi, rfl⟩
    have hl : (loadCells a cs.length).run P w = .ok cs.toArray w := run_loadCells_list (P := P) w a cs (fun j v hv => by
      rw [hg j (List.getElem?_eq_some_iff.1 hv).1]; exact hv)
    cases hq : P.info? t with
    | none => simp [hq] at hi
    | some i =>
      have hs : i.size = cs.length := by simpa [hq] using hi
      have hagg : (isAgg t).run P w = .ok true w := run_isAgg hu hd
      simp [loadVar, Sem.run_bind, hagg, sizeOf, typeInfo, hq, hs, hl]
  cases dsc with
  | struct fs => exact agg rfl hv
  | array k e => exact agg rfl hv
  | _ =>
    simp only at hv
    subst hv
    have h1 : w.cell? a = some v := by
      have := hg 0 (by simp)
      simpa [Addr.add] using this
    simp [loadVar, isAgg, underlying, hu, Sem.run_bind, go_sem, h1]
def loadL (P : Program) (t : TypeId) (cs : List Value) : Option Value :=
  match P.underlying t with
  | some (.struct _) | some (.array _ _) => match P.info? t with
    | some i => match Nat.beq i.size cs.length with
      | true => some (.agg cs.toArray)
      | false => none
    | none => none
  | some _ => match cs with
    | [v] => some v
    | _ => none
  | none => none
theorem run_loadVar_L {t : TypeId} {a : Addr} {cs : List Value} (hc : w.cells? 0 a cs.length = some cs) (v : Value) (hv : loadL P t cs = some v) : (loadVar t a).run P w = .ok v w := by
  unfold loadL at hv
  cases hu : P.underlying t with
  | none => simp [hu] at hv
  | some dsc =>
    rw [hu] at hv
    refine run_loadVar_any hc hu v ?_
    have agg : (match P.info? t with
        | some i => match Nat.beq i.size cs.length with
          | true => some (Value.agg cs.toArray)
          | false => none
        | none => none) = some v → (P.info? t).map (·.size) = some cs.length ∧ v = .agg cs.toArray := by
      intro h
      cases hi : P.info? t with
      | none => simp [hi] at h
      | some i =>
        rw [hi] at h
        cases hb : Nat.beq i.size cs.length with
        | false => simp [hb] at h
        | true =>
          simp only [hb, Option.some.injEq] at h
          have := Nat.eq_of_beq_eq_true hb
          exact ⟨by simp [this], h.symm⟩
    have one : (match cs with
        | [v] => some v
        | _ => none) = some v → cs = [v] := by
      intro h
      match cs, h with
      | [u], h => injection h with h; rw [h]
      | [], h => cases h
      | _ :: _ :: _, h => cases h
    cases dsc with
    | struct fs => exact agg hv
    | array k e => exact agg hv
    | _ => exact one hv
theorem run_loadO {o : Oper} {t : TypeId} {x : Operand} (hop : o.op = .load t x) {a : Addr} (cs : List Value) (v : Value) (hx : ev b n l x = .pointer (some a)) (m : Nat) (hc : w.cells? 0 a m = some cs) (hm : Nat.beq cs.length m = true)
    (hv : loadL P t cs = some v) : (execOp (ev b n l) o).run P w = .ok (.value v) w := by
  have hm := Nat.eq_of_beq_eq_true hm
  subst hm
  unfold execOp
  simp [hop, hx, Instr.loadAt, Instr.sureAddr, Sem.run_bind, run_loadVar_L hc v hv]
theorem op_loadO {i : Nat} {o : Oper} {t : TypeId} {x : Operand} (ho : ops[i]? = some o) (hg : Region.wanted o (yl ops b n l) = true) (hop : o.op = .load t x) {a : Addr} (cs : List Value) (v : Value) (hx : ev b n l x = .pointer (some a)) (m : Nat) (hc : w.cells? 0 a m = some cs) (hm : Nat.beq cs.length m = true)
    (hv : loadL P t cs = some v) (k : K (Fr b n (putL o v l) d) w) : wpOp P ops Q i K (Fr b n l d) w :=
  op_val ho hg (run_loadO hop cs v hx m hc hm hv) k
theorem run_indexAddrO {o : Oper} {t : TypeId} {x ix : Operand} (hop : o.op = .indexAddr t x ix) (e : TypeId) (sz : Nat) (hu : P.underlying t = some (.slice e)) (hsz : (P.info? e).map (·.size) = some sz)
    {A : Option Addr} (a : Addr) (hA : A = some a) (len cap : Nat) (hx : ev b n l x = .slice A len cap) (kd : IntKind) (m : Nat) (hi : ev b n l ix = .int kd (m : Int)) (hm : m < len) :
    (execOp (ev b n l) o).run P w = .ok (.value (.pointer (some (a.add (m * sz))))) w := by
  subst hA
  cases hq : P.info? e with
  | none => simp [hq] at hsz
  | some i =>
    simp only [hq, Option.map_some, Option.some.injEq] at hsz
    unfold execOp
    simp [hop, hx, hi, Instr.indexAt, asIntOf, underlying, hu, sizeOf, typeInfo, hq, hsz, Sem.run_bind, go_sem, hm]
theorem op_indexAddrO {i : Nat} {o : Oper} {t : TypeId} {x ix : Operand} (ho : ops[i]? = some o) (hg : Region.wanted o (yl ops b n l) = true) (hop : o.op = .indexAddr t x ix) (e : TypeId) (sz : Nat) (hu : P.underlying t = some (.slice e)) (hsz : (P.info? e).map (·.size) = some sz)
    {A : Option Addr} (a : Addr) (hA : A = some a) (len cap : Nat) (hx : ev b n l x = .slice A len cap) (kd : IntKind) (m : Nat) (hi : ev b n l ix = .int kd (m : Int)) (hm : m < len)
    (k : K (Fr b n (putL o (.pointer (some (a.add (m * sz)))) l) d) w) : wpOp P ops Q i K (Fr b n l d) w :=
  op_val ho hg (run_indexAddrO hop e sz hu hsz a hA len cap hx kd m hi hm) k
end
theorem own_row {w : World} {bk : Nat} {e : TypeId} {size n : Nat} {cs : Array Value} (h : Has w bk (.cells cs e)) (hn : cs.size = n * size) (hm : n ≤ maxLen) : w.ownsRow bk e size (.slice (some ⟨bk, 0, none⟩) n n) n cs.toList :=
  ⟨by simpa using hn, .inr ⟨bk, n, cs, rfl, Nat.le_refl _, h, Nat.le_refl _, hm, hn, by rw [← hn, ← Array.length_toList, List.take_length]⟩⟩
def ownsM (w : World) (base : Nat) (e : TypeId) (v : Value) (n : Nat) (xs : List Value) : Prop :=
  xs.length = n ∧ ((v = .slice none 0 0 ∧ n = 0) ∨
   ∃ g cap cur fz, v = .slice (some ⟨g, 0, none⟩) n cap ∧ base ≤ g ∧ w.heap[g]? = some (.cells cur e fz) ∧ (fz = (0, 0) ∨ fz = (cur.size, cur.size + 1)) ∧ n ≤ cap ∧ cap ≤ maxLen ∧ cur.size = cap ∧ cur.toList.take n = xs)
section
variable {w : World} {base : Nat} {e : TypeId} {v : Value} {n : Nat} {xs : List Value}
theorem ownsM_of (h : w.ownsRow base e 1 v n xs) : ownsM w base e v n xs := by
  refine ⟨by simpa using h.1, ?_⟩
  rcases h.2 with hn | ⟨g, cap, cur, hv, hb, hg, h1, h2, h3, h4⟩
  · exact .inl hn
  · exact .inr ⟨g, cap, cur, (0, 0), hv, hb, hg, .inl rfl, h1, h2, by simpa using h3, by simpa using h4⟩
theorem ownsM.lt (h : ownsM w base e v n xs) : ∀ k, v.ownBlock = some k → base ≤ k ∧ k < w.heap.size := by
  intro k hk
  rcases h.2 with ⟨rfl, _⟩ | ⟨g, cap, cur, fz, rfl, hb, hg, _⟩
  · simp [Value.ownBlock] at hk
  · simp [Value.ownBlock] at hk
    subst hk
    exact ⟨hb, (Array.getElem?_eq_some_iff.1 hg).1⟩
theorem ownsM.kept {w' : World} {row : Option Nat} (h : ownsM w base e v n xs) (hg : w.grownBy w' row) (hne : v.ownBlock = none ∨ v.ownBlock ≠ row) : ownsM w' base e v n xs := by
  refine ⟨h.1, ?_⟩
  rcases h.2 with hn | ⟨g, cap, cur, fz, rfl, hb, hgg, rest⟩
  · exact .inl hn
  · refine .inr ⟨g, cap, cur, fz, rfl, hb, ?_, rest⟩
    rw [hg.block g (Array.getElem?_eq_some_iff.1 hgg).1 (by simpa [Value.ownBlock] using hne)]
    exact hgg
theorem ownsM.cells (h : ownsM w base e v n xs) {g : Nat} (hg : v.ownBlock = some g) : ∀ j u, xs[j]? = some u → w.cell? ((⟨g, 0, none⟩ : Addr).add j) = some u := by
  intro j u hu
  rcases h.2 with ⟨rfl, _⟩ | ⟨g', cap, cur, fz, rfl, _, hgg, _, _, _, _, htake⟩
  · simp [Value.ownBlock] at hg
  · simp [Value.ownBlock] at hg
    subst hg
    have hadd : (⟨g', 0, none⟩ : Addr).add j = ⟨g', j, none⟩ := by unfold Addr.add; split <;> simp_all
    rw [hadd, cell_of_row w g' j cur e fz hgg]
    rw [← htake, List.getElem?_take] at hu
    split at hu
    · simpa using hu
    · cases hu
end
section
variable {P : Program} (w : World)
end
section
variable {P : Program} {Q : Exit → Act → World → Prop} {w : World} {ops : Array Oper} {b : Nat → Value} {n : Nat} {l : List (Nat × Value)} {d : List Deferred} {K : Act → World → Prop}
theorem run_lenM {o : Oper} {x : Operand} {t e u : TypeId} (hop : o.op = .call { callee := .builtin .len, args := #[x], argTypes := #[t] }) (ht : P.underlying t = some (.slice u)) {base : Nat} {v : Value} {m : Nat} {xs : List Value} (hx : ev b n l x = v) (hown : ownsM w base e v m xs) :
    (execOp (ev b n l) o).run P w = .ok (.value (.int .i64 (m : Int))) w := by
  have hl : ∀ a c, (Builtin.len_ #[t] o.type #[.slice a m c]).run P w = .ok (.int .i64 (m : Int)) w := fun a c => by simp [Builtin.len_, run_underlying ht, goInt]
  unfold execOp
  rcases hown.2 with ⟨rfl, rfl⟩ | ⟨g, cap, cur, fz, rfl, _⟩
  · simp [hop, hx, resolve, invoke, builtin, Sem.run_bind, hl]
  · simp [hop, hx, resolve, invoke, builtin, Sem.run_bind, hl]
theorem op_lenM {i : Nat} {o : Oper} {x : Operand} {t e : TypeId} (u : TypeId) (ho : ops[i]? = some o) (hg : Region.wanted o (yl ops b n l) = true) (hop : o.op = .call { callee := .builtin .len, args := #[x], argTypes := #[t] }) (ht : P.underlying t = some (.slice u)) {base : Nat} {v : Value} {m : Nat} {xs : List Value} (hx : ev b n l x = v) (hown : ownsM w base e v m xs)
    (k : K (Fr b n (putL o (.int .i64 (m : Int)) l) d) w) : wpOp P ops Q i K (Fr b n l d) w :=
  op_val ho hg (run_lenM hop ht hx hown) k
end
section
variable {P : Program} {Q : Exit → Act → World → Prop} {w : World} {ops : Array Oper} {b : Nat → Value} {n : Nat} {l : List (Nat × Value)} {d : List Deferred} {K : Act → World → Prop}
end
end Go.Gx
