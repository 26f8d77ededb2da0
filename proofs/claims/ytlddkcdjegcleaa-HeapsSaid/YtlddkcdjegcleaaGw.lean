/- More steps: loops that go round so often, rows of the caller at any address, own rows of bytes whose block bears a mark. -/
import Derived.Test.YtlddkcdjegcleaaGz
import Derived.LoopN
import Derived.Lib.SlBytesConst
import Derived.Lib.FrozenHead
set_option linter.unusedVariables false
set_option linter.unusedSimpArgs false
namespace Go.Gx
section
variable {P : Program} {Q : Exit → Act → World → Prop} {w : World}
theorem rounds_step {c : Code} {n : Nat} {a : Act} (h : c.wp P (Exit.then (fun a w => Code.rounds P c Q n a w) Q) a w) : Code.rounds P c Q (n + 1) a w := h
end
/-! ### Rows that are only read, wherever they lie -/
/-- n elements of sz cells each. -/
def Rd (w : World) (A : Option Addr) (n sz : Nat) (row : Nat → List Value) : Prop := ∀ i, i < n → ∃ a, A = some a ∧ w.cells? 0 (a.add (i * sz)) sz = some (row i)
theorem cells_ext {w w' : World} {a : Addr} {n : Nat} {cs : List Value} (h : w.cells? 0 a n = some cs) (hn : 0 < n) (x : Ext w w') : w'.cells? 0 a n = some cs := by
  have hb := World.cells?_block h hn
  have e : (fun i => w'.cell? (a.add i)) = fun i => w.cell? (a.add i) := funext fun i => by
    unfold World.cell?
    rw [x.block (a.add i).block (by show (a.add i).block < _; unfold Addr.add; split <;> exact hb) (by simp)]
  unfold World.cells? at h ⊢
  rw [e]
  exact h
theorem Rd.ext {w w' : World} {A : Option Addr} {n sz : Nat} {row : Nat → List Value} (h : Rd w A n sz row) (hsz : 0 < sz) (x : Ext w w') : Rd w' A n sz row := fun i hi => by
  obtain ⟨a, e, k⟩ := h i hi
  exact ⟨a, e, cells_ext k hsz x⟩
section
variable {P : Program} {Q : Exit → Act → World → Prop} {w : World} {ops : Array Oper} {b : Nat → Value} {n : Nat} {l : List (Nat × Value)} {d : List Deferred} {K : Act → World → Prop}
theorem run_isAgg {t : TypeId} {dsc : TypeDesc} (hu : P.underlying t = some dsc) (hd : dsc.isRow = true) : (isAgg t).run P w = .ok true w := by
  unfold isAgg
  rw [Sem.run_bind, run_underlying hu w]
  cases dsc <;> simp_all
theorem run_loadVar_any {t : TypeId} {a : Addr} {cs : List Value} {dsc : TypeDesc} (hc : w.cells? 0 a cs.length = some cs) (hu : P.underlying t = some dsc) (v : Value)
    (hv : (match dsc with | .struct _ | .array _ _ => (P.info? t).map (·.size) = some cs.length ∧ v = .agg cs.toArray | _ => cs = [v])) : (loadVar t a).run P w = .ok v w := by
  obtain ⟨_, _, hg⟩ := World.cells?_some hc
  have agg : ∀ (hd : dsc.isRow = true), (P.info? t).map (·.size) = some cs.length ∧ v = .agg cs.toArray → (loadVar t a).run P w = .ok v w := by
    rintro hd ⟨hi, rfl⟩
    have hl : (loadCells a cs.length).run P w = .ok cs.toArray w := run_loadCells_list (P := P) w a cs (fun j v hv => by
      rw [hg j (List.getElem?_eq_some_iff.1 hv).1]; exact hv)
    cases hq : P.info? t with
    | none => simp [hq] at hi
    | some i =>
      have hs : i.size = cs.length := by simpa [hq] using hi
      have hagg : (isAgg t).run P w = .ok true w := run_isAgg hu hd
      simp [loadVar, Sem.run_bind, hagg, sizeOf, typeInfo, hq, hs, hl]
  cases dsc with
  | struct fs => exact agg rfl hv
  | array k e => exact agg rfl hv
  | _ =>
    simp only at hv
    subst hv
    have h1 : w.cell? a = some v := by
      have := hg 0 (by simp)
      simpa [Addr.add] using this
    simp [loadVar, isAgg, underlying, hu, Sem.run_bind, go_sem, h1]
def loadL (P : Program) (t : TypeId) (cs : List Value) : Option Value :=
  match P.underlying t with
  | some (.struct _) | some (.array _ _) => match P.info? t with
    | some i => match Nat.beq i.size cs.length with
      | true => some (.agg cs.toArray)
      | false => none
    | none => none
  | some _ => match cs with
    | [v] => some v
    | _ => none
  | none => none
theorem run_loadVar_L {t : TypeId} {a : Addr} {cs : List Value} (hc : w.cells? 0 a cs.length = some cs) (v : Value) (hv : loadL P t cs = some v) : (loadVar t a).run P w = .ok v w := by
  unfold loadL at hv
  cases hu : P.underlying t with
  | none => simp [hu] at hv
  | some dsc =>
    rw [hu] at hv
    refine run_loadVar_any hc hu v ?_
    have agg : (match P.info? t with
        | some i => match Nat.beq i.size cs.length with
          | true => some (Value.agg cs.toArray)
          | false => none
        | none => none) = some v → (P.info? t).map (·.size) = some cs.length ∧ v = .agg cs.toArray := by
      intro h
      cases hi : P.info? t with
      | none => simp [hi] at h
      | some i =>
        rw [hi] at h
        cases hb : Nat.beq i.size cs.length with
        | false => simp [hb] at h
        | true =>
          simp only [hb, Option.some.injEq] at h
          have := Nat.eq_of_beq_eq_true hb
          exact ⟨by simp [this], h.symm⟩
    have one : (match cs with
        | [v] => some v
        | _ => none) = some v → cs = [v] := by
      intro h
      match cs, h with
      | [u], h => injection h with h; rw [h]
      | [], h => cases h
      | _ :: _ :: _, h => cases h
    cases dsc with
    | struct fs => exact agg hv
    | array k e => exact agg hv
    | _ => exact one hv
theorem run_loadO {o : Oper} {t : TypeId} {x : Operand} (hop : o.op = .load t x) {a : Addr} (cs : List Value) (v : Value) (hx : ev b n l x = .pointer (some a)) (m : Nat) (hc : w.cells? 0 a m = some cs) (hm : Nat.beq cs.length m = true)
    (hv : loadL P t cs = some v) : (execOp (ev b n l) o).run P w = .ok (.value v) w := by
  have hm := Nat.eq_of_beq_eq_true hm
  subst hm
  unfold execOp
  simp [hop, hx, Instr.loadAt, Instr.sureAddr, Sem.run_bind, run_loadVar_L hc v hv]
theorem op_loadO {i : Nat} {o : Oper} {t : TypeId} {x : Operand} (ho : ops[i]? = some o) (hg : Region.wanted o (yl ops b n l) = true) (hop : o.op = .load t x) {a : Addr} (cs : List Value) (v : Value) (hx : ev b n l x = .pointer (some a)) (m : Nat) (hc : w.cells? 0 a m = some cs) (hm : Nat.beq cs.length m = true)
    (hv : loadL P t cs = some v) (k : K (Fr b n (putL o v l) d) w) : wpOp P ops Q i K (Fr b n l d) w :=
  op_val ho hg (run_loadO hop cs v hx m hc hm hv) k
def aggOf (P : Program) (t : TypeId) (m : Nat) : Bool :=
  match P.underlying t with
  | some (.struct _) | some (.array _ _) => match P.info? t with
    | some i => Nat.beq i.size m
    | none => false
  | _ => false
theorem run_loadAgg {o : Oper} {t : TypeId} {x : Operand} (hop : o.op = .load t x) {a : Addr} {cs : List Value} (hx : ev b n l x = .pointer (some a)) (m : Nat) (hc : w.cells? 0 a m = some cs) (hv : aggOf P t m = true) :
    (execOp (ev b n l) o).run P w = .ok (.value (.agg cs.toArray)) w := by
  obtain ⟨_, hlen, _⟩ := World.cells?_some hc
  subst hlen
  refine run_loadO hop cs (.agg cs.toArray) hx cs.length hc (by simp) ?_
  unfold aggOf at hv
  unfold loadL
  cases hu : P.underlying t with
  | none => simp [hu] at hv
  | some dsc =>
    rw [hu] at hv
    cases dsc with
    | struct fs =>
      simp only at hv ⊢
      cases hi : P.info? t with
      | none => simp [hi] at hv
      | some i => rw [hi] at hv; simp only at hv ⊢; rw [hv]
    | array k e =>
      simp only at hv ⊢
      cases hi : P.info? t with
      | none => simp [hi] at hv
      | some i => rw [hi] at hv; simp only at hv ⊢; rw [hv]
    | _ => simp at hv
theorem op_loadAgg {i : Nat} {o : Oper} {t : TypeId} {x : Operand} (ho : ops[i]? = some o) (hg : Region.wanted o (yl ops b n l) = true) (hop : o.op = .load t x) {a : Addr} {cs : List Value} (hx : ev b n l x = .pointer (some a)) (m : Nat) (hc : w.cells? 0 a m = some cs) (hv : aggOf P t m = true)
    (k : K (Fr b n (putL o (.agg cs.toArray) l) d) w) : wpOp P ops Q i K (Fr b n l d) w :=
  op_val ho hg (run_loadAgg hop hx m hc hv) k
theorem run_indexAddrO {o : Oper} {t : TypeId} {x ix : Operand} (hop : o.op = .indexAddr t x ix) (e : TypeId) (sz : Nat) (hu : P.underlying t = some (.slice e)) (hsz : (P.info? e).map (·.size) = some sz)
    {A : Option Addr} (a : Addr) (hA : A = some a) (len cap : Nat) (hx : ev b n l x = .slice A len cap) (kd : IntKind) (m : Nat) (hi : ev b n l ix = .int kd (m : Int)) (hm : m < len) :
    (execOp (ev b n l) o).run P w = .ok (.value (.pointer (some (a.add (m * sz))))) w := by
  subst hA
  cases hq : P.info? e with
  | none => simp [hq] at hsz
  | some i =>
    simp only [hq, Option.map_some, Option.some.injEq] at hsz
    unfold execOp
    simp [hop, hx, hi, Instr.indexAt, asIntOf, underlying, hu, sizeOf, typeInfo, hq, hsz, Sem.run_bind, go_sem, hm]
theorem op_indexAddrO {i : Nat} {o : Oper} {t : TypeId} {x ix : Operand} (ho : ops[i]? = some o) (hg : Region.wanted o (yl ops b n l) = true) (hop : o.op = .indexAddr t x ix) (e : TypeId) (sz : Nat) (hu : P.underlying t = some (.slice e)) (hsz : (P.info? e).map (·.size) = some sz)
    {A : Option Addr} (a : Addr) (hA : A = some a) (len cap : Nat) (hx : ev b n l x = .slice A len cap) (kd : IntKind) (m : Nat) (hi : ev b n l ix = .int kd (m : Int)) (hm : m < len)
    (k : K (Fr b n (putL o (.pointer (some (a.add (m * sz)))) l) d) w) : wpOp P ops Q i K (Fr b n l d) w :=
  op_val ho hg (run_indexAddrO hop e sz hu hsz a hA len cap hx kd m hi hm) k
end
/-! ### An own row of bytes whose block bears a mark behind its cells -/
theorem own_row {w : World} {bk : Nat} {e : TypeId} {size n : Nat} {cs : Array Value} (h : Has w bk (.cells cs e)) (hn : cs.size = n * size) (hm : n ≤ maxLen) : w.ownsRow bk e size (.slice (some ⟨bk, 0, none⟩) n n) n cs.toList :=
  ⟨by simpa using hn, .inr ⟨bk, n, cs, rfl, Nat.le_refl _, h, Nat.le_refl _, hm, hn, by rw [← hn, ← Array.length_toList, List.take_length]⟩⟩
def ownsM (w : World) (base : Nat) (e : TypeId) (v : Value) (n : Nat) (xs : List Value) : Prop :=
  xs.length = n ∧ ((v = .slice none 0 0 ∧ n = 0) ∨
   ∃ g cap cur fz, v = .slice (some ⟨g, 0, none⟩) n cap ∧ base ≤ g ∧ w.heap[g]? = some (.cells cur e fz) ∧ (fz = (0, 0) ∨ fz = (cur.size, cur.size + 1)) ∧ n ≤ cap ∧ cap ≤ maxLen ∧ cur.size = cap ∧ cur.toList.take n = xs)
section
variable {w : World} {base : Nat} {e : TypeId} {v : Value} {n : Nat} {xs : List Value}
theorem ownsM_of (h : w.ownsRow base e 1 v n xs) : ownsM w base e v n xs := by
  refine ⟨by simpa using h.1, ?_⟩
  rcases h.2 with hn | ⟨g, cap, cur, hv, hb, hg, h1, h2, h3, h4⟩
  · exact .inl hn
  · exact .inr ⟨g, cap, cur, (0, 0), hv, hb, hg, .inl rfl, h1, h2, by simpa using h3, by simpa using h4⟩
theorem ownsM.lt (h : ownsM w base e v n xs) : ∀ k, v.ownBlock = some k → base ≤ k ∧ k < w.heap.size := by
  intro k hk
  rcases h.2 with ⟨rfl, _⟩ | ⟨g, cap, cur, fz, rfl, hb, hg, _⟩
  · simp [Value.ownBlock] at hk
  · simp [Value.ownBlock] at hk
    subst hk
    exact ⟨hb, (Array.getElem?_eq_some_iff.1 hg).1⟩
theorem ownsM.kept {w' : World} {row : Option Nat} (h : ownsM w base e v n xs) (hg : w.grownBy w' row) (hne : v.ownBlock = none ∨ v.ownBlock ≠ row) : ownsM w' base e v n xs := by
  refine ⟨h.1, ?_⟩
  rcases h.2 with hn | ⟨g, cap, cur, fz, rfl, hb, hgg, rest⟩
  · exact .inl hn
  · refine .inr ⟨g, cap, cur, fz, rfl, hb, ?_, rest⟩
    rw [hg.block g (Array.getElem?_eq_some_iff.1 hgg).1 (by simpa [Value.ownBlock] using hne)]
    exact hgg
theorem own_extM {w' : World} (h : ownsM w base e v n xs) (x : Ext w w') : ownsM w' base e v n xs := h.kept x (by cases hv : v.ownBlock <;> simp)
theorem own_upd1M {w' : World} {j : Nat} (h : ownsM w base e v n xs) (k : G w w' (some j)) (hne : ∀ q, v.ownBlock = some q → q ≠ j) : ownsM w' base e v n xs :=
  h.kept k (by cases hv : v.ownBlock with | none => simp | some q => right; intro e; injection e with e; exact hne q hv e)
theorem own_neM {bk : Nat} {t : TypeId} {cs : Array Value} {fr : Nat × Nat} (h : ownsM w base e v n xs) (hb : Has w bk (.cells cs t fr)) (ht : t ≠ e) : ∀ q, v.ownBlock = some q → q ≠ bk := by
  intro q hq hqb
  subst hqb
  rcases h.2 with ⟨rfl, _⟩ | ⟨g, cap, cur, fz, rfl, _, hg, _⟩
  · simp [Value.ownBlock] at hq
  · simp [Value.ownBlock] at hq
    subst hq
    have hb' : w.heap[g]? = some (.cells cs t fr) := hb
    rw [hg] at hb'
    injection hb' with h1
    injection h1 with _ h2
    exact ht h2.symm
theorem ownsM.cells (h : ownsM w base e v n xs) {g : Nat} (hg : v.ownBlock = some g) : ∀ j u, xs[j]? = some u → w.cell? ((⟨g, 0, none⟩ : Addr).add j) = some u := by
  intro j u hu
  rcases h.2 with ⟨rfl, _⟩ | ⟨g', cap, cur, fz, rfl, _, hgg, _, _, _, _, htake⟩
  · simp [Value.ownBlock] at hg
  · simp [Value.ownBlock] at hg
    subst hg
    have hadd : (⟨g', 0, none⟩ : Addr).add j = ⟨g', j, none⟩ := by unfold Addr.add; split <;> simp_all
    rw [hadd, cell_of_row w g' j cur e fz hgg]
    rw [← htake, List.getElem?_take] at hu
    split at hu
    · simpa using hu
    · cases hu
end
theorem run_storeCells_M (P : Program) (g o : Nat) (t : TypeId) (fz : Nat × Nat) : ∀ (vs : List Value) (i : Nat) (cur : Array Value) (w : World), w.heap[g]? = some (.cells cur t fz) → (fz = (0, 0) ∨ fz = (cur.size, cur.size + 1)) → o + i + vs.length ≤ cur.size → (∀ v ∈ vs, v.oneCell' = true) →
    (storeCells ⟨g, o, none⟩ vs i).run P w = .ok () (w.setRow g (cur.toList.take (o + i) ++ vs ++ cur.toList.drop (o + i + vs.length)).toArray)
  | [], i, cur, w, hg, _, _, _ => by
    simp only [storeCells, List.append_nil, List.length_nil, Nat.add_zero, List.take_append_drop, Array.toArray_toList]
    rw [setRow_self w g cur t fz hg]
    rfl
  | v :: rest, i, cur, w, hg, hfz, hl, h1 => by
    have hi : o + i < cur.size := by simp at hl; omega
    have hadd : (⟨g, o, none⟩ : Addr).add i = ⟨g, o + i, none⟩ := by unfold Addr.add; split <;> simp_all
    have hcell : w.cell? ⟨g, o + i, none⟩ = some cur[o + i] := by simp [World.cell?, hg, hi]
    have hfro : w.frozen? ⟨g, o + i, none⟩ = false := by
      rcases hfz with rfl | rfl
      · simp only [World.frozen?, hg, Bool.and_eq_false_iff, decide_eq_false_iff_not]
        right; simp
      · simp only [World.frozen?, hg, Bool.and_eq_false_iff, decide_eq_false_iff_not]
        left; omega
    have hst : (store ((⟨g, o, none⟩ : Addr).add i) v).run P w = .ok () (w.setRow g (cur.setIfInBounds (o + i) v)) := by
      rw [hadd, run_store P w _ v _ (h1 v (by simp)), hcell]
      simp [hfro, setCell_eq_setRow w g (o + i) cur t fz v hg]
    have ih := run_storeCells_M P g o t fz rest (i + 1) (cur.setIfInBounds (o + i) v) (w.setRow g (cur.setIfInBounds (o + i) v)) (setRow_heap w g cur _ t _ hg) (by simpa using hfz) (by simp at hl ⊢; omega) (fun x hx => h1 x (by simp [hx]))
    simp only [storeCells, Sem.run_bind, hst, Result.andThen_ok, ih, setRow_setRow]
    congr 3
    have e := list_seg_step cur.toList (o + i) v rest (by simp at hl ⊢; omega)
    simpa [Array.toList_setIfInBounds, Nat.add_assoc] using e
section
variable {P : Program} (w : World)
/-- What lies behind either append of m more cells: the row with room, or a new one. -/
theorem appendedM {base : Nat} {e : TypeId} {v : Value} {n : Nat} {xs : List Value} (hown : ownsM w base e v n xs) (news : List Value) (m : Nat) (hm : news.length = m) (h63 : n + m ≤ maxLen) (hbase : base ≤ w.heap.size) :
    (∀ g cap cur fz, v = .slice (some ⟨g, 0, none⟩) n cap → w.heap[g]? = some (.cells cur e fz) → base ≤ g → (fz = (0, 0) ∨ fz = (cur.size, cur.size + 1)) → n + m ≤ cap → cap ≤ maxLen → cur.size = cap → cur.toList.take n = xs →
      ownsM (w.setRow g (cur.toList.take n ++ news ++ cur.toList.drop (n + m)).toArray) base e (.slice (some ⟨g, 0, none⟩) (n + m) cap) (n + m) (xs ++ news) ∧ w.grownBy (w.setRow g (cur.toList.take n ++ news ++ cur.toList.drop (n + m)).toArray) v.ownBlock) ∧
    (∀ old, ownsM (w.drew.alloc (.cells (xs.toArray ++ news.toArray ++ Builtin.zeroCells (Value.int .u8 0).cells (grownCap w (n + m) old e - (n + m))) e)) base e (.slice (some ⟨w.heap.size, 0, none⟩) (n + m) (grownCap w (n + m) old e)) (n + m) (xs ++ news) ∧
      w.grownBy (w.drew.alloc (.cells (xs.toArray ++ news.toArray ++ Builtin.zeroCells (Value.int .u8 0).cells (grownCap w (n + m) old e - (n + m))) e)) v.ownBlock) := by
  have hxl := hown.1
  have hlen : (xs ++ news).length = n + m := by rw [List.length_append, hxl, hm]
  constructor
  · intro g cap cur fz hv hg hbg hfz hroom hcm hcs htake
    have hsz : (cur.toList.take n ++ news ++ cur.toList.drop (n + m)).toArray.size = cur.size := by
      simp only [List.size_toArray, List.length_append, List.length_take, List.length_drop, Array.length_toList, hm]
      omega
    refine ⟨⟨hlen, .inr ⟨g, cap, _, fz, rfl, hbg, setRow_heap w g cur _ e _ hg, by rw [hsz]; exact hfz, hroom, hcm, by rw [hsz]; exact hcs, ?_⟩⟩, ⟨rfl, rfl, rfl, by simp, fun k _ hk => _root_.Go.setRow_other w g k _ (fun e => hk (by simp [Value.ownBlock, e, hv]))⟩⟩
    rw [htake, ← hlen]
    exact List.take_left
  · intro old
    have hge := grownCap_ge w (n + m) old e
    have hcm : grownCap w (n + m) old e ≤ maxLen := grownCap_le_maxLen w (n + m) old e h63
    refine ⟨⟨hlen, .inr ⟨w.heap.size, _, _, (0, 0), rfl, hbase, heap_alloc_new w.drew _, .inl rfl, hge, hcm, ?_, ?_⟩⟩, ⟨rfl, rfl, rfl, by simp, fun k hk _ => _root_.Go.heap_alloc_old w.drew _ hk⟩⟩
    · have hz1 : (Value.int IntKind.u8 0).cells.size = 1 := rfl
      simp only [Array.size_append, List.size_toArray, size_zeroCells, hz1, hxl, hm]
      omega
    · simp only [Array.toList_append, List.append_assoc]
      rw [← List.append_assoc, ← hlen]
      exact List.take_left
theorem run_append_strM (base : Nat) (t u ty e : TypeId) (i : TypeInfo) (ht : P.underlying t = some (.slice e)) (hu : P.underlying u = some .string) (hi : P.info? e = some i) (hz : i.zero = some (.int .u8 0)) (hsize : i.size = 1) (hby : i.bytes = 1)
    (v : Value) (n : Nat) (xs : List Value) (hown : ownsM w base e v n xs) (s : ByteArray) (h63 : n + s.size ≤ 140737488355328) (hbase : base ≤ w.heap.size) :
    ∃ v' w', (Builtin.append_ #[t, u] ty #[v, .string s]).run P w = .ok v' w' ∧ ownsM w' base e v' (n + s.size) (xs ++ Lib.strCells s) ∧ w.grownBy w' v.ownBlock := by
  have hmax : n + s.size ≤ maxLen := by unfold maxLen; omega
  obtain ⟨hA, hB⟩ := appendedM w hown (Lib.strCells s) s.size (Lib.strCells_length s) hmax hbase
  rcases hown.2 with ⟨rfl, rfl⟩ | ⟨g, cap, cur, fz, rfl, hbg, hg, hfz, hnc, hcm, hcs, htake⟩
  · obtain ⟨v', w', h1, h2, h3, _⟩ := Lib.run_append_own_string (P := P) w base t u ty e i ht hu hi hz hsize hby (.slice none 0 0) 0 xs ⟨by simpa using hown.1, .inl ⟨rfl, rfl⟩⟩ s hmax h63 hbase
    exact ⟨v', w', h1, ownsM_of h2, h3⟩
  · by_cases hroom : n + s.size ≤ cap
    · obtain ⟨k1, k2⟩ := hA g cap cur fz rfl hg hbg hfz hroom hcm hcs htake
      refine ⟨_, _, ?_, k1, k2⟩
      have hf := Lib.run_firstCells_string (P := P) w 1 s
      have hst := run_storeCells_M P g n e fz (Lib.strCells s) 0 cur w hg hfz (by rw [Lib.strCells_length]; omega) (Lib.strCells_oneCell s)
      simp only [Nat.add_zero, Lib.strCells_length] at hst
      simp [Builtin.append_, run_underlying ht, run_underlying hu, sizeOf, typeInfo, hi, hsize, Builtin.lenOf, hroom, hf, Addr.add_lit, hst]
    · have holds : ∀ j u, xs[j]? = some u → w.cell? ((⟨g, 0, none⟩ : Addr).add j) = some u := hown.cells (g := g) rfl
      have hr := Lib.run_append_grow_string (P := P) w t u ty e i (.int .u8 0) ht hu hi hz ⟨g, 0, none⟩ n cap xs (by rw [hsize]; simpa using hown.1) holds s (by omega) (by omega) (by rw [hby]; exact growslice_fits (by omega) (by omega))
      exact ⟨_, _, hr, (hB cap).1, (hB cap).2⟩
theorem run_append_rowM (base : Nat) (t ty e : TypeId) (i : TypeInfo) (ht : P.underlying t = some (.slice e)) (hi : P.info? e = some i) (hz : i.zero = some (.int .u8 0)) (hsize : i.size = 1) (hby : i.bytes = 1)
    (v : Value) (n : Nat) (xs : List Value) (hown : ownsM w base e v n xs) (a : Addr) (m c : Nat) (news : List Value) (hl : news.length = m) (hnews : ∀ j u, news[j]? = some u → w.cell? (a.add j) = some u) (h1 : ∀ u ∈ news, u.oneCell' = true)
    (h63 : n + m ≤ 140737488355328) (hbase : base ≤ w.heap.size) :
    ∃ v' w', (Builtin.append_ #[t, t] ty #[v, .slice (some a) m c]).run P w = .ok v' w' ∧ ownsM w' base e v' (n + m) (xs ++ news) ∧ w.grownBy w' v.ownBlock := by
  have hmax : n + m ≤ maxLen := by unfold maxLen; omega
  obtain ⟨hA, hB⟩ := appendedM w hown news m hl hmax hbase
  rcases hown.2 with ⟨rfl, rfl⟩ | ⟨g, cap, cur, fz, rfl, hbg, hg, hfz, hnc, hcm, hcs, htake⟩
  · obtain ⟨v', w', k1, k2, k3, _⟩ := run_append_own (P := P) w base t ty e i (.int .u8 0) 1 1 ht hi hz hsize hby rfl (by omega) (.slice none 0 0) 0 xs ⟨by simpa using hown.1, .inl ⟨rfl, rfl⟩⟩ a m c news (by simpa using hl) hnews h1 hmax (by simpa using h63) hbase
    exact ⟨v', w', k1, ownsM_of k2, k3⟩
  · by_cases hroom : n + m ≤ cap
    · obtain ⟨k1, k2⟩ := hA g cap cur fz rfl hg hbg hfz hroom hcm hcs htake
      refine ⟨_, _, ?_, k1, k2⟩
      have hf := run_firstCells_some (P := P) w i.size m a m c news (by rw [hsize, Nat.mul_one]; exact hl) hnews
      have hst := run_storeCells_M P g n e fz news 0 cur w hg hfz (by rw [hl]; omega) h1
      simp only [Nat.add_zero, hl] at hst
      rw [hsize] at hf
      simp [Builtin.append_, run_underlying ht, sizeOf, typeInfo, hi, hsize, Builtin.lenOf, hroom, hf, Addr.add_lit, hst]
    · have holds : ∀ j u, xs[j]? = some u → w.cell? ((⟨g, 0, none⟩ : Addr).add j) = some u := hown.cells (g := g) rfl
      have hr := run_append_grow (P := P) w t ty e i (.int .u8 0) ht hi hz ⟨g, 0, none⟩ n cap xs (by rw [hsize]; simpa using hown.1) holds a m c news (by rw [hsize]; simpa using hl) hnews (by omega) (by omega) (by rw [hby]; exact growslice_fits (by omega) (by omega))
      exact ⟨_, _, hr, (hB cap).1, (hB cap).2⟩
end
section
variable {P : Program} {Q : Exit → Act → World → Prop} {w : World} {ops : Array Oper} {b : Nat → Value} {n : Nat} {l : List (Nat × Value)} {d : List Deferred} {K : Act → World → Prop}
theorem byte_info {e : TypeId} (hi : (P.info? e).map (fun i => (i.zero, i.size, i.bytes)) = some (some (.int .u8 0), 1, 1)) : ∃ i, P.info? e = some i ∧ i.zero = some (.int .u8 0) ∧ i.size = 1 ∧ i.bytes = 1 := by
  cases hinf : P.info? e with
  | none => simp [hinf] at hi
  | some info =>
    simp only [hinf, Option.map_some, Option.some.injEq, Prod.mk.injEq] at hi
    exact ⟨info, rfl, hi⟩
theorem op_append_strM {i : Nat} {o : Oper} {s x : Operand} {t u : TypeId} (ho : ops[i]? = some o) (hg : Region.wanted o (yl ops b n l) = true)
    (hop : o.op = .call { callee := .builtin .append, args := #[s, x], argTypes := #[t, u] }) (e : TypeId) (ht : P.underlying t = some (.slice e)) (hu : P.underlying u = some .string)
    (hi : (P.info? e).map (fun i => (i.zero, i.size, i.bytes)) = some (some (.int .u8 0), 1, 1)) (base : Nat) {v : Value} {m : Nat} {xs : List Value} (hs : ev b n l s = v) (hown : ownsM w base e v m xs)
    (tx : ByteArray) (hx : ev b n l x = .string tx) (hb : m + tx.size ≤ 140737488355328) (hbase : base ≤ w.heap.size)
    (k : ∀ v' w', ownsM w' base e v' (m + tx.size) (xs ++ Lib.strCells tx) → G w w' v.ownBlock → K (Fr b n (putL o v' l) d) w') : wpOp P ops Q i K (Fr b n l d) w := by
  obtain ⟨info, hinf, hz, hsize, hby⟩ := byte_info hi
  obtain ⟨v', w', hrun, hown', hgr⟩ := run_append_strM (P := P) w base t u o.type e info ht hu hinf hz hsize hby v m xs hown tx hb hbase
  refine op_val ho hg ?_ (k v' w' hown' hgr)
  unfold execOp
  simp [hop, hs, hx, resolve, invoke, builtin, Sem.run_bind, hrun]
theorem op_append1M {i : Nat} {o : Oper} {s x : Operand} {t : TypeId} (ho : ops[i]? = some o) (hg : Region.wanted o (yl ops b n l) = true)
    (hop : o.op = .call { callee := .builtin .append, args := #[s, x], argTypes := #[t, t] }) (e : TypeId) (ht : P.underlying t = some (.slice e))
    (hi : (P.info? e).map (fun i => (i.zero, i.size, i.bytes)) = some (some (.int .u8 0), 1, 1)) (base : Nat) {v : Value} {m : Nat} {xs : List Value} (hs : ev b n l s = v) (hown : ownsM w base e v m xs)
    {bk : Nat} (c : Nat) (hx : ev b n l x = .slice (some ⟨bk, 0, none⟩) 1 c) (u : Value) {e' : TypeId} (hb : Has w bk (.cells #[u] e')) (h1 : u.oneCell' = true) (h63 : m + 1 ≤ 140737488355328) (hbase : base ≤ w.heap.size)
    (k : ∀ v' w', ownsM w' base e v' (m + 1) (xs ++ [u]) → G w w' v.ownBlock → K (Fr b n (putL o v' l) d) w') : wpOp P ops Q i K (Fr b n l d) w := by
  obtain ⟨info, hinf, hz, hsize, hby⟩ := byte_info hi
  have hcells : ∀ j q, [u][j]? = some q → w.cell? ((⟨bk, 0, none⟩ : Addr).add j) = some q := fun j q hq => by
    have hadd : (⟨bk, 0, none⟩ : Addr).add j = ⟨bk, 0 + j, none⟩ := by unfold Addr.add; split <;> simp_all
    rw [hadd, cell_of_row w bk (0 + j) _ e' (0, 0) hb]
    simpa using hq
  obtain ⟨v', w', hrun, hown', hgr⟩ := run_append_rowM (P := P) w base t o.type e info ht hinf hz hsize hby v m xs hown ⟨bk, 0, none⟩ 1 c [u] rfl hcells (fun q hq => by simp at hq; subst hq; exact h1) h63 hbase
  refine op_val ho hg ?_ (k v' w' hown' hgr)
  unfold execOp
  simp [hop, hs, hx, resolve, invoke, builtin, Sem.run_bind, hrun]
theorem run_lenM {o : Oper} {x : Operand} {t e u : TypeId} (hop : o.op = .call { callee := .builtin .len, args := #[x], argTypes := #[t] }) (ht : P.underlying t = some (.slice u)) {base : Nat} {v : Value} {m : Nat} {xs : List Value} (hx : ev b n l x = v) (hown : ownsM w base e v m xs) :
    (execOp (ev b n l) o).run P w = .ok (.value (.int .i64 (m : Int))) w := by
  have hl : ∀ a c, (Builtin.len_ #[t] o.type #[.slice a m c]).run P w = .ok (.int .i64 (m : Int)) w := fun a c => by simp [Builtin.len_, run_underlying ht, goInt]
  unfold execOp
  rcases hown.2 with ⟨rfl, rfl⟩ | ⟨g, cap, cur, fz, rfl, _⟩
  · simp [hop, hx, resolve, invoke, builtin, Sem.run_bind, hl]
  · simp [hop, hx, resolve, invoke, builtin, Sem.run_bind, hl]
theorem op_lenM {i : Nat} {o : Oper} {x : Operand} {t e : TypeId} (u : TypeId) (ho : ops[i]? = some o) (hg : Region.wanted o (yl ops b n l) = true) (hop : o.op = .call { callee := .builtin .len, args := #[x], argTypes := #[t] }) (ht : P.underlying t = some (.slice u)) {base : Nat} {v : Value} {m : Nat} {xs : List Value} (hx : ev b n l x = v) (hown : ownsM w base e v m xs)
    (k : K (Fr b n (putL o (.int .i64 (m : Int)) l) d) w) : wpOp P ops Q i K (Fr b n l d) w :=
  op_val ho hg (run_lenM hop ht hx hown) k
theorem op_strM {i : Nat} {o : Oper} {src dst : TypeId} {x : Operand} (ho : ops[i]? = some o) (hg : Region.wanted o (yl ops b n l) = true) (hop : o.op = .convert src dst x) (e : TypeId)
    (hs : P.underlying src = some (.slice e)) (hd : P.underlying dst = some .string) (he : P.underlying e = some (.int .u8)) {base : Nat} {v : Value} (tx : ByteArray) (hx : ev b n l x = v) (hown : ownsM w base e v tx.size (Lib.strCells tx))
    (k : K (Fr b n (putL o (.string tx) l) d) w) : wpOp P ops Q i K (Fr b n l d) w := by
  have e1 : (⟨tx.data.toList.toArray⟩ : ByteArray) = tx := by apply ByteArray.ext; simp
  rcases hown.2 with ⟨rfl, h0⟩ | ⟨g, cap, cur, fz, rfl, _, hg', _⟩
  · have hz : tx = ⟨#[]⟩ := by apply ByteArray.ext; exact Array.eq_empty_of_size_eq_zero h0
    refine op_val ho hg ?_ k
    have h : (convert src dst (.slice none 0 0)).run P w = .ok (.string ⟨#[]⟩) w := by
      rw [run_convert_bytes_string (P := P) w src dst e none 0 0 hs he hd]
      simp [Conv.bytesToString]
      rfl
    unfold execOp
    subst hz
    simp [hop, hx, Sem.run_bind, h]
  · have h := run_convert_bytes_back (P := P) w src dst e ⟨g, 0, none⟩ cap tx.data.toList hs he hd (fun j hj => hown.cells (g := g) rfl j _ (by simp only [Lib.strCells, List.getElem?_map, List.getElem?_eq_getElem hj, Option.map_some]))
    rw [e1] at h
    refine op_val ho hg ?_ k
    unfold execOp
    have hl : tx.data.toList.length = tx.size := by rw [Array.length_toList]; rfl
    rw [hl] at h
    simp [hop, hx, Sem.run_bind, h]
end
theorem own_rowM {w : World} {bk : Nat} {e : TypeId} {n : Nat} {cs : Array Value} (h : Has w bk (.cells cs e (cs.size, cs.size + 1))) (hn : cs.size = n) (hm : n ≤ maxLen) : ownsM w bk e (.slice (some ⟨bk, 0, none⟩) n n) n cs.toList :=
  ⟨by simpa using hn, .inr ⟨bk, n, cs, _, rfl, Nat.le_refl _, h, .inr rfl, Nat.le_refl _, hm, hn, by rw [← hn, ← Array.length_toList, List.take_length]⟩⟩
theorem own_cellsM {w : World} {base : Nat} {e : TypeId} {n : Nat} {v : Value} {xs : List Value} (h : ownsM w base e v n xs) : v.cells = #[v] ∧ v.oneCell' = true := by
  rcases h.2 with ⟨rfl, _⟩ | ⟨g, cap, cur, fz, rfl, _⟩
  · exact ⟨rfl, rfl⟩
  · exact ⟨rfl, rfl⟩
theorem own_neMO {w : World} {base : Nat} {e : TypeId} {n bk : Nat} {v : Value} {xs : List Value} {o : Obj} (h : ownsM w base e v n xs) (hb : Has w bk o) (ho : ∀ cs fr, o ≠ .cells cs e fr) :
    ∀ q, v.ownBlock = some q → q ≠ bk := by
  intro q hq hqb
  subst hqb
  rcases h.2 with ⟨rfl, _⟩ | ⟨g, cap, cur, fz, rfl, _, hg, _⟩
  · simp [Value.ownBlock] at hq
  · simp [Value.ownBlock] at hq
    subst hq
    have hb' : w.heap[g]? = some o := hb
    rw [hg] at hb'
    injection hb' with h1
    exact ho _ _ h1.symm
theorem Wx.of_appM {e : TypeId} {B wb n : Nat} {w w' : World} {v : Value} {xs : List Value} (h : G w w' v.ownBlock) (hown : ownsM w B e v n xs) (hB : B ≤ w.heap.size) : Wx e B wb w w' :=
  ⟨h.os, h.tape, h.output, h.size, hB, fun j hj => h.block j (Nat.lt_of_lt_of_le hj hB) (fun q => by have := (hown.lt j q.symm).1; omega),
    fun j o ho _ hno => (h.block j (Has.lt ho) (fun q => own_neMO hown ho hno j q.symm rfl)).trans ho⟩
theorem Wx.appM {e : TypeId} {B wb n : Nat} {w w' w'' : World} {v : Value} {xs : List Value} (h : Wx e B wb w w') (k : G w' w'' v.ownBlock) (hown : ownsM w' B e v n xs) : Wx e B wb w w'' := h.trans (Wx.of_appM k hown (Nat.le_trans h.base h.size))
section
variable {P : Program} {Q : Exit → Act → World → Prop} {w : World} {ops : Array Oper} {b : Nat → Value} {n : Nat} {l : List (Nat × Value)} {d : List Deferred} {K : Act → World → Prop}
/-- A constant text's bytes: its row gets the mark. -/
theorem op_convConst {i : Nat} {o : Oper} {t : TypeId} {x : Operand} (ho : ops[i]? = some o) (hg : Region.wanted o (yl ops b n l) = true) (hop : o.op = .convert t t x) (e : TypeId) (ht : P.underlying t = some (.slice e)) (he : P.underlying e = some (.int .u8))
    {bk : Nat} (m c : Nat) (hx : ev b n l x = .slice (some ⟨bk, 0, none⟩) m c) {cs : Array Value} (hb : Has w bk (.cells cs e))
    (k : ∀ w', G w w' (some bk) → Has w' bk (.cells cs e (cs.size, cs.size + 1)) → K (Fr b n (putL o (.slice (some ⟨bk, 0, none⟩) m c) l) d) w') : wpOp P ops Q i K (Fr b n l d) w := by
  have hb0 : w.heap[bk]? = some (.cells cs e) := hb
  have hsh : w.shape? bk = some (e, cs.size) := by unfold World.shape?; rw [hb0]
  have hfr : w.freeze ⟨bk, cs.size, none⟩ 1 = { w with heap := w.heap.modify bk fun
      | .cells c elem (lo, hi) => .cells c elem (if lo == hi then (cs.size, cs.size + 1) else (min lo cs.size, max hi (cs.size + 1)))
      | o => o } := by unfold World.freeze; rw [if_neg (by decide)]; rfl
  have hlt : bk < w.heap.size := Has.lt hb
  refine op_val (w' := w.freeze ⟨bk, cs.size, none⟩ 1) ho hg ?_ (k _ ?_ ?_)
  · unfold execOp
    simp [hop, hx, Sem.run_bind, convert, run_underlying ht, run_underlying he, markStringish, hsh]
  · rw [hfr]
    refine ⟨rfl, rfl, rfl, by simp, fun j hj hne => ?_⟩
    have : bk ≠ j := fun e => hne (by rw [e])
    simp [Array.getElem?_modify, this]
  · rw [hfr]
    show (Array.modify _ _ _)[bk]? = _
    rw [Array.getElem?_modify, if_pos rfl, hb0]
    rfl
/-- A text's bytes as an own row. -/
theorem op_bytesM {i : Nat} {o : Oper} {src dst : TypeId} {x : Operand} (ho : ops[i]? = some o) (hg : Region.wanted o (yl ops b n l) = true) (hop : o.op = .convert src dst x) (e : TypeId)
    (hs : P.underlying src = some .string) (hd : P.underlying dst = some (.slice e)) (he : P.underlying e = some (.int .u8)) (s : ByteArray) (hx : ev b n l x = .string s) (hsz : s.size ≤ maxLen)
    (k : ∀ bk v w', w.heap.size ≤ bk ∧ bk < w'.heap.size → Ext w w' → ownsM w' bk e v s.size (Lib.strCells s) → K (Fr b n (putL o v l) d) w') : wpOp P ops Q i K (Fr b n l d) w := by
  have h := run_bytes_of_string (P := P) w src dst e s hs hd he
  have hge := grownCap_ge w s.size 0 e
  have hcm := grownCap_le_maxLen w s.size 0 e hsz
  have hrow : (bytesRow s (grownCap w s.size 0 e)).size = grownCap w s.size 0 e := by
    unfold bytesRow
    have : (s.data.map fun b => Value.int .u8 b.toNat).size = s.size := by rw [Array.size_map]; rfl
    simp
    have e1 : s.data.size = s.size := rfl
    omega
  have hb := Has_alloc w.drew (.cells (byteRow s (grownCap w s.size 0 e)) e ((byteRow s (grownCap w s.size 0 e)).size, (byteRow s (grownCap w s.size 0 e)).size + 1))
  refine op_val ho hg ?_ (k w.heap.size (.slice (some ⟨w.heap.size, 0, none⟩) s.size (grownCap w s.size 0 e)) _ ⟨Nat.le_refl _, Has.lt hb⟩ (Ext.trans (Ext.drawn w (w.drawn + 1)) (G_alloc w.drew _)) ⟨by rw [Lib.strCells_length], .inr ⟨w.heap.size, _, _, _, rfl, Nat.le_refl _, hb, .inr rfl, hge, hcm, hrow, ?_⟩⟩)
  · unfold execOp
    simp [hop, hx, Sem.run_bind, h, byteRow]
  · unfold byteRow bytesRow
    have e1 : s.data.size = s.size := rfl
    simp only [Array.toList_append, Array.toList_map, Lib.strCells]
    rw [List.take_append_of_le_length (by simp [e1]), List.take_of_length_le (by simp [e1])]
end
end Go.Gx
