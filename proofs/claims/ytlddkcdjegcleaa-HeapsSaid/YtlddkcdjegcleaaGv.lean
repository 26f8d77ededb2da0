/- More steps: fields of what lies in rows that are only read; rows of one's own opened. -/
import Derived.Test.YtlddkcdjegcleaaGw
import Derived.ChangeShapes
import Derived.Maps.AppendAt
set_option linter.unusedVariables false
set_option linter.unusedSimpArgs false
namespace Go.Gx
section
variable {P : Program} {Q : Exit → Act → World → Prop} {w : World} {ops : Array Oper} {b : Nat → Value} {n : Nat} {l : List (Nat × Value)} {d : List Deferred} {K : Act → World → Prop}
def fldAt (P : Program) (s : TypeId) (f off : Nat) : Bool :=
  match P.underlying s with
  | some (.struct fs) => match fs[f]? with
    | some fl => Nat.beq fl.offset off && (match P.info? fl.type with
      | some i => Nat.blt 0 i.size
      | none => false)
    | none => false
  | _ => false
theorem run_fieldAddrO {o : Oper} {s : TypeId} {x : Operand} {f : Nat} (hop : o.op = .fieldAddr s x f) (a : Addr) (hx : ev b n l x = .pointer (some a)) (off : Nat) (h : fldAt P s f off = true) :
    (execOp (ev b n l) o).run P w = .ok (.value (.pointer (some (a.add off)))) w := by
  unfold fldAt at h
  cases hu : P.underlying s with
  | none => simp [hu] at h
  | some dsc =>
    rw [hu] at h
    cases dsc with
    | struct fs =>
      simp only at h
      cases hf : fs[f]? with
      | none => simp [hf] at h
      | some fl =>
        rw [hf] at h
        simp only at h
        cases hi : P.info? fl.type with
        | none => simp [hi] at h
        | some i =>
          rw [hi] at h
          simp only [Bool.and_eq_true] at h
          have h1 := Nat.eq_of_beq_eq_true h.1
          have h2 : ¬ i.size = 0 := by have := Nat.le_of_ble_eq_true h.2; omega
          unfold execOp
          simp [hop, hx, Instr.fieldAt, Instr.sureAddr, fieldPlace, underlying, hu, hf, sizeOf, typeInfo, hi, h1, h2, Sem.run_bind, go_sem]
    | _ => simp at h
theorem op_fieldAddrO {i : Nat} {o : Oper} {s : TypeId} {x : Operand} {f : Nat} (ho : ops[i]? = some o) (hg : Region.wanted o (yl ops b n l) = true) (hop : o.op = .fieldAddr s x f) (a : Addr) (hx : ev b n l x = .pointer (some a)) (off : Nat) (h : fldAt P s f off = true)
    (k : K (Fr b n (putL o (.pointer (some (a.add off))) l) d) w) : wpOp P ops Q i K (Fr b n l d) w :=
  op_val ho hg (run_fieldAddrO hop a hx off h) k
theorem op_appendAt {i : Nat} {o : Oper} {s x : Operand} {t : TypeId} (ho : ops[i]? = some o) (hg : Region.wanted o (yl ops b n l) = true)
    (hop : o.op = .call { callee := .builtin .append, args := #[s, x], argTypes := #[t, t] }) (e : TypeId) (size bytes : Nat) (ht : P.underlying t = some (.slice e))
    (hi : (P.info? e).map (fun i => (i.zero.map (·.cells.size), i.size, i.bytes)) = some (some size, size, bytes)) (hsz : Nat.blt 0 size = true)
    (base : Nat) {v : Value} {m : Nat} {xs : List Value} (hs : ev b n l s = v) (hown : w.ownsRow base e size v m xs)
    {bk : Nat} (off k' c : Nat) (hx : ev b n l x = .slice (some ⟨bk, off, none⟩) k' c) {cs : Array Value} {e' : TypeId} {fr : Nat × Nat} (hb : Has w bk (.cells cs e' fr))
    (news : List Value) (hn : (cs.toList.drop off).take (k' * size) = news) (hl : news.length = k' * size) (h1 : ∀ u ∈ news, u.oneCell' = true)
    (h63 : m + k' ≤ maxLen) (hbytes : (m + k') * bytes ≤ 140737488355328) (hbase : base ≤ w.heap.size)
    (k : ∀ v' w', w'.ownsRow base e size v' (m + k') (xs ++ news) → G w w' v.ownBlock → (v'.ownBlock = v.ownBlock ∨ v'.ownBlock = some w.heap.size) → K (Fr b n (putL o v' l) d) w') : wpOp P ops Q i K (Fr b n l d) w := by
  cases hinf : P.info? e with
  | none => simp [hinf] at hi
  | some info =>
    simp only [hinf, Option.map_some, Option.some.injEq, Prod.mk.injEq, Option.map_eq_some_iff] at hi
    obtain ⟨⟨z, hz, hzs⟩, hsize, hby⟩ := hi
    have hc : ∀ j, w.cell? ⟨bk, j, none⟩ = cs[j]? := fun j => cell_of_row w bk j cs e' fr hb
    have hcells : ∀ j u, news[j]? = some u → w.cell? ((⟨bk, off, none⟩ : Addr).add j) = some u := fun j u hu => by
      have hadd : (⟨bk, off, none⟩ : Addr).add j = ⟨bk, off + j, none⟩ := by unfold Addr.add; split <;> simp_all
      rw [hadd, hc]
      rw [← hn, List.getElem?_take] at hu
      split at hu
      · rw [List.getElem?_drop] at hu; simpa using hu
      · cases hu
    obtain ⟨v', w', hrun, hown', hgr, _, hnil⟩ := run_append_own_at (P := P) w base t o.type e info z size bytes ht hinf hz hsize hby hzs (Nat.le_of_ble_eq_true hsz) v m xs hown ⟨bk, off, none⟩ k' c news
      hl hcells h1 h63 hbytes hbase
    refine op_val ho hg ?_ (k v' w' hown' hgr hnil)
    unfold execOp
    simp [hop, hs, hx, resolve, invoke, builtin, Sem.run_bind, hrun]
theorem res_cc {fn : Func} {u v : Value} {c t c' t' : Nat} (h : fn.results = #[.cell c t, .cell c' t']) {bk bk' : Nat} (hp : ev b n l (.tmp c) = .pointer (some ⟨bk, 0, none⟩))
    {cs : Array Value} {e : TypeId} (hb : Has w bk (.cells cs e)) (hu : loadB P t cs 0 = some u) (hp' : ev b n l (.tmp c') = .pointer (some ⟨bk', 0, none⟩)) {cs' : Array Value} {e' : TypeId} (hb' : Has w bk' (.cells cs' e')) (hv : loadB P t' cs' 0 = some v) :
    (results fn (Fr b n l d).tmps).run P w = .ok (.tuple #[u, v]) w := by
  simp [results, h, tmps_getD', hp, hp', asAddr, Sem.run_bind, run_loadVar_at hb hu, run_loadVar_at hb' hv]
end
theorem cells_sub {w : World} {a : Addr} {n : Nat} {row : List Value} (h : w.cells? 0 a n = some row) (off m : Nat) (hm : Nat.ble (off + m) n = true) : w.cells? 0 (a.add off) m = some ((row.drop off).take m) := by
  have hm := Nat.le_of_ble_eq_true hm
  obtain ⟨_, hl, hc⟩ := World.cells?_some h
  by_cases h0 : m = 0
  · subst h0; simp [World.cells?]
  · have hs : a.spot = none := by
      have := hc 0 (by omega)
      have h1 : row[0]? = some (row[0]'(by omega)) := List.getElem?_eq_getElem (by omega)
      rw [show a.add 0 = a by simp [Addr.add], h1] at this
      exact World.cell?_spot this
    have e : ∀ j, a.add j = ⟨a.block, a.off + j, none⟩ := fun j => by
      obtain ⟨b, o, s⟩ := a
      simp only at hs
      subst hs
      unfold Addr.add
      split
      · rename_i q; simp [q]
      · rfl
    rw [e off]
    refine ChangeShapes.cells?_of (Nat.zero_le _) (by rw [List.length_take, List.length_drop]; omega) (fun j hj => ?_)
    have := hc (off + j) (by omega)
    rw [e, ← Nat.add_assoc] at this
    rw [this, List.getElem?_take, if_pos hj, List.getElem?_drop]
theorem k1 {a b : Int} (h : (a == b) = true) : a = b := by simpa using h
theorem k0 {a b : Int} (h : (a == b) = false) : ¬ a = b := by simpa using h
/-- A row of one's own that is not empty. -/
theorem own_open {w : World} {base n size : Nat} {e : TypeId} {v : Value} {xs : List Value} (h : w.ownsRow base e size v n xs) (hn : 0 < n) :
    ∃ g cap cur, v = .slice (some ⟨g, 0, none⟩) n cap ∧ base ≤ g ∧ Has w g (.cells cur e) ∧ n ≤ cap ∧ cur.toList.take (n * size) = xs := by
  rcases h.2 with ⟨_, rfl⟩ | ⟨g, cap, cur, hv, hb, hg, hnc, _, _, ht⟩
  · omega
  · exact ⟨g, cap, cur, hv, hb, hg, hnc, ht⟩
end Go.Gx
