/- More steps: shifts, masks, rows that are made and written at a place, texts appended to bytes. -/
import Derived.Test.YtlddkcdjegcleaaGy
import Derived.Lib.AppendStr
set_option linter.unusedVariables false
set_option linter.unusedSimpArgs false
namespace Go.Gx
section
variable {P : Program} {Q : Exit → Act → World → Prop} {w : World} {ops : Array Oper} {b : Nat → Value} {n : Nat} {l : List (Nat × Value)} {d : List Deferred} {K : Act → World → Prop}
theorem run_shr {o : Oper} {t t' : TypeId} {x y : Operand} (hop : o.op = .binOp .shr t x y t') (k yk : IntKind) (a : Int) (c : Nat) (hx : ev b n l x = .int k a) (hy : ev b n l y = .int yk (c : Int)) (hc : c ≤ k.bits) (r : Int) (hr : a / (2 ^ c) = r) :
    (execOp (ev b n l) o).run P w = .ok (.value (.int k r)) w := by
  subst hr
  unfold execOp
  have h0 : ¬ ((c : Int) < 0) := by omega
  have hm : min c k.bits = c := Nat.min_eq_left hc
  have hf : a.fdiv (2 ^ c) = a / 2 ^ c := by
    rw [Int.fdiv_eq_ediv_of_nonneg]
    exact Int.pow_nonneg (by omega)
  simp [hop, hx, hy, eqGuard, Sem.run_bind, binOp, Op.shift, h0, hm, hf]
theorem op_shr {i : Nat} {o : Oper} {t t' : TypeId} {x y : Operand} (ho : ops[i]? = some o) (hg : Region.wanted o (yl ops b n l) = true) (hop : o.op = .binOp .shr t x y t') (k yk : IntKind) (a : Int) (c : Nat)
    (hx : ev b n l x = .int k a) (hy : ev b n l y = .int yk (c : Int)) (hc : c ≤ k.bits) (r : Int) (hr : a / (2 ^ c) = r) (kk : K (Fr b n (putL o (.int k r) l) d) w) : wpOp P ops Q i K (Fr b n l d) w :=
  op_val ho hg (run_shr hop k yk a c hx hy hc r hr) kk
theorem run_shl {o : Oper} {t t' : TypeId} {x y : Operand} (hop : o.op = .binOp .shl t x y t') (k yk : IntKind) (a : Int) (c : Nat) (hx : ev b n l x = .int k a) (hy : ev b n l y = .int yk (c : Int)) (hc : c ≤ k.bits) (r : Int) (hr : k.wrap (a * 2 ^ c) = r) :
    (execOp (ev b n l) o).run P w = .ok (.value (.int k r)) w := by
  subst hr
  unfold execOp
  have h0 : ¬ ((c : Int) < 0) := by omega
  have hm : min c k.bits = c := Nat.min_eq_left hc
  simp [hop, hx, hy, eqGuard, Sem.run_bind, binOp, Op.shift, h0, hm]
theorem op_shl {i : Nat} {o : Oper} {t t' : TypeId} {x y : Operand} (ho : ops[i]? = some o) (hg : Region.wanted o (yl ops b n l) = true) (hop : o.op = .binOp .shl t x y t') (k yk : IntKind) (a : Int) (c : Nat)
    (hx : ev b n l x = .int k a) (hy : ev b n l y = .int yk (c : Int)) (hc : c ≤ k.bits) (r : Int) (hr : k.wrap (a * 2 ^ c) = r) (kk : K (Fr b n (putL o (.int k r) l) d) w) : wpOp P ops Q i K (Fr b n l d) w :=
  op_val ho hg (run_shl hop k yk a c hx hy hc r hr) kk
theorem and255 (a : Int) : IntKind.i64.wrap ((BitVec.ofInt 64 a &&& BitVec.ofInt 64 255).toNat : Int) = a % 256 := by
  rw [BitVec.toNat_and]
  have h2 : (BitVec.ofInt 64 255).toNat = 255 := by decide
  rw [h2, nat_mask8, BitVec.toNat_ofInt, IntKind.wrap_i64]
  have : (2 : Int) ^ 64 = 18446744073709551616 := by decide
  omega
theorem run_and255 {o : Oper} {t t' : TypeId} {x y : Operand} (hop : o.op = .binOp .and t x y t') (a : Int) (hx : ev b n l x = .int .i64 a) (hy : ev b n l y = .int .i64 255) :
    (execOp (ev b n l) o).run P w = .ok (.value (.int .i64 (a % 256))) w := by
  unfold execOp
  have h : bits .and .i64 a 255 = a % 256 := and255 a
  simp [hop, hx, hy, Sem.run_bind, go_sem, h]
theorem op_and255 {i : Nat} {o : Oper} {t t' : TypeId} {x y : Operand} (ho : ops[i]? = some o) (hg : Region.wanted o (yl ops b n l) = true) (hop : o.op = .binOp .and t x y t') (a : Int)
    (hx : ev b n l x = .int .i64 a) (hy : ev b n l y = .int .i64 255) (kk : K (Fr b n (putL o (.int .i64 (a % 256)) l) d) w) : wpOp P ops Q i K (Fr b n l d) w :=
  op_val ho hg (run_and255 hop a hx hy) kk
/-- A made row of so many cells. -/
theorem op_make {i : Nat} {o : Oper} {t : TypeId} {x y : Operand} (ho : ops[i]? = some o) (hg : Region.wanted o (yl ops b n l) = true) (hop : o.op = .makeSlice t x y) (e : TypeId) (bytes : Nat) (z : Value)
    (ht : P.underlying t = some (.slice e)) (hi : (P.info? e).map (fun i => (i.zero, i.size, i.bytes)) = some (some z, 1, bytes)) (hzc : z.cells = #[z]) (kl kc : IntKind) (m : Nat) (hx : ev b n l x = .int kl (m : Int)) (hy : ev b n l y = .int kc (m : Int))
    (hb : bytes * m ≤ 281474976710656) (hm : m ≤ 9223372036854775807)
    (k : ∀ bk w' cs, w.heap.size ≤ bk → Ext w w' → cs.size = m → (∀ p, p < m → cs[p]? = some z) → Has w' bk (.cells cs e) → K (Fr b n (putL o (.slice (some ⟨bk, 0, none⟩) m m) l) d) w') : wpOp P ops Q i K (Fr b n l d) w := by
  cases hinf : P.info? e with
  | none => simp [hinf] at hi
  | some info =>
    simp only [hinf, Option.map_some, Option.some.injEq, Prod.mk.injEq] at hi
    obtain ⟨hz, hsize, hby⟩ := hi
    obtain ⟨w', hr, hown, hg'⟩ := run_make_full (P := P) w w.heap.size t e info z 1 ht hinf hz hsize kl kc m (by rw [hby]; exact hb) (by unfold maxLen; omega) (Nat.le_refl _)
    rw [hzc, Nat.mul_one, toList_madeCells_one] at hown
    have hrun : (execOp (ev b n l) o).run P w = .ok (.value (.slice (some ⟨w.heap.size, 0, none⟩) m m)) w' := by
      unfold execOp
      simp [hop, hx, hy, Sem.run_bind, hr]
    rcases hown.2 with ⟨h0, _⟩ | ⟨g, cap, cur, hv, hbg, hgg, hnc, hcm, hcs, htk⟩
    · cases h0
    · cases hv
      refine op_val ho hg hrun (k w.heap.size w' cur (Nat.le_refl _) hg' (by omega) (fun p hp => ?_) hgg)
      have : (cur.toList.take (m * 1))[p]? = some z := by rw [htk, List.getElem?_replicate, if_pos hp]
      rw [List.getElem?_take, if_pos (by omega)] at this
      simpa using this
/-- A cell of a row is written. -/
theorem op_storeA {i : Nat} {o : Oper} {t : TypeId} {x y : Operand} (ho : ops[i]? = some o) (hg : Region.wanted o (yl ops b n l) = true) (hop : o.op = .store t x y)
    {bk : Nat} (off : Nat) (v : Value) (hx : ev b n l x = .pointer (some ⟨bk, off, none⟩)) (hy : ev b n l y = v) {cs : Array Value} {e : TypeId} (hb : Has w bk (.cells cs e))
    (hs : (P.info? t).map (·.size) = some 1) (hv : v.cells = #[v]) (h1 : v.oneCell' = true) (hfit : off < cs.size)
    (k : ∀ w', G w w' (some bk) → Has w' bk (.cells (cs.setIfInBounds off v) e) → K (Fr b n (putL o undef l) d) w') : wpOp P ops Q i K (Fr b n l d) w := by
  have e1 : (cs.toList.take off ++ v.cells.toList ++ cs.toList.drop (off + v.cells.size)).toArray = cs.setIfInBounds off v := by
    rw [hv]
    apply Array.toList_inj.1
    rw [Array.toList_setIfInBounds, List.set_eq_take_append_cons_drop, if_pos (by simpa using hfit)]
    simp
  have e2 : v.cells.size = 1 := by rw [hv]; rfl
  refine op_store ho hg hop off v hx hy hb (by rw [e2]; exact hs) (by rw [hv]; simpa using h1) (Nat.ble_eq_true_of_le (by rw [e2]; omega)) (cs.setIfInBounds off v) e1 k
/-- A text's bytes behind an own row of bytes. -/
theorem op_append_str {i : Nat} {o : Oper} {s x : Operand} {t u : TypeId} (ho : ops[i]? = some o) (hg : Region.wanted o (yl ops b n l) = true)
    (hop : o.op = .call { callee := .builtin .append, args := #[s, x], argTypes := #[t, u] }) (e : TypeId) (ht : P.underlying t = some (.slice e)) (hu : P.underlying u = some .string)
    (hi : (P.info? e).map (fun i => (i.zero, i.size, i.bytes)) = some (some (.int .u8 0), 1, 1)) (base : Nat) {v : Value} {m : Nat} {xs : List Value} (hs : ev b n l s = v) (hown : w.ownsRow base e 1 v m xs)
    (tx : ByteArray) (hx : ev b n l x = .string tx) (hb : m + tx.size ≤ 140737488355328) (hbase : base ≤ w.heap.size)
    (k : ∀ v' w', w'.ownsRow base e 1 v' (m + tx.size) (xs ++ Lib.strCells tx) → G w w' v.ownBlock → K (Fr b n (putL o v' l) d) w') : wpOp P ops Q i K (Fr b n l d) w := by
  cases hinf : P.info? e with
  | none => simp [hinf] at hi
  | some info =>
    simp only [hinf, Option.map_some, Option.some.injEq, Prod.mk.injEq] at hi
    obtain ⟨hz, hsize, hby⟩ := hi
    obtain ⟨v', w', hrun, hown', hgr, _⟩ := Lib.run_append_own_string (P := P) w base t u o.type e info ht hu hinf hz hsize hby v m xs hown tx (by unfold maxLen; omega) hb hbase
    refine op_val ho hg ?_ (k v' w' hown' hgr)
    unfold execOp
    simp [hop, hs, hx, resolve, invoke, builtin, Sem.run_bind, hrun]
end
/-! ### What a call does that writes on one record and on its row of elements e -/
/-! #### A region that draws its order, whose last steps write what its first steps read
As in Derived/OrdersHeld, but S is shown behind the operations outside D only; an operation that needs S comes ahead of all of D (C: a list that holds D, each of whose members waits for that operation or for another of C). -/
theorem own_cells' {w : World} {base : Nat} {e : TypeId} {size n : Nat} {v : Value} {xs : List Value} (h : w.ownsRow base e size v n xs) : v.cells = #[v] ∧ v.oneCell' = true := by
  rcases h.2 with ⟨rfl, _⟩ | ⟨g, cap, cur, rfl, _⟩
  · exact ⟨rfl, rfl⟩
  · exact ⟨rfl, rfl⟩
section
variable {P : Program} {ops : Array Oper} {Q : Exit → Act → World → Prop} {md : Region.Mode} {S T : World → Prop} {D : List Nat}
/-- No one of D has come up. -/
def clear (D : List Nat) (listed : Array Bool) : Bool := D.all fun d => !listed.getD d true
def anyE (P : Program) (md : Region.Mode) (ops : Array Oper) (Q : Exit → Act → World → Prop) (S : World → Prop) (D : List Nat) : Nat → Array Bool → Act → World → Prop
  | 0, listed, a, w => Region.ready md ops listed = [] ∧ Q .normal a w
  | fuel + 1, listed, a, w => (Region.ready md ops listed = [] → Q .normal a w) ∧
    ∀ i ∈ Region.ready md ops listed, wpOp P ops Q i (fun a' w' => (clear D (listed.setIfInBounds i true) = true → S w') ∧ anyE P md ops Q S D fuel (listed.setIfInBounds i true) a' w') a w
theorem anyE_any : ∀ (fuel : Nat) (listed : Array Bool) (a : Act) (w : World), anyE P md ops Q S D fuel listed a w → wpAny P md ops Q fuel listed a w
  | 0, _, _, _, h => h
  | fuel + 1, _, _, _, h => ⟨h.1, fun i hi => wpOp_mono (fun a' w' h' => anyE_any fuel _ a' w' h'.2) (h.2 i hi)⟩
theorem clear_set {i : Nat} {listed : Array Bool} (h : D.contains i = false) : clear D (listed.setIfInBounds i true) = clear D listed := by
  unfold clear
  rw [Bool.eq_iff_iff, List.all_eq_true, List.all_eq_true]
  have e : ∀ x ∈ D, (listed.setIfInBounds i true).getD x true = listed.getD x true := fun x hx => by
    have : i ≠ x := by rintro rfl; simp [hx] at h
    exact getD_set_ne true this
  constructor
  · intro k x hx; have := k x hx; rwa [e x hx] at this
  · intro k x hx; rw [e x hx]; exact k x hx
theorem clear_of {C : List Nat} {listed : Array Bool} (h : D.all C.contains = true) (k : ∀ c ∈ C, listed.getD c true = false) : clear D listed = true := by
  unfold clear
  rw [List.all_eq_true]
  intro x hx
  rw [k x (by simpa using List.all_eq_true.1 h x hx)]
  rfl
/-- All of C wait for i. -/
def waits (md : Region.Mode) (ops : Array Oper) (C : List Nat) (i : Nat) : Bool := C.all fun j => (ops[j]?).any fun o => o.after.any fun e => Region.binds md e && (e.on == i || C.contains e.on)
theorem waits_spec {C : List Nat} {i j : Nat} {listed : Array Bool} (h : waits md ops C i = true) (hi : listed.getD i true = false) (hC : ∀ c ∈ C, listed.getD c true = false) (hj : j ∈ Region.ready md ops listed) : j ∉ C := by
  intro hm
  have h1 := List.all_eq_true.1 h j hm
  obtain ⟨_, o, ho, hall⟩ := mem_ready.1 hj
  rw [ho, Option.any_some, Array.any_eq_true'] at h1
  obtain ⟨e, he, hb⟩ := h1
  rw [Bool.and_eq_true, Bool.or_eq_true, beq_iff_eq] at hb
  have hl := hall e he hb.1
  have flip : ∀ q, listed.getD q true = false → listed.getD q false = true → False := by
    intro q a b
    rcases Nat.lt_or_ge q listed.size with h' | h'
    · simp [h'] at a b; rw [a] at b; cases b
    · simp [Array.getElem?_eq_none h'] at b
  rcases hb.2 with q | q
  · exact flip _ hi (q ▸ hl)
  · exact flip _ (hC _ (by simpa using q)) hl
theorem anyE_first {i : Nat} {oi : Oper} {v : Value} (C : List Nat) (hi : ops[i]? = some oi) (hsel : ∀ (j : Nat) (o : Oper) cs b, ops[j]? = some o → o.op ≠ .select cs b)
    (hQ : ∀ c a w, Q (.panic c) (a.put oi.dst v) w → Q (.panic c) a w) (hiD : D.contains i = false) (hST : ∀ w, S w → T w) (hd : (∀ w, T w) ∨ (waits md ops C i = true ∧ C.contains i = false ∧ D.all C.contains = true)) :
    ∀ (fuel : Nat) (listed : Array Bool) (a : Act) (w : World),
      (∀ j oj, ops[j]? = some oj → j ≠ i → listed.getD j true = false → (∀ e ∈ oj.after, Region.binds md e = true → e.on ≠ i) → oi.apart ops oj = true) →
      ((∀ w, T w) ∨ (∀ c ∈ C, listed.getD c true = false)) →
      i ∈ Region.ready md ops listed → YieldsIf P ops T oi v a → (clear D listed = true → S w) → T w →
      anyE P md ops Q S D fuel (listed.setIfInBounds i true) (a.put oi.dst v) w → anyE P md ops Q S D (fuel + 1) listed a w := by
  intro fuel
  induction fuel with
  | zero =>
    intro listed a w _ _ hr hy hS hT H
    refine ⟨fun h => (by rw [h] at hr; cases hr), fun j hj => ?_⟩
    by_cases hji : j = i
    · subst hji; exact hy.wpOp hi hT ⟨fun h => hS (by rwa [clear_set hiD] at h), H⟩
    · have := ready_mono hj hji
      rw [H.1] at this
      cases this
  | succ fuel ih =>
    intro listed a w hfree hlist hr hy hS hT H
    refine ⟨fun h => (by rw [h] at hr; cases hr), fun j hj => ?_⟩
    by_cases hji : j = i
    · subst hji; exact hy.wpOp hi hT ⟨fun h => hS (by rwa [clear_set hiD] at h), H⟩
    · have h1 := H.2 j (ready_mono hj hji)
      obtain ⟨hjun, oj, hoj, hall⟩ := mem_ready.1 hj
      have hiun := (mem_ready.1 hr).1
      have hnot : ∀ e ∈ oj.after, Region.binds md e = true → e.on ≠ i := fun e he hb heq => by
        have h1 := hall e he hb
        rw [heq] at h1
        rcases Nat.lt_or_ge i listed.size with h' | h'
        · simp [h'] at hiun h1; rw [hiun] at h1; cases h1
        · simp [Array.getElem?_eq_none h'] at h1
      have h2 := wpOp_putIf hoj (hfree j oj hoj hji hjun hnot) (fun cs b => hsel i oi cs b hi) (fun cs b => hsel j oj cs b hoj) hQ hy h1
      have hfree' : ∀ k ok, ops[k]? = some ok → k ≠ i → (listed.setIfInBounds j true).getD k true = false →
          (∀ e ∈ ok.after, Region.binds md e = true → e.on ≠ i) → oi.apart ops ok = true := fun k ok hk hki hun hno => by
        refine hfree k ok hk hki ?_ hno
        by_cases hjk : j = k
        · subst hjk; exact hjun
        · rw [getD_set_ne true hjk] at hun; exact hun
      have hcl : ∀ L : Array Bool, clear D (L.setIfInBounds i true) = clear D L := fun L => clear_set hiD
      have hlist' : (∀ w, T w) ∨ (∀ c ∈ C, (listed.setIfInBounds j true).getD c true = false) := by
        rcases hlist with q | q
        · exact .inl q
        · rcases hd with d | ⟨d1, _, _⟩
          · exact .inl d
          · have hjC := waits_spec d1 hiun q hj
            exact .inr fun c hc => by
              rw [getD_set_ne true (by rintro rfl; exact hjC hc)]
              exact q c hc
      refine wpOp_mono (fun a' w' h3 => ?_) h2
      have hS' : clear D (listed.setIfInBounds j true) = true → S w' := fun h => h3.2.1 (by rw [Array.setIfInBounds_comm _ _ (Ne.symm hji), hcl]; exact h)
      refine ⟨hS', ih (listed.setIfInBounds j true) a' w' hfree' hlist' (ready_mono hr (Ne.symm hji)) h3.1 hS' ?_ ?_⟩
      · rcases hlist' with q | q
        · exact q w'
        · rcases hd with d | ⟨_, _, d3⟩
          · exact d w'
          · exact hST w' (hS' (clear_of d3 q))
      · rw [Array.setIfInBounds_comm _ _ hji]
        exact h3.2.2
end
section
variable {P : Program} {Q : Exit → Act → World → Prop} {w : World} {ops : Array Oper} {b : Nat → Value} {n : Nat} {l : List (Nat × Value)} {d : List Deferred}
theorem drawE {id : Nat} {S : World → Prop} (D : List Nat) {Q' : Exit → Act → World → Prop} {a : Act} (hm : P.follows .mixedOrders = true)
    (h : ∀ w', Ext w w' → anyE P .any ops Q' S D ops.size (Array.replicate ops.size false) a w') : (Code.region id ops true).wp P Q' a w :=
  wp_region_any hm (anyE_any _ _ _ _ (h _ (Ext.drawn w _)))
/-- An operation that needs no S. -/
theorem anyE_take (i : Nat) {S : World → Prop} {D : List Nat} {oi : Oper} {fuel : Nat} {listed : Array Bool} (v v' : Value) (e : v = v') (hi : ops[i]? = some oi)
    (hs : Region.noSelect ops = true) (hf : Region.free .any ops listed i = true) (hr : (Region.ready .any ops listed).contains i = true) (hiD : D.contains i = false)
    (hQ : ∀ c a w, Q (.panic c) (a.put oi.dst v') w → Q (.panic c) a w) (hS : clear D listed = true → S w) (hg : Region.wanted oi (yl ops b n l) = true)
    (hy : ∀ w, (execOp (ev b n l) oi).run P w = .ok (.value v) w)
    (h : anyE P .any ops Q S D fuel (listed.setIfInBounds i true) (Fr b n (putL oi v' l) d) w) : anyE P .any ops Q S D (fuel + 1) listed (Fr b n l d) w := by
  subst e
  exact anyE_first (T := fun _ => True) [] hi (Region.noSelect_spec hs) hQ hiD (fun _ _ => trivial) (.inl fun _ => trivial) fuel listed _ w (Region.free_spec hi hf) (.inl fun _ => trivial) (by simpa using hr)
    (.inl ⟨by rw [yielded_Fr]; exact hg, fun w _ => by rw [eval_Fr]; exact hy w⟩) hS trivial (by rw [put_putL]; exact h)
theorem anyE_skip (i : Nat) {S : World → Prop} {D : List Nat} {oi : Oper} {fuel : Nat} {listed : Array Bool} (hi : ops[i]? = some oi)
    (hs : Region.noSelect ops = true) (hf : Region.free .any ops listed i = true) (hr : (Region.ready .any ops listed).contains i = true) (hiD : D.contains i = false)
    (hQ : ∀ c a w, Q (.panic c) (a.put oi.dst undef) w → Q (.panic c) a w) (hS : clear D listed = true → S w) (hg : Region.wanted oi (yl ops b n l) = false)
    (h : anyE P .any ops Q S D fuel (listed.setIfInBounds i true) (Fr b n (putL oi undef l) d) w) : anyE P .any ops Q S D (fuel + 1) listed (Fr b n l d) w :=
  anyE_first (T := fun _ => True) [] hi (Region.noSelect_spec hs) hQ hiD (fun _ _ => trivial) (.inl fun _ => trivial) fuel listed _ w (Region.free_spec hi hf) (.inl fun _ => trivial) (by simpa using hr)
    (.inr ⟨by rw [yielded_Fr]; exact hg, rfl⟩) hS trivial (by rw [put_putL]; exact h)
/-- An operation that needs S: all of D wait for it. -/
theorem anyE_takeS (i : Nat) {S : World → Prop} {D : List Nat} (C : List Nat) {oi : Oper} {fuel : Nat} {listed : Array Bool} (v v' : Value) (e : v = v') (hi : ops[i]? = some oi)
    (hs : Region.noSelect ops = true) (hf : Region.free .any ops listed i = true) (hr : (Region.ready .any ops listed).contains i = true) (hiD : D.contains i = false)
    (hC : (waits .any ops C i && !C.contains i && D.all C.contains && C.all (fun c => !listed.getD c true)) = true)
    (hQ : ∀ c a w, Q (.panic c) (a.put oi.dst v') w → Q (.panic c) a w) (hS : S w) (hg : Region.wanted oi (yl ops b n l) = true)
    (hy : ∀ w, S w → (execOp (ev b n l) oi).run P w = .ok (.value v) w)
    (h : anyE P .any ops Q S D fuel (listed.setIfInBounds i true) (Fr b n (putL oi v' l) d) w) : anyE P .any ops Q S D (fuel + 1) listed (Fr b n l d) w := by
  subst e
  simp only [Bool.and_eq_true] at hC
  obtain ⟨⟨⟨h1, h2⟩, h3⟩, h4⟩ := hC
  exact anyE_first (T := S) C hi (Region.noSelect_spec hs) hQ hiD (fun _ q => q) (.inr ⟨h1, by simpa using h2, h3⟩) fuel listed _ w (Region.free_spec hi hf) (.inr fun c hc => by simpa using List.all_eq_true.1 h4 c hc) (by simpa using hr)
    (.inl ⟨by rw [yielded_Fr]; exact hg, fun w hw => by rw [eval_Fr]; exact hy w hw⟩) (fun _ => hS) hS (by rw [put_putL]; exact h)
/-- One operation alone may come up. -/
theorem anyE_one (i : Nat) {S : World → Prop} {D : List Nat} {fuel : Nat} {listed : Array Bool} {a : Act} (hr : Region.ready .any ops listed = [i])
    (h : wpOp P ops Q i (fun a' w' => (clear D (listed.setIfInBounds i true) = true → S w') ∧ anyE P .any ops Q S D fuel (listed.setIfInBounds i true) a' w') a w) : anyE P .any ops Q S D (fuel + 1) listed a w :=
  ⟨fun h0 => absurd (hr ▸ h0) (by simp), fun j hj => by
    have : j = i := by rw [hr] at hj; simpa using hj
    subst this
    exact h⟩
theorem anyE_done {S : World → Prop} {D : List Nat} {listed : Array Bool} {a : Act} (hr : Region.ready .any ops listed = []) (h : Q .normal a w) : ∀ fuel, anyE P .any ops Q S D fuel listed a w
  | 0 => ⟨hr, h⟩
  | _ + 1 => ⟨fun _ => h, by rw [hr]; simp⟩
theorem not_clear {D : List Nat} {listed : Array Bool} {p : Prop} (h : clear D listed = false) : clear D listed = true → p := fun q => by rw [h] at q; cases q
/-- A value of one cell is written. -/
theorem op_storeO {i : Nat} {o : Oper} {t : TypeId} {x y : Operand} {K : Act → World → Prop} (ho : ops[i]? = some o) (hg : Region.wanted o (yl ops b n l) = true) (hop : o.op = .store t x y)
    {bk : Nat} (off : Nat) (v : Value) (hx : ev b n l x = .pointer (some ⟨bk, off, none⟩)) (hy : ev b n l y = v) {cs : Array Value} {e : TypeId} (hb : Has w bk (.cells cs e))
    (hs : (P.info? t).map (·.size) = some 1) (hv : v.cells = #[v] ∧ v.oneCell' = true) (hfit : Nat.blt off cs.size = true) (cs' : Array Value) (hcs : cs.setIfInBounds off v = cs')
    (k : ∀ w', G w w' (some bk) → Has w' bk (.cells cs' e) → K (Fr b n (putL o undef l) d) w') : wpOp P ops Q i K (Fr b n l d) w := by
  subst hcs
  have hfit : off < cs.size := Nat.le_of_ble_eq_true hfit
  have e1 : (cs.toList.take off ++ v.cells.toList ++ cs.toList.drop (off + v.cells.size)).toArray = cs.setIfInBounds off v := by
    rw [hv.1]
    apply Array.toList_inj.1
    rw [Array.toList_setIfInBounds, List.set_eq_take_append_cons_drop, if_pos (by simpa using hfit)]
    simp
  have e2 : v.cells.size = 1 := by rw [hv.1]; rfl
  refine op_store ho hg hop off v hx hy hb (by rw [e2]; exact hs) (by rw [hv.1]; simpa using hv.2) (Nat.ble_eq_true_of_le (by rw [e2]; omega)) (cs.setIfInBounds off v) e1 k
end
theorem own_ne {w : World} {base : Nat} {e t : TypeId} {size n bk : Nat} {v : Value} {xs : List Value} {cs : Array Value} {fr : Nat × Nat} (h : w.ownsRow base e size v n xs) (hb : Has w bk (.cells cs t fr)) (ht : t ≠ e) :
    ∀ q, v.ownBlock = some q → q ≠ bk := by
  intro q hq hqb
  subst hqb
  rcases h.2 with ⟨rfl, _⟩ | ⟨g, cap, cur, rfl, _, hg, _⟩
  · simp [Value.ownBlock] at hq
  · simp [Value.ownBlock] at hq
    subst hq
    have hb' : w.heap[g]? = some (.cells cs t fr) := hb
    rw [hg] at hb'
    injection hb' with h1
    injection h1 with _ h2
    exact ht h2.symm
theorem own_neO {w : World} {base : Nat} {e : TypeId} {size n bk : Nat} {v : Value} {xs : List Value} {o : Obj} (h : w.ownsRow base e size v n xs) (hb : Has w bk o) (ho : ∀ cs fr, o ≠ .cells cs e fr) :
    ∀ q, v.ownBlock = some q → q ≠ bk := by
  intro q hq hqb
  subst hqb
  rcases h.2 with ⟨rfl, _⟩ | ⟨g, cap, cur, rfl, _, hg, _⟩
  · simp [Value.ownBlock] at hq
  · simp [Value.ownBlock] at hq
    subst hq
    have hb' : w.heap[g]? = some o := hb
    rw [hg] at hb'
    injection hb' with h1
    exact ho _ _ h1.symm
/-- Below B all is as it was; so is all else but the record wb and rows of e. -/
structure Wx (e : TypeId) (B wb : Nat) (w w' : World) : Prop where
  os : w'.os = w.os
  tape : w'.tape = w.tape
  output : w'.output = w.output
  size : w.heap.size ≤ w'.heap.size
  base : B ≤ w.heap.size
  low : ∀ k, k < B → w'.heap[k]? = w.heap[k]?
  kept : ∀ k o, w.heap[k]? = some o → k ≠ wb → (∀ cs fr, o ≠ .cells cs e fr) → w'.heap[k]? = some o
section
variable {e : TypeId} {B wb : Nat} {w w' w'' : World}
theorem Wx.refl (w : World) (h : B ≤ w.heap.size) : Wx e B wb w w := ⟨rfl, rfl, rfl, Nat.le_refl _, h, fun _ _ => rfl, fun _ _ h _ _ => h⟩
theorem Wx.trans (h : Wx e B wb w w') (k : Wx e B wb w' w'') : Wx e B wb w w'' :=
  ⟨k.os.trans h.os, k.tape.trans h.tape, k.output.trans h.output, Nat.le_trans h.size k.size, h.base, fun j hj => (k.low j hj).trans (h.low j hj), fun j o ho hne hno => k.kept j o (h.kept j o ho hne hno) hne hno⟩
theorem Wx.of_ext (h : Ext w w') (hB : B ≤ w.heap.size) : Wx e B wb w w' :=
  ⟨h.os, h.tape, h.output, h.size, hB, fun j hj => h.block j (Nat.lt_of_lt_of_le hj hB) (by simp), fun j o ho _ _ => (h.block j (Has.lt ho) (by simp)).trans ho⟩
theorem Wx.of_upd (h : G w w' (some wb)) (hB : B ≤ w.heap.size) (hb : B ≤ wb) : Wx e B wb w w' :=
  ⟨h.os, h.tape, h.output, h.size, hB, fun j hj => h.block j (Nat.lt_of_lt_of_le hj hB) (by intro q; injection q with q; omega), fun j o ho hne _ => (h.block j (Has.lt ho) (by intro q; injection q with q; exact hne q)).trans ho⟩
theorem Wx.of_app {size n : Nat} {v : Value} {xs : List Value} (h : G w w' v.ownBlock) (hown : w.ownsRow B e size v n xs) (hB : B ≤ w.heap.size) : Wx e B wb w w' :=
  ⟨h.os, h.tape, h.output, h.size, hB, fun j hj => h.block j (Nat.lt_of_lt_of_le hj hB) (fun q => by have := (hown.lt j q.symm).1; omega),
    fun j o ho _ hno => (h.block j (Has.lt ho) (fun q => own_neO hown ho hno j q.symm rfl)).trans ho⟩
theorem Wx.ext (h : Wx e B wb w w') (k : Ext w' w'') : Wx e B wb w w'' := h.trans (Wx.of_ext k (Nat.le_trans h.base h.size))
theorem Wx.upd (h : Wx e B wb w w') (k : G w' w'' (some wb)) (hb : B ≤ wb) : Wx e B wb w w'' := h.trans (Wx.of_upd k (Nat.le_trans h.base h.size) hb)
theorem Wx.upd_new {j : Nat} (h : Wx e B wb w w') (k : G w' w'' (some j)) (hj : w.heap.size ≤ j := by omega) : Wx e B wb w w'' :=
  ⟨k.os.trans h.os, k.tape.trans h.tape, k.output.trans h.output, Nat.le_trans h.size k.size, h.base, fun i hi => (k.block i (by have := h.size; have := h.base; omega) (by intro q; injection q with q; have := h.base; omega)).trans (h.low i hi),
    fun i o ho hne hno => (k.block i (by have := h.size; have := Has.lt ho; omega) (by intro q; injection q with q; have := Has.lt ho; omega)).trans (h.kept i o ho hne hno)⟩
theorem Wx.app {size n : Nat} {v : Value} {xs : List Value} (h : Wx e B wb w w') (k : G w' w'' v.ownBlock) (hown : w'.ownsRow B e size v n xs) : Wx e B wb w w'' := h.trans (Wx.of_app k hown (Nat.le_trans h.base h.size))
theorem Wx.has {k : Nat} {cs : Array Value} {t : TypeId} {fr : Nat × Nat} (x : Wx e B wb w w') (h : Has w k (.cells cs t fr)) (hne : k ≠ wb := by omega) (ht : t ≠ e := by decide) : Has w' k (.cells cs t fr) :=
  x.kept k _ h hne (fun cs' fr' q => by injection q with _ q; exact ht q)
theorem Wx.iter {k : Nat} {s : ByteArray} {p : Nat} (x : Wx e B wb w w') (h : Has w k (.stringIter s p)) (hne : k ≠ wb) : Has w' k (.stringIter s p) :=
  x.kept k _ h hne (fun cs' fr' q => by cases q)
theorem Wx.old {k : Nat} {o : Obj} (x : Wx e B wb w w') (h : Has w k o) (hk : k < B) : Has w' k o := (x.low k hk).trans h
theorem Ext.wx {w0 : World} (h : Ext w0 w) (x : Wx e B wb w w') (hB : w0.heap.size ≤ B) : Ext w0 w' :=
  ⟨x.os.trans h.os, x.tape.trans h.tape, x.output.trans h.output, Nat.le_trans h.size x.size, fun j hj hn => (x.low j (Nat.lt_of_lt_of_le hj hB)).trans (h.block j hj hn)⟩
end
end Go.Gx
