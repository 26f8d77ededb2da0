/- Steps on rows of one's own, on rows that are only read, and others. -/
import Derived.Test.YtlddkcdjegcleaaSx1
import Derived.Test.YtlddkcdjegcleaaGv
import Derived.Test.YtlddkcdjegcleaaGz
set_option linter.unusedVariables false
set_option linter.unusedSimpArgs false
namespace Go.Sx
open Go.RowKit Go.Gx
section
variable {w0 w w' : World} {L0 L L' L1 L1' : List Item}
/-- A thing is turned into another one. -/
theorem Hs.put (H : Hs w0 L0 w L) (i : Nat) {it it' : Item} (hi : L[i]? = some it) (hw : it.wr = true) (k : Kp it.fp w w') (h : it'.holds w') (hf : ∀ c, it'.fp c → it.fp c ∨ w.heap.size ≤ c) : Hs w0 L0 w' (L.set i it') := by
  have hm : it ∈ L := List.mem_of_getElem? hi
  obtain ⟨hi', ei⟩ := List.getElem?_eq_some_iff.1 hi
  have pw := List.pairwise_iff_getElem.1 H.sp.dis
  have ap : ∀ (j : Nat) (hj : j < L.length), j ≠ i → apart it L[j] := by
    intro j hj hne
    rcases Nat.lt_or_ge i j with r | r
    · have := pw i j hi' hj r; rwa [ei] at this
    · have := pw j i hj hi' (by omega); rw [ei] at this; exact this.symm
  have ap' : ∀ (j : Nat) (hj : j < L.length), j ≠ i → apart it' L[j] := by
    intro j hj hne _ c hc hc'
    rcases hf c hc with q | q
    · exact ap j hj hne (by rw [hw]; rfl) c q hc'
    · have := Item.lt (H.sp.all _ (List.getElem_mem hj)) hc'; omega
  have mem : ∀ x ∈ L.set i it', x = it' ∨ ∃ (j : Nat) (hj : j < L.length), j ≠ i ∧ x = L[j] := by
    intro x hx
    obtain ⟨j, hj⟩ := List.mem_iff_getElem?.1 hx
    rw [List.getElem?_set] at hj
    by_cases q : i = j
    · subst q; rw [if_pos rfl, if_pos hi'] at hj; exact .inl (Option.some.inj hj).symm
    · rw [if_neg q] at hj
      obtain ⟨hj', ej⟩ := List.getElem?_eq_some_iff.1 hj
      exact .inr ⟨j, hj', fun e => q e.symm, ej.symm⟩
  refine H.step k (fun c q _ => ⟨_, hm, hw, q⟩) ⟨fun x hx => ?_, ?_⟩ (fun x hx c hc hl => ?_) (fun x hx hxw c hc hl => ?_)
  · rcases mem x hx with rfl | ⟨j, hj, hne, rfl⟩
    · exact h
    · refine Item.keep (H.sp.all _ (List.getElem_mem hj)) k.size (fun c hc => k.block c (Item.lt (H.sp.all _ (List.getElem_mem hj)) hc) (fun q => ap j hj hne (by rw [hw]; rfl) c q hc))
  · rw [List.pairwise_iff_getElem]
    intro a b ha hb hab
    rw [List.length_set] at ha hb
    rw [List.getElem_set, List.getElem_set]
    split
    · split
      · omega
      · exact ap' b hb (by omega)
    · split
      · exact (ap' a ha (by omega)).symm
      · exact pw a b ha hb hab
  · rcases mem x hx with rfl | ⟨j, hj, hne, rfl⟩
    · rcases hf c hc with q | q
      · exact ⟨_, hm, q⟩
      · omega
    · exact ⟨_, List.getElem_mem hj, hc⟩
  · rcases mem x hx with rfl | ⟨j, hj, hne, rfl⟩
    · rcases hf c hc with q | q
      · exact ⟨_, hm, hw, q⟩
      · omega
    · exact ⟨_, List.getElem_mem hj, hxw, hc⟩
/-- The same thing in other words. -/
theorem Hs.as (H : Hs w0 L0 w L) (i : Nat) {it : Item} (it' : Item) (hi : L[i]? = some it) (hw : it.wr = true) (h : it'.holds w) (hf : ∀ c, it'.fp c → it.fp c) : Hs w0 L0 w (L.set i it') :=
  H.put i hi hw (Kp.refl _ _) h (fun c q => .inl (hf c q))
theorem Hs.at (H : Hs w0 L0 w L) (i : Nat) {it : Item} (hi : L[i]? = some it) : it.holds w := H.sp.all _ (List.mem_of_getElem? hi)
/-! #### Rows of one's own -/
theorem own_shape {w : World} {e sz n : Nat} {v : Value} {xs : List Value} (h : w.ownsRow 0 e sz v n xs) : ∃ A cap, v = .slice A n cap := by
  rcases h.2 with ⟨rfl, rfl⟩ | ⟨g, cap, cur, rfl, _⟩
  · exact ⟨_, _, rfl⟩
  · exact ⟨_, _, rfl⟩
/-- Where it lies. -/
theorem Hs.row (H : Hs w0 L0 w L) (i : Nat) {e sz cap n : Nat} {A : Option Addr} {xs : List Value} (hi : L[i]? = some (.own e sz A cap n xs)) (hn : 0 < n) : ∃ g, A = some ⟨g, 0, none⟩ := by
  rcases (H.at i hi).2 with ⟨_, h0⟩ | ⟨g, cap', cur, hv, _⟩
  · omega
  · injection hv with h1; exact ⟨g, h1⟩
theorem own_cell {w : World} {e sz g cap n : Nat} {xs : List Value} (h : w.ownsRow 0 e sz (.slice (some ⟨g, 0, none⟩) n cap) n xs) : ∃ cur, Has w g (.cells cur e) ∧ cur.toList.take (n * sz) = xs ∧ n * sz ≤ cur.size := by
  rcases h.2 with ⟨h0, _⟩ | ⟨g', cap', cur, hv, _, hg, hnc, hcm, hcs, ht⟩
  · cases h0
  · injection hv with h1 h2 h3
    injection h1 with h1; injection h1 with h1; subst h1
    exact ⟨cur, hg, ht, by rw [hcs]; exact Nat.mul_le_mul_right _ hnc⟩
/-- A cell, or some, of a row. -/
def loadX (P : Program) (t : TypeId) (xs : List Value) (off : Nat) (v : Value) : Prop :=
  match P.underlying t with
  | some (.struct _) | some (.array _ _) => ∃ i, P.info? t = some i ∧ off + i.size ≤ xs.length ∧ v = .agg ((xs.drop off).take i.size).toArray
  | some _ => xs[off]? = some v
  | none => False
theorem loadX_B {P : Program} {t : TypeId} {xs : List Value} {off k : Nat} {v : Value} {cur : Array Value} (h : loadX P t xs off v) (ht : cur.toList.take k = xs) : loadB P t cur off = some v := by
  subst ht
  unfold loadX at h
  unfold loadB
  cases hu : P.underlying t with
  | none => simp [hu] at h
  | some dsc =>
    rw [hu] at h
    have agg : (∃ i, P.info? t = some i ∧ off + i.size ≤ (cur.toList.take k).length ∧ v = .agg (((cur.toList.take k).drop off).take i.size).toArray) → (match P.info? t with
        | some i => match Nat.ble (off + i.size) cur.size with
          | true => some (Value.agg ((cur.toList.drop off).take i.size).toArray)
          | false => none
        | none => none) = some v := by
      rintro ⟨i, hi, hl, rfl⟩
      rw [List.length_take, Array.length_toList] at hl
      simp only [hi]
      rw [Nat.ble_eq_true_of_le (by omega)]
      simp only [Option.some.injEq, Value.agg.injEq]
      congr 1
      rw [List.drop_take, List.take_take]
      congr 1
      omega
    cases dsc with
    | struct fs => exact agg h
    | array q e => exact agg h
    | _ =>
      simp only at h ⊢
      rw [List.getElem?_take] at h
      split at h
      · simpa using h
      · cases h
end
def slR (b : Nat → Value) (n : Nat) (x : St) : Option (Nat × Nat × St × Array Oper × List Nat × Oper) := (hd b n x).map fun q => (0, 0, x, q)
section
variable [Rd] {P : Program} {B : Exit → Act → World → Prop} {b : Nat → Value} {n : Nat} {d : List Deferred} {w0 w : World} {x : St} {L0 L : List Item}
/-- The operation behind m steps, in the open. -/
theorem opn (m : Nat) (k : ∀ y : St, ∀ q : Array Oper × List Nat × Oper, y = (vX (via P b n m w x (slR b n))).1 → q = (vX (via P b n m w x (slR b n))).2 → hd b n y = some q → Goal P B b n d y w)
    (h : vA (via P b n m w x (slR b n)) = vB w (via P b n m w x (slR b n)) := by kernel_rfl) : Goal P B b n d x w := by
  obtain ⟨a, y, hr, hf⟩ := via_ok h
  refine run_sound hr ?_
  cases hq : hd b n y with
  | none => simp [slR, hq] at hf
  | some q =>
    simp only [slR, hq, Option.map_some, Option.some.injEq, Prod.mk.injEq] at hf
    exact k y q (by rw [← hf.2.2]) (by rw [← hf.2.2]) hq
/-- What is asked of an operation: values that lie in slots, numbers of types. -/
structure Ask where
  u : List Value
  t : List Nat
  y : St
  q : Array Oper × List Nat × Oper
instance : Inhabited Ask := ⟨⟨[], [], default, (#[], [], default)⟩⟩
def ask (f : St → Option Ask) (x : St) : Option (Nat × Nat × Ask) := match f x with
  | some a => some (0, 0, a)
  | none => none
theorem ask_ok {f : St → Option Ask} {m : Nat} (h : vA (via P b n m w x (ask f)) = vB w (via P b n m w x (ask f))) : ∃ y, run P b n m w x = some (w, y) ∧ f y = some (vX (via P b n m w x (ask f))) := by
  obtain ⟨a, y, hr, hf⟩ := via_ok h
  unfold ask at hf
  cases hq : f y with
  | none => simp [hq] at hf
  | some z => simp only [hq, Option.some.injEq, Prod.mk.injEq] at hf; exact ⟨y, hr, hq.trans (congrArg some hf.2.2)⟩
def iaR (P : Program) (b : Nat → Value) (n : Nat) (x : St) : Option Ask :=
  match hd b n x with
  | some q => match q.2.2.op with
    | .indexAddr t s ix => match P.underlying t with
      | some (.slice e) => match P.info? e with
        | some inf => some ⟨[ev b n x.l s, ev b n x.l ix], [inf.size], x, q⟩
        | none => none
      | _ => none
    | _ => none
  | none => none
/-- The address of a row's element: A, where it lies; i, which one. -/
theorem ia (m : Nat) (a : Addr) (i sz len cap : Nat) {A : Option Addr} (hA : A = some a) (hi : i < len)
    (k : Goal P B b n d (nx (vX (via P b n m w x (ask (iaR P b n)))).y (vX (via P b n m w x (ask (iaR P b n)))).q (.pointer (some (a.add (i * sz))))) w)
    (h : vA (via P b n m w x (ask (iaR P b n))) = vB w (via P b n m w x (ask (iaR P b n))) := by kernel_rfl)
    (h2 : ((vX (via P b n m w x (ask (iaR P b n)))).u, (vX (via P b n m w x (ask (iaR P b n)))).t) = ([.slice A len cap, .int .i64 (i : Int)], [sz]) := by kernel_rfl) : Goal P B b n d x w := by
  obtain ⟨y, hr, hf⟩ := ask_ok h
  refine run_sound hr ?_
  generalize vX (via P b n m w x (ask (iaR P b n))) = z at *
  unfold iaR at hf
  split at hf <;> try contradiction
  rename_i q hq
  split at hf <;> try contradiction
  rename_i t s ix hop
  split at hf <;> try contradiction
  rename_i e hu
  split at hf <;> try contradiction
  rename_i inf hinf
  simp only [Option.some.injEq] at hf
  subst hf
  simp only [Prod.mk.injEq, List.cons.injEq, and_true] at h2
  obtain ⟨⟨h3, h4⟩, rfl⟩ := h2
  exact hd_val hq (run_indexAddrO hop e inf.size hu (by rw [hinf]; rfl) a hA len cap h3 .i64 i h4 hi) k
/-- The same of a row of one's own. -/
theorem ir (m g i sz len cap : Nat) (hi : i < len)
    (k : Goal P B b n d (nx (vX (via P b n m w x (ask (iaR P b n)))).y (vX (via P b n m w x (ask (iaR P b n)))).q (.pointer (some ⟨g, i * sz, none⟩))) w)
    (h : vA (via P b n m w x (ask (iaR P b n))) = vB w (via P b n m w x (ask (iaR P b n))) := by kernel_rfl)
    (h2 : ((vX (via P b n m w x (ask (iaR P b n)))).u, (vX (via P b n m w x (ask (iaR P b n)))).t) = ([.slice (some ⟨g, 0, none⟩) len cap, .int .i64 (i : Int)], [sz]) := by kernel_rfl) : Goal P B b n d x w := by
  refine ia m ⟨g, 0, none⟩ i sz len cap rfl hi ?_ h h2
  have e : (⟨g, 0, none⟩ : Addr).add (i * sz) = ⟨g, i * sz, none⟩ := by unfold Addr.add; split <;> simp_all
  rw [e]
  exact k
def ldA (b : Nat → Value) (n : Nat) (x : St) : Option Ask :=
  match hd b n x with
  | some q => match q.2.2.op with
    | .load t s => some ⟨[ev b n x.l s], [t], x, q⟩
    | _ => none
  | none => none
/-- A cell, or some, of a row of one's own. -/
theorem lr (m i e sz t g cap c off : Nat) (xs : List Value) (H : Hs w0 L0 w L) (v : Value) (hv : loadX P t xs off v)
    (k : Goal P B b n d (nx (vX (via P b n m w x (ask (ldA b n)))).y (vX (via P b n m w x (ask (ldA b n)))).q v) w)
    (h : vA (via P b n m w x (ask (ldA b n))) = vB w (via P b n m w x (ask (ldA b n))) := by kernel_rfl)
    (h2 : ((vX (via P b n m w x (ask (ldA b n)))).u, (vX (via P b n m w x (ask (ldA b n)))).t) = ([.pointer (some ⟨g, off, none⟩)], [t]) := by kernel_rfl) (hi : L[i]? = some (.own e sz (some ⟨g, 0, none⟩) cap c xs) := by kernel_rfl) : Goal P B b n d x w := by
  obtain ⟨y, hr, hf⟩ := ask_ok h
  refine run_sound hr ?_
  generalize vX (via P b n m w x (ask (ldA b n))) = z at *
  unfold ldA at hf
  split at hf <;> try contradiction
  rename_i q hq
  split at hf <;> try contradiction
  rename_i t' s hop
  simp only [Option.some.injEq] at hf
  subst hf
  simp only [Prod.mk.injEq, List.cons.injEq, and_true] at h2
  obtain ⟨h3, rfl⟩ := h2
  obtain ⟨cur, hg, ht, _⟩ := own_cell (H.at i hi)
  exact at_hd hq fun j ho hw _ K hK => op_load ho hw hop off v h3 hg (loadX_B hv ht) (hK _ _ k)
/-- Cells of a row that is only read. -/
theorem lo (m : Nat) {a : Addr} {t c : Nat} (cs : List Value) (v : Value) (hc : w.cells? 0 a c = some cs)
    (k : Goal P B b n d (nx (vX (via P b n m w x (ask (ldA b n)))).y (vX (via P b n m w x (ask (ldA b n)))).q v) w)
    (h : vA (via P b n m w x (ask (ldA b n))) = vB w (via P b n m w x (ask (ldA b n))) := by kernel_rfl)
    (h2 : ((vX (via P b n m w x (ask (ldA b n)))).u, (vX (via P b n m w x (ask (ldA b n)))).t) = ([.pointer (some a)], [t]) := by kernel_rfl)
    (hm : Nat.beq cs.length c = true := by kernel_rfl) (hv : loadL P t cs = some v := by kernel_rfl) : Goal P B b n d x w := by
  obtain ⟨y, hr, hf⟩ := ask_ok h
  refine run_sound hr ?_
  generalize vX (via P b n m w x (ask (ldA b n))) = z at *
  unfold ldA at hf
  split at hf <;> try contradiction
  rename_i q hq
  split at hf <;> try contradiction
  rename_i t' s hop
  simp only [Option.some.injEq] at hf
  subst hf
  simp only [Prod.mk.injEq, List.cons.injEq, and_true] at h2
  obtain ⟨h3, rfl⟩ := h2
  exact hd_val hq (run_loadO hop cs v h3 c hc hm hv) k
def faA (b : Nat → Value) (n : Nat) (x : St) : Option Ask :=
  match hd b n x with
  | some q => match q.2.2.op with
    | .fieldAddr t s f => some ⟨[ev b n x.l s], [t, f], x, q⟩
    | _ => none
  | none => none
/-- A field's address. -/
theorem fa (m : Nat) (a : Addr) (off : Nat)
    (k : Goal P B b n d (nx (vX (via P b n m w x (ask (faA b n)))).y (vX (via P b n m w x (ask (faA b n)))).q (.pointer (some (a.add off)))) w)
    (h : vA (via P b n m w x (ask (faA b n))) = vB w (via P b n m w x (ask (faA b n))) := by kernel_rfl)
    (h2 : (vX (via P b n m w x (ask (faA b n)))).u = [.pointer (some a)] := by kernel_rfl)
    (h3 : fldAt P ((vX (via P b n m w x (ask (faA b n)))).t.getD 0 0) ((vX (via P b n m w x (ask (faA b n)))).t.getD 1 0) off = true := by kernel_rfl) : Goal P B b n d x w := by
  obtain ⟨y, hr, hf⟩ := ask_ok h
  refine run_sound hr ?_
  generalize vX (via P b n m w x (ask (faA b n))) = z at *
  unfold faA at hf
  split at hf <;> try contradiction
  rename_i q hq
  split at hf <;> try contradiction
  rename_i t' s f hop
  simp only [Option.some.injEq] at hf
  subst hf
  simp only [List.cons.injEq, and_true] at h2
  exact hd_val hq (run_fieldAddrO hop a h2 off h3) k
/-! #### Stores into a row of one's own -/
def setX (xs : List Value) (off : Nat) (v : Value) : List Value := xs.set off v
def stA (b : Nat → Value) (n : Nat) (x : St) : Option Ask :=
  match hd b n x with
  | some q => match q.2.2.op with
    | .store t s y => some ⟨[ev b n x.l s, ev b n x.l y], [t], x, q⟩
    | _ => none
  | none => none
theorem sr (m i e sz t g cap c off : Nat) (xs : List Value) (H : Hs w0 L0 w L) (v : Value) (ho : off < xs.length) {xs' : List Value} (hx : xs.set off v = xs')
    (k : ∀ w', Hs w0 L0 w' (L.set i (.own e sz (some ⟨g, 0, none⟩) cap c xs')) → Goal P B b n d (nx (vX (via P b n m w x (ask (stA b n)))).y (vX (via P b n m w x (ask (stA b n)))).q undef) w')
    (h : vA (via P b n m w x (ask (stA b n))) = vB w (via P b n m w x (ask (stA b n))) := by kernel_rfl)
    (h2 : ((vX (via P b n m w x (ask (stA b n)))).u, (vX (via P b n m w x (ask (stA b n)))).t) = ([.pointer (some ⟨g, off, none⟩), v], [t]) := by kernel_rfl)
    (hi : L[i]? = some (.own e sz (some ⟨g, 0, none⟩) cap c xs) := by kernel_rfl) (hs : (P.info? t).map (·.size) = some 1 := by kernel_rfl) (hv : v.cells = #[v] := by kernel_rfl) (h1 : v.oneCell' = true := by kernel_rfl) : Goal P B b n d x w := by
  subst hx
  obtain ⟨y, hr, hf⟩ := ask_ok h
  refine run_sound hr ?_
  generalize vX (via P b n m w x (ask (stA b n))) = z at *
  unfold stA at hf
  split at hf <;> try contradiction
  rename_i q hq
  split at hf <;> try contradiction
  rename_i t' s vl hop
  simp only [Option.some.injEq] at hf
  subst hf
  simp only [Prod.mk.injEq, List.cons.injEq, and_true] at h2
  obtain ⟨⟨h3, h4⟩, rfl⟩ := h2
  have hown := H.at i hi
  rcases hown.2 with ⟨h0, _⟩ | ⟨g', cap', cur, hvv, hb0, hg, hnc, hcm, hcs, ht⟩
  · cases h0
  · injection hvv with q1 q2 q3
    injection q1 with q1; injection q1 with q1; subst q1 q3
    have hlen : xs.length = c * sz := hown.1
    have hoff : off < cur.size := by rw [hcs]; exact Nat.lt_of_lt_of_le (hlen ▸ ho) (Nat.mul_le_mul_right _ hnc)
    refine at_hd hq fun j ho' hw _ K hK => op_storeA ho' hw hop off v h3 h4 hg hs hv h1 hoff (fun w' k1 k2 => hK _ _ (k w' ?_))
    refine H.put i hi rfl (Kp.mono (Kp.of_G k1) (fun c hc => by simpa [Item.fp, Value.ownBlock] using hc)) ⟨by rw [List.length_set]; exact hlen, .inr ⟨g, cap, _, rfl, hb0, k2, hnc, hcm, by rw [Array.size_setIfInBounds]; exact hcs, ?_⟩⟩ (fun c hc => .inl hc)
    rw [Array.toList_setIfInBounds, List.take_set, ht]
/-! #### append -/
def apA (P : Program) (b : Nat → Value) (n : Nat) (x : St) : Option Ask :=
  match hd b n x with
  | some q => match q.2.2.op with
    | .call c => match c.callee with
      | .builtin .append => match c.args.toList, c.argTypes.toList with
        | [s, y], [t, t'] => match P.underlying t with
          | some (.slice e) => match P.info? e with
            | some inf => some ⟨[ev b n x.l s, ev b n x.l y], [t, t', e, inf.size, inf.bytes, (inf.zero.map (·.cells.size)).getD 0, (match inf.zero with | some _ => 1 | none => 0)], x, q⟩
            | none => none
          | _ => none
        | _, _ => none
      | _ => none
    | _ => none
  | none => none
/-- What of the block that is thing j lies from off on. -/
def newsOf (L : List Item) (j off k : Nat) : Option (Nat × List Value) := match L[j]? with
  | some (.blk bk (.cells cs _ _)) => some (bk, (cs.toList.drop off).take k)
  | _ => none
/-- The block that is thing j, behind the row that is thing i. -/
theorem ap (m i j by_ k' off e sz t c' bk : Nat) (A : Option Addr) (cap c : Nat) (xs news : List Value) (H : Hs w0 L0 w L)
    (hb : (c + k') * by_ ≤ 140737488355328) (hn : c + k' ≤ 9223372036854775807) {xs' : List Value} (hx : xs ++ news = xs')
    (k : ∀ A' cap' w', Hs w0 L0 w' (L.set i (.own e sz A' cap' (c + k') xs')) → Goal P B b n d (nx (vX (via P b n m w x (ask (apA P b n)))).y (vX (via P b n m w x (ask (apA P b n)))).q (.slice A' (c + k') cap')) w')
    (h : vA (via P b n m w x (ask (apA P b n))) = vB w (via P b n m w x (ask (apA P b n))) := by kernel_rfl)
    (hi : L[i]? = some (.own e sz A cap c xs) := by kernel_rfl) (hj : newsOf L j off (k' * sz) = some (bk, news) := by kernel_rfl)
    (h2 : ((vX (via P b n m w x (ask (apA P b n)))).u, (vX (via P b n m w x (ask (apA P b n)))).t) = ([.slice A c cap, .slice (some ⟨bk, off, none⟩) k' c'], [t, t, e, sz, by_, sz, 1]) := by kernel_rfl)
    (hz : Nat.blt 0 sz = true := by kernel_rfl) (hl : Nat.beq news.length (k' * sz) = true := by kernel_rfl) (h1 : news.all (·.oneCell') = true := by kernel_rfl) : Goal P B b n d x w := by
  subst hx
  unfold newsOf at hj
  split at hj <;> try contradiction
  rename_i bk' cs e' fr hL
  simp only [Option.some.injEq, Prod.mk.injEq] at hj
  obtain ⟨rfl, rfl⟩ := hj
  obtain ⟨y, hr, hf⟩ := ask_ok h
  refine run_sound hr ?_
  generalize vX (via P b n m w x (ask (apA P b n))) = z at *
  unfold apA at hf
  split at hf <;> try contradiction
  rename_i q hq
  split at hf <;> try contradiction
  rename_i cl hop
  split at hf <;> try contradiction
  rename_i hcal
  split at hf <;> try contradiction
  rename_i s yv t1 t2 ha1 ha2
  split at hf <;> try contradiction
  rename_i e1 hu
  split at hf <;> try contradiction
  rename_i inf hinf
  simp only [Option.some.injEq] at hf
  subst hf
  simp only [Prod.mk.injEq, List.cons.injEq, and_true] at h2
  obtain ⟨⟨h3, h4⟩, rfl, rfl, rfl, rfl, rfl, h5, h6⟩ := h2
  have hz0 : inf.zero.map (·.cells.size) = some inf.size := by
    cases hzz : inf.zero with
    | none => simp [hzz] at h6
    | some zv => simp only [hzz, Option.map_some, Option.getD_some] at h5; simp [h5]
  have hcl : cl = { callee := .builtin .append, args := #[s, yv], argTypes := #[t2, t2] } := by
    obtain ⟨ce, ca, ct⟩ := cl
    simp only at hcal ha1 ha2
    subst hcal
    congr 1
    · exact Array.toList_inj.1 ha1
    · exact Array.toList_inj.1 ha2
  refine at_hd hq fun jj ho hw _ K hK => op_appendAt ho hw (by rw [hop, hcl]) e1 inf.size inf.bytes hu (by rw [hinf, Option.map_some, hz0]) hz 0 h3 (H.at i hi) off k' c' h4 (H.at j hL) _ rfl (Nat.eq_of_beq_eq_true hl)
    (fun u hu => List.all_eq_true.1 h1 u hu) (by unfold maxLen; omega) hb (Nat.zero_le _) (fun v' w' hown hG hblk => ?_)
  obtain ⟨A', cap', rfl⟩ := own_shape hown
  refine hK _ _ (k A' cap' w' (H.put i hi rfl (Kp.of_G hG) hown (fun c hc => ?_)))
  rcases hblk with q | q
  · exact .inl (q.symm.trans hc)
  · exact .inr (Nat.le_of_eq (Option.some.inj (q.symm.trans hc)))
end
end Go.Sx
