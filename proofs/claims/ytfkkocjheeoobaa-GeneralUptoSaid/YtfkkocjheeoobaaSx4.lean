/- Steps on rows of one's own, on rows that are only read, and others. -/
import Derived.Test.YtfkkocjheeoobaaGx
import Derived.MapKept
import Derived.LaidEqlPtr
import Derived.Test.YtfkkocjheeoobaaGraph
set_option linter.unusedVariables false
set_option linter.unusedSimpArgs false
set_option linter.unusedVariables false
set_option linter.unusedSimpArgs false
namespace Go.Sx
open Go.RowKit Go.Gx
section
variable {w0 w w' : World} {L0 L L' L1 L1' : List Item}
/-- A thing is turned into another one. -/
theorem Hs.put (H : Hs w0 L0 w L) (i : Nat) {it it' : Item} (hi : L[i]? = some it) (hw : it.wr = true) (k : Kp it.fp w w') (h : it'.holds w') (hf : ∀ c, it'.fp c → it.fp c ∨ w.heap.size ≤ c) : Hs w0 L0 w' (L.set i it') := by
  have hm : it ∈ L := List.mem_of_getElem? hi
  obtain ⟨hi', ei⟩ := List.getElem?_eq_some_iff.1 hi
  have pw := List.pairwise_iff_getElem.1 H.sp.dis
  have ap : ∀ (j : Nat) (hj : j < L.length), j ≠ i → apart it L[j] := by
    intro j hj hne
    rcases Nat.lt_or_ge i j with r | r
    · have := pw i j hi' hj r; rwa [ei] at this
    · have := pw j i hj hi' (by omega); rw [ei] at this; exact this.symm
  have ap' : ∀ (j : Nat) (hj : j < L.length), j ≠ i → apart it' L[j] := by
    intro j hj hne _ c hc hc'
    rcases hf c hc with q | q
    · exact ap j hj hne (by rw [hw]; rfl) c q hc'
    · have := Item.lt (H.sp.all _ (List.getElem_mem hj)) hc'; omega
  have mem : ∀ x ∈ L.set i it', x = it' ∨ ∃ (j : Nat) (hj : j < L.length), j ≠ i ∧ x = L[j] := by
    intro x hx
    obtain ⟨j, hj⟩ := List.mem_iff_getElem?.1 hx
    rw [List.getElem?_set] at hj
    by_cases q : i = j
    · subst q; rw [if_pos rfl, if_pos hi'] at hj; exact .inl (Option.some.inj hj).symm
    · rw [if_neg q] at hj
      obtain ⟨hj', ej⟩ := List.getElem?_eq_some_iff.1 hj
      exact .inr ⟨j, hj', fun e => q e.symm, ej.symm⟩
  refine H.step k (fun c q _ => ⟨_, hm, hw, q⟩) ⟨fun x hx => ?_, ?_⟩ (fun x hx c hc hl => ?_) (fun x hx hxw c hc hl => ?_)
  · rcases mem x hx with rfl | ⟨j, hj, hne, rfl⟩
    · exact h
    · refine Item.keep (H.sp.all _ (List.getElem_mem hj)) k.size (fun c hc => k.block c (Item.lt (H.sp.all _ (List.getElem_mem hj)) hc) (fun q => ap j hj hne (by rw [hw]; rfl) c q hc))
  · rw [List.pairwise_iff_getElem]
    intro a b ha hb hab
    rw [List.length_set] at ha hb
    rw [List.getElem_set, List.getElem_set]
    split
    · split
      · omega
      · exact ap' b hb (by omega)
    · split
      · exact (ap' a ha (by omega)).symm
      · exact pw a b ha hb hab
  · rcases mem x hx with rfl | ⟨j, hj, hne, rfl⟩
    · rcases hf c hc with q | q
      · exact ⟨_, hm, q⟩
      · omega
    · exact ⟨_, List.getElem_mem hj, hc⟩
  · rcases mem x hx with rfl | ⟨j, hj, hne, rfl⟩
    · rcases hf c hc with q | q
      · exact ⟨_, hm, hw, q⟩
      · omega
    · exact ⟨_, List.getElem_mem hj, hxw, hc⟩
/-- The same thing in other words. -/
theorem Hs.as (H : Hs w0 L0 w L) (i : Nat) {it : Item} (it' : Item) (hi : L[i]? = some it) (hw : it.wr = true) (h : it'.holds w) (hf : ∀ c, it'.fp c → it.fp c) : Hs w0 L0 w (L.set i it') :=
  H.put i hi hw (Kp.refl _ _) h (fun c q => .inl (hf c q))
theorem Hs.at (H : Hs w0 L0 w L) (i : Nat) {it : Item} (hi : L[i]? = some it) : it.holds w := H.sp.all _ (List.mem_of_getElem? hi)
/-! #### Rows of one's own -/
theorem own_shape {w : World} {e sz n : Nat} {v : Value} {xs : List Value} (h : w.ownsRow 0 e sz v n xs) : ∃ A cap, v = .slice A n cap := by
  rcases h.2 with ⟨rfl, rfl⟩ | ⟨g, cap, cur, rfl, _⟩
  · exact ⟨_, _, rfl⟩
  · exact ⟨_, _, rfl⟩
/-- Where it lies. -/
theorem Hs.row (H : Hs w0 L0 w L) (i : Nat) {e sz cap n : Nat} {A : Option Addr} {xs : List Value} (hi : L[i]? = some (.own e sz A cap n xs)) (hn : 0 < n) : ∃ g, A = some ⟨g, 0, none⟩ := by
  rcases (H.at i hi).2 with ⟨_, h0⟩ | ⟨g, cap', cur, hv, _⟩
  · omega
  · injection hv with h1; exact ⟨g, h1⟩
theorem own_cell {w : World} {e sz g cap n : Nat} {xs : List Value} (h : w.ownsRow 0 e sz (.slice (some ⟨g, 0, none⟩) n cap) n xs) : ∃ cur, Has w g (.cells cur e) ∧ cur.toList.take (n * sz) = xs ∧ n * sz ≤ cur.size := by
  rcases h.2 with ⟨h0, _⟩ | ⟨g', cap', cur, hv, _, hg, hnc, hcm, hcs, ht⟩
  · cases h0
  · injection hv with h1 h2 h3
    injection h1 with h1; injection h1 with h1; subst h1
    exact ⟨cur, hg, ht, by rw [hcs]; exact Nat.mul_le_mul_right _ hnc⟩
/-- A cell, or some, of a row. -/
def loadX (P : Program) (t : TypeId) (xs : List Value) (off : Nat) (v : Value) : Prop :=
  match P.underlying t with
  | some (.struct _) | some (.array _ _) => ∃ i, P.info? t = some i ∧ off + i.size ≤ xs.length ∧ v = .agg ((xs.drop off).take i.size).toArray
  | some _ => xs[off]? = some v
  | none => False
theorem loadX_B {P : Program} {t : TypeId} {xs : List Value} {off k : Nat} {v : Value} {cur : Array Value} (h : loadX P t xs off v) (ht : cur.toList.take k = xs) : loadB P t cur off = some v := by
  subst ht
  unfold loadX at h
  unfold loadB
  cases hu : P.underlying t with
  | none => simp [hu] at h
  | some dsc =>
    rw [hu] at h
    have agg : (∃ i, P.info? t = some i ∧ off + i.size ≤ (cur.toList.take k).length ∧ v = .agg (((cur.toList.take k).drop off).take i.size).toArray) → (match P.info? t with
        | some i => match Nat.ble (off + i.size) cur.size with
          | true => some (Value.agg ((cur.toList.drop off).take i.size).toArray)
          | false => none
        | none => none) = some v := by
      rintro ⟨i, hi, hl, rfl⟩
      rw [List.length_take, Array.length_toList] at hl
      simp only [hi]
      rw [Nat.ble_eq_true_of_le (by omega)]
      simp only [Option.some.injEq, Value.agg.injEq]
      congr 1
      rw [List.drop_take, List.take_take]
      congr 1
      omega
    cases dsc with
    | struct fs => exact agg h
    | array q e => exact agg h
    | _ =>
      simp only at h ⊢
      rw [List.getElem?_take] at h
      split at h
      · simpa using h
      · cases h
end
def slR (b : Nat → Value) (n : Nat) (x : St) : Option (Nat × Nat × St × Array Oper × List Nat × Oper) := (hd b n x).map fun q => (0, 0, x, q)
section
variable [Rd] {P : Program} {B : Exit → Act → World → Prop} {b : Nat → Value} {n : Nat} {d : List Deferred} {w0 w : World} {x : St} {L0 L : List Item}
/-- The operation behind m steps, in the open. -/
theorem opn (m : Nat) (k : ∀ y : St, ∀ q : Array Oper × List Nat × Oper, y = (vX (via P b n m w x (slR b n))).1 → q = (vX (via P b n m w x (slR b n))).2 → hd b n y = some q → Goal P B b n d y w)
    (h : vA (via P b n m w x (slR b n)) = vB w (via P b n m w x (slR b n)) := by kernel_rfl) : Goal P B b n d x w := by
  obtain ⟨a, y, hr, hf⟩ := via_ok h
  refine run_sound hr ?_
  cases hq : hd b n y with
  | none => simp [slR, hq] at hf
  | some q =>
    simp only [slR, hq, Option.map_some, Option.some.injEq, Prod.mk.injEq] at hf
    exact k y q (by rw [← hf.2.2]) (by rw [← hf.2.2]) hq
/-- What is asked of an operation: values that lie in slots, numbers of types. -/
structure Ask where
  u : List Value
  t : List Nat
  y : St
  q : Array Oper × List Nat × Oper
instance : Inhabited Ask := ⟨⟨[], [], default, (#[], [], default)⟩⟩
def ask (f : St → Option Ask) (x : St) : Option (Nat × Nat × Ask) := match f x with
  | some a => some (0, 0, a)
  | none => none
theorem ask_ok {f : St → Option Ask} {m : Nat} (h : vA (via P b n m w x (ask f)) = vB w (via P b n m w x (ask f))) : ∃ y, run P b n m w x = some (w, y) ∧ f y = some (vX (via P b n m w x (ask f))) := by
  obtain ⟨a, y, hr, hf⟩ := via_ok h
  unfold ask at hf
  cases hq : f y with
  | none => simp [hq] at hf
  | some z => simp only [hq, Option.some.injEq, Prod.mk.injEq] at hf; exact ⟨y, hr, hq.trans (congrArg some hf.2.2)⟩
def iaR (P : Program) (b : Nat → Value) (n : Nat) (x : St) : Option Ask :=
  match hd b n x with
  | some q => match q.2.2.op with
    | .indexAddr t s ix => match P.underlying t with
      | some (.slice e) => match P.info? e with
        | some inf => some ⟨[ev b n x.l s, ev b n x.l ix], [inf.size], x, q⟩
        | none => none
      | _ => none
    | _ => none
  | none => none
/-- The address of a row's element: A, where it lies; i, which one. -/
theorem ia (m : Nat) (a : Addr) (i sz len cap : Nat) {A : Option Addr} (hA : A = some a) (hi : i < len)
    (k : Goal P B b n d (nx (vX (via P b n m w x (ask (iaR P b n)))).y (vX (via P b n m w x (ask (iaR P b n)))).q (.pointer (some (a.add (i * sz))))) w)
    (h : vA (via P b n m w x (ask (iaR P b n))) = vB w (via P b n m w x (ask (iaR P b n))) := by kernel_rfl)
    (h2 : ((vX (via P b n m w x (ask (iaR P b n)))).u, (vX (via P b n m w x (ask (iaR P b n)))).t) = ([.slice A len cap, .int .i64 (i : Int)], [sz]) := by kernel_rfl) : Goal P B b n d x w := by
  obtain ⟨y, hr, hf⟩ := ask_ok h
  refine run_sound hr ?_
  generalize vX (via P b n m w x (ask (iaR P b n))) = z at *
  unfold iaR at hf
  split at hf <;> try contradiction
  rename_i q hq
  split at hf <;> try contradiction
  rename_i t s ix hop
  split at hf <;> try contradiction
  rename_i e hu
  split at hf <;> try contradiction
  rename_i inf hinf
  simp only [Option.some.injEq] at hf
  subst hf
  simp only [Prod.mk.injEq, List.cons.injEq, and_true] at h2
  obtain ⟨⟨h3, h4⟩, rfl⟩ := h2
  exact hd_val hq (run_indexAddrO hop e inf.size hu (by rw [hinf]; rfl) a hA len cap h3 .i64 i h4 hi) k
/-- The same of a row of one's own. -/
theorem ir (m g i sz len cap : Nat) (hi : i < len)
    (k : Goal P B b n d (nx (vX (via P b n m w x (ask (iaR P b n)))).y (vX (via P b n m w x (ask (iaR P b n)))).q (.pointer (some ⟨g, i * sz, none⟩))) w)
    (h : vA (via P b n m w x (ask (iaR P b n))) = vB w (via P b n m w x (ask (iaR P b n))) := by kernel_rfl)
    (h2 : ((vX (via P b n m w x (ask (iaR P b n)))).u, (vX (via P b n m w x (ask (iaR P b n)))).t) = ([.slice (some ⟨g, 0, none⟩) len cap, .int .i64 (i : Int)], [sz]) := by kernel_rfl) : Goal P B b n d x w := by
  refine ia m ⟨g, 0, none⟩ i sz len cap rfl hi ?_ h h2
  have e : (⟨g, 0, none⟩ : Addr).add (i * sz) = ⟨g, i * sz, none⟩ := by unfold Addr.add; split <;> simp_all
  rw [e]
  exact k
def ldA (b : Nat → Value) (n : Nat) (x : St) : Option Ask :=
  match hd b n x with
  | some q => match q.2.2.op with
    | .load t s => some ⟨[ev b n x.l s], [t], x, q⟩
    | _ => none
  | none => none
/-- A cell, or some, of a row of one's own. -/
theorem lr (m i e sz t g cap c off : Nat) (xs : List Value) (H : Hs w0 L0 w L) (v : Value) (hv : loadX P t xs off v)
    (k : Goal P B b n d (nx (vX (via P b n m w x (ask (ldA b n)))).y (vX (via P b n m w x (ask (ldA b n)))).q v) w)
    (h : vA (via P b n m w x (ask (ldA b n))) = vB w (via P b n m w x (ask (ldA b n))) := by kernel_rfl)
    (h2 : ((vX (via P b n m w x (ask (ldA b n)))).u, (vX (via P b n m w x (ask (ldA b n)))).t) = ([.pointer (some ⟨g, off, none⟩)], [t]) := by kernel_rfl) (hi : L[i]? = some (.own e sz (some ⟨g, 0, none⟩) cap c xs) := by kernel_rfl) : Goal P B b n d x w := by
  obtain ⟨y, hr, hf⟩ := ask_ok h
  refine run_sound hr ?_
  generalize vX (via P b n m w x (ask (ldA b n))) = z at *
  unfold ldA at hf
  split at hf <;> try contradiction
  rename_i q hq
  split at hf <;> try contradiction
  rename_i t' s hop
  simp only [Option.some.injEq] at hf
  subst hf
  simp only [Prod.mk.injEq, List.cons.injEq, and_true] at h2
  obtain ⟨h3, rfl⟩ := h2
  obtain ⟨cur, hg, ht, _⟩ := own_cell (H.at i hi)
  exact at_hd hq fun j ho hw _ K hK => op_load ho hw hop off v h3 hg (loadX_B hv ht) (hK _ _ k)
/-- Cells of a row that is only read. -/
theorem lo (m : Nat) {a : Addr} {t c : Nat} (cs : List Value) (v : Value) (hc : w.cells? 0 a c = some cs)
    (k : Goal P B b n d (nx (vX (via P b n m w x (ask (ldA b n)))).y (vX (via P b n m w x (ask (ldA b n)))).q v) w)
    (h : vA (via P b n m w x (ask (ldA b n))) = vB w (via P b n m w x (ask (ldA b n))) := by kernel_rfl)
    (h2 : ((vX (via P b n m w x (ask (ldA b n)))).u, (vX (via P b n m w x (ask (ldA b n)))).t) = ([.pointer (some a)], [t]) := by kernel_rfl)
    (hm : Nat.beq cs.length c = true := by kernel_rfl) (hv : loadL P t cs = some v := by kernel_rfl) : Goal P B b n d x w := by
  obtain ⟨y, hr, hf⟩ := ask_ok h
  refine run_sound hr ?_
  generalize vX (via P b n m w x (ask (ldA b n))) = z at *
  unfold ldA at hf
  split at hf <;> try contradiction
  rename_i q hq
  split at hf <;> try contradiction
  rename_i t' s hop
  simp only [Option.some.injEq] at hf
  subst hf
  simp only [Prod.mk.injEq, List.cons.injEq, and_true] at h2
  obtain ⟨h3, rfl⟩ := h2
  exact hd_val hq (run_loadO hop cs v h3 c hc hm hv) k
def faA (b : Nat → Value) (n : Nat) (x : St) : Option Ask :=
  match hd b n x with
  | some q => match q.2.2.op with
    | .fieldAddr t s f => some ⟨[ev b n x.l s], [t, f], x, q⟩
    | _ => none
  | none => none
/-- A field's address. -/
theorem fa (m : Nat) (a : Addr) (off : Nat)
    (k : Goal P B b n d (nx (vX (via P b n m w x (ask (faA b n)))).y (vX (via P b n m w x (ask (faA b n)))).q (.pointer (some (a.add off)))) w)
    (h : vA (via P b n m w x (ask (faA b n))) = vB w (via P b n m w x (ask (faA b n))) := by kernel_rfl)
    (h2 : (vX (via P b n m w x (ask (faA b n)))).u = [.pointer (some a)] := by kernel_rfl)
    (h3 : fldAt P ((vX (via P b n m w x (ask (faA b n)))).t.getD 0 0) ((vX (via P b n m w x (ask (faA b n)))).t.getD 1 0) off = true := by kernel_rfl) : Goal P B b n d x w := by
  obtain ⟨y, hr, hf⟩ := ask_ok h
  refine run_sound hr ?_
  generalize vX (via P b n m w x (ask (faA b n))) = z at *
  unfold faA at hf
  split at hf <;> try contradiction
  rename_i q hq
  split at hf <;> try contradiction
  rename_i t' s f hop
  simp only [Option.some.injEq] at hf
  subst hf
  simp only [List.cons.injEq, and_true] at h2
  exact hd_val hq (run_fieldAddrO hop a h2 off h3) k
/-! #### Stores into a row of one's own -/
/-! #### append -/
def apA (P : Program) (b : Nat → Value) (n : Nat) (x : St) : Option Ask :=
  match hd b n x with
  | some q => match q.2.2.op with
    | .call c => match c.callee with
      | .builtin .append => match c.args.toList, c.argTypes.toList with
        | [s, y], [t, t'] => match P.underlying t with
          | some (.slice e) => match P.info? e with
            | some inf => some ⟨[ev b n x.l s, ev b n x.l y], [t, t', e, inf.size, inf.bytes, (inf.zero.map (·.cells.size)).getD 0, (match inf.zero with | some _ => 1 | none => 0)], x, q⟩
            | none => none
          | _ => none
        | _, _ => none
      | _ => none
    | _ => none
  | none => none
/-- What of the block that is thing j lies from off on. -/
def newsOf (L : List Item) (j off k : Nat) : Option (Nat × List Value) := match L[j]? with
  | some (.blk bk (.cells cs _ _)) => some (bk, (cs.toList.drop off).take k)
  | _ => none
/-- The block that is thing j, behind the row that is thing i. -/
theorem ap (m i j by_ k' off e sz t c' bk : Nat) (A : Option Addr) (cap c : Nat) (xs news : List Value) (H : Hs w0 L0 w L)
    (hb : (c + k') * by_ ≤ 140737488355328) (hn : c + k' ≤ 9223372036854775807) {xs' : List Value} (hx : xs ++ news = xs')
    (k : ∀ A' cap' w', Hs w0 L0 w' (L.set i (.own e sz A' cap' (c + k') xs')) → Goal P B b n d (nx (vX (via P b n m w x (ask (apA P b n)))).y (vX (via P b n m w x (ask (apA P b n)))).q (.slice A' (c + k') cap')) w')
    (h : vA (via P b n m w x (ask (apA P b n))) = vB w (via P b n m w x (ask (apA P b n))) := by kernel_rfl)
    (hi : L[i]? = some (.own e sz A cap c xs) := by kernel_rfl) (hj : newsOf L j off (k' * sz) = some (bk, news) := by kernel_rfl)
    (h2 : ((vX (via P b n m w x (ask (apA P b n)))).u, (vX (via P b n m w x (ask (apA P b n)))).t) = ([.slice A c cap, .slice (some ⟨bk, off, none⟩) k' c'], [t, t, e, sz, by_, sz, 1]) := by kernel_rfl)
    (hz : Nat.blt 0 sz = true := by kernel_rfl) (hl : Nat.beq news.length (k' * sz) = true := by kernel_rfl) (h1 : news.all (·.oneCell') = true := by kernel_rfl) : Goal P B b n d x w := by
  subst hx
  unfold newsOf at hj
  split at hj <;> try contradiction
  rename_i bk' cs e' fr hL
  simp only [Option.some.injEq, Prod.mk.injEq] at hj
  obtain ⟨rfl, rfl⟩ := hj
  obtain ⟨y, hr, hf⟩ := ask_ok h
  refine run_sound hr ?_
  generalize vX (via P b n m w x (ask (apA P b n))) = z at *
  unfold apA at hf
  split at hf <;> try contradiction
  rename_i q hq
  split at hf <;> try contradiction
  rename_i cl hop
  split at hf <;> try contradiction
  rename_i hcal
  split at hf <;> try contradiction
  rename_i s yv t1 t2 ha1 ha2
  split at hf <;> try contradiction
  rename_i e1 hu
  split at hf <;> try contradiction
  rename_i inf hinf
  simp only [Option.some.injEq] at hf
  subst hf
  simp only [Prod.mk.injEq, List.cons.injEq, and_true] at h2
  obtain ⟨⟨h3, h4⟩, rfl, rfl, rfl, rfl, rfl, h5, h6⟩ := h2
  have hz0 : inf.zero.map (·.cells.size) = some inf.size := by
    cases hzz : inf.zero with
    | none => simp [hzz] at h6
    | some zv => simp only [hzz, Option.map_some, Option.getD_some] at h5; simp [h5]
  have hcl : cl = { callee := .builtin .append, args := #[s, yv], argTypes := #[t2, t2] } := by
    obtain ⟨ce, ca, ct⟩ := cl
    simp only at hcal ha1 ha2
    subst hcal
    congr 1
    · exact Array.toList_inj.1 ha1
    · exact Array.toList_inj.1 ha2
  refine at_hd hq fun jj ho hw _ K hK => op_appendAt ho hw (by rw [hop, hcl]) e1 inf.size inf.bytes hu (by rw [hinf, Option.map_some, hz0]) hz 0 h3 (H.at i hi) off k' c' h4 (H.at j hL) _ rfl (Nat.eq_of_beq_eq_true hl)
    (fun u hu => List.all_eq_true.1 h1 u hu) (by unfold maxLen; omega) hb (Nat.zero_le _) (fun v' w' hown hG hblk => ?_)
  obtain ⟨A', cap', rfl⟩ := own_shape hown
  refine hK _ _ (k A' cap' w' (H.put i hi rfl (Kp.of_G hG) hown (fun c hc => ?_)))
  rcases hblk with q | q
  · exact .inl (q.symm.trans hc)
  · exact .inr (Nat.le_of_eq (Option.some.inj (q.symm.trans hc)))
end
def drR (x : St) : Option (Nat × Nat × Array Oper × List Kt × List (Nat × Value)) :=
  match x.f with
  | .code c => match c with
    | .region _ ops true => some (0, 0, ops, x.k, x.l)
    | _ => none
  | _ => none
def drX (z : Array Oper × List Kt × List (Nat × Value)) (LJ : List Item) (D : List Nat) : St := ⟨.any z.1 LJ D z.1.size (Array.replicate z.1.size false), z.2.1, z.2.2⟩
/-- A quiet operation: none, or the thing (of LJ) that it loads from and those that write there later. -/
abbrev Tk := Nat × Option (Nat × List Nat)
/-- One quiet operation of a region that draws its order: the state behind it, the world behind it, the blocks that are to be one. -/
def tk1 (P : Program) (b : Nat → Value) (n : Nat) (w : World) (t : Tk) (x : St) : Option (St × World × Nat × Nat) :=
  match x.f with
  | .any ops LJ D fuel listed => match fuel with
    | fuel + 1 => match ops[t.1]? with
      | some o => match Region.noSelect ops && (Region.free .any ops listed t.1 && ((Region.ready .any ops listed).contains t.1 && !D.contains t.1)) with
        | true => match Region.wanted o (yl ops b n x.l) with
          | false => some (⟨.any ops LJ D fuel (listed.setIfInBounds t.1 true), x.k, putL o undef x.l⟩, w, 0, 0)
          | true => match t.2 with
            | none => match o.dst with
              | some _ => match (execOp (ev b n x.l) o).run P w with
                | .ok (.value v) w' => some (⟨.any ops LJ D fuel (listed.setIfInBounds t.1 true), x.k, putL o v x.l⟩, w', 0, 0)
                | _ => none
              | none => none
            | some (j, C) => match waits .any ops C t.1 && !C.contains t.1 && D.all C.contains && C.all (fun c => !listed.getD c true) with
              | true => match o.op with
                | .load ty a => match ev b n x.l a with
                  | .pointer (some ⟨bk, off, none⟩) => match LJ[j]? with
                    | some (.blk bk' (.cells cs _ _)) => match loadB P ty cs off with
                      | some v => some (⟨.any ops LJ D fuel (listed.setIfInBounds t.1 true), x.k, putL o v x.l⟩, w, bk, bk')
                      | none => none
                    | _ => none
                  | _ => none
                | _ => none
              | false => none
        | false => none
      | none => none
    | 0 => none
  | _ => none
def tkS (P : Program) (b : Nat → Value) (n : Nat) (w : World) : List Tk → St → Option (List St × List World × List Nat × List Nat)
  | [], _ => some ([], [], [], [])
  | t :: r, x => match tk1 P b n w t x with
    | some (y, w', p, q) => match tkS P b n w r y with
      | some (zs, ws, ps, qs) => some (y :: zs, w' :: ws, p :: ps, q :: qs)
      | none => none
    | none => none
def tkL (r : Option (List St × List World × List Nat × List Nat)) : List St := match r with
  | some (zs, _) => zs
  | none => []
def lastS : List St → St → St
  | [], x => x
  | y :: r, _ => lastS r y
def tkA (r : Option (List St × List World × List Nat × List Nat)) : List World × List Nat := match r with
  | some (_, ws, ps, _) => (ws, ps)
  | none => ([], [0])
def tkB (w : World) (r : Option (List St × List World × List Nat × List Nat)) : List World × List Nat := match r with
  | some (_, ws, _, qs) => (ws.map fun _ => w, qs)
  | none => ([], [])
/-- Of a way out by a panic it does not matter what a slot holds; a round is never outgrown. -/
class Pn [Rd] (B : Exit → Act → World → Prop) : Prop where
  pn : ∀ c a w o v, B (.panic c) (Act.put a o v) w → B (.panic c) a w
  og : Rd.r = none ∨ ∀ a w, ¬ B .outgrown a w
instance pnB {P : Program} {fn : Func} {R : Ending → World → Prop} : @Pn rd0 (bodyPost P fn R) := @Pn.mk rd0 _ (fun c a w o v h => ⟨by have := h.1; cases o <;> exact this, h.2⟩) (.inl rfl)
theorem wpQ [Rd] {P : Program} {Q : Exit → Act → World → Prop} {o : Oper} {a : Act} {w : World} {K : Act → World → Prop} (hn : ndf o = true) (h : o.wp P a w K Q) : o.wpIn fw 1 P a w K Q := by
  refine ⟨fun _ _ => trivial, ?_⟩
  show o.uponIn fw 1 P a K Q ((o.semAt fw.round a.eval).run P w)
  rw [semw hn]
  unfold Oper.wp at h
  generalize (execOp a.eval o).run P w = r at *
  cases r with
  | ok n w' =>
    cases n <;> simp only [Oper.upon, Oper.uponIn] at h ⊢ <;> try exact h
    case enter f args => exact ⟨fun _ => Nat.le_refl _, (callsIn_wide (n := 0)).2 h⟩
    case row row args => exact ⟨fun _ => Nat.le_refl _, fun c cs hr => by obtain ⟨v, w1, r, s⟩ := h c cs; exact ⟨v, w1, r, stepsIn_wide.2 s⟩⟩
  | halt y w' => cases y <;> simp only [Oper.upon] at h ⊢ <;> first | exact h.elim | exact h
/-- Operations of which none defers a call go through in a round too. -/
theorem opsW [Rd] {P : Program} {ops : Array Oper} {Q : Exit → Act → World → Prop} (hn : ops.toList.all ndf = true) (hQ : ∀ a w, ¬ Q .outgrown a w) : ∀ (js : List Nat) (a : Act) (w : World), wpOps P ops Q js a w → wpOpsIn fw 1 P ops Q js a w
  | [], _, _, h => h
  | i :: js, a, w, h => by
    rw [wpOps_cons] at h
    unfold wpOp at h
    simp only [wpOpsIn]
    cases ho : ops[i]? with
    | none => simp only [ho] at h; exact opsW hn hQ js _ _ h
    | some o =>
      simp only [ho] at h ⊢
      have hm : ndf o = true := List.all_eq_true.1 hn o (by simpa using Array.mem_of_getElem? ho)
      split at h
      · rename_i hw
        rw [if_pos hw]
        rcases h with h | ⟨_, a', w', q⟩
        · exact wpQ hm (Oper.wp_mono (fun a w => opsW hn hQ js a w) h)
        · exact absurd q (hQ a' w')
      · rename_i hw
        rw [if_neg hw]
        exact ⟨fun _ _ => trivial, opsW hn hQ js _ _ h⟩
section
variable [Rd] {P : Program} {B : Exit → Act → World → Prop} [Pn B] {b : Nat → Value} {n : Nat} {d : List Deferred} {w0 w : World} {x : St} {L0 L : List Item}
theorem bp_panic {k : List Kt} {c : List PanicEntry} {a : Act} {o : Option Tmp} {v : Value} : post P B k (.panic c) (a.put o v) w → post P B k (.panic c) a w := by
  induction k with
  | nil => exact Pn.pn (B := B) c a w o v
  | cons t k ih => cases t <;> exact ih
omit [Pn B] in
theorem bp_grown (h : ∀ a w, ¬ B .outgrown a w) {k : List Kt} {a : Act} : ¬ post P B k .outgrown a w := by
  induction k with
  | nil => exact h a w
  | cons t k ih => cases t <;> exact ih
/-- Into a region that draws its order. -/
theorem dr (m : Nat) (H : Hs w0 L0 w L) (J D : List Nat) {LJ : List Item} (hm : P.follows .mixedOrders = true)
    (k : ∀ w', Hs w0 L0 w' L → Goal P B b n d (drX (vX (via P b n m w x drR)) LJ D) w')
    (h : vA (via P b n m w x drR) = vB w (via P b n m w x drR) := by kernel_rfl) (hd : (vX (via P b n m w x drR)).1.toList.all ndf = true := by kernel_rfl) : Goal P B b n d x w := by
  obtain ⟨a, y, hr, hf⟩ := via_ok h
  refine run_sound hr ?_
  generalize vX (via P b n m w x drR) = z at *
  obtain ⟨f, k', l⟩ := y
  unfold drR at hf
  split at hf <;> try contradiction
  rename_i c hc
  split at hf <;> try contradiction
  simp only at hc
  subst hc
  simp only [Option.some.injEq, Prod.mk.injEq] at hf
  obtain ⟨_, _, rfl⟩ := hf
  cases hr : Rd.r with
  | none =>
    have e : (fw : Fence) = Fence.wide := by unfold fw; rw [hr]; rfl
    unfold Goal
    simp only
    rw [e]
    exact wpIn_wide.2 (drawE D hm fun w' hE => k w' (H.ext hE))
  | some lr =>
    have og : ∀ a w, ¬ B .outgrown a w := (Pn.og (B := B)).resolve_left (by rw [hr]; simp)
    refine wpIn_region_draw fun t => ?_
    simp only [Region.schedule, hm, Bool.true_or, if_true]
    exact opsW hd (fun a w => bp_grown og) _ _ _ (wpAny_sound _ t _ _ _ (anyE_any _ _ _ _ (k _ (H.ext (Ext.drawn w _)))))
/-- One operation that is not quiet: no other may come up. -/
def onK (i : Nat) (P : Program) (B : Exit → Act → World → Prop) (x : St) : Act → World → Prop := match x.f with
  | .any ops LJ D fuel listed => match fuel with
    | fuel + 1 => fun a' w' => (clear D (listed.setIfInBounds i true) = true → Sp w' LJ) ∧ anyE P .any ops (post P B x.k) (fun w => Sp w LJ) D fuel (listed.setIfInBounds i true) a' w'
    | 0 => fun _ _ => False
  | _ => fun _ _ => False
def opsOf (x : St) : Array Oper := match x.f with
  | .any ops _ _ _ _ => ops
  | _ => #[]
def onX (i : Nat) (P : Program) (B : Exit → Act → World → Prop) (x : St) : St := ⟨.op1 (opsOf x) i (onK i P B x), x.k, x.l⟩
def rdy (x : St) : List Nat := match x.f with
  | .any ops _ _ fuel listed => match fuel with
    | _ + 1 => Region.ready .any ops listed
    | 0 => []
  | _ => []
omit [Pn B] in
theorem on (i : Nat) (k : Goal P B b n d (onX i P B x) w) (h : rdy x = [i] := by kernel_rfl) : Goal P B b n d x w := by
  obtain ⟨f, kk, l⟩ := x
  cases f with
  | any ops LJ D fuel listed =>
    cases fuel with
    | zero => simp [rdy] at h
    | succ fuel => exact anyE_one i h k
  | _ => simp [rdy] at h
omit [Pn B] in
/-- Behind it; x: the state at which it was picked. -/
def bkX (i : Nat) (x : St) (l : List (Nat × Value)) : St := match x.f with
  | .any ops LJ D fuel listed => ⟨.any ops LJ D (fuel - 1) (listed.setIfInBounds i true), x.k, l⟩
  | _ => x
def LJof (x : St) : List Item := match x.f with
  | .any _ LJ _ _ _ => LJ
  | _ => []
def clr (i : Nat) (x : St) : Bool := match x.f with
  | .any _ _ D _ listed => clear D (listed.setIfInBounds i true)
  | _ => true
def okA (x : St) : Bool := match x.f with
  | .any _ _ _ fuel _ => match fuel with
    | _ + 1 => true
    | 0 => false
  | _ => false
omit [Pn B] in
theorem bk {x y : St} (i : Nat) (hS : clr i x = true → Sp w (LJof x)) (k : Goal P B b n d (bkX i x y.l) w)
    (h : y.f = .kk (onK i P B x) := by kernel_rfl) (ho : okA x = true := by kernel_rfl) : Goal P B b n d y w := by
  obtain ⟨f, kk, l⟩ := y
  simp only at h
  subst h
  obtain ⟨fx, kx, lx⟩ := x
  cases fx with
  | any ops LJ D fuel listed =>
    cases fuel with
    | zero => simp [okA] at ho
    | succ fuel => exact ⟨hS, k⟩
  | _ => simp [okA] at ho
def dnR (x : St) : Option (Nat × Nat × St) := match x.f with
  | .any ops _ _ _ listed => match Region.ready .any ops listed with
    | [] => some (0, 0, ⟨.ex .normal, x.k, x.l⟩)
    | _ => none
  | _ => none
omit [Pn B] in
/-- None is left. -/
theorem dn (k : Goal P B b n d (vX (via P b n 0 w x dnR)) w) (h : vA (via P b n 0 w x dnR) = vB w (via P b n 0 w x dnR) := by kernel_rfl) : Goal P B b n d x w := by
  obtain ⟨a, y, hr, hf⟩ := via_ok h
  simp only [run, Option.some.injEq, Prod.mk.injEq, true_and] at hr
  subst hr
  generalize vX (via P b n 0 w x dnR) = z at *
  obtain ⟨f, kk, l⟩ := x
  unfold dnR at hf
  split at hf <;> try contradiction
  rename_i ops LJ D fuel listed hfo
  split at hf <;> try contradiction
  rename_i hrd
  simp only at hfo
  subst hfo
  simp only [Option.some.injEq, Prod.mk.injEq] at hf
  obtain ⟨_, _, rfl⟩ := hf
  exact anyE_done hrd k fuel
def clrA (x : St) : Bool := match x.f with
  | .any _ _ D _ listed => clear D listed
  | _ => true
omit [Rd] in
theorem putL_inj {o : Oper} {v v' : Value} {l : List (Nat × Value)} {d : Nat} (h : o.dst = some d) (e : putL o v l = putL o v' l) : v = v' := by
  unfold putL at e; rw [h] at e; simp only [List.cons.injEq, Prod.mk.injEq, true_and, and_true] at e; exact e
theorem tk1_sound {t : Tk} {y : St} (h : ∀ w', ∃ q, tk1 P b n w' t x = some (y, w', q, q)) (hS : clrA x = true → Sp w (LJof x)) (k : Goal P B b n d y w) :
    Goal P B b n d x w := by
  obtain ⟨f, kk, l⟩ := x
  obtain ⟨i, tj⟩ := t
  cases f with
  | any ops LJ D fuel listed =>
    cases fuel with
    | zero => obtain ⟨q, hq⟩ := h w; simp [tk1] at hq
    | succ fuel =>
      simp only [tk1] at h
      cases ho : ops[i]? with
      | none => obtain ⟨q, hq⟩ := h w; simp [ho] at hq
      | some o =>
        simp only [ho] at h
        cases hc : (Region.noSelect ops && (Region.free .any ops listed i && ((Region.ready .any ops listed).contains i && !D.contains i))) with
        | false => obtain ⟨q, hq⟩ := h w; simp only [hc, reduceCtorEq] at hq
        | true =>
          simp only [hc] at h
          simp only [Bool.and_eq_true, Bool.not_eq_true'] at hc
          obtain ⟨h1, h2, h3, h4⟩ := hc
          cases hw : Region.wanted o (yl ops b n l) with
          | false =>
            obtain ⟨q, hq⟩ := h w
            simp only [hw, Option.some.injEq, Prod.mk.injEq] at hq
            obtain ⟨rfl, _⟩ := hq
            exact anyE_skip i ho h1 h2 h3 h4 (fun _ _ _ => bp_panic) hS hw k
          | true =>
            simp only [hw] at h
            cases tj with
            | none =>
              simp only at h
              cases hd : o.dst with
              | none => obtain ⟨q, hq⟩ := h w; simp [hd] at hq
              | some dd =>
                simp only [hd] at h
                have key : ∀ w', ∃ v, (execOp (ev b n l) o).run P w' = .ok (.value v) w' ∧ y = ⟨.any ops LJ D fuel (listed.setIfInBounds i true), kk, putL o v l⟩ := by
                  intro w'
                  obtain ⟨q, hq⟩ := h w'
                  cases hr : (execOp (ev b n l) o).run P w' with
                  | halt a c => simp [hr] at hq
                  | ok r w'' =>
                    rw [hr] at hq
                    cases r <;> simp only [reduceCtorEq, Option.some.injEq, Prod.mk.injEq] at hq
                    obtain ⟨rfl, rfl, _⟩ := hq
                    exact ⟨_, rfl, rfl⟩
                obtain ⟨v, hv, rfl⟩ := key w
                refine anyE_take i v v rfl ho h1 h2 h3 h4 (fun _ _ _ => bp_panic) hS hw (fun w' => ?_) k
                obtain ⟨v', hv', e⟩ := key w'
                simp only [St.mk.injEq, true_and] at e
                rw [putL_inj hd e]
                exact hv'
            | some jc =>
              obtain ⟨j, C⟩ := jc
              obtain ⟨q, hq⟩ := h w
              simp only at hq
              split at hq <;> try contradiction
              rename_i hC
              split at hq <;> try contradiction
              rename_i ty a hop
              split at hq <;> try contradiction
              rename_i bk off hx
              split at hq <;> try contradiction
              rename_i bk' cs e fr hL
              split at hq <;> try contradiction
              rename_i v hv
              simp only [Option.some.injEq, Prod.mk.injEq] at hq
              obtain ⟨rfl, _, rfl, rfl⟩ := hq
              have hcl : clear D listed = true := by
                simp only [Bool.and_eq_true] at hC
                exact clear_of hC.1.2 (fun c hc => by simpa using List.all_eq_true.1 hC.2 c hc)
              exact anyE_takeS i C v v rfl ho h1 h2 h3 h4 hC (fun _ _ _ => bp_panic) (hS hcl) hw (fun w' hs => Gx.run_load hop off v hx (hs.all _ (List.mem_of_getElem? hL)) hv) k
  | _ => obtain ⟨q, hq⟩ := h w; simp [tk1] at hq
omit [Rd] in
theorem tk1_keeps {t : Tk} {y : St} {w' : World} {p q : Nat} (h : tk1 P b n w t x = some (y, w', p, q)) : LJof y = LJof x ∧ clrA y = clrA x := by
  obtain ⟨f, kk, l⟩ := x
  obtain ⟨i, tj⟩ := t
  cases f with
  | any ops LJ D fuel listed =>
    have fin : ∀ (fuel' : Nat) (l' : List (Nat × Value)), D.contains i = false → LJof ⟨.any ops LJ D fuel' (listed.setIfInBounds i true), kk, l'⟩ = LJ ∧ clrA ⟨.any ops LJ D fuel' (listed.setIfInBounds i true), kk, l'⟩ = clear D listed :=
      fun _ _ hD => ⟨rfl, clear_set hD⟩
    unfold tk1 at h
    simp only at h
    split at h <;> try contradiction
    split at h <;> try contradiction
    split at h <;> try contradiction
    rename_i hc
    simp only [Bool.and_eq_true, Bool.not_eq_true'] at hc
    split at h
    · simp only [Option.some.injEq, Prod.mk.injEq] at h; obtain ⟨rfl, _⟩ := h; exact fin _ _ hc.2.2.2
    · split at h
      · split at h <;> try contradiction
        split at h <;> try contradiction
        simp only [Option.some.injEq, Prod.mk.injEq] at h; obtain ⟨rfl, _⟩ := h; exact fin _ _ hc.2.2.2
      · split at h <;> try contradiction
        split at h <;> try contradiction
        split at h <;> try contradiction
        split at h <;> try contradiction
        split at h <;> try contradiction
        simp only [Option.some.injEq, Prod.mk.injEq] at h; obtain ⟨rfl, _⟩ := h; exact fin _ _ hc.2.2.2
  | _ => simp [tk1] at h
theorem tkS_sound {ts : List Tk} {zs : List St} (h : ∀ w', ∃ ws qs, tkS P b n w' ts x = some (zs, ws, qs, qs) ∧ ws = ws.map fun _ => w') (hS : clrA x = true → Sp w (LJof x)) (k : Goal P B b n d (lastS zs x) w) :
    Goal P B b n d x w := by
  induction ts generalizing x zs with
  | nil => obtain ⟨ws, qs, hq, _⟩ := h w; simp only [tkS, Option.some.injEq, Prod.mk.injEq] at hq; obtain ⟨rfl, _⟩ := hq; exact k
  | cons t r ih =>
    have key : ∀ w', ∃ z zs' q, zs = z :: zs' ∧ tk1 P b n w' t x = some (z, w', q, q) ∧ ∃ ws qs, tkS P b n w' r z = some (zs', ws, qs, qs) ∧ ws = ws.map fun _ => w' := by
      intro w'
      obtain ⟨ws, qs, hq, hw⟩ := h w'
      simp only [tkS] at hq
      split at hq <;> try contradiction
      rename_i z w1 p q h1
      split at hq <;> try contradiction
      rename_i z' ws' ps' qs' h2
      simp only [Option.some.injEq, Prod.mk.injEq] at hq
      obtain ⟨rfl, rfl, rfl, hqs⟩ := hq
      simp only [List.cons.injEq] at hqs
      obtain ⟨rfl, rfl⟩ := hqs
      simp only [List.map_cons, List.cons.injEq] at hw
      obtain ⟨rfl, hw⟩ := hw
      exact ⟨z, z', q, rfl, h1, ws', qs', h2, hw⟩
    obtain ⟨z, zs', q, rfl, h1, _⟩ := key w
    have kp := tk1_keeps h1
    refine tk1_sound (t := t) (y := z) (fun w' => ?_) hS (ih (zs := zs') (fun w' => ?_) (fun hc => ?_) k)
    · obtain ⟨z2, zs2, q2, e, h2, _⟩ := key w'
      injection e with e1 _
      subst e1
      exact ⟨q2, h2⟩
    · obtain ⟨z2, zs2, q2, e, _, h3⟩ := key w'
      injection e with e1 e2
      subst e1 e2
      exact h3
    · rw [kp.1]; exact hS (by rw [← kp.2]; exact hc)
/-- Quiet operations, in this order. -/
theorem tk (ts : List Tk) (hS : clrA x = true → Sp w (LJof x)) (k : Goal P B b n d (lastS (tkL (tkS P b n w ts x)) x) w)
    (h1 : (fun w' => tkA (tkS P b n w' ts x)) = (fun w' => tkB w' (tkS P b n w' ts x)) := by kernel_rfl)
    (h2 : (fun w' => tkL (tkS P b n w' ts x)) = (fun _ => tkL (tkS P b n w ts x)) := by kernel_rfl) : Goal P B b n d x w := by
  refine tkS_sound (ts := ts) (fun w' => ?_) hS k
  have a1 := congrFun h1 w'
  have a2 := congrFun h2 w'
  cases hr : tkS P b n w' ts x with
  | none => simp [hr, tkA, tkB] at a1
  | some p =>
    obtain ⟨zs, ws, ps, qs⟩ := p
    rw [hr] at a1 a2
    simp only [tkA, tkB, Prod.mk.injEq] at a1
    obtain ⟨b1, rfl⟩ := a1
    refine ⟨ws, ps, ?_, b1⟩
    rw [← a2]
    rfl
end
end Go.Sx
set_option linter.unusedVariables false
set_option linter.unusedSimpArgs false
namespace Go.Sx
open Go.RowKit Go.Gx Go.MapKept
/-! ### Things made of things -/
/-- A thing that is some things that lie apart; what they are like, 'shape' says. -/
def comp (shape : List Item → Prop) (S : Nat → Prop) : Item := .abs S (fun w => ∃ L, shape L ∧ (∀ c, fpA L c ↔ S c) ∧ (∀ it ∈ L, it.wr = true) ∧ Sp w L)
theorem Sp.keep {w w' : World} {L : List Item} (h : Sp w L) (hs : w.heap.size ≤ w'.heap.size) (k : ∀ c, fpA L c → w'.heap[c]? = w.heap[c]?) : Sp w' L :=
  ⟨fun it hi => Item.keep (h.all it hi) hs (fun c hc => k c ⟨it, hi, hc⟩), h.dis⟩
theorem comp_holds {w : World} {shape : List Item → Prop} {L : List Item} (h : Sp w L) (hs : shape L) (hw : ∀ it ∈ L, it.wr = true) : (comp shape (fpA L)).holds w := by
  refine ⟨⟨L, hs, fun _ => Iff.rfl, hw, h⟩, fun c ⟨it, hi, hc⟩ => Item.lt (h.all it hi) hc, ?_⟩
  rintro w1 w2 hsz hk ⟨L', a, b, c, d⟩
  exact ⟨L', a, b, c, d.keep hsz (fun c hc => hk c ((b c).1 hc))⟩
section
variable {w0 w w' : World} {L0 L R L1 : List Item}
/-- It is opened. -/
theorem Hs.opn (H : Hs w0 L0 w L) (i : Nat) {shape : List Item → Prop} {S : Nat → Prop} (hi : picked [i] L = some [comp shape S]) : ∃ L', shape L' ∧ Hs w0 L0 w (L' ++ rest [i] L) := by
  have k := H.perm (picked_perm hi)
  have pw := List.pairwise_append.1 k.sp.dis
  have hm : comp shape S ∈ [comp shape S] ++ rest [i] L := List.mem_append_left _ (.head _)
  obtain ⟨⟨L', a, b, c, d⟩, _, _⟩ := k.sp.all _ hm
  refine ⟨L', a, k.kp, ⟨fun it hi => ?_, List.pairwise_append.2 ⟨d.dis, pw.2.1, fun x hx y hy => ?_⟩⟩, fun it hi c hc hl => ?_, fun it hi hw c hc hl => ?_⟩
  · rcases List.mem_append.1 hi with q | q
    · exact d.all it q
    · exact k.sp.all it (List.mem_append_right _ q)
  · intro _ cc hcx hcy
    exact pw.2.2 _ (.head _) y hy rfl cc ((b cc).1 ⟨x, hx, hcx⟩) hcy
  · rcases List.mem_append.1 hi with q | q
    · exact k.ofA _ hm c ((b c).1 ⟨it, q, hc⟩) hl
    · exact k.ofA it (List.mem_append_right _ q) c hc hl
  · rcases List.mem_append.1 hi with q | q
    · exact k.ofW _ hm rfl c ((b c).1 ⟨it, q, hc⟩) hl
    · exact k.ofW it (List.mem_append_right _ q) hw c hc hl
/-- It is closed. -/
theorem Hs.cls (H : Hs w0 L0 w L) (I : List Nat) (hi : picked I L = some L1) {shape : List Item → Prop} (hs : shape L1) (hw : L1.all (·.wr) = true) : Hs w0 L0 w (comp shape (fpA L1) :: rest I L) := by
  have hw' : ∀ it ∈ L1, it.wr = true := fun it hi => List.all_eq_true.1 hw it hi
  have k := H.perm (picked_perm hi)
  have pw := List.pairwise_append.1 k.sp.dis
  refine ⟨k.kp, ⟨fun it hi => ?_, List.pairwise_cons.2 ⟨fun y hy => ?_, pw.2.1⟩⟩, fun it hi c hc hl => ?_, fun it hi hww c hc hl => ?_⟩
  · rcases List.mem_cons.1 hi with rfl | q
    · exact comp_holds ⟨fun it hi => k.sp.all it (List.mem_append_left _ hi), pw.1⟩ hs hw'
    · exact k.sp.all it (List.mem_append_right _ q)
  · rintro _ c ⟨x, hx, hc⟩ hcy
    exact pw.2.2 x hx y hy (by rw [hw' x hx]; rfl) c hc hcy
  · rcases List.mem_cons.1 hi with rfl | q
    · obtain ⟨x, hx, hc⟩ := hc; exact k.ofA x (List.mem_append_left _ hx) c hc hl
    · exact k.ofA it (List.mem_append_right _ q) c hc hl
  · rcases List.mem_cons.1 hi with rfl | q
    · obtain ⟨x, hx, hc⟩ := hc; exact k.ofW x (List.mem_append_left _ hx) (hw' x hx) c hc hl
    · exact k.ofW it (List.mem_append_right _ q) hww c hc hl
end
/-! ### Maps -/
section
variable {α : Type} [DecidableEq α]
def pos (a : α) : List (α × Value) → Option Nat
  | [] => none
  | p :: r => if p.1 = a then some 0 else (pos a r).map (· + 1)
def look (a : α) (m : List (α × Value)) : Option Value := (pos a m).bind fun j => (m[j]?).map (·.2)
def upd (a : α) (v : Value) (m : List (α × Value)) : List (α × Value) := match pos a m with
  | some j => m.set j (a, v)
  | none => m ++ [(a, v)]
def MpOk (kd : TypeDesc) (enc : α → Value) (es : Array MapEntry) (ck : Nat) (m : List (α × Value)) : Prop :=
  Stamped es ck ∧ (∀ x ∈ es.toList, IsKey kd x.key) ∧ es.toList.map (fun e => (e.key, e.val)) = m.map (fun p => (enc p.1, p.2))
def mapI (kd : TypeDesc) (enc : α → Value) (b : Nat) (m : List (α × Value)) : Item := .abs (fun c => c = b) (fun w => ∃ es ck, Has w b (.map es ck) ∧ MpOk kd enc es ck m)
omit [DecidableEq α] in
theorem mapI_loc (kd : TypeDesc) (enc : α → Value) (b : Nat) (m : List (α × Value)) : Loc (fun c => c = b) (fun w => ∃ es ck, Has w b (.map es ck) ∧ MpOk kd enc es ck m) := by
  rintro w w' _ hk ⟨es, ck, h1, h2⟩
  exact ⟨es, ck, (hk b rfl).trans h1, h2⟩
omit [DecidableEq α] in
theorem mapI_holds {kd : TypeDesc} {enc : α → Value} {b : Nat} {m : List (α × Value)} {w : World} {es : Array MapEntry} {ck : Nat} (h : Has w b (.map es ck)) (hm : MpOk kd enc es ck m) : (mapI kd enc b m).holds w :=
  ⟨⟨es, ck, h, hm⟩, fun c hc => by cases hc; exact h.lt, mapI_loc _ _ _ _⟩
theorem findNow_pos {kd : TypeDesc} {enc : α → Value} (hk : ∀ a, IsKey kd (enc a)) (hinj : ∀ a b, enc a = enc b → a = b) (a : α) : ∀ (l : List MapEntry) (m : List (α × Value)) (i : Nat), l.map (fun e => (e.key, e.val)) = m.map (fun p => (enc p.1, p.2)) →
    Instr.findNow kd (enc a) l i = some ((pos a m).bind fun j => (m[j]?).map fun p => (i + j, p.2))
  | [], [], _, _ => rfl
  | [], _ :: _, _, h => by simp at h
  | _ :: _, [], _, h => by simp at h
  | e :: l, p :: m, i, h => by
    simp only [List.map_cons, List.cons.injEq, Prod.mk.injEq] at h
    obtain ⟨⟨h1, h2⟩, h3⟩ := h
    obtain ⟨r, hr, hiff⟩ := sameNow_of_keys (hk a) (b := e.key) (by rw [h1]; exact hk p.1)
    have ih := findNow_pos hk hinj a l m (i + 1) h3
    cases r with
    | true =>
      have : a = p.1 := hinj _ _ ((hiff.1 rfl).trans h1)
      subst this
      simp [Instr.findNow, hr, pos, h2]
    | false =>
      have hne : ¬ p.1 = a := fun q => by have := hiff.2 (by rw [h1, q]); cases this
      simp only [Instr.findNow, hr, ih, pos, if_neg hne, Option.bind_map]
      congr 1
      cases pos a m with
      | none => rfl
      | some j => simp only [Option.bind_some, Function.comp, List.getElem?_cons_succ]; congr 1; funext q; congr 1; omega
theorem pos_none {a : α} {m : List (α × Value)} (h : pos a m = none) : ∀ p ∈ m, p.1 ≠ a := by
  induction m with
  | nil => simp
  | cons p r ih =>
    unfold pos at h
    split at h
    · cases h
    · rename_i hne
      cases hp : pos a r with
      | some j => simp [hp] at h
      | none => intro q hq; rcases List.mem_cons.1 hq with rfl | q'; exact hne; exact ih hp q q'
theorem pos_some {a : α} {m : List (α × Value)} {j : Nat} (h : pos a m = some j) : ∃ v, m[j]? = some (a, v) := by
  induction m generalizing j with
  | nil => simp [pos] at h
  | cons p r ih =>
    unfold pos at h
    split at h
    · rename_i e; cases h; exact ⟨p.2, by rw [← e]; rfl⟩
    · cases hp : pos a r with
      | none => simp [hp] at h
      | some i => rw [hp, Option.map_some] at h; cases h; obtain ⟨v, hv⟩ := ih hp; exact ⟨v, hv⟩
theorem look_eq {a : α} {m : List (α × Value)} : (pos a m).bind (fun j => (m[j]?).map fun p => (0 + j, p.2)) = match pos a m with | some j => (look a m).map fun v => (j, v) | none => none := by
  unfold look
  cases hp : pos a m with
  | none => rfl
  | some j => simp only [Option.bind_some, Option.map_map, Nat.zero_add]; rfl
theorem look_none {a : α} {m : List (α × Value)} : look a m = none ↔ pos a m = none := by
  unfold look
  cases hp : pos a m with
  | none => simp
  | some j => obtain ⟨v, hv⟩ := pos_some hp; simp [hv]
end
section
variable {α : Type} [DecidableEq α]
variable [Rd] {P : Program} {B : Exit → Act → World → Prop} {b : Nat → Value} {n : Nat} {d : List Deferred} {w0 w : World} {x : St} {L0 L : List Item}
/-- A map's type. -/
def mapT (P : Program) (t : TypeId) : Option (TypeId × TypeId) := match P.underlying t with
  | some (.map k e) => some (k, e)
  | _ => none
omit [Rd] in
theorem mapT_eq {t k e : TypeId} (h : mapT P t = some (k, e)) : P.underlying t = some (.map k e) := by
  unfold mapT at h
  split at h
  · rename_i k' e' hu; simp only [Option.some.injEq, Prod.mk.injEq] at h; obtain ⟨rfl, rfl⟩ := h; exact hu
  · cases h
def lkA (b : Nat → Value) (n : Nat) (x : St) : Option Ask :=
  match hd b n x with
  | some q => match q.2.2.op with
    | .lookup t mp ix ok => some ⟨[ev b n x.l mp, ev b n x.l ix], [t, (match ok with | true => 1 | false => 0)], x, q⟩
    | _ => none
  | none => none
theorem lk (m i : Nat) (H : Hs w0 L0 w L) {kd : TypeDesc} {enc : α → Value} {bt t kt et : Nat} {mp : List (α × Value)} {r : Nat} (a : α) (z : Value) (hi : L[i]? = some (mapI kd enc bt mp)) (hk : ∀ a, IsKey kd (enc a)) (hinj : ∀ a b, enc a = enc b → a = b)
    (k : Goal P B b n d (nx (vX (via P b n m w x (ask (lkA b n)))).y (vX (via P b n m w x (ask (lkA b n)))).q (match r with | 0 => (look a mp).getD z | _ => .tuple #[(look a mp).getD z, .bool (look a mp).isSome])) w)
    (h : vA (via P b n m w x (ask (lkA b n))) = vB w (via P b n m w x (ask (lkA b n))) := by kernel_rfl)
    (h2 : ((vX (via P b n m w x (ask (lkA b n)))).u, (vX (via P b n m w x (ask (lkA b n)))).t) = ([.map (some bt), enc a], [t, r]) := by kernel_rfl)
    (ht : mapT P t = some (kt, et) := by kernel_rfl) (hkt : P.underlying kt = some kd := by kernel_rfl) (hz : (P.info? et).bind (·.zero) = some z := by kernel_rfl) : Goal P B b n d x w := by
  obtain ⟨y, hr, hf⟩ := ask_ok h
  refine run_sound hr ?_
  generalize vX (via P b n m w x (ask (lkA b n))) = zz at *
  unfold lkA at hf
  split at hf <;> try contradiction
  rename_i q hq
  split at hf <;> try contradiction
  rename_i t' mo ix ok hop
  simp only [Option.some.injEq] at hf
  subst hf
  simp only [Prod.mk.injEq, List.cons.injEq, and_true] at h2
  obtain ⟨⟨h3, h4⟩, rfl, h5⟩ := h2
  obtain ⟨⟨es, ck, hb, hst, hky, hm⟩, _, _⟩ := H.at i hi
  have hmt := mapT_eq ht
  have hfn := findNow_pos hk hinj a es.toList mp 0 hm
  rw [look_eq] at hfn
  have hzv : (zeroValue et).run P w = .ok z w := by
    cases hinf : P.info? et with
    | none => simp [hinf] at hz
    | some inf => rw [hinf] at hz; simp only [Option.bind_some] at hz; simp [zeroValue, typeInfo, hinf, hz]
  refine hd_val hq ?_ k
  unfold execOp
  have hgo := MapKept.run_getObj_map (P := P) (w := w) hb
  have hck : (Instr.checkKey es.isEmpty 10000 kt (enc a)).run P w = .ok () w := run_checkKey hkt (hk a) _ 9999
  cases hp : pos a mp with
  | none =>
    have hl := look_none.2 hp
    rw [hp] at hfn
    have hfk := run_findKey (P := P) (w := w) hkt hfn
    cases ok <;> simp only at h5 <;> subst h5 <;> simp [hop, h3, h4, Instr.lookup, run_underlying hmt, Sem.run_bind, hgo, hck, hfk, hzv, hl, Result.andThen]
  | some j =>
    obtain ⟨v, hv⟩ := pos_some hp
    have hl : look a mp = some v := by unfold look; rw [hp]; simp [hv]
    rw [hp] at hfn
    simp only [hl, Option.map_some] at hfn
    have hfk := run_findKey (P := P) (w := w) hkt hfn
    cases ok <;> simp only at h5 <;> subst h5 <;> simp [hop, h3, h4, Instr.lookup, run_underlying hmt, Sem.run_bind, hgo, hck, hfk, hl, Result.andThen]
def muA (b : Nat → Value) (n : Nat) (x : St) : Option Ask :=
  match hd b n x with
  | some q => match q.2.2.op with
    | .mapUpdate t mp ix v => some ⟨[ev b n x.l mp, ev b n x.l ix, ev b n x.l v], [t], x, q⟩
    | _ => none
  | none => none
theorem mu (m i : Nat) (H : Hs w0 L0 w L) {kd : TypeDesc} {enc : α → Value} {bt t kt et : Nat} {mp : List (α × Value)} (a : α) (v : Value) (hi : L[i]? = some (mapI kd enc bt mp)) (hk : ∀ a, IsKey kd (enc a)) (hinj : ∀ a b, enc a = enc b → a = b) (hsb : ∀ a, Instr.sameBits 10000 (enc a) (enc a) = true)
    (k : ∀ w', Hs w0 L0 w' (L.set i (mapI kd enc bt (upd a v mp))) → Goal P B b n d (nx (vX (via P b n m w x (ask (muA b n)))).y (vX (via P b n m w x (ask (muA b n)))).q undef) w')
    (h : vA (via P b n m w x (ask (muA b n))) = vB w (via P b n m w x (ask (muA b n))) := by kernel_rfl)
    (h2 : ((vX (via P b n m w x (ask (muA b n)))).u, (vX (via P b n m w x (ask (muA b n)))).t) = ([.map (some bt), enc a, v], [t]) := by kernel_rfl)
    (ht : mapT P t = some (kt, et) := by kernel_rfl) (hkt : P.underlying kt = some kd := by kernel_rfl) : Goal P B b n d x w := by
  obtain ⟨y, hr, hf⟩ := ask_ok h
  refine run_sound hr ?_
  generalize vX (via P b n m w x (ask (muA b n))) = zz at *
  unfold muA at hf
  split at hf <;> try contradiction
  rename_i q hq
  split at hf <;> try contradiction
  rename_i t' mo ix vo hop
  simp only [Option.some.injEq] at hf
  subst hf
  simp only [Prod.mk.injEq, List.cons.injEq, and_true] at h2
  obtain ⟨⟨h3, h4, h6⟩, rfl⟩ := h2
  obtain ⟨⟨es, ck, hb, hst, hky, hm⟩, _, _⟩ := H.at i hi
  have hmt := mapT_eq ht
  have hfn := findNow_pos hk hinj a es.toList mp 0 hm
  rw [look_eq] at hfn
  have hgo := MapKept.run_getObj_map (P := P) (w := w) hb
  have hck : (Instr.checkKey false 10000 kt (enc a)).run P w = .ok () w := run_checkKey hkt (hk a) _ 9999
  -- what the map becomes
  have fin : ∀ es' ck', MpOk kd enc es' ck' (upd a v mp) → (execOp (ev b n y.l) q.2.2).run P w = .ok .skip { w with heap := w.heap.setIfInBounds bt (.map es' ck') } → Goal P B b n d y w := by
    intro es' ck' hm' hrun
    refine at_hd hq fun j ho hw _ K hK => op_skip ho hw hrun (hK _ _ (k _ ?_))
    exact H.put i hi rfl (Kp.mono (Kp.of_G (G_setObj w bt _)) (fun c hc => (Option.some.inj hc).symm)) (mapI_holds (Has_setObj _ hb) hm') (fun c hc => .inl hc)
  cases hp : pos a mp with
  | none =>
    rw [hp] at hfn
    have hfk := run_findKey (P := P) (w := w) hkt hfn
    have hne : ∀ x ∈ es.toList, x.key ≠ enc a := by
      intro x hx e
      have : (x.key, x.val) ∈ es.toList.map (fun e => (e.key, e.val)) := List.mem_map.2 ⟨x, hx, rfl⟩
      rw [hm] at this
      obtain ⟨p, hp', e'⟩ := List.mem_map.1 this
      simp only [Prod.mk.injEq] at e'
      exact pos_none hp p hp' (hinj _ _ (e'.1.trans e))
    refine fin (es.push { key := enc a, val := v, born := ck }) (ck + 1) ⟨stamped_push hst hne, ?_, ?_⟩ ?_
    · intro x hx
      rw [Array.toList_push] at hx
      rcases List.mem_append.1 hx with r | r
      · exact hky x r
      · rw [List.mem_singleton.1 r]; exact hk a
    · rw [Array.toList_push, List.map_append, hm]; simp [upd, hp]
    · unfold execOp
      simp [hop, h3, h4, h6, Instr.mapUpdate, run_underlying hmt, Sem.run_bind, hgo, hck, hfk, Result.andThen, MapKept.run_setObj_map _ hb]
  | some j =>
    obtain ⟨v0, hv⟩ := pos_some hp
    have hl : look a mp = some v0 := by unfold look; rw [hp]; simp [hv]
    rw [hp] at hfn
    simp only [hl, Option.map_some] at hfn
    have hfk := run_findKey (P := P) (w := w) hkt hfn
    have hkey : ∀ e, es[j]? = some e → e.key = enc a := by
      intro e he
      have h1 : (es.toList.map (fun e => (e.key, e.val)))[j]? = some (e.key, e.val) := by rw [List.getElem?_map]; simp [he]
      rw [hm, List.getElem?_map, hv] at h1
      simp only [Option.map_some, Option.some.injEq, Prod.mk.injEq] at h1
      exact h1.1.symm
    have hlen : j < es.size := by
      have h1 := congrArg List.length hm
      simp only [List.length_map, Array.length_toList] at h1
      have := (List.getElem?_eq_some_iff.1 hv).1
      omega
    refine fin (es.modify j fun e => { e with key := enc a, val := v }) ck ⟨stamped_modify hst _ _ (fun _ _ => rfl) (fun e _ he => (hkey e he).symm), isKey_modify hky _ _ (fun e he => (hkey e he).symm), ?_⟩ ?_
    · simp only [upd, hp]
      apply List.ext_getElem?
      intro i'
      have h1 := congrArg (fun l => l[i']?) hm
      simp only [List.getElem?_map] at h1 ⊢
      rw [List.getElem?_set]
      simp only [Array.getElem?_toList, Array.getElem?_modify] at h1 ⊢
      split
      · rename_i e; subst e
        have := (List.getElem?_eq_some_iff.1 hv).1
        simp [hlen, this]
      · exact h1
    · unfold execOp
      have hkk : ((es[j]?).map (·.key)).getD (enc a) = enc a := by
        cases he : es[j]? with
        | none => rfl
        | some e => simp [hkey e he]
      simp [hop, h3, h4, h6, Instr.mapUpdate, run_underlying hmt, Sem.run_bind, hgo, hck, hfk, Result.andThen, MapKept.run_setObj_map _ hb, hkk, Instr.keyThatStays, hsb]
omit [DecidableEq α] [Rd] in
/-- A new map. -/
theorem mapI_new (kd : TypeDesc) (enc : α → Value) {bt i : Nat} (H : Hs w0 L0 w L) (hi : L[i]? = some (.blk bt (.map #[] 0))) : Hs w0 L0 w (L.set i (mapI kd enc bt [])) :=
  H.as i _ hi rfl (mapI_holds (H.at i hi) ⟨stamped_empty 0, by simp, rfl⟩) (fun _ h => h)
def mlA (b : Nat → Value) (n : Nat) (x : St) : Option Ask :=
  match hd b n x with
  | some q => match q.2.2.op with
    | .call c => match c.callee with
      | .builtin .len => match c.args.toList, c.argTypes.toList with
        | [s], [t] => some ⟨[ev b n x.l s], [t], x, q⟩
        | _, _ => none
      | _ => none
    | _ => none
  | none => none
omit [DecidableEq α] in
end
section
variable [Rd] {P : Program} {B : Exit → Act → World → Prop} {b : Nat → Value} {n : Nat} {d : List Deferred} {w0 w : World} {x : St} {L0 L : List Item}
omit [Rd] in
theorem add_add (a : Addr) (i j : Nat) : (a.add i).add j = a.add (i + j) := by
  unfold Addr.add
  by_cases hi : i = 0
  · subst hi; simp
  · by_cases hj : j = 0
    · subst hj; simp [hi]
    · simp [hi, hj, Nat.add_assoc]
omit [Rd] in
theorem own_cap {w : World} {e sz cap c : Nat} {A : Option Addr} {xs : List Value} (h : (Item.own e sz A cap c xs).holds w) : c ≤ cap := by
  rcases h.2 with ⟨hv, h0⟩ | ⟨g, cap', cur, hv, _, _, hnc, _⟩
  · omega
  · injection hv with _ _ h3; omega
def sfA (P : Program) (b : Nat → Value) (n : Nat) (x : St) : Option Ask :=
  match hd b n x with
  | some q => match q.2.2.op with
    | .slice t s lo hi mx => match lo, hi, mx with
      | some k, none, none => match P.underlying t with
        | some (.slice e) => match P.info? e with
          | some inf => some ⟨[ev b n x.l s, ev b n x.l k], [inf.size], x, q⟩
          | none => none
        | _ => none
      | _, _, _ => none
    | _ => none
  | none => none
/-- s[k:] of a slice. -/
theorem sf (m : Nat) (A : Option Addr) (len cap k sz : Nat) (hk : k ≤ len) (hc : len ≤ cap)
    (g : ∀ C : Option Addr, (C = none → A = none) → (∀ a, C = some a → ∃ a0, A = some a0 ∧ (k < len → a = a0.add (k * sz))) → Goal P B b n d (nx (vX (via P b n m w x (ask (sfA P b n)))).y (vX (via P b n m w x (ask (sfA P b n)))).q (.slice C (len - k) (cap - k))) w)
    (h : vA (via P b n m w x (ask (sfA P b n))) = vB w (via P b n m w x (ask (sfA P b n))) := by kernel_rfl)
    (h2 : ((vX (via P b n m w x (ask (sfA P b n)))).u, (vX (via P b n m w x (ask (sfA P b n)))).t) = ([.slice A len cap, .int .i64 (k : Int)], [sz]) := by kernel_rfl) : Goal P B b n d x w := by
  obtain ⟨y, hr, hf⟩ := ask_ok h
  refine run_sound hr ?_
  generalize vX (via P b n m w x (ask (sfA P b n))) = z at *
  unfold sfA at hf
  split at hf <;> try contradiction
  rename_i q hq
  split at hf <;> try contradiction
  rename_i t s lo hi mx hop
  split at hf <;> try contradiction
  rename_i ko
  split at hf <;> try contradiction
  rename_i e hu
  split at hf <;> try contradiction
  rename_i inf hinf
  simp only [Option.some.injEq] at hf
  subst hf
  simp only [Prod.mk.injEq, List.cons.injEq, and_true] at h2
  obtain ⟨⟨h3, h4⟩, rfl⟩ := h2
  refine hd_val hq (v := .slice (if cap = k then A else A.map (·.add (k * inf.size))) (len - k) (cap - k)) ?_ (g _ ?_ ?_)
  · unfold execOp
    have hl : ((k : Int) ≤ (len : Int)) := by omega
    simp [hop, h3, h4, Instr.sliceAt, Instr.slice, run_underlying hu, Sem.run_bind, Instr.sliceBounds, Instr.sliceBound, asIntOf, go_sem, hl, hk, sizeOf, typeInfo, hinf]
  · intro h; split at h
    · exact h
    · cases A with
      | none => rfl
      | some a => simp at h
  · intro a ha
    split at ha
    · exact ⟨a, ha, fun hlt => by omega⟩
    · cases A with
      | none => simp at ha
      | some a0 => simp only [Option.map_some, Option.some.injEq] at ha; exact ⟨a0, rfl, fun _ => ha.symm⟩
/-- Cells that are read, behind the row that is thing i. -/
theorem aps (m i by_ k' e sz t c' : Nat) (C A : Option Addr) (cap c : Nat) (xs news : List Value) (H : Hs w0 L0 w L) (hC : C = none → k' = 0) (hcell : ∀ a, C = some a → ∀ j u, news[j]? = some u → w.cell? (a.add j) = some u)
    (hl : news.length = k' * sz) (h1 : ∀ u ∈ news, u.oneCell' = true)
    (hb : (c + k') * by_ ≤ 140737488355328) (hn : c + k' ≤ 9223372036854775807) (hcc : c ≤ cap) {xs' : List Value} (hx : xs ++ news = xs')
    (k : ∀ A' cap' w', Hs w0 L0 w' (L.set i (.own e sz A' cap' (c + k') xs')) → Goal P B b n d (nx (vX (via P b n m w x (ask (apA P b n)))).y (vX (via P b n m w x (ask (apA P b n)))).q (.slice A' (c + k') cap')) w')
    (h : vA (via P b n m w x (ask (apA P b n))) = vB w (via P b n m w x (ask (apA P b n))) := by kernel_rfl)
    (hi : L[i]? = some (.own e sz A cap c xs) := by kernel_rfl)
    (h2 : ((vX (via P b n m w x (ask (apA P b n)))).u, (vX (via P b n m w x (ask (apA P b n)))).t) = ([.slice A c cap, .slice C k' c'], [t, t, e, sz, by_, sz, 1]) := by kernel_rfl)
    (hz : Nat.blt 0 sz = true := by kernel_rfl) : Goal P B b n d x w := by
  subst hx
  obtain ⟨y, hr, hf⟩ := ask_ok h
  refine run_sound hr ?_
  generalize vX (via P b n m w x (ask (apA P b n))) = z at *
  unfold apA at hf
  split at hf <;> try contradiction
  rename_i q hq
  split at hf <;> try contradiction
  rename_i cl hop
  split at hf <;> try contradiction
  rename_i hcal
  split at hf <;> try contradiction
  rename_i s yv t1 t2 ha1 ha2
  split at hf <;> try contradiction
  rename_i e1 hu
  split at hf <;> try contradiction
  rename_i inf hinf
  simp only [Option.some.injEq] at hf
  subst hf
  simp only [Prod.mk.injEq, List.cons.injEq, and_true] at h2
  obtain ⟨⟨h3, h4⟩, rfl, rfl, rfl, rfl, rfl, h5, h6⟩ := h2
  have hz0 : inf.zero.map (·.cells.size) = some inf.size := by
    cases hzz : inf.zero with
    | none => simp [hzz] at h6
    | some zv => simp only [hzz, Option.map_some, Option.getD_some] at h5; simp [h5]
  have hcl : cl = { callee := .builtin .append, args := #[s, yv], argTypes := #[t2, t2] } := by
    obtain ⟨ce, ca, ct⟩ := cl
    simp only at hcal ha1 ha2
    subst hcal
    congr 1
    · exact Array.toList_inj.1 ha1
    · exact Array.toList_inj.1 ha2
  have hown := H.at i hi
  obtain ⟨zv, hzv, hzs⟩ := Option.map_eq_some_iff.1 hz0
  have key : ∃ v' w', (Builtin.append_ #[t2, t2] q.2.2.type #[.slice A c cap, .slice C k' c']).run P w = .ok v' w' ∧ w'.ownsRow 0 e1 inf.size v' (c + k') (xs ++ news) ∧ w.grownBy w' (Value.slice A c cap).ownBlock ∧ (v'.ownBlock = (Value.slice A c cap).ownBlock ∨ v'.ownBlock = some w.heap.size) := by
    cases C with
    | some a =>
      obtain ⟨v', w', r1, r2, r3, _, r4⟩ := run_append_own_at (P := P) w 0 t2 q.2.2.type e1 inf zv inf.size inf.bytes hu hinf hzv rfl rfl hzs (Nat.le_of_ble_eq_true hz) _ c xs hown a k' c' news hl (hcell a rfl) h1 (by unfold maxLen; omega) hb (Nat.zero_le _)
      exact ⟨v', w', r1, r2, r3, r4⟩
    | none =>
      obtain rfl := hC rfl
      have hnil : news = [] := List.eq_nil_of_length_eq_zero (by simpa using hl)
      subst hnil
      refine ⟨.slice A c cap, w, ?_, by rw [Nat.add_zero, List.append_nil]; exact hown, ⟨rfl, rfl, rfl, Nat.le_refl _, fun _ _ _ => rfl⟩, .inl rfl⟩
      cases A <;> simp [Builtin.append_, run_underlying hu, sizeOf, typeInfo, hinf, Builtin.lenOf, Builtin.firstCells, hcc, storeCells, Sem.run_bind, Result.andThen]
  obtain ⟨v', w', hrun, hown', hG, hblk⟩ := key
  refine hd_val hq ?_ ?_ (v := v') (w' := w')
  · unfold execOp
    rw [hop, hcl]
    simp [h3, h4, resolve, invoke, builtin, Sem.run_bind, hrun]
  · obtain ⟨A', cap', rfl⟩ := own_shape hown'
    refine k A' cap' w' (H.put i hi rfl (Kp.of_G hG) hown' (fun cc hc => ?_))
    rcases hblk with q | q
    · exact .inl (q.symm.trans hc)
    · exact .inr (Nat.le_of_eq (Option.some.inj (q.symm.trans hc)))
end
end Go.Sx
set_option linter.unusedVariables false
set_option linter.unusedSimpArgs false
namespace Go.Sx
open Go.RowKit Go.Gx
theorem nope {b : Bool} {p : Prop} (h : b = true) (h0 : b = false) : p := by rw [h0] at h; cases h
theorem spN {w : World} {LJ : List Item} (h : LJ = []) : Sp w LJ := by subst h; exact ⟨fun _ h => (by cases h), .nil⟩
structure Tz where
  o : Oper
  k : Value → St
  l : List (Nat × Value)
instance : Inhabited Tz := ⟨⟨default, fun _ => default, []⟩⟩
def tvR (b : Nat → Value) (n i : Nat) (C : List Nat) (x : St) : Option (Nat × Nat × Tz) :=
  match x.f with
  | .any ops LJ D fuel listed => match fuel with
    | fuel + 1 => match ops[i]? with
      | some o => match Region.noSelect ops && (Region.free .any ops listed i && ((Region.ready .any ops listed).contains i && !D.contains i)) && (Region.wanted o (yl ops b n x.l) && (waits .any ops C i && !C.contains i && D.all C.contains && C.all (fun c => !listed.getD c true))) with
        | true => some (0, 0, ⟨o, fun v => ⟨.any ops LJ D fuel (listed.setIfInBounds i true), x.k, putL o v x.l⟩, x.l⟩)
        | false => none
      | none => none
    | 0 => none
  | _ => none
section
variable [Rd] {P : Program} {B : Exit → Act → World → Prop} [Pn B] {b : Nat → Value} {n : Nat} {d : List Deferred} {w0 w : World} {x : St} {L0 L : List Item}
theorem tv (i : Nat) (C : List Nat) (v : Value) (hS : clrA x = true → Sp w (LJof x))
    (hr : ∀ w', Sp w' (LJof x) → (execOp (ev b n (vX (via P b n 0 w x (tvR b n i C))).l) (vX (via P b n 0 w x (tvR b n i C))).o).run P w' = .ok (.value v) w')
    (k : Goal P B b n d ((vX (via P b n 0 w x (tvR b n i C))).k v) w)
    (h : vA (via P b n 0 w x (tvR b n i C)) = vB w (via P b n 0 w x (tvR b n i C))) : Goal P B b n d x w := by
  obtain ⟨a, y, hr0, hf⟩ := via_ok h
  simp only [run, Option.some.injEq, Prod.mk.injEq, true_and] at hr0
  subst hr0
  generalize vX (via P b n 0 w x (tvR b n i C)) = z at *
  obtain ⟨f, kk, l⟩ := x
  unfold tvR at hf
  split at hf <;> try contradiction
  rename_i ops LJ D fuel listed hfo
  split at hf <;> try contradiction
  rename_i fuel
  split at hf <;> try contradiction
  rename_i o ho
  split at hf <;> try contradiction
  rename_i hc
  simp only at hfo
  subst hfo
  simp only [Option.some.injEq, Prod.mk.injEq] at hf
  obtain ⟨_, _, rfl⟩ := hf
  rw [Bool.and_eq_true, Bool.and_eq_true (Region.wanted _ _)] at hc
  obtain ⟨h0, hw, hC⟩ := hc
  simp only [Bool.and_eq_true (Region.noSelect _), Bool.and_eq_true (Region.free _ _ _ _), Bool.and_eq_true (Array.contains _ _), Bool.and_eq_true (List.contains _ _), Bool.not_eq_true'] at h0
  obtain ⟨h1, h2, h3, h4⟩ := h0
  have hC' := hC
  simp only [Bool.and_eq_true] at hC'
  have hcl : clear D listed = true := clear_of hC'.1.2 (fun c hc => by simpa using List.all_eq_true.1 hC'.2 c hc)
  exact anyE_takeS i C v v rfl ho h1 h2 h3 h4 hC (fun _ _ _ => bp_panic) (hS hcl) hw hr k
def iaO (P : Program) (b : Nat → Value) (n : Nat) (z : Tz) : Option (List Value × List Nat) := match z.o.op with
  | .indexAddr t s ix => match P.underlying t with
    | some (.slice e) => match P.info? e with
      | some inf => some ([ev b n z.l s, ev b n z.l ix], [inf.size])
      | none => none
    | _ => none
  | _ => none
/-- A row's element's address. -/
theorem tvi (i : Nat) (C : List Nat) (a : Addr) (j sz len cap : Nat) {A : Option Addr} (hA : A = some a) (hj : j < len) (hS : clrA x = true → Sp w (LJof x))
    (k : Goal P B b n d ((vX (via P b n 0 w x (tvR b n i C))).k (.pointer (some (a.add (j * sz))))) w)
    (h : vA (via P b n 0 w x (tvR b n i C)) = vB w (via P b n 0 w x (tvR b n i C)) := by kernel_rfl)
    (h2 : iaO P b n (vX (via P b n 0 w x (tvR b n i C))) = some ([.slice A len cap, .int .i64 (j : Int)], [sz]) := by kernel_rfl) : Goal P B b n d x w := by
  refine tv i C _ hS (fun w' _ => ?_) k h
  generalize vX (via P b n 0 w x (tvR b n i C)) = z at *
  unfold iaO at h2
  split at h2 <;> try contradiction
  rename_i t s ix hop
  split at h2 <;> try contradiction
  rename_i e hu
  split at h2 <;> try contradiction
  rename_i inf hinf
  simp only [Option.some.injEq, Prod.mk.injEq, List.cons.injEq, and_true] at h2
  obtain ⟨⟨h3, h4⟩, rfl⟩ := h2
  exact run_indexAddrO hop e inf.size hu (by rw [hinf]; rfl) a hA len cap h3 .i64 j h4 hj
/-- The same of a row of one's own. -/
theorem tvg (i : Nat) (C : List Nat) (g j sz len cap : Nat) (hj : j < len) (hS : clrA x = true → Sp w (LJof x))
    (k : Goal P B b n d ((vX (via P b n 0 w x (tvR b n i C))).k (.pointer (some ⟨g, j * sz, none⟩))) w)
    (h : vA (via P b n 0 w x (tvR b n i C)) = vB w (via P b n 0 w x (tvR b n i C)) := by kernel_rfl)
    (h2 : iaO P b n (vX (via P b n 0 w x (tvR b n i C))) = some ([.slice (some ⟨g, 0, none⟩) len cap, .int .i64 (j : Int)], [sz]) := by kernel_rfl) : Goal P B b n d x w := by
  refine tvi i C ⟨g, 0, none⟩ j sz len cap rfl hj hS ?_ h h2
  have e : (⟨g, 0, none⟩ : Addr).add (j * sz) = ⟨g, j * sz, none⟩ := by unfold Addr.add; split <;> simp_all
  rw [e]
  exact k
def ldO (b : Nat → Value) (n : Nat) (z : Tz) : Option (List Value × List Nat) := match z.o.op with
  | .load t s => some ([ev b n z.l s], [t])
  | _ => none
/-- A cell, or some, of a row of one's own. -/
theorem tvl (i : Nat) (C : List Nat) (jj e sz t g cap c off : Nat) (xs : List Value) (v : Value) (hv : loadX P t xs off v) (hS : clrA x = true → Sp w (LJof x))
    (k : Goal P B b n d ((vX (via P b n 0 w x (tvR b n i C))).k v) w)
    (h : vA (via P b n 0 w x (tvR b n i C)) = vB w (via P b n 0 w x (tvR b n i C)) := by kernel_rfl)
    (h2 : ldO b n (vX (via P b n 0 w x (tvR b n i C))) = some ([.pointer (some ⟨g, off, none⟩)], [t]) := by kernel_rfl) (hi : (LJof x)[jj]? = some (.own e sz (some ⟨g, 0, none⟩) cap c xs) := by kernel_rfl) : Goal P B b n d x w := by
  refine tv i C _ hS (fun w' hs => ?_) k h
  generalize vX (via P b n 0 w x (tvR b n i C)) = z at *
  unfold ldO at h2
  split at h2 <;> try contradiction
  rename_i t' s hop
  simp only [Option.some.injEq, Prod.mk.injEq, List.cons.injEq, and_true] at h2
  obtain ⟨h3, rfl⟩ := h2
  obtain ⟨cur, hg, ht, _⟩ := own_cell (hs.all _ (List.mem_of_getElem? hi))
  exact Gx.run_load hop off v h3 hg (loadX_B hv ht)
/-- Cells of a row that is only read. -/
theorem tvo (i : Nat) (C : List Nat) {a : Addr} {t c : Nat} (cs : List Value) (v : Value) (hc : ∀ w', Sp w' (LJof x) → w'.cells? 0 a c = some cs) (hS : clrA x = true → Sp w (LJof x))
    (k : Goal P B b n d ((vX (via P b n 0 w x (tvR b n i C))).k v) w)
    (h : vA (via P b n 0 w x (tvR b n i C)) = vB w (via P b n 0 w x (tvR b n i C)) := by kernel_rfl)
    (h2 : ldO b n (vX (via P b n 0 w x (tvR b n i C))) = some ([.pointer (some a)], [t]) := by kernel_rfl)
    (hm : Nat.beq cs.length c = true := by kernel_rfl) (hv : loadL P t cs = some v := by kernel_rfl) : Goal P B b n d x w := by
  refine tv i C _ hS (fun w' hs => ?_) k h
  generalize vX (via P b n 0 w x (tvR b n i C)) = z at *
  unfold ldO at h2
  split at h2 <;> try contradiction
  rename_i t' s hop
  simp only [Option.some.injEq, Prod.mk.injEq, List.cons.injEq, and_true] at h2
  obtain ⟨h3, rfl⟩ := h2
  exact run_loadO hop cs v h3 c (hc w' hs) hm hv
/-- A value in other words. -/
theorem tva (i : Nat) (C : List Nat) (u v : Value) (e : u = v) (hS : clrA x = true → Sp w (LJof x))
    (k : Goal P B b n d ((vX (via P b n 0 w x (tvR b n i C))).k v) w)
    (h : vA (via P b n 0 w x (tvR b n i C)) = vB w (via P b n 0 w x (tvR b n i C)) := by kernel_rfl)
    (h2 : ∀ w', (execOp (ev b n (vX (via P b n 0 w x (tvR b n i C))).l) (vX (via P b n 0 w x (tvR b n i C))).o).run P w' = .ok (.value u) w' := by intro w'; kernel_rfl) : Goal P B b n d x w := by
  subst e
  exact tv i C _ hS (fun w' _ => h2 w') k h
end
section
variable [Rd] {P : Program} {B : Exit → Act → World → Prop} {b : Nat → Value} {n : Nat} {d : List Deferred} {w0 w : World} {x : St} {L0 L : List Item}
def mkA (P : Program) (b : Nat → Value) (n : Nat) (x : St) : Option Ask :=
  match hd b n x with
  | some q => match q.2.2.op with
    | .makeSlice t l c => match P.underlying t with
      | some (.slice e) => match P.info? e with
        | some inf => match inf.zero with
          | some z => some ⟨[ev b n x.l l, ev b n x.l c, z], [e, inf.size, inf.bytes], x, q⟩
          | none => none
        | none => none
      | _ => none
    | _ => none
  | none => none
/-- A row is made. -/
theorem mk (m e by_ len : Nat) (z : Value) (H : Hs w0 L0 w L) (hb : by_ * len ≤ 281474976710656) (hn : len ≤ 9223372036854775807)
    (k : ∀ g w', Hs w0 L0 w' (L ++ [.own e 1 (some ⟨g, 0, none⟩) len len (List.replicate len z)]) → Goal P B b n d (nx (vX (via P b n m w x (ask (mkA P b n)))).y (vX (via P b n m w x (ask (mkA P b n)))).q (.slice (some ⟨g, 0, none⟩) len len)) w')
    (h : vA (via P b n m w x (ask (mkA P b n))) = vB w (via P b n m w x (ask (mkA P b n))) := by kernel_rfl)
    (h2 : ((vX (via P b n m w x (ask (mkA P b n)))).u, (vX (via P b n m w x (ask (mkA P b n)))).t) = ([.int .i64 (len : Int), .int .i64 (len : Int), z], [e, 1, by_]) := by kernel_rfl) (hz : z.cells = #[z] := by kernel_rfl) : Goal P B b n d x w := by
  obtain ⟨y, hr, hf⟩ := ask_ok h
  refine run_sound hr ?_
  generalize vX (via P b n m w x (ask (mkA P b n))) = zz at *
  unfold mkA at hf
  split at hf <;> try contradiction
  rename_i q hq
  split at hf <;> try contradiction
  rename_i t l c hop
  split at hf <;> try contradiction
  rename_i e1 hu
  split at hf <;> try contradiction
  rename_i inf hinf
  split at hf <;> try contradiction
  rename_i zv hzv
  simp only [Option.some.injEq] at hf
  subst hf
  simp only [Prod.mk.injEq, List.cons.injEq, and_true] at h2
  obtain ⟨⟨h3, h4, rfl⟩, rfl, hsz, rfl⟩ := h2
  obtain ⟨w', hr, hown, hg'⟩ := run_make_full (P := P) w 0 t e1 inf zv 1 hu hinf hzv hsz .i64 .i64 len hb (by unfold maxLen; omega) (Nat.zero_le _)
  rw [hz, Nat.mul_one, toList_madeCells_one] at hown
  refine hd_val hq ?_ (k w.heap.size w' (H.add (it := .own e1 1 (some ⟨w.heap.size, 0, none⟩) len len (List.replicate len zv)) hg' hown (fun c hc => ?_)))
  · unfold execOp
    simp [hop, h3, h4, Sem.run_bind, hr]
  · have : some w.heap.size = some c := hc
    exact Nat.le_of_eq (Option.some.inj this)
end
end Go.Sx
namespace Go.Sx
section
variable [Rd] {P : Program} {B : Exit → Act → World → Prop} {b : Nat → Value} {n : Nat} {d : List Deferred} {w : World} {x : St}
/-- A state gets a name. -/
theorem nmx (k : let z := x; Goal P B b n d z w) : Goal P B b n d x w := k
end
end Go.Sx
namespace Go.Sx
open Go.RowKit Go.Gx
section
variable {w0 w : World} {L0 L : List Item}
end
end Go.Sx
namespace Go.Sx
open Go.RowKit Go.Gx Go.MapKept
section
variable [Rd] {P : Program} {B : Exit → Act → World → Prop} [Pn B] {b : Nat → Value} {n : Nat} {d : List Deferred} {w0 w : World} {x : St} {L0 L : List Item} {α : Type} [DecidableEq α]
omit [Rd] in
end
end Go.Sx
namespace Go.Sx
open Go.RowKit Go.Gx
section
variable {w0 w : World} {L0 L : List Item}
/-- What is only read, said once more in other words. -/
theorem Hs.ro (H : Hs w0 L0 w L) (i : Nat) {S : Nat → Prop} {A B : World → Prop} (hi : L[i]? = some (.ro S A)) (hB : B w) (hl : Loc S B) : Hs w0 L0 w (L ++ [.ro S B]) := by
  have hm : (Item.ro S A) ∈ L := List.mem_of_getElem? hi
  have hA := H.sp.all _ hm
  refine H.step (Kp.refl (fun _ => False) w) (fun _ q => q.elim) ⟨fun j hj => ?_, ?_⟩ ?_ ?_
  · rcases List.mem_append.1 hj with q | q
    · exact H.sp.all j q
    · rw [List.mem_singleton.1 q]; exact ⟨hB, hA.2.1, hl⟩
  · refine List.pairwise_append.2 ⟨H.sp.dis, List.pairwise_singleton _ _, fun x hx y hy => ?_⟩
    rw [List.mem_singleton.1 hy]
    obtain ⟨j, hj⟩ := List.mem_iff_getElem?.1 hx
    obtain ⟨hi', ei⟩ := List.getElem?_eq_some_iff.1 hi
    obtain ⟨hj', ej⟩ := List.getElem?_eq_some_iff.1 hj
    have pw := List.pairwise_iff_getElem.1 H.sp.dis
    intro hw c hc hc'
    rcases Nat.lt_trichotomy j i with r | r | r
    · have := pw j i hj' hi' r; rw [ei, ej] at this; exact this hw c hc hc'
    · subst r; rw [ei] at ej; subst ej; cases hw
    · have := pw i j hi' hj' r; rw [ei, ej] at this; exact this (by rw [Bool.or_comm]; exact hw) c hc' hc
  · intro x hx c hc _
    rcases List.mem_append.1 hx with q | q
    · exact ⟨x, q, hc⟩
    · rw [List.mem_singleton.1 q] at hc; exact ⟨_, hm, hc⟩
  · intro x hx hxw c hc _
    rcases List.mem_append.1 hx with q | q
    · exact ⟨x, q, hxw, hc⟩
    · rw [List.mem_singleton.1 q] at hxw; cases hxw
end
end Go.Sx
namespace Go.Sx
open Go.RowKit Go.Gx
section
variable {w0 w : World} {L0 L L1 : List Item}
/-- Some things become one that is only read. -/
theorem Hs.fz (H : Hs w0 L0 w L) (I : List Nat) (hi : picked I L = some L1) {φ : World → Prop} (hφ : Sp w L1 → φ w) (hl : Loc (fpA L1) φ) : Hs w0 L0 w (.ro (fpA L1) φ :: rest I L) := by
  have k := H.perm (picked_perm hi)
  have pw := List.pairwise_append.1 k.sp.dis
  have s1 : Sp w L1 := ⟨fun it hi => k.sp.all it (List.mem_append_left _ hi), pw.1⟩
  refine ⟨k.kp, ⟨fun it hi => ?_, List.pairwise_cons.2 ⟨fun y hy => ?_, pw.2.1⟩⟩, fun it hi c hc hl => ?_, fun it hi hww c hc hl => ?_⟩
  · rcases List.mem_cons.1 hi with rfl | q
    · exact ⟨hφ s1, fun c ⟨it, hi, hc⟩ => Item.lt (s1.all it hi) hc, hl⟩
    · exact k.sp.all it (List.mem_append_right _ q)
  · rintro hw c ⟨x, hx, hc⟩ hcy
    have : y.wr = true := by simpa [Item.wr] using hw
    exact pw.2.2 x hx y hy (by rw [this, Bool.or_true]) c hc hcy
  · rcases List.mem_cons.1 hi with rfl | q
    · obtain ⟨x, hx, hc⟩ := hc; exact k.ofA x (List.mem_append_left _ hx) c hc hl
    · exact k.ofA it (List.mem_append_right _ q) c hc hl
  · rcases List.mem_cons.1 hi with rfl | q
    · cases hww
    · exact k.ofW it (List.mem_append_right _ q) hww c hc hl
end
end Go.Sx
set_option linter.unusedVariables false
set_option linter.unusedSimpArgs false
namespace Go.Sx
open Go.RowKit Go.Gx Go.MapKept
abbrev bp (b : Nat) : Value := .pointer (some ⟨b, 0, none⟩)
/-- A block of cells. -/
def Cb (w : World) (b : Nat) : Prop := ∃ ca ta, Has w b (.cells ca ta)
theorem eq_bp {P : Program} {w : World} {kt te : TypeId} {inf : TypeInfo} {a b : Nat} (hp : P.underlying kt = some (.pointer te)) (hte : P.info? te = some inf) (hsz : inf.size ≠ 0) (ha : Cb w a) (hb : Cb w b) :
    (Op.equal kt (bp a) (bp b)).run P w = .ok (decide (a = b)) w := by
  have h : ∀ d : Nat, (Op.equalIn (d + 1) kt (bp a) (bp b)).run P w = .ok (decide (a = b)) w := fun d => by
    by_cases e : a = b
    · subst e; simp [Op.equalIn, run_underlying hp, sizeOf, typeInfo, hte, run_sameAddr_same]
    · obtain ⟨ca, ta, ha⟩ := ha
      obtain ⟨cb, tb, hb⟩ := hb
      have hne : (⟨a, 0, none⟩ : Addr) ≠ ⟨b, 0, none⟩ := fun q => e (by injection q)
      simp [Op.equalIn, run_underlying hp, sizeOf, typeInfo, hte, hsz, run_sameAddr_other w hne ha hb, e]
  simp [Op.equal, Op.maxDepth, h 9999]
theorem find_bp {P : Program} {w : World} {kt te : TypeId} {inf : TypeInfo} {a : Nat} (hp : P.underlying kt = some (.pointer te)) (hte : P.info? te = some inf) (hsz : inf.size ≠ 0) (ha : Cb w a) :
    ∀ (es : List MapEntry) (m : List (Nat × Value)) (s : Nat), (∀ p ∈ m, Cb w p.1) → es.map (fun e => (e.key, e.val)) = m.map (fun p => (bp p.1, p.2)) →
      (Instr.findAsking kt (bp a) es s).run P w = .ok ((pos a m).bind fun j => (m[j]?).map fun p => (s + j, p.2)) w
  | [], [], _, _, _ => by simp [Instr.findAsking, pos]
  | [], _ :: _, _, _, h => by simp at h
  | _ :: _, [], _, _, h => by simp at h
  | e :: es, p :: m, s, hk, h => by
    simp only [List.map_cons, List.cons.injEq, Prod.mk.injEq] at h
    obtain ⟨⟨h1, h2⟩, h3⟩ := h
    have heq := eq_bp hp hte hsz ha (hk p (.head _))
    have ih := find_bp hp hte hsz ha es m (s + 1) (fun q hq => hk q (.tail _ hq)) h3
    by_cases e1 : a = p.1
    · rw [decide_eq_true e1] at heq
      simp only [Instr.findAsking, h1, Sem.run_bind, heq, Result.andThen, pos, if_pos e1.symm, if_true]
      simp [h2]
    · rw [decide_eq_false e1] at heq
      simp only [Instr.findAsking, h1, Sem.run_bind, heq, Result.andThen, pos, if_neg (Ne.symm e1), Bool.false_eq_true, if_false, ih]
      cases pos a m with
      | none => rfl
      | some j => simp only [Option.bind_some, Option.map_some, List.getElem?_cons_succ]; congr 2; funext q; congr 1; omega
theorem key_bp {P : Program} {w : World} {kt te : TypeId} {inf : TypeInfo} {a : Nat} (hp : P.underlying kt = some (.pointer te)) (hte : P.info? te = some inf) (hsz : inf.size ≠ 0) (ha : Cb w a)
    (es : List MapEntry) (m : List (Nat × Value)) (hk : ∀ p ∈ m, Cb w p.1) (h : es.map (fun e => (e.key, e.val)) = m.map (fun p => (bp p.1, p.2))) :
    (Instr.findKey kt (bp a) es).run P w = .ok ((pos a m).bind fun j => (m[j]?).map fun p => (0 + j, p.2)) w := by
  cases es with
  | nil => cases m with
    | nil => simp [Instr.findKey, run_underlying hp, Instr.findNow, pos]
    | cons p m => simp at h
  | cons e es =>
    have hf := find_bp hp hte hsz ha (e :: es) m 0 hk h
    have hn : Instr.findNow (.pointer te) (bp a) (e :: es) 0 = none := by
      cases m with
      | nil => simp at h
      | cons p m =>
        simp only [List.map_cons, List.cons.injEq, Prod.mk.injEq] at h
        simp [Instr.findNow, Instr.sameNow, h.1.1]
    simp [Instr.findKey, run_underlying hp, hn, hf]
/-- A map keyed by pointers to blocks. -/
def pkI (bt : Nat) (m : List (Nat × Value)) : Item := .abs (fun c => c = bt) (fun w => ∃ es ck, Has w bt (.map es ck) ∧ es.toList.map (fun e => (e.key, e.val)) = m.map (fun p => (bp p.1, p.2)))
theorem pkI_holds {bt : Nat} {m : List (Nat × Value)} {w : World} {es : Array MapEntry} {ck : Nat} (h : Has w bt (.map es ck)) (hm : es.toList.map (fun e => (e.key, e.val)) = m.map (fun p => (bp p.1, p.2))) : (pkI bt m).holds w :=
  ⟨⟨es, ck, h, hm⟩, fun c hc => by cases hc; exact h.lt, fun w w' _ hk ⟨es, ck, h1, h2⟩ => ⟨es, ck, (hk bt rfl).trans h1, h2⟩⟩
theorem pk_new {w0 w : World} {L0 L : List Item} {bt i : Nat} (H : Hs w0 L0 w L) (hi : L[i]? = some (.blk bt (.map #[] 0))) : Hs w0 L0 w (L.set i (pkI bt [])) :=
  H.as i _ hi rfl (pkI_holds (H.at i hi) rfl) (fun _ h => h)
def peA (b : Nat → Value) (n : Nat) (x : St) : Option Ask :=
  match hd b n x with
  | some q => match q.2.2.op with
    | .binOp op t y z t' => match op with
      | .eql => some ⟨[ev b n x.l y, ev b n x.l z], [t], x, q⟩
      | _ => none
    | _ => none
  | none => none
section
variable [Rd] {P : Program} {B : Exit → Act → World → Prop} {b : Nat → Value} {n : Nat} {d : List Deferred} {w0 w : World} {x : St} {L0 L : List Item}
/-- Are two pointers the same? -/
theorem peq (m p q : Nat) (t : Bool) (hp : Cb w p) (hq : Cb w q) (ht : decide (p = q) = t)
    (k : Goal P B b n d (nx (vX (via P b n m w x (ask (peA b n)))).y (vX (via P b n m w x (ask (peA b n)))).q (.bool t)) w)
    (h : vA (via P b n m w x (ask (peA b n))) = vB w (via P b n m w x (ask (peA b n))) := by kernel_rfl)
    {kt : Nat} (h2 : ((vX (via P b n m w x (ask (peA b n)))).u, (vX (via P b n m w x (ask (peA b n)))).t) = ([bp p, bp q], [kt]) := by kernel_rfl)
    {te : TypeId} (hkt : P.underlying kt = some (.pointer te) := by kernel_rfl) (hs : (match P.info? te with | some inf => Nat.blt 0 inf.size | none => false) = true := by kernel_rfl) : Goal P B b n d x w := by
  obtain ⟨y, hr, hf⟩ := ask_ok h
  refine run_sound hr ?_
  generalize vX (via P b n m w x (ask (peA b n))) = zz at *
  unfold peA at hf
  split at hf <;> try contradiction
  rename_i qq hqq
  split at hf <;> try contradiction
  rename_i op t1 y1 z1 t2 hop
  split at hf <;> try contradiction
  simp only [Option.some.injEq] at hf
  subst hf
  simp only [Prod.mk.injEq, List.cons.injEq, and_true] at h2
  obtain ⟨⟨h3, h4⟩, rfl⟩ := h2
  cases hinf : P.info? te with
  | none => rw [hinf] at hs; cases hs
  | some inf =>
    rw [hinf] at hs
    have he := eq_bp hkt hinf (by have := Nat.le_of_ble_eq_true hs; omega) hp hq
    refine hd_val hqq ?_ k
    unfold execOp
    subst ht
    simp [hop, h3, h4, binOp, Sem.run_bind, he, Result.andThen, eqGuard]
theorem lkB (m i a : Nat) (mp : List (Nat × Value)) (z : Value) (H : Hs w0 L0 w L) {bt t kt et : Nat} (ha : Cb w a) (hks : ∀ p ∈ mp, Cb w p.1) (hi : L[i]? = some (pkI bt mp)) {v : Value} (hv : (look a mp).getD z = v)
    (kk : Goal P B b n d (nx (vX (via P b n m w x (ask (lkA b n)))).y (vX (via P b n m w x (ask (lkA b n)))).q v) w)
    (h : vA (via P b n m w x (ask (lkA b n))) = vB w (via P b n m w x (ask (lkA b n))) := by kernel_rfl)
    (h2 : ((vX (via P b n m w x (ask (lkA b n)))).u, (vX (via P b n m w x (ask (lkA b n)))).t) = ([.map (some bt), bp a], [t, 0]) := by kernel_rfl)
    (ht : mapT P t = some (kt, et) := by kernel_rfl) {te : TypeId} (hkt : P.underlying kt = some (.pointer te) := by kernel_rfl) (hs : (match P.info? te with | some inf => Nat.blt 0 inf.size | none => false) = true := by kernel_rfl) (hz : (P.info? et).bind (·.zero) = some z := by kernel_rfl) : Goal P B b n d x w := by
  obtain ⟨y, hr, hf⟩ := ask_ok h
  refine run_sound hr ?_
  generalize vX (via P b n m w x (ask (lkA b n))) = zz at *
  unfold lkA at hf
  split at hf <;> try contradiction
  rename_i q hq
  split at hf <;> try contradiction
  rename_i t' mo ix ok hop
  simp only [Option.some.injEq] at hf
  subst hf
  simp only [Prod.mk.injEq, List.cons.injEq, and_true] at h2
  obtain ⟨⟨h3, h4⟩, rfl, h5⟩ := h2
  obtain ⟨⟨es, ck, hb, hm⟩, _, _⟩ := H.at i hi
  have hmt := mapT_eq ht
  have hzv : (zeroValue et).run P w = .ok z w := by
    cases hinf : P.info? et with
    | none => simp [hinf] at hz
    | some inf => rw [hinf] at hz; simp only [Option.bind_some] at hz; simp [zeroValue, typeInfo, hinf, hz]
  subst hv
  refine hd_val hq ?_ kk
  unfold execOp
  have hgo := MapKept.run_getObj_map (P := P) (w := w) hb
  have hck : ∀ em, (Instr.checkKey em 10000 kt (bp a)).run P w = .ok () w := fun em => by unfold Instr.checkKey; simp only [Sem.run_bind, run_underlying hkt, Result.andThen]; rfl
  cases hinf : P.info? te with
  | none => rw [hinf] at hs; cases hs
  | some inf =>
    rw [hinf] at hs
    have hfk := key_bp hkt hinf (by have := Nat.le_of_ble_eq_true hs; omega) ha es.toList mp hks hm
    rw [look_eq] at hfk
    cases hp : pos a mp with
    | none =>
      have hl := look_none.2 hp
      rw [hp] at hfk
      cases ok with
      | true => simp at h5
      | false => simp [hop, h3, h4, Instr.lookup, run_underlying hmt, Sem.run_bind, hgo, hck, hfk, hzv, hl, Result.andThen]
    | some j =>
      obtain ⟨v, hv⟩ := pos_some hp
      have hl : look a mp = some v := by unfold look; rw [hp]; simp [hv]
      rw [hp] at hfk
      simp only [hl, Option.map_some] at hfk
      cases ok with
      | true => simp at h5
      | false => simp [hop, h3, h4, Instr.lookup, run_underlying hmt, Sem.run_bind, hgo, hck, hfk, hl, Result.andThen]
theorem muB (m i a : Nat) (mp : List (Nat × Value)) (v : Value) (H : Hs w0 L0 w L) {bt t kt et : Nat} (ha : Cb w a) (hks : ∀ p ∈ mp, Cb w p.1) (hi : L[i]? = some (pkI bt mp)) {mp' : List (Nat × Value)} (hmp : upd a v mp = mp')
    (k : ∀ w', Hs w0 L0 w' (L.set i (pkI bt mp')) → Goal P B b n d (nx (vX (via P b n m w x (ask (muA b n)))).y (vX (via P b n m w x (ask (muA b n)))).q undef) w')
    (h : vA (via P b n m w x (ask (muA b n))) = vB w (via P b n m w x (ask (muA b n))) := by kernel_rfl)
    (h2 : ((vX (via P b n m w x (ask (muA b n)))).u, (vX (via P b n m w x (ask (muA b n)))).t) = ([.map (some bt), bp a, v], [t]) := by kernel_rfl)
    (ht : mapT P t = some (kt, et) := by kernel_rfl) {te : TypeId} (hkt : P.underlying kt = some (.pointer te) := by kernel_rfl) (hs : (match P.info? te with | some inf => Nat.blt 0 inf.size | none => false) = true := by kernel_rfl) : Goal P B b n d x w := by
  subst hmp
  obtain ⟨y, hr, hf⟩ := ask_ok h
  refine run_sound hr ?_
  generalize vX (via P b n m w x (ask (muA b n))) = zz at *
  unfold muA at hf
  split at hf <;> try contradiction
  rename_i q hq
  split at hf <;> try contradiction
  rename_i t' mo ix vo hop
  simp only [Option.some.injEq] at hf
  subst hf
  simp only [Prod.mk.injEq, List.cons.injEq, and_true] at h2
  obtain ⟨⟨h3, h4, h6⟩, rfl⟩ := h2
  obtain ⟨⟨es, ck, hb, hm⟩, _, _⟩ := H.at i hi
  have hmt := mapT_eq ht
  have hgo := MapKept.run_getObj_map (P := P) (w := w) hb
  have hck : ∀ em, (Instr.checkKey em 10000 kt (bp a)).run P w = .ok () w := fun em => by unfold Instr.checkKey; simp only [Sem.run_bind, run_underlying hkt, Result.andThen]; rfl
  have fin : ∀ es' : Array MapEntry, ∀ ck', es'.toList.map (fun e => (e.key, e.val)) = (upd a v mp).map (fun p => (bp p.1, p.2)) → (execOp (ev b n y.l) q.2.2).run P w = .ok .skip { w with heap := w.heap.setIfInBounds bt (.map es' ck') } → Goal P B b n d y w := by
    intro es' ck' hm' hrun
    refine at_hd hq fun j ho hw _ K hK => op_skip ho hw hrun (hK _ _ (k _ ?_))
    exact H.put i hi rfl (Kp.mono (Kp.of_G (G_setObj w bt _)) (fun c hc => (Option.some.inj hc).symm)) (pkI_holds (Has_setObj _ hb) hm') (fun c hc => .inl hc)
  cases hinf : P.info? te with
  | none => rw [hinf] at hs; cases hs
  | some inf =>
    rw [hinf] at hs
    have hfk := key_bp hkt hinf (by have := Nat.le_of_ble_eq_true hs; omega) ha es.toList mp hks hm
    rw [look_eq] at hfk
    cases hp : pos a mp with
    | none =>
      rw [hp] at hfk
      refine fin (es.push { key := bp a, val := v, born := ck }) (ck + 1) ?_ ?_
      · rw [Array.toList_push, List.map_append, hm]; simp [upd, hp]
      · unfold execOp
        simp [hop, h3, h4, h6, Instr.mapUpdate, run_underlying hmt, Sem.run_bind, hgo, hck, hfk, Result.andThen, MapKept.run_setObj_map _ hb]
    | some j =>
      obtain ⟨v0, hv⟩ := pos_some hp
      have hl : look a mp = some v0 := by unfold look; rw [hp]; simp [hv]
      rw [hp] at hfk
      simp only [hl, Option.map_some] at hfk
      have hkey : ∀ e, es[j]? = some e → e.key = bp a := by
        intro e he
        have h1 : (es.toList.map (fun e => (e.key, e.val)))[j]? = some (e.key, e.val) := by rw [List.getElem?_map]; simp [he]
        rw [hm, List.getElem?_map, hv] at h1
        simp only [Option.map_some, Option.some.injEq, Prod.mk.injEq] at h1
        exact h1.1.symm
      have hlen : j < es.size := by
        have h1 := congrArg List.length hm
        simp only [List.length_map, Array.length_toList] at h1
        have := (List.getElem?_eq_some_iff.1 hv).1
        omega
      refine fin (es.modify j fun e => { e with key := bp a, val := v }) ck ?_ ?_
      · simp only [upd, hp]
        apply List.ext_getElem?
        intro i'
        have h1 := congrArg (fun l => l[i']?) hm
        simp only [List.getElem?_map] at h1 ⊢
        rw [List.getElem?_set]
        simp only [Array.getElem?_toList, Array.getElem?_modify] at h1 ⊢
        split
        · rename_i e; subst e
          have := (List.getElem?_eq_some_iff.1 hv).1
          simp [hlen, this]
        · exact h1
      · unfold execOp
        have hkk : ((es[j]?).map (·.key)).getD (bp a) = bp a := by
          cases he : es[j]? with
          | none => rfl
          | some e => simp [hkey e he]
        simp [hop, h3, h4, h6, Instr.mapUpdate, run_underlying hmt, Sem.run_bind, hgo, hck, hfk, Result.andThen, MapKept.run_setObj_map _ hb, hkk, Instr.keyThatStays, Instr.sameBits]
/-- How many a map has. -/
theorem mlB (m i : Nat) (mp : List (Nat × Value)) (H : Hs w0 L0 w L) {bt t kt et : Nat} (hi : L[i]? = some (pkI bt mp)) {c : Nat} (hc : mp.length = c)
    (k : Goal P B b n d (nx (vX (via P b n m w x (ask (mlA b n)))).y (vX (via P b n m w x (ask (mlA b n)))).q (.int .i64 (c : Int))) w)
    (h : vA (via P b n m w x (ask (mlA b n))) = vB w (via P b n m w x (ask (mlA b n))) := by kernel_rfl)
    (h2 : ((vX (via P b n m w x (ask (mlA b n)))).u, (vX (via P b n m w x (ask (mlA b n)))).t) = ([.map (some bt)], [t]) := by kernel_rfl)
    (ht : mapT P t = some (kt, et) := by kernel_rfl) : Goal P B b n d x w := by
  subst hc
  obtain ⟨y, hr, hf⟩ := ask_ok h
  refine run_sound hr ?_
  generalize vX (via P b n m w x (ask (mlA b n))) = zz at *
  unfold mlA at hf
  split at hf <;> try contradiction
  rename_i q hq
  split at hf <;> try contradiction
  rename_i cl hop
  split at hf <;> try contradiction
  rename_i hcal
  split at hf <;> try contradiction
  rename_i s t1 ha1 ha2
  simp only [Option.some.injEq] at hf
  subst hf
  simp only [Prod.mk.injEq, List.cons.injEq, and_true] at h2
  obtain ⟨h3, rfl⟩ := h2
  obtain ⟨⟨es, ck, hb, hm⟩, _, _⟩ := H.at i hi
  have hmt := mapT_eq ht
  have hcl : cl = { callee := .builtin .len, args := #[s], argTypes := #[t1] } := by
    obtain ⟨ce, ca, ct⟩ := cl
    simp only at hcal ha1 ha2
    subst hcal
    congr 1
    · exact Array.toList_inj.1 ha1
    · exact Array.toList_inj.1 ha2
  have hsz : es.size = mp.length := by have := congrArg List.length hm; simpa using this
  refine hd_val hq ?_ k
  unfold execOp
  rw [hop, hcl]
  simp [h3, resolve, invoke, builtin, Builtin.len_, Builtin.lenOf, run_underlying hmt, Sem.run_bind, MapKept.run_getObj_map hb, Result.andThen, hsz, goInt]
end
end Go.Sx
set_option linter.unusedVariables false
set_option linter.unusedSimpArgs false
namespace Go.Inf
open Go.RowKit Go.Sx
section
variable {P : Program} {t i : Nat}
end
/-! ### Lists of names -/
/-- A row of names that is only read. -/
def Strs (w : World) (S : Nat → Prop) (A : Option Addr) (l : List Nm) : Prop := ∀ i s, l[i]? = some s → ∃ a, A = some a ∧ S a.block ∧ w.cells? 0 (a.add (i * 1)) 1 = some [.string s]
theorem cells_same {w w' : World} {a : Addr} {n : Nat} {cs : List Value} (h : w.cells? 0 a n = some cs) (x : w'.heap[a.block]? = w.heap[a.block]?) : w'.cells? 0 a n = some cs := by
  have e : (fun i => w'.cell? (a.add i)) = fun i => w.cell? (a.add i) := funext fun i => by
    unfold World.cell?
    have : (a.add i).block = a.block := by unfold Addr.add; split <;> rfl
    rw [this, x]
  unfold World.cells? at h ⊢
  rw [e]
  exact h
theorem add_block (a : Addr) (n : Nat) : (a.add n).block = a.block := by unfold Addr.add; split <;> rfl
theorem Strs.keep {w w' : World} {S : Nat → Prop} {A : Option Addr} {l : List Nm} (h : Strs w S A l) (k : ∀ c, S c → w'.heap[c]? = w.heap[c]?) : Strs w' S A l := fun i s hs => by
  obtain ⟨a, ha, hS, hc⟩ := h i s hs
  exact ⟨a, ha, hS, cells_same hc (by rw [add_block]; exact k _ hS)⟩
theorem Strs.mono {w : World} {S S' : Nat → Prop} {A : Option Addr} {l : List Nm} (h : Strs w S A l) (k : ∀ c, S c → S' c) : Strs w S' A l := fun i s hs => by
  obtain ⟨a, ha, hS, hc⟩ := h i s hs
  exact ⟨a, ha, k _ hS, hc⟩
/-- A list of names that nobody else has. -/
def strI (S : Nat → Prop) (A : Option Addr) (l : List Nm) : Sx.Item := .abs S (fun w => Strs w S A l)
def strs (l : List Nm) : List Value := l.map Value.string
theorem strI_loc (S : Nat → Prop) (A : Option Addr) (l : List Nm) : Sx.Loc S (fun w => Strs w S A l) := fun _ _ _ hk h => h.keep hk
/-- A list's name at a place. -/
def gn (l : List Nm) (i : Nat) : Nm := (l[i]?).getD ⟨#[]⟩
theorem gn_at {l : List Nm} {i : Nat} (h : i < l.length) : l[i]? = some (gn l i) := by simp [gn, h]
theorem leN_eq (a b : Nm) : leN a b = (Go.Op.bytesLess a.toList b.toList || (a.toList == b.toList)) := by unfold leN; rw [ByteArray.toList_eq, ByteArray.toList_eq]
theorem eqN_eq (a b : Nm) : eqN a b = (a.toList == b.toList) := by unfold eqN; rw [ByteArray.toList_eq, ByteArray.toList_eq]
theorem Strs.nil {w : World} {S : Nat → Prop} {l : List Nm} (h : Strs w S none l) : l = [] := by
  cases l with
  | nil => rfl
  | cons s l => obtain ⟨a, ha, _⟩ := h 0 s rfl; cases ha
theorem strs_app (l : List Nm) (s : Nm) : strs l ++ [.string s] = strs (l ++ [s]) := by simp [strs]
theorem strs_take {l : List Nm} {i : Nat} (h : i < l.length) : strs (l.take i) ++ [.string (gn l i)] = strs (l.take (i + 1)) := by
  rw [strs_app, List.take_add_one, gn_at h]; rfl
theorem strs_cat (l m : List Nm) : strs l ++ strs m = strs (l ++ m) := by simp [strs]
theorem strs_one (l : List Nm) : ∀ u ∈ strs l, u.oneCell' = true := by
  intro u hu
  obtain ⟨s, _, rfl⟩ := List.mem_map.1 hu
  rfl
theorem putN_at {s : Nm} : ∀ {l : List Nm} {i : Nat}, i ≤ l.length → (∀ j, j < i → leN (gn l j) s = true) → (i = l.length ∨ leN (gn l i) s = false) → putN l s = l.take i ++ s :: l.drop i
  | [], i, h, _, _ => by have : i = 0 := by simpa using h
                         subst this; rfl
  | x :: l, 0, _, _, hx => by
    rcases hx with q | q
    · simp at q
    · have : leN x s = false := q
      simp [putN, this]
  | x :: l, i + 1, h, hle, hx => by
    have h0 : leN x s = true := hle 0 (by omega)
    simp only [putN, h0, if_true, List.take_succ_cons, List.drop_succ_cons, List.cons_append]
    have e : gn (x :: l) (i + 1) = gn l i := by simp [gn]
    have hx' : i = l.length ∨ leN (gn l i) s = false := hx.imp (fun q => by simpa using q) (fun q => e ▸ q)
    rw [putN_at (l := l) (i := i) (by simpa using h) (fun j hj => hle (j + 1) (by omega)) hx']
theorem putN_len (l : List Nm) (s : Nm) : (putN l s).length = l.length + 1 := by
  induction l with
  | nil => rfl
  | cons x l ih => unfold putN; split <;> simp [ih]
theorem and2 {a b : Bool} (h : (a && b) = true) : a = true ∧ b = true := by cases a <;> cases b <;> simp_all
theorem and0 {a b : Bool} (h : (a && b) = false) : a = false ∨ b = false := by cases a <;> cases b <;> simp_all
theorem strI_nil {w : World} : (strI (fun _ => False) none []).holds w := ⟨fun _ _ h => by simp at h, fun _ h => h.elim, strI_loc _ _ _⟩
/-- A row of one's own of names, as such a list. -/
theorem own_strI {w : World} {e n cap : Nat} {A : Option Addr} {l : List Nm} (h : w.ownsRow 0 e 1 (.slice A n cap) n (strs l)) : (strI (fun c => (Value.slice A n cap).ownBlock = some c) A l).holds w := by
  refine ⟨fun i s hs => ?_, fun c hc => own_lt h hc, strI_loc _ _ _⟩
  have hn : l.length = n := by have := h.1; simpa [strs] using this
  have hi : i < n := by rw [← hn]; exact (List.getElem?_eq_some_iff.1 hs).1
  rcases h.2 with ⟨_, h0⟩ | ⟨g, cap', cur, hv, _, hg, hnc, _, hcs, ht⟩
  · omega
  · injection hv with h1 h2 h3
    subst h1 h3
    refine ⟨_, rfl, rfl, ?_⟩
    have hc : cur[i]? = some (.string s) := by
      have : (cur.toList.take (n * 1))[i]? = some (.string s) := by rw [ht, strs, List.getElem?_map, hs]; rfl
      rw [List.getElem?_take, if_pos (by omega)] at this
      simpa using this
    have : (⟨g, 0, none⟩ : Addr).add (i * 1) = ⟨g, i, none⟩ := by unfold Addr.add; split <;> simp_all
    rw [this]
    refine ChangeShapes.cells?_of (Nat.zero_le _) rfl (fun j hj => ?_)
    have hj0 : j = 0 := by simpa using hj
    subst hj0
    rw [Nat.add_zero, cell_of_row w g i cur e (0, 0) hg]
    simpa using hc
section
variable {w0 w : World} {L0 L : List Sx.Item}
theorem Hs.toStr (H : Hs w0 L0 w L) (i : Nat) {e n cap : Nat} {A : Option Addr} {l : List Nm} (hi : L[i]? = some (.own e 1 A cap n (strs l))) : Hs w0 L0 w (L.set i (strI (fun c => (Value.slice A n cap).ownBlock = some c) A l)) :=
  H.as i _ hi rfl (own_strI (H.at i hi)) (fun _ h => h)
end
/-! ### The graph -/
abbrev Slot := Option Addr × Nat × Nat
def slV (s : Slot) : Value := .slice s.1 s.2.1 s.2.2
def OpsAt (w : World) (S : Nat → Prop) (sl : List Slot) (ops : List (List Nm)) : Prop := sl.length = ops.length ∧ ∀ (r : Nat) (s : Slot) (l : List Nm), sl[r]? = some s → ops[r]? = some l → s.2.1 = l.length ∧ Strs w S s.1 l
def rowsI (S : Nat → Prop) (sl : List Slot) (ops : List (List Nm)) : Sx.Item := .abs S (fun w => OpsAt w S sl ops)
theorem rowsI_loc (S : Nat → Prop) (sl : List Slot) (ops : List (List Nm)) : Sx.Loc S (fun w => OpsAt w S sl ops) := fun _ _ _ hk h => ⟨h.1, fun r s l h1 h2 => ⟨(h.2 r s l h1 h2).1, (h.2 r s l h1 h2).2.keep hk⟩⟩
abbrev encN (n : Int) : Value := .int .i64 n
structure Gm where
  k : Option Addr × Nat
  a : Option Addr × Nat
  b : Option Addr × Nat
  r : Option Addr × Nat
  l : Option Addr × Nat
  o : Option Addr × Nat
  n : Option Addr × Nat
  bt : Nat
  br : Nat
  sl : List Slot
  S : Nat → Prop
  nk : Nat
  no : Nat
section
variable {w0 w : World} {L0 L : List Sx.Item}
theorem Strs.drop {w : World} {S : Nat → Prop} {A C : Option Addr} {l : List Nm} {k : Nat} (h : Strs w S A l) (hC : ∀ a, C = some a → ∃ a0, A = some a0 ∧ (k < l.length → a = a0.add (k * 1))) (hn : C = none → A = none) : Strs w S C (l.drop k) := fun i s hs => by
  rw [List.getElem?_drop] at hs
  have hk : k < l.length := by have := (List.getElem?_eq_some_iff.1 hs).1; omega
  obtain ⟨a0, ha, hS, hc⟩ := h (k + i) s hs
  cases C with
  | none => rw [hn rfl] at ha; cases ha
  | some a =>
    obtain ⟨a1, h1, h2⟩ := hC a rfl
    rw [ha] at h1; cases h1
    have := h2 hk
    subst this
    refine ⟨_, rfl, by rw [add_block]; exact hS, ?_⟩
    rw [add_add, ← Nat.add_mul]
    exact hc
theorem Strs.cell {w : World} {S : Nat → Prop} {A : Option Addr} {l : List Nm} (h : Strs w S A l) {a : Addr} (ha : A = some a) : ∀ j u, (strs l)[j]? = some u → w.cell? (a.add j) = some u := by
  intro j u hu
  rw [strs, List.getElem?_map] at hu
  cases hs : l[j]? with
  | none => simp [hs] at hu
  | some s =>
    rw [hs, Option.map_some] at hu
    cases hu
    obtain ⟨a', ha', _, hc⟩ := h j s hs
    rw [ha] at ha'; cases ha'
    have := (World.cells?_some hc).2.2 0 (by decide)
    rw [show (a.add (j * 1)).add 0 = a.add j by rw [Nat.mul_one]; simp [Addr.add]] at this
    simpa using this
/-- A new row joins the rows. -/
theorem rows_add (H : Hs w0 L0 w L) (I : List Nat) {S S2 : Nat → Prop} {sl : List Slot} {ops : List (List Nm)} {A : Option Addr} {l : List Nm} {c n : Nat} (hp : picked I L = some [rowsI S sl ops, strI S2 A l]) (hn : n = l.length) :
    ∃ S', Hs w0 L0 w (rowsI S' (sl ++ [(A, n, c)]) (ops ++ [l]) :: rest I L) := by
  have h1 := H.pick I hp
  have a := (h1.at 0 rfl).1
  have b := (h1.at 1 rfl).1
  have k := H.cls I hp (shape := fun L => L = [rowsI S sl ops, strI S2 A l]) rfl rfl
  have e : ∀ q, fpA [rowsI S sl ops, strI S2 A l] q ↔ S q ∨ S2 q := fun q => by simp [fpA, rowsI, strI, Sx.Item.fp]
  refine ⟨fun q => S q ∨ S2 q, k.as 0 (rowsI (fun q => S q ∨ S2 q) (sl ++ [(A, n, c)]) (ops ++ [l])) rfl rfl ⟨⟨by simp [a.1], fun r s l' hs hl => ?_⟩, fun q hq => ?_, rowsI_loc _ _ _⟩ (fun q hq => (e q).2 hq)⟩
  · rcases Nat.lt_or_ge r sl.length with q | q
    · rw [List.getElem?_append_left q] at hs
      rw [List.getElem?_append_left (by rw [← a.1]; exact q)] at hl
      exact ⟨(a.2 r s l' hs hl).1, (a.2 r s l' hs hl).2.mono (fun _ h => .inl h)⟩
    · rw [List.getElem?_append_right q] at hs
      rw [List.getElem?_append_right (by rw [← a.1]; exact q)] at hl
      rw [← a.1] at hl
      cases hr : r - sl.length with
      | zero => rw [hr] at hs hl; simp at hs hl; subst hs hl; exact ⟨hn, b.mono (fun _ h => .inr h)⟩
      | succ j => rw [hr] at hs; simp at hs
  · rcases hq with q' | q'
    · exact (h1.at 0 rfl).2.1 q q'
    · exact (h1.at 1 rfl).2.1 q q'
/-- A row of the rows is another one now. -/
theorem rows_set (H : Hs w0 L0 w L) (I : List Nat) (v : Nat) {S S2 : Nat → Prop} {sl : List Slot} {ops : List (List Nm)} {A : Option Addr} {l : List Nm} {c n : Nat} (hp : picked I L = some [rowsI S sl ops, strI S2 A l]) (hn : n = l.length) :
    ∃ S', Hs w0 L0 w (rowsI S' (sl.set v (A, n, c)) (ops.set v l) :: rest I L) := by
  have h1 := H.pick I hp
  have a := (h1.at 0 rfl).1
  have b := (h1.at 1 rfl).1
  have k := H.cls I hp (shape := fun L => L = [rowsI S sl ops, strI S2 A l]) rfl rfl
  have e : ∀ q, fpA [rowsI S sl ops, strI S2 A l] q ↔ S q ∨ S2 q := fun q => by simp [fpA, rowsI, strI, Sx.Item.fp]
  refine ⟨fun q => S q ∨ S2 q, k.as 0 (rowsI (fun q => S q ∨ S2 q) (sl.set v (A, n, c)) (ops.set v l)) rfl rfl ⟨⟨by simp [a.1], fun r s l' hs hl => ?_⟩, fun q hq => ?_, rowsI_loc _ _ _⟩ (fun q hq => (e q).2 hq)⟩
  · rw [List.getElem?_set] at hs hl
    by_cases q : v = r
    · subst q
      rw [if_pos rfl] at hs hl
      split at hs <;> try contradiction
      split at hl <;> try contradiction
      cases hs; cases hl
      exact ⟨hn, b.mono (fun _ h => .inr h)⟩
    · rw [if_neg q] at hs hl
      exact ⟨(a.2 r s l' hs hl).1, (a.2 r s l' hs hl).2.mono (fun _ h => .inl h)⟩
  · rcases hq with q' | q'
    · exact (h1.at 0 rfl).2.1 q q'
    · exact (h1.at 1 rfl).2.1 q q'
end
end Go.Inf
