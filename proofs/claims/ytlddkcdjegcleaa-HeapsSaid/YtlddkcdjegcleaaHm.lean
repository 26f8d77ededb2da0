/- Rows of cells and of words; slices of a row, clear, copy. -/
import Derived.Test.YtlddkcdjegcleaaHpl
import Derived.Test.YtlddkcdjegcleaaHr
import Derived.Laws.CopyRow
set_option linter.unusedVariables false
set_option linter.unusedSimpArgs false
namespace Go.Hp
/-! ### Rows of cells -/
def encC (c : Cl) : List Value := [.bool c.p, .int .i64 c.n]
def cls (N : Nat) (C : Nat → Cl) : List Value := (List.range N).flatMap fun i => encC (C i)
theorem cls_len (N : Nat) (C : Nat → Cl) : (cls N C).length = N * 2 := by
  induction N with
  | zero => rfl
  | succ n ih => unfold cls at *; rw [List.range_succ, List.flatMap_append, List.length_append, ih]; simp [encC]; omega
theorem cls_add (a b : Nat) (C : Nat → Cl) : cls (a + b) C = cls a C ++ cls b (fun j => C (a + j)) := by
  unfold cls; rw [List.range_add, List.flatMap_append, List.flatMap_map]
theorem cls_ext {N : Nat} {C D : Nat → Cl} (h : ∀ i, i < N → C i = D i) : cls N C = cls N D := by
  unfold cls
  rw [List.flatMap_def, List.flatMap_def]
  exact congrArg List.flatten (List.map_congr_left fun i hi => by rw [h i (List.mem_range.1 hi)])
def spl (C : Nat → Cl) (lo k : Nat) (D : Nat → Cl) : Nat → Cl := fun j => if lo ≤ j ∧ j < lo + k then D (j - lo) else C j
theorem cls_spl {N lo k : Nat} (C D : Nat → Cl) (h : lo + k ≤ N) : (cls N C).take (lo * 2) ++ cls k D ++ (cls N C).drop (lo * 2 + (cls k D).length) = cls N (spl C lo k D) := by
  obtain ⟨r, rfl⟩ : ∃ r, N = lo + (k + r) := ⟨N - lo - k, by omega⟩
  have e1 : (cls (lo + (k + r)) C).take (lo * 2) = cls lo C := by rw [cls_add, ← cls_len lo C, List.take_left]
  have e2 : (cls (lo + (k + r)) C).drop (lo * 2 + (cls k D).length) = cls r (fun j => C (lo + (k + j))) := by
    rw [cls_add, cls_add, cls_len, ← List.append_assoc, show lo * 2 + k * 2 = (cls lo C ++ cls k fun j => C (lo + j)).length by rw [List.length_append, cls_len, cls_len], List.drop_left]
  rw [e1, e2, cls_add, cls_add, List.append_assoc]
  congr 1
  · exact cls_ext fun i hi => by unfold spl; rw [if_neg (by omega)]
  · congr 1
    · exact cls_ext fun i hi => by unfold spl; rw [if_pos (by omega), Nat.add_sub_cancel_left]
    · exact cls_ext fun i hi => by unfold spl; rw [if_neg (by omega)]
def upd (C : Nat → Cl) (i : Nat) (c : Cl) : Nat → Cl := fun j => if j = i then c else C j
theorem cls_at {N i : Nat} (C : Nat → Cl) (h : i < N) : ((cls N C).drop (i * 2)).take 2 = encC (C i) := by
  obtain ⟨r, rfl⟩ : ∃ r, N = i + (1 + r) := ⟨N - i - 1, by omega⟩
  rw [cls_add, show i * 2 = (cls i C).length by rw [cls_len], List.drop_left, cls_add, show cls 1 (fun j => C (i + j)) = encC (C i) from rfl]
  rfl
theorem cls_p {N i : Nat} (C : Nat → Cl) (h : i < N) : (cls N C)[i * 2]? = some (.bool (C i).p) := by
  have e := congrArg (·[0]?) (cls_at C h)
  simpa [List.getElem?_take, List.getElem?_drop, encC] using e
theorem cls_n {N i : Nat} (C : Nat → Cl) (h : i < N) : (cls N C)[i * 2 + 1]? = some (.int .i64 (C i).n) := by
  have e := congrArg (·[1]?) (cls_at C h)
  simpa [List.getElem?_take, List.getElem?_drop, encC] using e
theorem cls_set {N i : Nat} (C : Nat → Cl) (h : i < N) (v : Int) : (cls N C).set (i * 2 + 1) (.int .i64 v) = cls N (upd C i ⟨(C i).p, v⟩) := by
  obtain ⟨r, rfl⟩ : ∃ r, N = i + (1 + r) := ⟨N - i - 1, by omega⟩
  rw [cls_add, cls_add, List.set_append_right _ _ (by rw [cls_len]; omega), cls_len, show i * 2 + 1 - i * 2 = 1 by omega, cls_add, cls_add]
  congr 1
  · exact cls_ext fun j hj => by unfold upd; rw [if_neg (by omega)]
  · have e : ∀ R : List Value, (cls 1 (fun j => C (i + j)) ++ R).set 1 (.int .i64 v) = cls 1 (fun j => upd C i ⟨(C i).p, v⟩ (i + j)) ++ R := fun R => by
      simp [cls, encC, upd, List.range_succ]
    rw [e]
    congr 1
    exact cls_ext fun j hj => by unfold upd; rw [if_neg (by omega)]
theorem cls_put {N i : Nat} (C : Nat → Cl) (h : i < N) (c : Cl) : (cls N C).take (i * 2) ++ encC c ++ (cls N C).drop (i * 2 + (encC c).length) = cls N (upd C i c) := by
  have e := cls_spl C (fun _ => c) (lo := i) (k := 1) (N := N) (by omega)
  rw [show cls 1 (fun _ => c) = encC c from rfl] at e
  rw [e]
  refine cls_ext fun j _ => ?_
  unfold spl upd
  by_cases q : j = i
  · rw [if_pos (by omega), if_pos q]
  · rw [if_neg (by omega), if_neg q]
theorem cls_rep (N : Nat) : List.flatten (List.replicate N [Value.bool false, .int .i64 0]) = cls N (fun _ => ⟨false, 0⟩) := by
  induction N with
  | zero => rfl
  | succ n ih => rw [List.replicate_succ', List.flatten_append, ih, cls_add]; rfl
open Go.RowKit Go.Gx Go.Sx
section
variable {P : Program} {t N i : Nat} {C : Nat → Cl}
theorem ld_cell (h : i < N) (ht : (match P.underlying t, P.info? t with | some (.struct _), some inf => Nat.beq inf.size 2 | _, _ => false) = true := by kernel_rfl) : loadX P t (cls N C) (i * 2) (.agg #[.bool (C i).p, .int .i64 (C i).n]) := by
  unfold loadX
  split at ht <;> try contradiction
  rename_i k inf hu hinf
  rw [hu]
  have hs : inf.size = 2 := Nat.eq_of_beq_eq_true ht
  exact ⟨inf, hinf, by rw [hs, cls_len]; omega, by rw [hs, cls_at C h]; rfl⟩
theorem ld_p (h : i < N) (ht : P.underlying t = some .bool := by kernel_rfl) : loadX P t (cls N C) (i * 2) (.bool (C i).p) := by unfold loadX; rw [ht]; exact cls_p C h
theorem ld_n (h : i < N) (ht : P.underlying t = some (.int .i64) := by kernel_rfl) : loadX P t (cls N C) (i * 2 + 1) (.int .i64 (C i).n) := by unfold loadX; rw [ht]; exact cls_n C h
end
/-! ### Rows of numbers -/
def wds (k : IntKind) (N : Nat) (W : Nat → Int) : List Value := (List.range N).map fun i => .int k (W i)
theorem wds_len (k : IntKind) (N : Nat) (W : Nat → Int) : (wds k N W).length = N := by simp [wds]
theorem wds_rep (k : IntKind) (N : Nat) (v : Int) : List.replicate N (Value.int k v) = wds k N (fun _ => v) := by
  apply List.ext_getElem <;> simp [wds]
theorem wds_set (k : IntKind) {N i : Nat} (W : Nat → Int) (v : Int) : (wds k N W).set i (.int k v) = wds k N (fun j => if j = i then v else W j) := by
  apply List.ext_getElem
  · simp [wds]
  · intro j h1 h2
    simp only [wds, List.getElem_set, List.getElem_map, List.getElem_range]
    by_cases q : i = j
    · rw [if_pos q, if_pos q.symm]
    · rw [if_neg q, if_neg (Ne.symm q)]
theorem ld_w {P : Program} {t N i : Nat} {k : IntKind} {W : Nat → Int} (h : i < N) (ht : P.underlying t = some (.int k) := by kernel_rfl) : loadX P t (wds k N W) (i * 1) (.int k (W i)) := by
  unfold loadX; rw [ht, Nat.mul_one]; simp [wds, h]
end Go.Hp
namespace Go.Sx
open Go.RowKit Go.Gx Go.Hp
/-- Some cells of a row of one's own are new. -/
theorem Hs.spl {w0 w w' : World} {L0 L : List Item} (H : Hs w0 L0 w L) (i : Nat) {e sz g cap c : Nat} {xs : List Value} (hi : L[i]? = some (.own e sz (some ⟨g, 0, none⟩) cap c xs)) (off : Nat) (vs : List Value) (hfit : off + vs.length ≤ c * sz)
    {cur : Array Value} (hg : Has w g (.cells cur e)) (k1 : G w w' (some g)) (k2 : Has w' g (.cells (cur.toList.take off ++ vs ++ cur.toList.drop (off + vs.length)).toArray e)) :
    Hs w0 L0 w' (L.set i (.own e sz (some ⟨g, 0, none⟩) cap c (xs.take off ++ vs ++ xs.drop (off + vs.length)))) := by
  have hown := H.at i hi
  rcases hown.2 with ⟨h0, _⟩ | ⟨g', cap', cur', hvv, hb0, hg', hnc, hcm, hcs, ht⟩
  · cases h0
  · injection hvv with q1 q2 q3
    injection q1 with q1; injection q1 with q1; subst q1 q3
    have hg2 : w.heap[g]? = some (.cells cur e (0, 0)) := hg
    rw [hg'] at hg2
    injection hg2 with hg2; injection hg2 with hg2; subst hg2
    have hlen : xs.length = c * sz := hown.1
    have hsz : c * sz ≤ cur'.size := by rw [hcs]; exact Nat.mul_le_mul_right _ hnc
    refine H.put i hi rfl (Kp.mono (Kp.of_G k1) (fun c hc => by simpa [Item.fp, Value.ownBlock] using hc)) ⟨by simp [hlen]; omega, .inr ⟨g, cap, _, rfl, hb0, k2, hnc, hcm, by simp; omega, ?_⟩⟩ (fun c hc => .inl hc)
    rw [← ht]
    rw [List.take_take, Nat.min_eq_left (by omega), List.drop_take]
    simp only [List.toList_toArray]
    rw [List.take_append, List.take_append, List.take_take]
    simp only [List.length_take, List.length_append, Array.length_toList]
    rw [Nat.min_eq_right (by omega), Nat.min_eq_left (show off ≤ cur'.size by omega), List.take_of_length_le (show vs.length ≤ c * sz - off by omega)]
section
variable [Rd] {P : Program} {B : Exit → Act → World → Prop} {b : Nat → Value} {n : Nat} {d : List Deferred} {w0 w : World} {x : St} {L0 L : List Item}
/-- A store of a whole element into a row of one's own. -/
theorem sra (m i e sz t g cap c off : Nat) (xs vs : List Value) (H : Hs w0 L0 w L) (ho : off + vs.length ≤ c * sz) {xs' : List Value} (hx : xs.take off ++ vs ++ xs.drop (off + vs.length) = xs')
    (k : ∀ w', Hs w0 L0 w' (L.set i (.own e sz (some ⟨g, 0, none⟩) cap c xs')) → Goal P B b n d (nx (vX (via P b n m w x (ask (stA b n)))).y (vX (via P b n m w x (ask (stA b n)))).q undef) w')
    (h : vA (via P b n m w x (ask (stA b n))) = vB w (via P b n m w x (ask (stA b n))) := by kernel_rfl)
    (h2 : ((vX (via P b n m w x (ask (stA b n)))).u, (vX (via P b n m w x (ask (stA b n)))).t) = ([.pointer (some ⟨g, off, none⟩), .agg vs.toArray], [t]) := by kernel_rfl)
    (hi : L[i]? = some (.own e sz (some ⟨g, 0, none⟩) cap c xs) := by kernel_rfl) (hs : (P.info? t).map (·.size) = some vs.length := by kernel_rfl) (h1 : vs.toArray.all (·.oneCell') = true := by kernel_rfl) : Goal P B b n d x w := by
  subst hx
  obtain ⟨y, hr, hf⟩ := ask_ok h
  refine run_sound hr ?_
  generalize vX (via P b n m w x (ask (stA b n))) = z at *
  unfold stA at hf
  split at hf <;> try contradiction
  rename_i q hq
  split at hf <;> try contradiction
  rename_i t' s vl hop
  simp only [Option.some.injEq] at hf
  subst hf
  simp only [Prod.mk.injEq, List.cons.injEq, and_true] at h2
  obtain ⟨⟨h3, h4⟩, rfl⟩ := h2
  obtain ⟨cur, hg, ht, hc⟩ := own_cell (H.at i hi)
  refine at_hd hq fun j ho' hw _ K hK => op_store ho' hw hop off (.agg vs.toArray) h3 h4 hg (by simpa [Value.cells] using hs) h1 (Nat.ble_eq_true_of_le (by simp [Value.cells]; omega)) _ rfl (fun w' k1 k2 => hK _ _ (k w' (H.spl i hi off vs ho hg k1 (by simpa [Value.cells] using k2))))
def slA (P : Program) (b : Nat → Value) (n : Nat) (x : St) : Option Ask :=
  match hd b n x with
  | some q => match q.2.2.op with
    | .slice t s lo hi mx => match mx with
      | none => match P.underlying t with
        | some (.slice e) => match P.info? e with
          | some inf => match lo, hi with
            | some l, some h => some ⟨[ev b n x.l s, ev b n x.l l, ev b n x.l h], [inf.size], x, q⟩
            | some l, none => some ⟨[ev b n x.l s, ev b n x.l l], [inf.size], x, q⟩
            | _, _ => none
          | none => none
        | _ => none
      | some _ => none
    | _ => none
  | none => none
/-- Where a slice of a row begins. -/
def slB (g cap lo sz : Nat) : Option Addr := if cap = lo then some ⟨g, 0, none⟩ else some ⟨g, lo * sz, none⟩
omit [Rd] in
theorem slB_add (g cap lo sz : Nat) : (if cap = lo then some (⟨g, 0, none⟩ : Addr) else (some (⟨g, 0, none⟩ : Addr)).map (·.add (lo * sz))) = slB g cap lo sz := by
  unfold slB
  split
  · rfl
  · simp only [Option.map_some, Option.some.injEq]; unfold Addr.add; split <;> simp_all
/-- s[lo:hi] of a row. -/
theorem sl2 (m g len cap lo hi sz : Nat) (hh : hi ≤ cap) (hl : lo ≤ hi)
    (k : Goal P B b n d (nx (vX (via P b n m w x (ask (slA P b n)))).y (vX (via P b n m w x (ask (slA P b n)))).q (.slice (slB g cap lo sz) (hi - lo) (cap - lo))) w)
    (h : vA (via P b n m w x (ask (slA P b n))) = vB w (via P b n m w x (ask (slA P b n))) := by kernel_rfl)
    (h2 : ((vX (via P b n m w x (ask (slA P b n)))).u, (vX (via P b n m w x (ask (slA P b n)))).t) = ([.slice (some ⟨g, 0, none⟩) len cap, .int .i64 (lo : Int), .int .i64 (hi : Int)], [sz]) := by kernel_rfl) : Goal P B b n d x w := by
  obtain ⟨y, hr, hf⟩ := ask_ok h
  refine run_sound hr ?_
  generalize vX (via P b n m w x (ask (slA P b n))) = z at *
  unfold slA at hf
  split at hf <;> try contradiction
  rename_i q hq
  split at hf <;> try contradiction
  rename_i t s lo' hi' mx hop
  split at hf <;> try contradiction
  split at hf <;> try contradiction
  rename_i e hu
  split at hf <;> try contradiction
  rename_i inf hinf
  split at hf <;> try contradiction
  · simp only [Option.some.injEq] at hf
    subst hf
    simp only [Prod.mk.injEq, List.cons.injEq, and_true] at h2
    obtain ⟨⟨h3, h4, h5⟩, rfl⟩ := h2
    refine hd_val hq ?_ k
    rw [← slB_add]
    unfold execOp
    have h6 : ((hi : Int) ≤ (cap : Int)) := by omega
    have h7 : ((lo : Int) ≤ (hi : Int)) := by omega
    simp [hop, h3, h4, h5, Instr.sliceAt, Instr.slice, run_underlying hu, Sem.run_bind, Instr.sliceBounds, Instr.sliceBound, asIntOf, go_sem, h6, h7, hh, hl, sizeOf, typeInfo, hinf]
  · simp only [Option.some.injEq] at hf
    subst hf
    simp at h2
/-- s[lo:] of a row. -/
theorem sl1 (m g len cap lo sz : Nat) (hl : lo ≤ len)
    (k : Goal P B b n d (nx (vX (via P b n m w x (ask (slA P b n)))).y (vX (via P b n m w x (ask (slA P b n)))).q (.slice (slB g cap lo sz) (len - lo) (cap - lo))) w)
    (h : vA (via P b n m w x (ask (slA P b n))) = vB w (via P b n m w x (ask (slA P b n))) := by kernel_rfl)
    (h2 : ((vX (via P b n m w x (ask (slA P b n)))).u, (vX (via P b n m w x (ask (slA P b n)))).t) = ([.slice (some ⟨g, 0, none⟩) len cap, .int .i64 (lo : Int)], [sz]) := by kernel_rfl) : Goal P B b n d x w := by
  obtain ⟨y, hr, hf⟩ := ask_ok h
  refine run_sound hr ?_
  generalize vX (via P b n m w x (ask (slA P b n))) = z at *
  unfold slA at hf
  split at hf <;> try contradiction
  rename_i q hq
  split at hf <;> try contradiction
  rename_i t s lo' hi' mx hop
  split at hf <;> try contradiction
  split at hf <;> try contradiction
  rename_i e hu
  split at hf <;> try contradiction
  rename_i inf hinf
  split at hf <;> try contradiction
  · simp only [Option.some.injEq] at hf
    subst hf
    simp at h2
  · simp only [Option.some.injEq] at hf
    subst hf
    simp only [Prod.mk.injEq, List.cons.injEq, and_true] at h2
    obtain ⟨⟨h3, h4⟩, rfl⟩ := h2
    refine hd_val hq ?_ k
    rw [← slB_add]
    unfold execOp
    have h7 : ((lo : Int) ≤ (len : Int)) := by omega
    simp [hop, h3, h4, Instr.sliceAt, Instr.slice, run_underlying hu, Sem.run_bind, Instr.sliceBounds, Instr.sliceBound, asIntOf, go_sem, h7, hl, sizeOf, typeInfo, hinf]
omit [Rd] in
theorem zero_flat (z : Array Value) (n : Nat) : (Builtin.zeroCells z n).toList = (List.replicate n z.toList).flatten := by
  unfold Builtin.zeroCells
  rw [Array.toList_map, Array.toList_range]
  induction n with
  | zero => simp
  | succ n ih =>
    rw [List.replicate_succ', List.flatten_append, ← ih, Nat.succ_mul, List.range_add, List.map_append, List.map_map]
    congr 1
    simp only [List.flatten_cons, List.flatten_nil, List.append_nil]
    apply List.ext_getElem
    · simp
    · intro i h1 h2
      have hi : i < z.size := by simpa using h2
      simp [Nat.mul_add_mod_of_lt, Nat.mod_eq_of_lt hi, hi]
def clA (b : Nat → Value) (n : Nat) (x : St) : Option Ask :=
  match hd b n x with
  | some q => match q.2.2.op with
    | .call c => match c.callee with
      | .builtin .clear => match c.args.toList, c.argTypes.toList with
        | [s], [t] => some ⟨[ev b n x.l s], [t], x, q⟩
        | _, _ => none
      | _ => none
    | _ => none
  | none => none
/-- clear of a part of a row of one's own: zc is the zero element's cells. -/
theorem cle (m i e sz t cap c g : Nat) (A : Option Addr) (k' c' off : Nat) (xs zc : List Value) (H : Hs w0 L0 w L) (hA : 0 < k' → A = some ⟨g, off, none⟩) (hfit : off + k' * zc.length ≤ c * sz) {xs' : List Value} (hx : xs.take off ++ (List.replicate k' zc).flatten ++ xs.drop (off + (List.replicate k' zc).flatten.length) = xs')
    (k : ∀ w', Hs w0 L0 w' (L.set i (.own e sz (some ⟨g, 0, none⟩) cap c xs')) → Goal P B b n d (nx (vX (via P b n m w x (ask (clA b n)))).y (vX (via P b n m w x (ask (clA b n)))).q (.tuple #[])) w')
    (h : vA (via P b n m w x (ask (clA b n))) = vB w (via P b n m w x (ask (clA b n))) := by kernel_rfl)
    (h2 : ((vX (via P b n m w x (ask (clA b n)))).u, (vX (via P b n m w x (ask (clA b n)))).t) = ([.slice A k' c'], [t]) := by kernel_rfl)
    (hi : L[i]? = some (.own e sz (some ⟨g, 0, none⟩) cap c xs) := by kernel_rfl) {el : TypeId} (hu : P.underlying t = some (.slice el) := by kernel_rfl) {z : Value} (hz : ∀ w, (zeroValue el).run P w = .ok z w := by intro w; kernel_rfl) (hc : z.cells.toList = zc := by kernel_rfl)
    (h1 : zc.all (·.oneCell') = true := by kernel_rfl) (hz0 : Nat.blt 0 zc.length = true := by kernel_rfl) : Goal P B b n d x w := by
  subst hx
  obtain ⟨y, hr, hf⟩ := ask_ok h
  refine run_sound hr ?_
  generalize vX (via P b n m w x (ask (clA b n))) = z at *
  unfold clA at hf
  split at hf <;> try contradiction
  rename_i q hq
  split at hf <;> try contradiction
  rename_i cl hop
  split at hf <;> try contradiction
  rename_i hcal
  split at hf <;> try contradiction
  rename_i s t' ha1 ha2
  simp only [Option.some.injEq] at hf
  subst hf
  simp only [Prod.mk.injEq, List.cons.injEq, and_true] at h2
  obtain ⟨h3, rfl⟩ := h2
  have ea : cl.args = #[s] := by cases hh : cl.args; simp_all
  have et : cl.argTypes = #[t'] := by cases hh : cl.argTypes; simp_all
  obtain ⟨cur, hg, ht, hcc⟩ := own_cell (H.at i hi)
  rcases Nat.eq_zero_or_pos k' with rfl | hk
  · have e0 : xs.take off ++ (List.replicate 0 zc).flatten ++ xs.drop (off + (List.replicate 0 zc).flatten.length) = xs := by simp
    rw [e0] at k
    have eL : L.set i (.own e sz (some ⟨g, 0, none⟩) cap c xs) = L := by
      obtain ⟨hl, e⟩ := List.getElem?_eq_some_iff.1 hi
      rw [← e, List.set_getElem_self]
    rw [eL] at k
    refine hd_val hq ?_ (k w H)
    unfold execOp
    cases A <;> simp [hop, hcal, ea, et, h3, resolve, invoke, builtin, Builtin.clear_, run_underlying hu, Sem.run_bind, go_sem]
  · obtain rfl := hA hk
    have hzl : (List.replicate k' zc).flatten.length = k' * zc.length := by simp
    have hst := run_storeCells_at P g off e (List.replicate k' zc).flatten 0 cur w hg (by rw [Nat.add_zero, hzl]; omega) (fun u hu => by
      obtain ⟨l, hl, hul⟩ := List.mem_flatten.1 hu
      rw [(List.mem_replicate.1 hl).2] at hul
      exact List.all_eq_true.1 h1 u hul)
    simp only [Nat.add_zero] at hst
    have hzf : (Builtin.zeroCells z.cells k').toList = (List.replicate k' zc).flatten := by rw [zero_flat, hc]
    refine hd_val hq ?_ (k _ (H.spl i hi off _ (by rw [hzl]; exact hfit) hg (G_setRow w g _) (Has_setRow _ hg)))
    obtain ⟨k'', rfl⟩ : ∃ j, k' = j + 1 := ⟨k' - 1, by omega⟩
    have hcl : ∀ ty, (Builtin.clear_ #[t'] ty #[.slice (some ⟨g, off, none⟩) (k'' + 1) c']).run P w = .ok (.tuple #[]) (w.setRow g (cur.toList.take off ++ (List.replicate (k'' + 1) zc).flatten ++ cur.toList.drop (off + (List.replicate (k'' + 1) zc).flatten.length)).toArray) := fun ty => by
      simp only [Builtin.clear_, Sem.run_bind, run_underlying hu, Result.andThen_ok, List.getElem?_toArray, List.getElem?_cons_zero]
      rw [hz]
      simp only [Result.andThen_ok, hzf, hst]
      rfl
    unfold execOp
    simp [hop, hcal, ea, et, h3, resolve, invoke, builtin, Sem.run_bind, hcl]
def cpA (b : Nat → Value) (n : Nat) (x : St) : Option Ask :=
  match hd b n x with
  | some q => match q.2.2.op with
    | .call c => match c.callee with
      | .builtin .copy => match c.args.toList, c.argTypes.toList with
        | [s, y], [t, t'] => some ⟨[ev b n x.l s, ev b n x.l y], [t, t'], x, q⟩
        | _, _ => none
      | _ => none
    | _ => none
  | none => none
/-- copy of a part of a row of one's own to another place of it. -/
theorem cpy (m i e sz t t' cap c g : Nat) (o1 o2 n1 n2 c1 c2 : Nat) (xs vs : List Value) (H : Hs w0 L0 w L) (hn : vs.length = n2 * sz) (hle : n2 ≤ n1) (hsrc : (xs.drop o2).take vs.length = vs) (hfit : o1 + vs.length ≤ c * sz) (h1 : ∀ u ∈ vs, u.oneCell' = true) {xs' : List Value} (hx : xs.take o1 ++ vs ++ xs.drop (o1 + vs.length) = xs')
    (k : ∀ w', Hs w0 L0 w' (L.set i (.own e sz (some ⟨g, 0, none⟩) cap c xs')) → Goal P B b n d (nx (vX (via P b n m w x (ask (cpA b n)))).y (vX (via P b n m w x (ask (cpA b n)))).q (goInt n2)) w')
    (h : vA (via P b n m w x (ask (cpA b n))) = vB w (via P b n m w x (ask (cpA b n))) := by kernel_rfl)
    (h2 : ((vX (via P b n m w x (ask (cpA b n)))).u, (vX (via P b n m w x (ask (cpA b n)))).t) = ([.slice (some ⟨g, o1, none⟩) n1 c1, .slice (some ⟨g, o2, none⟩) n2 c2], [t, t']) := by kernel_rfl)
    (hi : L[i]? = some (.own e sz (some ⟨g, 0, none⟩) cap c xs) := by kernel_rfl) {el : TypeId} (hu : P.underlying t = some (.slice el) := by kernel_rfl) (hs : (P.info? el).map (·.size) = some sz := by kernel_rfl) : Goal P B b n d x w := by
  subst hx
  obtain ⟨y, hr, hf⟩ := ask_ok h
  refine run_sound hr ?_
  generalize vX (via P b n m w x (ask (cpA b n))) = z at *
  unfold cpA at hf
  split at hf <;> try contradiction
  rename_i q hq
  split at hf <;> try contradiction
  rename_i cl hop
  split at hf <;> try contradiction
  rename_i hcal
  split at hf <;> try contradiction
  rename_i s yv t1 t2 ha1 ha2
  simp only [Option.some.injEq] at hf
  subst hf
  simp only [Prod.mk.injEq, List.cons.injEq, and_true] at h2
  obtain ⟨⟨h3, h4⟩, rfl, rfl⟩ := h2
  have ea : cl.args = #[s, yv] := by cases hh : cl.args; simp_all
  have et : cl.argTypes = #[t1, t2] := by cases hh : cl.argTypes; simp_all
  obtain ⟨cur, hg, ht, hcc⟩ := own_cell (H.at i hi)
  have hst := run_storeCells_at P g o1 e vs 0 cur w hg (by omega) h1
  simp only [Nat.add_zero] at hst
  have hl := run_loadCells_list (P := P) w ⟨g, o2, none⟩ vs (fun j v hv => by
    have hj := (List.getElem?_eq_some_iff.1 hv).1
    rw [← hsrc, List.getElem?_take, if_pos hj, List.getElem?_drop, ← ht] at hv
    have : (⟨g, o2, none⟩ : Addr).add j = ⟨g, o2 + j, none⟩ := by unfold Addr.add; split <;> simp_all
    rw [this]
    have hv2 : cur.toList[o2 + j]? = some v := by rw [List.getElem?_take] at hv; split at hv; exact hv; cases hv
    have hg2 : w.heap[g]? = some (.cells cur e (0, 0)) := hg
    simp only [World.cell?, hg2]
    simpa using hv2)
  refine hd_val hq ?_ (k _ (H.spl i hi o1 vs hfit hg (G_setRow w g _) (Has_setRow _ hg)))
  cases hq2 : P.info? el with
  | none => simp [hq2] at hs
  | some inf =>
    have hsz : inf.size = sz := by simpa [hq2] using hs
    have hcp : ∀ ty, (Builtin.copy_ #[t1, t2] ty #[.slice (some ⟨g, o1, none⟩) n1 c1, .slice (some ⟨g, o2, none⟩) n2 c2]).run P w = .ok (goInt n2) (w.setRow g (cur.toList.take o1 ++ vs ++ cur.toList.drop (o1 + vs.length)).toArray) := fun ty => by
      simp [Builtin.copy_, run_underlying hu, Builtin.lenOf, Builtin.firstCells, sizeOf, typeInfo, hq2, hsz, Nat.min_eq_left hle, ← hn, hl, hst]
    unfold execOp
    simp [hop, hcal, ea, et, h3, h4, resolve, invoke, builtin, Sem.run_bind, hcp]
def slO (P : Program) (b : Nat → Value) (n : Nat) (z : Tz) : Option (List Value × List Nat) := match z.o.op with
  | .slice t s lo hi mx => match mx with
    | none => match P.underlying t with
      | some (.slice e) => match P.info? e with
        | some inf => match lo, hi with
          | some l, some h => some ([ev b n z.l s, ev b n z.l l, ev b n z.l h], [inf.size])
          | some l, none => some ([ev b n z.l s, ev b n z.l l], [inf.size])
          | _, _ => none
        | none => none
      | _ => none
    | some _ => none
  | _ => none
variable [Pn B]
/-- Slices of a row in a drawn region. -/
theorem tvs2 (i : Nat) (C : List Nat) (g len cap lo hi sz : Nat) (hh : hi ≤ cap) (hl : lo ≤ hi) (hS : clrA x = true → Sp w (LJof x))
    (k : Goal P B b n d ((vX (via P b n 0 w x (tvR b n i C))).k (.slice (slB g cap lo sz) (hi - lo) (cap - lo))) w)
    (h : vA (via P b n 0 w x (tvR b n i C)) = vB w (via P b n 0 w x (tvR b n i C)) := by kernel_rfl)
    (h2 : slO P b n (vX (via P b n 0 w x (tvR b n i C))) = some ([.slice (some ⟨g, 0, none⟩) len cap, .int .i64 (lo : Int), .int .i64 (hi : Int)], [sz]) := by kernel_rfl) : Goal P B b n d x w := by
  refine tv i C _ hS (fun w' _ => ?_) k h
  generalize vX (via P b n 0 w x (tvR b n i C)) = z at *
  unfold slO at h2
  split at h2 <;> try contradiction
  rename_i t s lo' hi' mx hop
  split at h2 <;> try contradiction
  split at h2 <;> try contradiction
  rename_i e hu
  split at h2 <;> try contradiction
  rename_i inf hinf
  split at h2 <;> try contradiction
  · simp only [Option.some.injEq, Prod.mk.injEq, List.cons.injEq, and_true] at h2
    obtain ⟨⟨h3, h4, h5⟩, rfl⟩ := h2
    rw [← slB_add]
    unfold execOp
    have h6 : ((hi : Int) ≤ (cap : Int)) := by omega
    have h7 : ((lo : Int) ≤ (hi : Int)) := by omega
    simp [hop, h3, h4, h5, Instr.sliceAt, Instr.slice, run_underlying hu, Sem.run_bind, Instr.sliceBounds, Instr.sliceBound, asIntOf, go_sem, h6, h7, hh, hl, sizeOf, typeInfo, hinf]
  · simp at h2
theorem tvs1 (i : Nat) (C : List Nat) (g len cap lo sz : Nat) (hl : lo ≤ len) (hS : clrA x = true → Sp w (LJof x))
    (k : Goal P B b n d ((vX (via P b n 0 w x (tvR b n i C))).k (.slice (slB g cap lo sz) (len - lo) (cap - lo))) w)
    (h : vA (via P b n 0 w x (tvR b n i C)) = vB w (via P b n 0 w x (tvR b n i C)) := by kernel_rfl)
    (h2 : slO P b n (vX (via P b n 0 w x (tvR b n i C))) = some ([.slice (some ⟨g, 0, none⟩) len cap, .int .i64 (lo : Int)], [sz]) := by kernel_rfl) : Goal P B b n d x w := by
  refine tv i C _ hS (fun w' _ => ?_) k h
  generalize vX (via P b n 0 w x (tvR b n i C)) = z at *
  unfold slO at h2
  split at h2 <;> try contradiction
  rename_i t s lo' hi' mx hop
  split at h2 <;> try contradiction
  split at h2 <;> try contradiction
  rename_i e hu
  split at h2 <;> try contradiction
  rename_i inf hinf
  split at h2 <;> try contradiction
  · simp at h2
  · simp only [Option.some.injEq, Prod.mk.injEq, List.cons.injEq, and_true] at h2
    obtain ⟨⟨h3, h4⟩, rfl⟩ := h2
    rw [← slB_add]
    unfold execOp
    have h7 : ((lo : Int) ≤ (len : Int)) := by omega
    simp [hop, h3, h4, Instr.sliceAt, Instr.slice, run_underlying hu, Sem.run_bind, Instr.sliceBounds, Instr.sliceBound, asIntOf, go_sem, h7, hl, sizeOf, typeInfo, hinf]
omit [Rd] in
theorem slB_lt {g cap lo sz : Nat} (h : lo < cap) : slB g cap lo sz = some ⟨g, lo * sz, none⟩ := by unfold slB; rw [if_neg (by omega)]
theorem tvt1 (i : Nat) (C : List Nat) (g len cap lo sz : Nat) (hlt : lo < cap) (hl : lo ≤ len) (hS : clrA x = true → Sp w (LJof x))
    (k : Goal P B b n d ((vX (via P b n 0 w x (tvR b n i C))).k (.slice (some ⟨g, lo * sz, none⟩) (len - lo) (cap - lo))) w)
    (h : vA (via P b n 0 w x (tvR b n i C)) = vB w (via P b n 0 w x (tvR b n i C)) := by kernel_rfl)
    (h2 : slO P b n (vX (via P b n 0 w x (tvR b n i C))) = some ([.slice (some ⟨g, 0, none⟩) len cap, .int .i64 (lo : Int)], [sz]) := by kernel_rfl) : Goal P B b n d x w :=
  tvs1 i C g len cap lo sz hl hS (by rw [slB_lt hlt]; exact k) h h2
theorem tvt2 (i : Nat) (C : List Nat) (g len cap lo hi sz : Nat) (hlt : lo < cap) (hh : hi ≤ cap) (hl : lo ≤ hi) (hS : clrA x = true → Sp w (LJof x))
    (k : Goal P B b n d ((vX (via P b n 0 w x (tvR b n i C))).k (.slice (some ⟨g, lo * sz, none⟩) (hi - lo) (cap - lo))) w)
    (h : vA (via P b n 0 w x (tvR b n i C)) = vB w (via P b n 0 w x (tvR b n i C)) := by kernel_rfl)
    (h2 : slO P b n (vX (via P b n 0 w x (tvR b n i C))) = some ([.slice (some ⟨g, 0, none⟩) len cap, .int .i64 (lo : Int), .int .i64 (hi : Int)], [sz]) := by kernel_rfl) : Goal P B b n d x w :=
  tvs2 i C g len cap lo hi sz hh hl hS (by rw [slB_lt hlt]; exact k) h h2
end
end Go.Sx
