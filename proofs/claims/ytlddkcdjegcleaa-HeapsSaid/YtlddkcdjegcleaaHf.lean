/- The document's Collect: a map keyed by some addresses, a map from numbers to numbers. -/
import Derived.Test.YtlddkcdjegcleaaHe
set_option linter.unusedVariables false
set_option linter.unusedSimpArgs false
namespace Go.Sx
open Go.RowKit Go.Gx Go.MapKept Go.Hp
def pmJ (bt g : Nat) (js : List Nat) : Item := .abs (fun c => c = bt) (fun w => ∃ es ck, Has w bt (.map es ck) ∧ es.toList.map (fun e => (e.key, e.val)) = js.map (fun i => (Value.pointer (some ⟨g, i * 2, none⟩), Value.bool true)))
theorem pmI_holds' {bt g : Nat} {js : List Nat} {w : World} {es : Array MapEntry} {ck : Nat} (h : Has w bt (.map es ck)) (hm : es.toList.map (fun e => (e.key, e.val)) = js.map (fun i => (Value.pointer (some ⟨g, i * 2, none⟩), Value.bool true))) : (pmJ bt g js).holds w :=
  ⟨⟨es, ck, h, hm⟩, fun c hc => by cases hc; exact h.lt, fun w w' _ hk ⟨es, ck, h1, h2⟩ => ⟨es, ck, (hk bt rfl).trans h1, h2⟩⟩
theorem pj_new {w0 w : World} {L0 L : List Item} (g : Nat) {bt i : Nat} (H : Hs w0 L0 w L) (hi : L[i]? = some (.blk bt (.map #[] 0))) : Hs w0 L0 w (L.set i (pmJ bt g [])) :=
  H.as i _ hi rfl (pmI_holds' (H.at i hi) rfl) (fun _ h => h)
theorem pj_keys {es : Array MapEntry} {g k : Nat} {js : List Nat} (hk : k ∉ js) (hm : es.toList.map (fun e => (e.key, e.val)) = js.map (fun i => (Value.pointer (some ⟨g, i * 2, none⟩), Value.bool true))) : ∀ e ∈ es.toList, ∃ i, e.key = .pointer (some ⟨g, i * 2, none⟩) ∧ i ≠ k := fun e he => by
  have h1 : (e.key, e.val) ∈ es.toList.map (fun e => (e.key, e.val)) := List.mem_map.2 ⟨e, he, rfl⟩
  rw [hm] at h1
  obtain ⟨i, hi, e2⟩ := List.mem_map.1 h1
  injection e2 with e3 e4
  exact ⟨i, e3.symm, fun q => hk (q ▸ hi)⟩
section
variable [Rd] {P : Program} {B : Exit → Act → World → Prop} {b : Nat → Value} {n : Nat} {d : List Deferred} {w0 w : World} {x : St} {L0 L : List Item}
/-- The next cell's address is no key yet. -/
theorem lkJ (m i j k : Nat) (js : List Nat) (hjs : k ∉ js) (H : Hs w0 L0 w L) {bt g t kt et e sz cap c : Nat} {xs : List Value} (hi : L[i]? = some (pmJ bt g js)) (hj : L[j]? = some (.own e sz (some ⟨g, 0, none⟩) cap c xs))
    (kk : Goal P B b n d (nx (vX (via P b n m w x (ask (lkA b n)))).y (vX (via P b n m w x (ask (lkA b n)))).q (.bool false)) w)
    (h : vA (via P b n m w x (ask (lkA b n))) = vB w (via P b n m w x (ask (lkA b n))) := by kernel_rfl)
    (h2 : ((vX (via P b n m w x (ask (lkA b n)))).u, (vX (via P b n m w x (ask (lkA b n)))).t) = ([.map (some bt), .pointer (some ⟨g, k * 2, none⟩)], [t, 0]) := by kernel_rfl)
    (ht : mapT P t = some (kt, et) := by kernel_rfl) {te : TypeId} (hkt : P.underlying kt = some (.pointer te) := by kernel_rfl) (hs : (match P.info? te with | some inf => Nat.blt 0 inf.size | none => false) = true := by kernel_rfl) (hz : (P.info? et).bind (·.zero) = some (.bool false) := by kernel_rfl) : Goal P B b n d x w := by
  obtain ⟨y, hr, hf⟩ := ask_ok h
  refine run_sound hr ?_
  generalize vX (via P b n m w x (ask (lkA b n))) = zz at *
  unfold lkA at hf
  split at hf <;> try contradiction
  rename_i q hq
  split at hf <;> try contradiction
  rename_i t' mo ix ok hop
  simp only [Option.some.injEq] at hf
  subst hf
  simp only [Prod.mk.injEq, List.cons.injEq, and_true] at h2
  obtain ⟨⟨h3, h4⟩, rfl, h5⟩ := h2
  obtain ⟨⟨es, ck, hb, hm⟩, _, _⟩ := H.at i hi
  obtain ⟨cur, hg, _, _⟩ := own_cell (H.at j hj)
  have hmt := mapT_eq ht
  have hzv : (zeroValue et).run P w = .ok (.bool false) w := by
    cases hinf : P.info? et with
    | none => simp [hinf] at hz
    | some inf => rw [hinf] at hz; simp only [Option.bind_some] at hz; simp [zeroValue, typeInfo, hinf, hz]
  refine hd_val hq ?_ kk
  unfold execOp
  have hgo := MapKept.run_getObj_map (P := P) (w := w) hb
  have hck : ∀ em, (Instr.checkKey em 10000 kt (.pointer (some ⟨g, k * 2, none⟩))).run P w = .ok () w := fun em => by unfold Instr.checkKey; simp only [Sem.run_bind, run_underlying hkt, Result.andThen]; rfl
  cases hinf : P.info? te with
  | none => rw [hinf] at hs; cases hs
  | some inf =>
    rw [hinf] at hs
    have hfk := pm_key (k := k) hkt hinf (by have := Nat.le_of_ble_eq_true hs; omega) hg es.toList (pj_keys hjs hm)
    cases ok with
    | true => simp at h5
    | false => simp [hop, h3, h4, Instr.lookup, run_underlying hmt, Sem.run_bind, hgo, hck, hfk, hzv, Result.andThen]
/-- The next cell's address becomes a key. -/
theorem muJ (m i j k : Nat) (js : List Nat) (hjs : k ∉ js) (H : Hs w0 L0 w L) {bt g t kt et e sz cap c : Nat} {xs : List Value} (hi : L[i]? = some (pmJ bt g js)) (hj : L[j]? = some (.own e sz (some ⟨g, 0, none⟩) cap c xs))
    (kk : ∀ w', Hs w0 L0 w' (L.set i (pmJ bt g (js ++ [k]))) → Goal P B b n d (nx (vX (via P b n m w x (ask (muA b n)))).y (vX (via P b n m w x (ask (muA b n)))).q undef) w')
    (h : vA (via P b n m w x (ask (muA b n))) = vB w (via P b n m w x (ask (muA b n))) := by kernel_rfl)
    (h2 : ((vX (via P b n m w x (ask (muA b n)))).u, (vX (via P b n m w x (ask (muA b n)))).t) = ([.map (some bt), .pointer (some ⟨g, k * 2, none⟩), .bool true], [t]) := by kernel_rfl)
    (ht : mapT P t = some (kt, et) := by kernel_rfl) {te : TypeId} (hkt : P.underlying kt = some (.pointer te) := by kernel_rfl) (hs : (match P.info? te with | some inf => Nat.blt 0 inf.size | none => false) = true := by kernel_rfl) : Goal P B b n d x w := by
  obtain ⟨y, hr, hf⟩ := ask_ok h
  refine run_sound hr ?_
  generalize vX (via P b n m w x (ask (muA b n))) = zz at *
  unfold muA at hf
  split at hf <;> try contradiction
  rename_i q hq
  split at hf <;> try contradiction
  rename_i t' mo ix vo hop
  simp only [Option.some.injEq] at hf
  subst hf
  simp only [Prod.mk.injEq, List.cons.injEq, and_true] at h2
  obtain ⟨⟨h3, h4, h6⟩, rfl⟩ := h2
  obtain ⟨⟨es, ck, hb, hm⟩, _, _⟩ := H.at i hi
  obtain ⟨cur, hg, _, _⟩ := own_cell (H.at j hj)
  have hmt := mapT_eq ht
  have hgo := MapKept.run_getObj_map (P := P) (w := w) hb
  have hck : ∀ em, (Instr.checkKey em 10000 kt (.pointer (some ⟨g, k * 2, none⟩))).run P w = .ok () w := fun em => by unfold Instr.checkKey; simp only [Sem.run_bind, run_underlying hkt, Result.andThen]; rfl
  cases hinf : P.info? te with
  | none => rw [hinf] at hs; cases hs
  | some inf =>
    rw [hinf] at hs
    have hfk := pm_key (k := k) hkt hinf (by have := Nat.le_of_ble_eq_true hs; omega) hg es.toList (pj_keys hjs hm)
    have hrun : (execOp (ev b n y.l) q.2.2).run P w = .ok .skip { w with heap := w.heap.setIfInBounds bt (.map (es.push { key := .pointer (some ⟨g, k * 2, none⟩), val := .bool true, born := ck }) (ck + 1)) } := by
      unfold execOp
      simp [hop, h3, h4, h6, Instr.mapUpdate, run_underlying hmt, Sem.run_bind, hgo, hck, hfk, Result.andThen, MapKept.run_setObj_map _ hb]
    refine at_hd hq fun j ho hw _ K hK => op_skip ho hw hrun (hK _ _ (kk _ ?_))
    refine H.put i hi rfl (Kp.mono (Kp.of_G (G_setObj w bt _)) (fun c hc => (Option.some.inj hc).symm)) (pmI_holds' (Has_setObj _ hb) ?_) (fun c hc => .inl hc)
    rw [Array.toList_push, List.map_append, hm, List.map_append]
    rfl
end
end Go.Sx
namespace Go.Sx
open Go.RowKit Go.Gx Go.MapKept
section
variable [Rd] {P : Program} {B : Exit → Act → World → Prop} [Pn B] {b : Nat → Value} {n : Nat} {d : List Deferred} {w0 w : World} {x : St} {L0 L : List Item} {α : Type} [DecidableEq α]
omit [Rd] in
theorem lk_run0 {o : Oper} {t kt et : TypeId} {mo ix : Operand} {l : List (Nat × Value)} (hop : o.op = .lookup t mo ix false) {kd : TypeDesc} {enc : α → Value} {bt : Nat} {mp : List (α × Value)} {a : α} {z : Value}
    (h3 : ev b n l mo = .map (some bt)) (h4 : ev b n l ix = enc a) (hh : (mapI kd enc bt mp).holds w) (hk : ∀ a, IsKey kd (enc a)) (hinj : ∀ a b, enc a = enc b → a = b)
    (ht : mapT P t = some (kt, et)) (hkt : P.underlying kt = some kd) (hz : (P.info? et).bind (·.zero) = some z) :
    (execOp (ev b n l) o).run P w = .ok (.value ((Sx.look a mp).getD z)) w := by
  obtain ⟨⟨es, ck, hb, hst, hky, hm⟩, _, _⟩ := hh
  have hmt := mapT_eq ht
  have hfn := findNow_pos hk hinj a es.toList mp 0 hm
  rw [look_eq] at hfn
  have hzv : (zeroValue et).run P w = .ok z w := by
    cases hinf : P.info? et with
    | none => simp [hinf] at hz
    | some inf => rw [hinf] at hz; simp only [Option.bind_some] at hz; simp [zeroValue, typeInfo, hinf, hz]
  unfold execOp
  have hgo := MapKept.run_getObj_map (P := P) (w := w) hb
  have hck : (Instr.checkKey es.isEmpty 10000 kt (enc a)).run P w = .ok () w := run_checkKey hkt (hk a) _ 9999
  cases hp : pos a mp with
  | none =>
    have hl := look_none.2 hp
    rw [hp] at hfn
    have hfk := run_findKey (P := P) (w := w) hkt hfn
    simp [hop, h3, h4, Instr.lookup, run_underlying hmt, Sem.run_bind, hgo, hck, hfk, hzv, hl, Result.andThen]
  | some j =>
    obtain ⟨v, hv⟩ := pos_some hp
    have hl : Sx.look a mp = some v := by unfold Sx.look; rw [hp]; simp [hv]
    rw [hp] at hfn
    simp only [hl, Option.map_some] at hfn
    have hfk := run_findKey (P := P) (w := w) hkt hfn
    simp [hop, h3, h4, Instr.lookup, run_underlying hmt, Sem.run_bind, hgo, hck, hfk, hl, Result.andThen]
def lkO0 (b : Nat → Value) (n : Nat) (z : Tz) : Option (List Value × List Nat) := match z.o.op with
  | .lookup t mp ix ok => match ok with
    | false => some ([ev b n z.l mp, ev b n z.l ix], [t])
    | true => none
  | _ => none
/-- A map is asked. -/
theorem tvk0 (i : Nat) (C : List Nat) (jj : Nat) {kd : TypeDesc} {enc : α → Value} {bt t kt et : Nat} {mp : List (α × Value)} (a : α) (z v : Value) (hk : ∀ a, IsKey kd (enc a)) (hinj : ∀ a b, enc a = enc b → a = b)
    (hv : (Sx.look a mp).getD z = v) (hS : clrA x = true → Sp w (LJof x))
    (k : Goal P B b n d ((vX (via P b n 0 w x (tvR b n i C))).k v) w) (hi : (LJof x)[jj]? = some (mapI kd enc bt mp))
    (h : vA (via P b n 0 w x (tvR b n i C)) = vB w (via P b n 0 w x (tvR b n i C)))
    (h2 : lkO0 b n (vX (via P b n 0 w x (tvR b n i C))) = some ([.map (some bt), enc a], [t]))
    (ht : mapT P t = some (kt, et)) (hkt : P.underlying kt = some kd) (hz : (P.info? et).bind (·.zero) = some z) : Goal P B b n d x w := by
  refine tv i C _ hS (fun w' hs => ?_) k h
  generalize vX (via P b n 0 w x (tvR b n i C)) = zz at *
  unfold lkO0 at h2
  split at h2 <;> try contradiction
  rename_i t' mo ix ok hop
  split at h2 <;> try contradiction
  simp only [Option.some.injEq, Prod.mk.injEq, List.cons.injEq, and_true] at h2
  obtain ⟨⟨h3, h4⟩, rfl⟩ := h2
  subst hv
  exact lk_run0 hop h3 h4 (hs.all _ (List.mem_of_getElem? hi)) hk hinj ht hkt hz
end
section
variable {α : Type} [DecidableEq α]
theorem look_cons (a : α) (p : α × Value) (r : List (α × Value)) : Sx.look a (p :: r) = if p.1 = a then some p.2 else Sx.look a r := by
  have e : pos a (p :: r) = if p.1 = a then some 0 else (pos a r).map (· + 1) := rfl
  unfold Sx.look
  rw [e]
  split
  · rfl
  · cases hp : pos a r <;> simp
theorem look_map {l : List Nat} {key : Nat → α} {val : Nat → Value} {a : α} {v : Value} (h : ∀ j ∈ l, key j = a → val j = v) (hm : ∃ j ∈ l, key j = a) : Sx.look a (l.map fun j => (key j, val j)) = some v := by
  induction l with
  | nil => obtain ⟨_, h, _⟩ := hm; cases h
  | cons j r ih =>
    rw [List.map_cons, look_cons]
    split
    · rename_i e; rw [h j (.head _) e]
    · rename_i ne
      refine ih (fun k hk => h k (.tail _ hk)) ?_
      obtain ⟨k, hk, e⟩ := hm
      rcases List.mem_cons.1 hk with rfl | q
      · exact absurd e ne
      · exact ⟨k, q, e⟩
theorem pos_none' {a : α} {m : List (α × Value)} (h : ∀ p ∈ m, p.1 ≠ a) : pos a m = none := by
  induction m with
  | nil => rfl
  | cons p r ih =>
    unfold pos
    rw [if_neg (h p (.head _)), ih fun q hq => h q (.tail _ hq)]; rfl
end
end Go.Sx
namespace Go.Hp
open Go.RowKit Go.Gx Go.Sx Go.MapKept
def encZ (v : Int) : Value := .int .i64 v
theorem keyZ (a : Int) : IsKey (.int .i64) (encZ a) := rfl
theorem injZ (a b : Int) (h : encZ a = encZ b) : a = b := by simpa [encZ] using h
theorem bitsZ (a : Int) : Instr.sameBits 10000 (encZ a) (encZ a) = true := by simp [encZ, Instr.sameBits]
def mpl (M : List Th) (f : Nat → Bool) (i : Nat) : List (Int × Value) := (ks f i).map fun j => ((adr M j : Int), Value.int .i64 (nx M f j : Int))
def mpZ (bt : Nat) (M : List Th) (f : Nat → Bool) (i : Nat) : Sx.Item := mapI (.int .i64) encZ bt (mpl M f i)
theorem ks_mem {f : Nat → Bool} {i j : Nat} : j ∈ ks f i ↔ j < i ∧ f j = true := by unfold ks; simp
theorem look_mpl {M : List Th} {f : Nat → Bool} {i : Nat} (h : i < M.length) (hf : f i = true) : (Sx.look ((adr M i : Nat) : Int) (mpl M f M.length)).getD (.int .i64 0) = .int .i64 (nx M f i : Int) := by
  unfold mpl
  have e := look_map (l := ks f M.length) (key := fun j => ((adr M j : Nat) : Int)) (val := fun j => Value.int .i64 (nx M f j : Int)) (a := ((adr M i : Nat) : Int)) (v := .int .i64 (nx M f i : Int)) (fun j hj e => by
    obtain ⟨h1, _⟩ := ks_mem.1 hj
    rw [adr_inj (M := M) (i := j) (j := i) (by omega) (by omega) (by omega)]) ⟨i, ks_mem.2 ⟨h, hf⟩, rfl⟩
  rw [e]; rfl
theorem upd_mpl {M : List Th} {f : Nat → Bool} {i : Nat} (h : i < M.length) (hf : f i = true) : Sx.upd ((adr M i : Nat) : Int) (.int .i64 (nx M f i : Int)) (mpl M f i) = mpl M f (i + 1) := by
  unfold Sx.upd
  rw [pos_none' fun p hp e => ?_]
  · unfold mpl; rw [ks_succ, hf]; simp
  · obtain ⟨j, hj, rfl⟩ := List.mem_map.1 hp
    obtain ⟨h1, _⟩ := ks_mem.1 hj
    have := adr_lt' (M := M) h1 (by omega)
    simp only at e; omega
theorem thM_get {M : List Th} {i : Nat} (h : i < M.length) : M[i]? = some (thM M i) := by unfold thM; rw [List.getElem?_eq_getElem h]; rfl
theorem thM_mem {M : List Th} {i : Nat} (h : i < M.length) : thM M i ∈ M := List.mem_of_getElem? (thM_get h)
theorem adr_next {M : List Th} {i : Nat} (h : i < M.length) : adr M (i + 1) = adr M i + 1 + (thM M i).l.length := by have := adr_succ (thM_get h); unfold sz at this; omega
theorem adr_tots {M : List Th} {i : Nat} (h : i < M.length) : adr M i + 1 + (thM M i).l.length ≤ tots M := adr_lt_tots (thM_get h)
theorem tots_last {M : List Th} (h : 0 < M.length) : adr M (M.length - 1) + 1 + (thM M (M.length - 1)).l.length = tots M := by
  have := adr_next (M := M) (i := M.length - 1) (by omega)
  rw [show M.length - 1 + 1 = M.length by omega, adr_len] at this; exact this.symm
def fld (M : List Th) (i j : Nat) : Cl := ((thM M i).l[j]?).getD ⟨false, 0⟩
theorem fld_get {M : List Th} {i j : Nat} (h : j < (thM M i).l.length) : (thM M i).l[j]? = some (fld M i j) := by unfold fld; rw [List.getElem?_eq_getElem h]; rfl
theorem fld_mem {M : List Th} {i j : Nat} (h : j < (thM M i).l.length) : fld M i j ∈ (thM M i).l := List.mem_of_getElem? (fld_get h)
def lnM (M : List Th) (i : Nat) : Nat := (thM M i).l.length
theorem mpl_no {M : List Th} {f : Nat → Bool} {i : Nat} (hf : f i = false) : mpl M f (i + 1) = mpl M f i := by unfold mpl; rw [ks_succ, hf]; simp
end Go.Hp
