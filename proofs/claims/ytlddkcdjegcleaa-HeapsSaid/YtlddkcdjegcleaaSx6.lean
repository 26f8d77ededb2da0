/- Things made of things; maps; quiet operations that are shown by hand. -/
import Derived.Test.YtlddkcdjegcleaaSx5
import Derived.MapKept
set_option linter.unusedVariables false
set_option linter.unusedSimpArgs false
namespace Go.Sx
open Go.RowKit Go.Gx Go.MapKept
/-! ### Things made of things -/
/-- A thing that is some things that lie apart; what they are like, 'shape' says. -/
def comp (shape : List Item → Prop) (S : Nat → Prop) : Item := .abs S (fun w => ∃ L, shape L ∧ (∀ c, fpA L c ↔ S c) ∧ (∀ it ∈ L, it.wr = true) ∧ Sp w L)
theorem Sp.keep {w w' : World} {L : List Item} (h : Sp w L) (hs : w.heap.size ≤ w'.heap.size) (k : ∀ c, fpA L c → w'.heap[c]? = w.heap[c]?) : Sp w' L :=
  ⟨fun it hi => Item.keep (h.all it hi) hs (fun c hc => k c ⟨it, hi, hc⟩), h.dis⟩
theorem comp_holds {w : World} {shape : List Item → Prop} {L : List Item} (h : Sp w L) (hs : shape L) (hw : ∀ it ∈ L, it.wr = true) : (comp shape (fpA L)).holds w := by
  refine ⟨⟨L, hs, fun _ => Iff.rfl, hw, h⟩, fun c ⟨it, hi, hc⟩ => Item.lt (h.all it hi) hc, ?_⟩
  rintro w1 w2 hsz hk ⟨L', a, b, c, d⟩
  exact ⟨L', a, b, c, d.keep hsz (fun c hc => hk c ((b c).1 hc))⟩
section
variable {w0 w w' : World} {L0 L R L1 : List Item}
/-- It is opened. -/
theorem Hs.opn (H : Hs w0 L0 w L) (i : Nat) {shape : List Item → Prop} {S : Nat → Prop} (hi : picked [i] L = some [comp shape S]) : ∃ L', shape L' ∧ Hs w0 L0 w (L' ++ rest [i] L) := by
  have k := H.perm (picked_perm hi)
  have pw := List.pairwise_append.1 k.sp.dis
  have hm : comp shape S ∈ [comp shape S] ++ rest [i] L := List.mem_append_left _ (.head _)
  obtain ⟨⟨L', a, b, c, d⟩, _, _⟩ := k.sp.all _ hm
  refine ⟨L', a, k.kp, ⟨fun it hi => ?_, List.pairwise_append.2 ⟨d.dis, pw.2.1, fun x hx y hy => ?_⟩⟩, fun it hi c hc hl => ?_, fun it hi hw c hc hl => ?_⟩
  · rcases List.mem_append.1 hi with q | q
    · exact d.all it q
    · exact k.sp.all it (List.mem_append_right _ q)
  · intro _ cc hcx hcy
    exact pw.2.2 _ (.head _) y hy rfl cc ((b cc).1 ⟨x, hx, hcx⟩) hcy
  · rcases List.mem_append.1 hi with q | q
    · exact k.ofA _ hm c ((b c).1 ⟨it, q, hc⟩) hl
    · exact k.ofA it (List.mem_append_right _ q) c hc hl
  · rcases List.mem_append.1 hi with q | q
    · exact k.ofW _ hm rfl c ((b c).1 ⟨it, q, hc⟩) hl
    · exact k.ofW it (List.mem_append_right _ q) hw c hc hl
/-- It is closed. -/
theorem Hs.cls (H : Hs w0 L0 w L) (I : List Nat) (hi : picked I L = some L1) {shape : List Item → Prop} (hs : shape L1) (hw : L1.all (·.wr) = true) : Hs w0 L0 w (comp shape (fpA L1) :: rest I L) := by
  have hw' : ∀ it ∈ L1, it.wr = true := fun it hi => List.all_eq_true.1 hw it hi
  have k := H.perm (picked_perm hi)
  have pw := List.pairwise_append.1 k.sp.dis
  refine ⟨k.kp, ⟨fun it hi => ?_, List.pairwise_cons.2 ⟨fun y hy => ?_, pw.2.1⟩⟩, fun it hi c hc hl => ?_, fun it hi hww c hc hl => ?_⟩
  · rcases List.mem_cons.1 hi with rfl | q
    · exact comp_holds ⟨fun it hi => k.sp.all it (List.mem_append_left _ hi), pw.1⟩ hs hw'
    · exact k.sp.all it (List.mem_append_right _ q)
  · rintro _ c ⟨x, hx, hc⟩ hcy
    exact pw.2.2 x hx y hy (by rw [hw' x hx]; rfl) c hc hcy
  · rcases List.mem_cons.1 hi with rfl | q
    · obtain ⟨x, hx, hc⟩ := hc; exact k.ofA x (List.mem_append_left _ hx) c hc hl
    · exact k.ofA it (List.mem_append_right _ q) c hc hl
  · rcases List.mem_cons.1 hi with rfl | q
    · obtain ⟨x, hx, hc⟩ := hc; exact k.ofW x (List.mem_append_left _ hx) (hw' x hx) c hc hl
    · exact k.ofW it (List.mem_append_right _ q) hww c hc hl
end
/-! ### Maps -/
section
variable {α : Type} [DecidableEq α]
def pos (a : α) : List (α × Value) → Option Nat
  | [] => none
  | p :: r => if p.1 = a then some 0 else (pos a r).map (· + 1)
def look (a : α) (m : List (α × Value)) : Option Value := (pos a m).bind fun j => (m[j]?).map (·.2)
def upd (a : α) (v : Value) (m : List (α × Value)) : List (α × Value) := match pos a m with
  | some j => m.set j (a, v)
  | none => m ++ [(a, v)]
def del (a : α) (m : List (α × Value)) : List (α × Value) := match pos a m with
  | some j => m.eraseIdx j
  | none => m
def MpOk (kd : TypeDesc) (enc : α → Value) (es : Array MapEntry) (ck : Nat) (m : List (α × Value)) : Prop :=
  Stamped es ck ∧ (∀ x ∈ es.toList, IsKey kd x.key) ∧ es.toList.map (fun e => (e.key, e.val)) = m.map (fun p => (enc p.1, p.2))
def mapI (kd : TypeDesc) (enc : α → Value) (b : Nat) (m : List (α × Value)) : Item := .abs (fun c => c = b) (fun w => ∃ es ck, Has w b (.map es ck) ∧ MpOk kd enc es ck m)
omit [DecidableEq α] in
theorem mapI_loc (kd : TypeDesc) (enc : α → Value) (b : Nat) (m : List (α × Value)) : Loc (fun c => c = b) (fun w => ∃ es ck, Has w b (.map es ck) ∧ MpOk kd enc es ck m) := by
  rintro w w' _ hk ⟨es, ck, h1, h2⟩
  exact ⟨es, ck, (hk b rfl).trans h1, h2⟩
omit [DecidableEq α] in
theorem mapI_holds {kd : TypeDesc} {enc : α → Value} {b : Nat} {m : List (α × Value)} {w : World} {es : Array MapEntry} {ck : Nat} (h : Has w b (.map es ck)) (hm : MpOk kd enc es ck m) : (mapI kd enc b m).holds w :=
  ⟨⟨es, ck, h, hm⟩, fun c hc => by cases hc; exact h.lt, mapI_loc _ _ _ _⟩
theorem findNow_pos {kd : TypeDesc} {enc : α → Value} (hk : ∀ a, IsKey kd (enc a)) (hinj : ∀ a b, enc a = enc b → a = b) (a : α) : ∀ (l : List MapEntry) (m : List (α × Value)) (i : Nat), l.map (fun e => (e.key, e.val)) = m.map (fun p => (enc p.1, p.2)) →
    Instr.findNow kd (enc a) l i = some ((pos a m).bind fun j => (m[j]?).map fun p => (i + j, p.2))
  | [], [], _, _ => rfl
  | [], _ :: _, _, h => by simp at h
  | _ :: _, [], _, h => by simp at h
  | e :: l, p :: m, i, h => by
    simp only [List.map_cons, List.cons.injEq, Prod.mk.injEq] at h
    obtain ⟨⟨h1, h2⟩, h3⟩ := h
    obtain ⟨r, hr, hiff⟩ := sameNow_of_keys (hk a) (b := e.key) (by rw [h1]; exact hk p.1)
    have ih := findNow_pos hk hinj a l m (i + 1) h3
    cases r with
    | true =>
      have : a = p.1 := hinj _ _ ((hiff.1 rfl).trans h1)
      subst this
      simp [Instr.findNow, hr, pos, h2]
    | false =>
      have hne : ¬ p.1 = a := fun q => by have := hiff.2 (by rw [h1, q]); cases this
      simp only [Instr.findNow, hr, ih, pos, if_neg hne, Option.bind_map]
      congr 1
      cases pos a m with
      | none => rfl
      | some j => simp only [Option.bind_some, Function.comp, List.getElem?_cons_succ]; congr 1; funext q; congr 1; omega
theorem pos_none {a : α} {m : List (α × Value)} (h : pos a m = none) : ∀ p ∈ m, p.1 ≠ a := by
  induction m with
  | nil => simp
  | cons p r ih =>
    unfold pos at h
    split at h
    · cases h
    · rename_i hne
      cases hp : pos a r with
      | some j => simp [hp] at h
      | none => intro q hq; rcases List.mem_cons.1 hq with rfl | q'; exact hne; exact ih hp q q'
theorem pos_some {a : α} {m : List (α × Value)} {j : Nat} (h : pos a m = some j) : ∃ v, m[j]? = some (a, v) := by
  induction m generalizing j with
  | nil => simp [pos] at h
  | cons p r ih =>
    unfold pos at h
    split at h
    · rename_i e; cases h; exact ⟨p.2, by rw [← e]; rfl⟩
    · cases hp : pos a r with
      | none => simp [hp] at h
      | some i => rw [hp, Option.map_some] at h; cases h; obtain ⟨v, hv⟩ := ih hp; exact ⟨v, hv⟩
theorem look_eq {a : α} {m : List (α × Value)} : (pos a m).bind (fun j => (m[j]?).map fun p => (0 + j, p.2)) = match pos a m with | some j => (look a m).map fun v => (j, v) | none => none := by
  unfold look
  cases hp : pos a m with
  | none => rfl
  | some j => simp only [Option.bind_some, Option.map_map, Nat.zero_add]; rfl
theorem look_none {a : α} {m : List (α × Value)} : look a m = none ↔ pos a m = none := by
  unfold look
  cases hp : pos a m with
  | none => simp
  | some j => obtain ⟨v, hv⟩ := pos_some hp; simp [hv]
end
section
variable {α : Type} [DecidableEq α]
variable [Rd] {P : Program} {B : Exit → Act → World → Prop} {b : Nat → Value} {n : Nat} {d : List Deferred} {w0 w : World} {x : St} {L0 L : List Item}
/-- A map's type. -/
def mapT (P : Program) (t : TypeId) : Option (TypeId × TypeId) := match P.underlying t with
  | some (.map k e) => some (k, e)
  | _ => none
omit [Rd] in
theorem mapT_eq {t k e : TypeId} (h : mapT P t = some (k, e)) : P.underlying t = some (.map k e) := by
  unfold mapT at h
  split at h
  · rename_i k' e' hu; simp only [Option.some.injEq, Prod.mk.injEq] at h; obtain ⟨rfl, rfl⟩ := h; exact hu
  · cases h
def lkA (b : Nat → Value) (n : Nat) (x : St) : Option Ask :=
  match hd b n x with
  | some q => match q.2.2.op with
    | .lookup t mp ix ok => some ⟨[ev b n x.l mp, ev b n x.l ix], [t, (match ok with | true => 1 | false => 0)], x, q⟩
    | _ => none
  | none => none
theorem lk (m i : Nat) (H : Hs w0 L0 w L) {kd : TypeDesc} {enc : α → Value} {bt t kt et : Nat} {mp : List (α × Value)} {r : Nat} (a : α) (z : Value) (hi : L[i]? = some (mapI kd enc bt mp)) (hk : ∀ a, IsKey kd (enc a)) (hinj : ∀ a b, enc a = enc b → a = b)
    (k : Goal P B b n d (nx (vX (via P b n m w x (ask (lkA b n)))).y (vX (via P b n m w x (ask (lkA b n)))).q (match r with | 0 => (look a mp).getD z | _ => .tuple #[(look a mp).getD z, .bool (look a mp).isSome])) w)
    (h : vA (via P b n m w x (ask (lkA b n))) = vB w (via P b n m w x (ask (lkA b n))) := by kernel_rfl)
    (h2 : ((vX (via P b n m w x (ask (lkA b n)))).u, (vX (via P b n m w x (ask (lkA b n)))).t) = ([.map (some bt), enc a], [t, r]) := by kernel_rfl)
    (ht : mapT P t = some (kt, et) := by kernel_rfl) (hkt : P.underlying kt = some kd := by kernel_rfl) (hz : (P.info? et).bind (·.zero) = some z := by kernel_rfl) : Goal P B b n d x w := by
  obtain ⟨y, hr, hf⟩ := ask_ok h
  refine run_sound hr ?_
  generalize vX (via P b n m w x (ask (lkA b n))) = zz at *
  unfold lkA at hf
  split at hf <;> try contradiction
  rename_i q hq
  split at hf <;> try contradiction
  rename_i t' mo ix ok hop
  simp only [Option.some.injEq] at hf
  subst hf
  simp only [Prod.mk.injEq, List.cons.injEq, and_true] at h2
  obtain ⟨⟨h3, h4⟩, rfl, h5⟩ := h2
  obtain ⟨⟨es, ck, hb, hst, hky, hm⟩, _, _⟩ := H.at i hi
  have hmt := mapT_eq ht
  have hfn := findNow_pos hk hinj a es.toList mp 0 hm
  rw [look_eq] at hfn
  have hzv : (zeroValue et).run P w = .ok z w := by
    cases hinf : P.info? et with
    | none => simp [hinf] at hz
    | some inf => rw [hinf] at hz; simp only [Option.bind_some] at hz; simp [zeroValue, typeInfo, hinf, hz]
  refine hd_val hq ?_ k
  unfold execOp
  have hgo := MapKept.run_getObj_map (P := P) (w := w) hb
  have hck : (Instr.checkKey es.isEmpty 10000 kt (enc a)).run P w = .ok () w := run_checkKey hkt (hk a) _ 9999
  cases hp : pos a mp with
  | none =>
    have hl := look_none.2 hp
    rw [hp] at hfn
    have hfk := run_findKey (P := P) (w := w) hkt hfn
    cases ok <;> simp only at h5 <;> subst h5 <;> simp [hop, h3, h4, Instr.lookup, run_underlying hmt, Sem.run_bind, hgo, hck, hfk, hzv, hl, Result.andThen]
  | some j =>
    obtain ⟨v, hv⟩ := pos_some hp
    have hl : look a mp = some v := by unfold look; rw [hp]; simp [hv]
    rw [hp] at hfn
    simp only [hl, Option.map_some] at hfn
    have hfk := run_findKey (P := P) (w := w) hkt hfn
    cases ok <;> simp only at h5 <;> subst h5 <;> simp [hop, h3, h4, Instr.lookup, run_underlying hmt, Sem.run_bind, hgo, hck, hfk, hl, Result.andThen]
def muA (b : Nat → Value) (n : Nat) (x : St) : Option Ask :=
  match hd b n x with
  | some q => match q.2.2.op with
    | .mapUpdate t mp ix v => some ⟨[ev b n x.l mp, ev b n x.l ix, ev b n x.l v], [t], x, q⟩
    | _ => none
  | none => none
theorem mu (m i : Nat) (H : Hs w0 L0 w L) {kd : TypeDesc} {enc : α → Value} {bt t kt et : Nat} {mp : List (α × Value)} (a : α) (v : Value) (hi : L[i]? = some (mapI kd enc bt mp)) (hk : ∀ a, IsKey kd (enc a)) (hinj : ∀ a b, enc a = enc b → a = b) (hsb : ∀ a, Instr.sameBits 10000 (enc a) (enc a) = true)
    (k : ∀ w', Hs w0 L0 w' (L.set i (mapI kd enc bt (upd a v mp))) → Goal P B b n d (nx (vX (via P b n m w x (ask (muA b n)))).y (vX (via P b n m w x (ask (muA b n)))).q undef) w')
    (h : vA (via P b n m w x (ask (muA b n))) = vB w (via P b n m w x (ask (muA b n))) := by kernel_rfl)
    (h2 : ((vX (via P b n m w x (ask (muA b n)))).u, (vX (via P b n m w x (ask (muA b n)))).t) = ([.map (some bt), enc a, v], [t]) := by kernel_rfl)
    (ht : mapT P t = some (kt, et) := by kernel_rfl) (hkt : P.underlying kt = some kd := by kernel_rfl) : Goal P B b n d x w := by
  obtain ⟨y, hr, hf⟩ := ask_ok h
  refine run_sound hr ?_
  generalize vX (via P b n m w x (ask (muA b n))) = zz at *
  unfold muA at hf
  split at hf <;> try contradiction
  rename_i q hq
  split at hf <;> try contradiction
  rename_i t' mo ix vo hop
  simp only [Option.some.injEq] at hf
  subst hf
  simp only [Prod.mk.injEq, List.cons.injEq, and_true] at h2
  obtain ⟨⟨h3, h4, h6⟩, rfl⟩ := h2
  obtain ⟨⟨es, ck, hb, hst, hky, hm⟩, _, _⟩ := H.at i hi
  have hmt := mapT_eq ht
  have hfn := findNow_pos hk hinj a es.toList mp 0 hm
  rw [look_eq] at hfn
  have hgo := MapKept.run_getObj_map (P := P) (w := w) hb
  have hck : (Instr.checkKey false 10000 kt (enc a)).run P w = .ok () w := run_checkKey hkt (hk a) _ 9999
  -- what the map becomes
  have fin : ∀ es' ck', MpOk kd enc es' ck' (upd a v mp) → (execOp (ev b n y.l) q.2.2).run P w = .ok .skip { w with heap := w.heap.setIfInBounds bt (.map es' ck') } → Goal P B b n d y w := by
    intro es' ck' hm' hrun
    refine at_hd hq fun j ho hw _ K hK => op_skip ho hw hrun (hK _ _ (k _ ?_))
    exact H.put i hi rfl (Kp.mono (Kp.of_G (G_setObj w bt _)) (fun c hc => (Option.some.inj hc).symm)) (mapI_holds (Has_setObj _ hb) hm') (fun c hc => .inl hc)
  cases hp : pos a mp with
  | none =>
    rw [hp] at hfn
    have hfk := run_findKey (P := P) (w := w) hkt hfn
    have hne : ∀ x ∈ es.toList, x.key ≠ enc a := by
      intro x hx e
      have : (x.key, x.val) ∈ es.toList.map (fun e => (e.key, e.val)) := List.mem_map.2 ⟨x, hx, rfl⟩
      rw [hm] at this
      obtain ⟨p, hp', e'⟩ := List.mem_map.1 this
      simp only [Prod.mk.injEq] at e'
      exact pos_none hp p hp' (hinj _ _ (e'.1.trans e))
    refine fin (es.push { key := enc a, val := v, born := ck }) (ck + 1) ⟨stamped_push hst hne, ?_, ?_⟩ ?_
    · intro x hx
      rw [Array.toList_push] at hx
      rcases List.mem_append.1 hx with r | r
      · exact hky x r
      · rw [List.mem_singleton.1 r]; exact hk a
    · rw [Array.toList_push, List.map_append, hm]; simp [upd, hp]
    · unfold execOp
      simp [hop, h3, h4, h6, Instr.mapUpdate, run_underlying hmt, Sem.run_bind, hgo, hck, hfk, Result.andThen, MapKept.run_setObj_map _ hb]
  | some j =>
    obtain ⟨v0, hv⟩ := pos_some hp
    have hl : look a mp = some v0 := by unfold look; rw [hp]; simp [hv]
    rw [hp] at hfn
    simp only [hl, Option.map_some] at hfn
    have hfk := run_findKey (P := P) (w := w) hkt hfn
    have hkey : ∀ e, es[j]? = some e → e.key = enc a := by
      intro e he
      have h1 : (es.toList.map (fun e => (e.key, e.val)))[j]? = some (e.key, e.val) := by rw [List.getElem?_map]; simp [he]
      rw [hm, List.getElem?_map, hv] at h1
      simp only [Option.map_some, Option.some.injEq, Prod.mk.injEq] at h1
      exact h1.1.symm
    have hlen : j < es.size := by
      have h1 := congrArg List.length hm
      simp only [List.length_map, Array.length_toList] at h1
      have := (List.getElem?_eq_some_iff.1 hv).1
      omega
    refine fin (es.modify j fun e => { e with key := enc a, val := v }) ck ⟨stamped_modify hst _ _ (fun _ _ => rfl) (fun e _ he => (hkey e he).symm), isKey_modify hky _ _ (fun e he => (hkey e he).symm), ?_⟩ ?_
    · simp only [upd, hp]
      apply List.ext_getElem?
      intro i'
      have h1 := congrArg (fun l => l[i']?) hm
      simp only [List.getElem?_map] at h1 ⊢
      rw [List.getElem?_set]
      simp only [Array.getElem?_toList, Array.getElem?_modify] at h1 ⊢
      split
      · rename_i e; subst e
        have := (List.getElem?_eq_some_iff.1 hv).1
        simp [hlen, this]
      · exact h1
    · unfold execOp
      have hkk : ((es[j]?).map (·.key)).getD (enc a) = enc a := by
        cases he : es[j]? with
        | none => rfl
        | some e => simp [hkey e he]
      simp [hop, h3, h4, h6, Instr.mapUpdate, run_underlying hmt, Sem.run_bind, hgo, hck, hfk, Result.andThen, MapKept.run_setObj_map _ hb, hkk, Instr.keyThatStays, hsb]
omit [DecidableEq α] [Rd] in
/-- A new map. -/
theorem mapI_new (kd : TypeDesc) (enc : α → Value) {bt i : Nat} (H : Hs w0 L0 w L) (hi : L[i]? = some (.blk bt (.map #[] 0))) : Hs w0 L0 w (L.set i (mapI kd enc bt [])) :=
  H.as i _ hi rfl (mapI_holds (H.at i hi) ⟨stamped_empty 0, by simp, rfl⟩) (fun _ h => h)
def mlA (b : Nat → Value) (n : Nat) (x : St) : Option Ask :=
  match hd b n x with
  | some q => match q.2.2.op with
    | .call c => match c.callee with
      | .builtin .len => match c.args.toList, c.argTypes.toList with
        | [s], [t] => some ⟨[ev b n x.l s], [t], x, q⟩
        | _, _ => none
      | _ => none
    | _ => none
  | none => none
omit [DecidableEq α] in
/-- How many a map has. -/
theorem ml (m i : Nat) (H : Hs w0 L0 w L) {kd : TypeDesc} {enc : α → Value} {bt t kt et : Nat} {mp : List (α × Value)} (hi : L[i]? = some (mapI kd enc bt mp))
    (k : Goal P B b n d (nx (vX (via P b n m w x (ask (mlA b n)))).y (vX (via P b n m w x (ask (mlA b n)))).q (.int .i64 (mp.length : Int))) w)
    (h : vA (via P b n m w x (ask (mlA b n))) = vB w (via P b n m w x (ask (mlA b n))) := by kernel_rfl)
    (h2 : ((vX (via P b n m w x (ask (mlA b n)))).u, (vX (via P b n m w x (ask (mlA b n)))).t) = ([.map (some bt)], [t]) := by kernel_rfl)
    (ht : mapT P t = some (kt, et) := by kernel_rfl) : Goal P B b n d x w := by
  obtain ⟨y, hr, hf⟩ := ask_ok h
  refine run_sound hr ?_
  generalize vX (via P b n m w x (ask (mlA b n))) = zz at *
  unfold mlA at hf
  split at hf <;> try contradiction
  rename_i q hq
  split at hf <;> try contradiction
  rename_i cl hop
  split at hf <;> try contradiction
  rename_i hcal
  split at hf <;> try contradiction
  rename_i s t1 ha1 ha2
  simp only [Option.some.injEq] at hf
  subst hf
  simp only [Prod.mk.injEq, List.cons.injEq, and_true] at h2
  obtain ⟨h3, rfl⟩ := h2
  obtain ⟨⟨es, ck, hb, hst, hky, hm⟩, _, _⟩ := H.at i hi
  have hmt := mapT_eq ht
  have hcl : cl = { callee := .builtin .len, args := #[s], argTypes := #[t1] } := by
    obtain ⟨ce, ca, ct⟩ := cl
    simp only at hcal ha1 ha2
    subst hcal
    congr 1
    · exact Array.toList_inj.1 ha1
    · exact Array.toList_inj.1 ha2
  have hsz : es.size = mp.length := by have := congrArg List.length hm; simpa using this
  refine hd_val hq ?_ k
  unfold execOp
  rw [hop, hcl]
  simp [h3, resolve, invoke, builtin, Builtin.len_, Builtin.lenOf, run_underlying hmt, Sem.run_bind, MapKept.run_getObj_map hb, Result.andThen, hsz, goInt]
omit [Rd] in
theorem map_erase {β γ : Type} (f : β → γ) : ∀ (l : List β) (i : Nat), (l.eraseIdx i).map f = (l.map f).eraseIdx i
  | [], _ => rfl
  | _ :: _, 0 => rfl
  | x :: l, i + 1 => by simp only [List.eraseIdx_cons_succ, List.map_cons, map_erase f l i]
def deA (b : Nat → Value) (n : Nat) (x : St) : Option Ask :=
  match hd b n x with
  | some q => match q.2.2.op with
    | .call c => match c.callee with
      | .builtin .delete => match c.args.toList, c.argTypes.toList with
        | [s, y], [t, t'] => some ⟨[ev b n x.l s, ev b n x.l y], [t, t'], x, q⟩
        | _, _ => none
      | _ => none
    | _ => none
  | none => none
theorem de (m i : Nat) (H : Hs w0 L0 w L) {kd : TypeDesc} {enc : α → Value} {bt t t' kt et : Nat} {mp : List (α × Value)} (a : α) (hi : L[i]? = some (mapI kd enc bt mp)) (hk : ∀ a, IsKey kd (enc a)) (hinj : ∀ a b, enc a = enc b → a = b)
    (k : ∀ w', Hs w0 L0 w' (L.set i (mapI kd enc bt (del a mp))) → Goal P B b n d (nx (vX (via P b n m w x (ask (deA b n)))).y (vX (via P b n m w x (ask (deA b n)))).q (.tuple #[])) w')
    (h : vA (via P b n m w x (ask (deA b n))) = vB w (via P b n m w x (ask (deA b n))) := by kernel_rfl)
    (h2 : ((vX (via P b n m w x (ask (deA b n)))).u, (vX (via P b n m w x (ask (deA b n)))).t) = ([.map (some bt), enc a], [t, t']) := by kernel_rfl)
    (ht : mapT P t = some (kt, et) := by kernel_rfl) (hkt : P.underlying kt = some kd := by kernel_rfl) : Goal P B b n d x w := by
  obtain ⟨y, hr, hf⟩ := ask_ok h
  refine run_sound hr ?_
  generalize vX (via P b n m w x (ask (deA b n))) = zz at *
  unfold deA at hf
  split at hf <;> try contradiction
  rename_i q hq
  split at hf <;> try contradiction
  rename_i cl hop
  split at hf <;> try contradiction
  rename_i hcal
  split at hf <;> try contradiction
  rename_i s yv t1 t2 ha1 ha2
  simp only [Option.some.injEq] at hf
  subst hf
  simp only [Prod.mk.injEq, List.cons.injEq, and_true] at h2
  obtain ⟨⟨h3, h4⟩, rfl, rfl⟩ := h2
  obtain ⟨⟨es, ck, hb, hst, hky, hm⟩, _, _⟩ := H.at i hi
  have hmt := mapT_eq ht
  have hfn := findNow_pos hk hinj a es.toList mp 0 hm
  rw [look_eq] at hfn
  have hgo := MapKept.run_getObj_map (P := P) (w := w) hb
  have hck : (Instr.checkKey es.isEmpty 10000 kt (enc a)).run P w = .ok () w := run_checkKey hkt (hk a) _ 9999
  have hcl : cl = { callee := .builtin .delete, args := #[s, yv], argTypes := #[t1, t2] } := by
    obtain ⟨ce, ca, ct⟩ := cl
    simp only at hcal ha1 ha2
    subst hcal
    congr 1
    · exact Array.toList_inj.1 ha1
    · exact Array.toList_inj.1 ha2
  have fin : ∀ es' ck', MpOk kd enc es' ck' (del a mp) → (execOp (ev b n y.l) q.2.2).run P w = .ok (.value (.tuple #[])) { w with heap := w.heap.setIfInBounds bt (.map es' ck') } → Goal P B b n d y w := by
    intro es' ck' hm' hrun
    refine hd_val hq hrun (k _ ?_)
    exact H.put i hi rfl (Kp.mono (Kp.of_G (G_setObj w bt _)) (fun c hc => (Option.some.inj hc).symm)) (mapI_holds (Has_setObj _ hb) hm') (fun c hc => .inl hc)
  cases hp : pos a mp with
  | none =>
    rw [hp] at hfn
    have hfk := run_findKey (P := P) (w := w) hkt hfn
    refine fin es ck ⟨hst, hky, by simp [del, hp, hm]⟩ ?_
    unfold execOp
    rw [hop, hcl]
    simp [h3, h4, resolve, invoke, builtin, Builtin.delete_, run_underlying hmt, Sem.run_bind, hgo, hck, hfk, Result.andThen, MapKept.run_setObj_map _ hb]
  | some j =>
    obtain ⟨v0, hv⟩ := pos_some hp
    have hl : look a mp = some v0 := by unfold look; rw [hp]; simp [hv]
    rw [hp] at hfn
    simp only [hl, Option.map_some] at hfn
    have hfk := run_findKey (P := P) (w := w) hkt hfn
    have hlen : j < es.size := by
      have h1 := congrArg List.length hm
      simp only [List.length_map, Array.length_toList] at h1
      have := (List.getElem?_eq_some_iff.1 hv).1
      omega
    have hel : (es.eraseIdxIfInBounds j).toList = es.toList.eraseIdx j := by unfold Array.eraseIdxIfInBounds; rw [dif_pos hlen, Array.toList_eraseIdx]
    refine fin (es.eraseIdxIfInBounds j) ck ⟨stamped_erase hst j, fun x hx => hky x (List.mem_of_mem_eraseIdx (hel ▸ hx)), ?_⟩ ?_
    · simp only [del, hp]; rw [hel, map_erase, hm, map_erase]
    · unfold execOp
      rw [hop, hcl]
      simp [h3, h4, resolve, invoke, builtin, Builtin.delete_, run_underlying hmt, Sem.run_bind, hgo, hck, hfk, Result.andThen, MapKept.run_setObj_map _ hb]
end
end Go.Sx
