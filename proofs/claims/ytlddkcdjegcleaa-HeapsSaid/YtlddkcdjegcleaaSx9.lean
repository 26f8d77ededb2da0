/- A map is gone over. -/
import Derived.Test.YtlddkcdjegcleaaSx8
import Derived.Maps.RangeRun
set_option linter.unusedVariables false
set_option linter.unusedSimpArgs false
namespace Go.Sx
open Go.RowKit Go.Gx Go.MapKept
section
variable {α : Type}
def curOk (es : Array MapEntry) (seen : Array Nat) (enc : α → Value) : Option (α × Value) → Prop
  | none => True
  | some p => ∃ (e : MapEntry) (s : Array Nat), seen = s.push e.born ∧ e ∈ es.toList ∧ e.key = enc p.1 ∧ e.val = p.2
/-- A map and who goes over it: what is left, in whatever order, and what has been come to. -/
def ItOk (kd : TypeDesc) (enc : α → Value) (bt r : Nat) (mp left : List (α × Value)) (cur : Option (α × Value)) (w : World) : Prop :=
  ∃ es ck seen, Has w bt (.map es ck) ∧ MpOk kd enc es ck mp ∧ Has w r (.mapIter (some bt) ck seen ck) ∧ ((leftOf es seen).toList.map (fun e => (e.key, e.val))).Perm (left.map (fun p => (enc p.1, p.2))) ∧ curOk es seen enc cur
def itI (kd : TypeDesc) (enc : α → Value) (bt r : Nat) (mp left : List (α × Value)) (cur : Option (α × Value)) : Item := .abs (fun c => c = bt ∨ c = r) (ItOk kd enc bt r mp left cur)
theorem itI_loc (kd : TypeDesc) (enc : α → Value) (bt r : Nat) (mp left : List (α × Value)) (cur : Option (α × Value)) : Loc (fun c => c = bt ∨ c = r) (ItOk kd enc bt r mp left cur) := by
  rintro w w' _ hk ⟨es, ck, seen, h1, h2, h3, h4, h5⟩
  exact ⟨es, ck, seen, (hk _ (.inl rfl)).trans h1, h2, (hk _ (.inr rfl)).trans h3, h4, h5⟩
theorem itI_holds {kd : TypeDesc} {enc : α → Value} {bt r : Nat} {mp left : List (α × Value)} {cur : Option (α × Value)} {w : World} (h : ItOk kd enc bt r mp left cur w) : (itI kd enc bt r mp left cur).holds w := by
  refine ⟨h, fun c hc => ?_, itI_loc _ _ _ _ _ _ _⟩
  obtain ⟨es, ck, seen, h1, _, h3, _, _⟩ := h
  rcases hc with rfl | rfl
  · exact Has.lt h1
  · exact Has.lt h3
theorem has_drew {w w1 : World} {r : Nat} {o : Obj} (h : w1 = w ∨ w1 = w.drew) (k : Has w r o) : Has w1 r o := by rcases h with rfl | rfl <;> exact k
theorem left_push (es : Array MapEntry) (seen : Array Nat) (e : MapEntry) (hn : (es.toList.map (·.born)).Nodup) (he : e ∈ (leftOf es seen).toList) :
    (leftOf es seen).toList.Perm (e :: (leftOf es (seen.push e.born)).toList) := by
  unfold leftOf at *
  rw [Array.toList_filter] at he ⊢
  rw [Array.toList_filter]
  generalize es.toList = l at *
  induction l with
  | nil => simp at he
  | cons x l ih =>
    simp only [List.map_cons, List.nodup_cons] at hn
    have hsame : ∀ y : MapEntry, (!(seen.push e.born).contains y.born) = ((!seen.contains y.born) && (y.born != e.born)) := by
      intro y
      simp only [Array.contains_push]
      cases seen.contains y.born <;> simp [Bool.not_or, bne]
    by_cases hx : x = e
    · subst hx
      have hs : (!seen.contains x.born) = true := (List.mem_filter.1 he).2
      rw [List.filter_cons, if_pos hs, List.filter_cons, hsame]
      simp only [bne_self_eq_false, Bool.and_false, Bool.false_eq_true, if_false]
      refine List.Perm.cons _ ?_
      have : l.filter (fun y => !(seen.push x.born).contains y.born) = l.filter (fun y => !seen.contains y.born) := by
        refine List.filter_congr fun y hy => ?_
        rw [hsame]
        have : y.born ≠ x.born := fun q => hn.1 (q ▸ List.mem_map_of_mem hy)
        simp [this]
      rw [this]
    · have he' : e ∈ l.filter (fun y => !seen.contains y.born) := by
        rw [List.filter_cons] at he
        split at he
        · rcases List.mem_cons.1 he with q | q
          · exact absurd q.symm hx
          · exact q
        · exact he
      have hb : x.born ≠ e.born := fun q => hn.1 (q ▸ List.mem_map_of_mem (List.mem_filter.1 he').1)
      have k := ih hn.2 he'
      rw [List.filter_cons, List.filter_cons, hsame]
      have hb' : (x.born != e.born) = true := by simp [hb]
      rw [hb', Bool.and_true]
      split
      · exact (k.cons x).trans (List.Perm.swap _ _ _)
      · exact k
end
section
variable {α : Type}
variable [Rd] {P : Program} {B : Exit → Act → World → Prop} {b : Nat → Value} {n : Nat} {d : List Deferred} {w0 w : World} {x : St} {L0 L : List Item}
def rgA (b : Nat → Value) (n : Nat) (x : St) : Option Ask :=
  match hd b n x with
  | some q => match q.2.2.op with
    | .range t mp => some ⟨[ev b n x.l mp], [t], x, q⟩
    | _ => none
  | none => none
/-- One begins to go over a map. -/
theorem rg (m i : Nat) (H : Hs w0 L0 w L) {kd : TypeDesc} {enc : α → Value} {bt t kt et : Nat} {mp : List (α × Value)} (hi : L[i]? = some (mapI kd enc bt mp))
    (k : ∀ r w', Hs w0 L0 w' (L.set i (itI kd enc bt r mp mp none)) → Goal P B b n d (nx (vX (via P b n m w x (ask (rgA b n)))).y (vX (via P b n m w x (ask (rgA b n)))).q (.pointer (some ⟨r, 0, none⟩))) w')
    (h : vA (via P b n m w x (ask (rgA b n))) = vB w (via P b n m w x (ask (rgA b n))) := by kernel_rfl)
    (h2 : ((vX (via P b n m w x (ask (rgA b n)))).u, (vX (via P b n m w x (ask (rgA b n)))).t) = ([.map (some bt)], [t]) := by kernel_rfl)
    (ht : mapT P t = some (kt, et) := by kernel_rfl) : Goal P B b n d x w := by
  obtain ⟨y, hr, hf⟩ := ask_ok h
  refine run_sound hr ?_
  generalize vX (via P b n m w x (ask (rgA b n))) = zz at *
  unfold rgA at hf
  split at hf <;> try contradiction
  rename_i q hq
  split at hf <;> try contradiction
  rename_i t' mo hop
  simp only [Option.some.injEq] at hf
  subst hf
  simp only [Prod.mk.injEq, List.cons.injEq, and_true] at h2
  obtain ⟨h3, rfl⟩ := h2
  obtain ⟨⟨es, ck, hb, hm⟩, _, _⟩ := H.at i hi
  have hmt := mapT_eq ht
  refine hd_val hq (v := .pointer (some ⟨w.heap.size, 0, none⟩)) (w' := w.alloc (.mapIter (some bt) ck #[] ck)) ?_ (k _ _ ?_)
  · unfold execOp
    simp [hop, h3, Instr.range, run_underlying hmt, Sem.run_bind, MapKept.run_getObj_map hb, Result.andThen]
  · refine H.put i hi rfl (Kp.of_ext (G_alloc w _) _) (itI_holds ⟨es, ck, #[], ?_, hm, Has_alloc w _, ?_, trivial⟩) (fun c hc => ?_)
    · exact (G_alloc w _).block _ (Has.lt hb) (by simp) |>.trans hb
    · have : leftOf es #[] = es := by unfold leftOf; simp
      rw [this, hm.2.2]
    · rcases hc with rfl | rfl
      · exact .inl rfl
      · exact .inr (Nat.le_refl _)
def ntA (b : Nat → Value) (n : Nat) (x : St) : Option Ask :=
  match hd b n x with
  | some q => match q.2.2.op with
    | .next it s => match s with
      | false => some ⟨[ev b n x.l it], [], x, q⟩
      | true => none
    | _ => none
  | none => none
/-- The next one, whichever. -/
theorem nt (m i : Nat) (H : Hs w0 L0 w L) {kd : TypeDesc} {enc : α → Value} {bt r : Nat} {mp left : List (α × Value)} {cur : Option (α × Value)} (hi : L[i]? = some (itI kd enc bt r mp left cur))
    (k0 : left = [] → Goal P B b n d (nx (vX (via P b n m w x (ask (ntA b n)))).y (vX (via P b n m w x (ask (ntA b n)))).q (.tuple #[.bool false])) w)
    (k1 : ∀ p left' w', left.Perm (p :: left') → Hs w0 L0 w' (L.set i (itI kd enc bt r mp left' (some p))) → Goal P B b n d (nx (vX (via P b n m w x (ask (ntA b n)))).y (vX (via P b n m w x (ask (ntA b n)))).q (.tuple #[.bool true, enc p.1, p.2])) w')
    (h : vA (via P b n m w x (ask (ntA b n))) = vB w (via P b n m w x (ask (ntA b n))) := by kernel_rfl)
    (h2 : (vX (via P b n m w x (ask (ntA b n)))).u = [.pointer (some ⟨r, 0, none⟩)] := by kernel_rfl) : Goal P B b n d x w := by
  obtain ⟨y, hr, hf⟩ := ask_ok h
  refine run_sound hr ?_
  generalize vX (via P b n m w x (ask (ntA b n))) = zz at *
  unfold ntA at hf
  split at hf <;> try contradiction
  rename_i q hq
  split at hf <;> try contradiction
  rename_i it s hop
  split at hf <;> try contradiction
  simp only [Option.some.injEq] at hf
  subst hf
  simp only [List.cons.injEq, and_true] at h2
  have hit := H.at i hi
  obtain ⟨⟨es, ck, seen, hb, hm, hri, hl, hc⟩, hlt, _⟩ := hit
  have hst := (stamped_iff es ck).1 hm.1
  have hx : ∀ v w', (Instr.next (.pointer (some ⟨r, 0, none⟩)) false q.2.2.type).run P w = .ok v w' → (execOp (ev b n y.l) q.2.2).run P w = .ok (.value v) w' := by
    intro v w' hv
    unfold execOp
    simp [hop, h2, hv, Sem.run_bind, Result.andThen]
  rcases run_next_at (P := P) w q.2.2.type r bt ck ck seen es ck hri hb hst.1 (Nat.le_refl _) with ⟨h0, hrun⟩ | ⟨e, he, w1, hw1, hrun⟩
  · have : left = [] := by
      have e0 : (leftOf es seen).toList = [] := by
        have := Array.eq_empty_of_size_eq_zero h0
        rw [this]
      rw [e0] at hl
      have := hl.length_eq
      cases left with
      | nil => rfl
      | cons _ _ => simp at this
    exact hd_val hq (hx _ _ hrun) (k0 this)
  · have hp := left_push es seen e hst.2.1 he
    have hees : e ∈ es.toList := by
      unfold leftOf at he; rw [Array.toList_filter] at he; exact (List.mem_filter.1 he).1
    obtain ⟨p, hpm, hpe⟩ : ∃ p ∈ left, (enc p.1, p.2) = (e.key, e.val) := by
      have : (e.key, e.val) ∈ (leftOf es seen).toList.map (fun e => (e.key, e.val)) := List.mem_map.2 ⟨e, he, rfl⟩
      rw [hl.mem_iff] at this
      exact List.mem_map.1 this
    simp only [Prod.mk.injEq] at hpe
    obtain ⟨s, t, rfl⟩ := List.append_of_mem hpm
    have hl' : ((leftOf es (seen.push e.born)).toList.map (fun e => (e.key, e.val))).Perm ((s ++ t).map (fun p => (enc p.1, p.2))) := by
      have h1 := (hp.map (fun e => (e.key, e.val))).symm.trans (hl.trans ((List.perm_middle (a := p) (l₁ := s) (l₂ := t)).map _))
      simp only [List.map_cons, hpe.1, hpe.2] at h1
      exact (List.perm_cons _).1 h1
    have hrb : r ≠ bt := by
      intro q; subst q
      have := hb.symm.trans hri; cases this
    refine hd_val hq (hx _ _ hrun) ?_
    have hb1 := has_drew hw1 hb
    have hr1 := has_drew hw1 hri
    have hE : Ext w w1 := by
      rcases hw1 with rfl | rfl
      · exact Ext.refl _
      · exact ⟨rfl, rfl, rfl, Nat.le_refl _, fun _ _ _ => rfl⟩
    have k' := k1 p (s ++ t) (ChangeMaps.setBlock w1 r (.mapIter (some bt) ck (seen.push e.born) ck)) List.perm_middle ?_
    · rw [hpe.1, hpe.2] at k'; exact k'
    have hG : G w1 (ChangeMaps.setBlock w1 r (.mapIter (some bt) ck (seen.push e.born) ck)) (some r) := G_setObj w1 r _
    refine H.put i hi rfl (Kp.trans (Kp.of_ext hE _) ((Kp.of_G hG).mono fun c hc => .inr (Option.some.inj hc).symm)) (itI_holds ⟨es, ck, seen.push e.born, ?_, hm, Has_setObj _ hr1, hl', e, seen, rfl, hees, hpe.1.symm, hpe.2.symm⟩) (fun c hc => .inl hc)
    exact (hG.block _ (Has.lt hb1) (by simp; exact fun q => hrb q.symm)).trans hb1
def enA (b : Nat → Value) (n : Nat) (x : St) : Option Ask :=
  match hd b n x with
  | some q => match q.2.2.op with
    | .entry it => some ⟨[ev b n x.l it], [], x, q⟩
    | _ => none
  | none => none
/-- The one that has been come to. -/
theorem ent (m i : Nat) (H : Hs w0 L0 w L) {kd : TypeDesc} {enc : α → Value} {bt r : Nat} {mp left : List (α × Value)} {p : α × Value} (hi : L[i]? = some (itI kd enc bt r mp left (some p)))
    (k : Goal P B b n d (nx (vX (via P b n m w x (ask (enA b n)))).y (vX (via P b n m w x (ask (enA b n)))).q (.tuple #[enc p.1, p.2])) w)
    (h : vA (via P b n m w x (ask (enA b n))) = vB w (via P b n m w x (ask (enA b n))) := by kernel_rfl)
    (h2 : (vX (via P b n m w x (ask (enA b n)))).u = [.pointer (some ⟨r, 0, none⟩)] := by kernel_rfl) : Goal P B b n d x w := by
  obtain ⟨y, hr, hf⟩ := ask_ok h
  refine run_sound hr ?_
  generalize vX (via P b n m w x (ask (enA b n))) = zz at *
  unfold enA at hf
  split at hf <;> try contradiction
  rename_i q hq
  split at hf <;> try contradiction
  rename_i it hop
  simp only [Option.some.injEq] at hf
  subst hf
  simp only [List.cons.injEq, and_true] at h2
  obtain ⟨⟨es, ck, seen, hb, hm, hri, hl, e, s, rfl, he, h3, h4⟩, _, _⟩ := H.at i hi
  have hst := (stamped_iff es ck).1 hm.1
  have hrun := run_entry_at (P := P) w r bt ck s es ck e hri hb he hst.2.1
  refine hd_val hq ?_ k
  unfold execOp
  simp [hop, h2, hrun, h3, h4, Sem.run_bind, Result.andThen]
omit [Rd] in
/-- The map again. -/
theorem itI_end [DecidableEq α] (H : Hs w0 L0 w L) (i : Nat) {kd : TypeDesc} {enc : α → Value} {bt r : Nat} {mp left : List (α × Value)} {cur : Option (α × Value)} (hi : L[i]? = some (itI kd enc bt r mp left cur)) : Hs w0 L0 w (L.set i (mapI kd enc bt mp)) := by
  obtain ⟨⟨es, ck, seen, hb, hm, _⟩, _, _⟩ := H.at i hi
  exact H.as i _ hi rfl (mapI_holds hb hm) (fun c hc => .inl hc)
end
end Go.Sx
