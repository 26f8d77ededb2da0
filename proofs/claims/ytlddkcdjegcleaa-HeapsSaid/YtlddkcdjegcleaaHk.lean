/- A map whose keys are the addresses of a row's cells, in their order. -/
import Derived.Test.YtlddkcdjegcleaaHq
import Derived.LaidEqlPtr
set_option linter.unusedVariables false
set_option linter.unusedSimpArgs false
namespace Go.Sx
open Go.RowKit Go.Gx Go.MapKept Go.Hp
def pmI (bt g k : Nat) : Item := .abs (fun c => c = bt) (fun w => ∃ es ck, Has w bt (.map es ck) ∧ es.toList.map (fun e => (e.key, e.val)) = (List.range k).map (fun i => (Value.pointer (some ⟨g, i * 2, none⟩), Value.bool true)))
theorem pmI_holds {bt g k : Nat} {w : World} {es : Array MapEntry} {ck : Nat} (h : Has w bt (.map es ck)) (hm : es.toList.map (fun e => (e.key, e.val)) = (List.range k).map (fun i => (Value.pointer (some ⟨g, i * 2, none⟩), Value.bool true))) : (pmI bt g k).holds w :=
  ⟨⟨es, ck, h, hm⟩, fun c hc => by cases hc; exact h.lt, fun w w' _ hk ⟨es, ck, h1, h2⟩ => ⟨es, ck, (hk bt rfl).trans h1, h2⟩⟩
theorem pm_new {w0 w : World} {L0 L : List Item} (g : Nat) {bt i : Nat} (H : Hs w0 L0 w L) (hi : L[i]? = some (.blk bt (.map #[] 0))) : Hs w0 L0 w (L.set i (pmI bt g 0)) :=
  H.as i _ hi rfl (pmI_holds (H.at i hi) rfl) (fun _ h => h)
theorem pm_find {P : Program} {w : World} {kt te : TypeId} {inf : TypeInfo} {g k : Nat} {ca : Array Value} {ta : TypeId} (hp : P.underlying kt = some (.pointer te)) (hte : P.info? te = some inf) (hsz : inf.size ≠ 0) (hg : Has w g (.cells ca ta)) :
    ∀ (es : List MapEntry) (s : Nat), (∀ e ∈ es, ∃ i, e.key = .pointer (some ⟨g, i * 2, none⟩) ∧ i ≠ k) → (Instr.findAsking kt (.pointer (some ⟨g, k * 2, none⟩)) es s).run P w = .ok none w
  | [], s, _ => by simp [Instr.findAsking]
  | e :: es, s, h => by
    obtain ⟨i, he, hi⟩ := h e (.head _)
    have hne : (⟨g, k * 2, none⟩ : Addr) ≠ ⟨g, i * 2, none⟩ := fun q => by injection q; omega
    have heq : (Op.equal kt (.pointer (some ⟨g, k * 2, none⟩)) (.pointer (some ⟨g, i * 2, none⟩))).run P w = .ok false w := by
      have h : ∀ d : Nat, (Op.equalIn (d + 1) kt (.pointer (some ⟨g, k * 2, none⟩)) (.pointer (some ⟨g, i * 2, none⟩))).run P w = .ok false w := fun d => by
        simp [Op.equalIn, run_underlying hp, sizeOf, typeInfo, hte, hsz, run_sameAddr_other w hne hg hg]
      simp [Op.equal, Op.maxDepth, h 9999]
    have ih := pm_find hp hte hsz hg es (s + 1) (fun e' h' => h e' (.tail _ h'))
    simp [Instr.findAsking, he, heq, ih]
theorem pm_key {P : Program} {w : World} {kt te : TypeId} {inf : TypeInfo} {g k : Nat} {ca : Array Value} {ta : TypeId} (hp : P.underlying kt = some (.pointer te)) (hte : P.info? te = some inf) (hsz : inf.size ≠ 0) (hg : Has w g (.cells ca ta))
    (es : List MapEntry) (h : ∀ e ∈ es, ∃ i, e.key = .pointer (some ⟨g, i * 2, none⟩) ∧ i ≠ k) : (Instr.findKey kt (.pointer (some ⟨g, k * 2, none⟩)) es).run P w = .ok none w := by
  cases es with
  | nil => simp [Instr.findKey, run_underlying hp, Instr.findNow]
  | cons e es =>
    have hf := pm_find hp hte hsz hg (e :: es) 0 h
    have hn : Instr.findNow (.pointer te) (.pointer (some ⟨g, k * 2, none⟩)) (e :: es) 0 = none := by
      obtain ⟨i, he, _⟩ := h e (.head _)
      simp [Instr.findNow, Instr.sameNow]
    simp [Instr.findKey, run_underlying hp, hn, hf]
theorem pm_keys {es : Array MapEntry} {g k : Nat} (hm : es.toList.map (fun e => (e.key, e.val)) = (List.range k).map (fun i => (Value.pointer (some ⟨g, i * 2, none⟩), Value.bool true))) : ∀ e ∈ es.toList, ∃ i, e.key = .pointer (some ⟨g, i * 2, none⟩) ∧ i ≠ k := fun e he => by
  have h1 : (e.key, e.val) ∈ es.toList.map (fun e => (e.key, e.val)) := List.mem_map.2 ⟨e, he, rfl⟩
  rw [hm] at h1
  obtain ⟨i, hi, e2⟩ := List.mem_map.1 h1
  have := List.mem_range.1 hi
  injection e2 with e3 e4
  exact ⟨i, e3.symm, by omega⟩
section
variable [Rd] {P : Program} {B : Exit → Act → World → Prop} {b : Nat → Value} {n : Nat} {d : List Deferred} {w0 w : World} {x : St} {L0 L : List Item}
/-- The next cell's address is no key yet. -/
theorem lkP (m i j k : Nat) (H : Hs w0 L0 w L) {bt g t kt et e sz cap c : Nat} {xs : List Value} (hi : L[i]? = some (pmI bt g k)) (hj : L[j]? = some (.own e sz (some ⟨g, 0, none⟩) cap c xs))
    (kk : Goal P B b n d (nx (vX (via P b n m w x (ask (lkA b n)))).y (vX (via P b n m w x (ask (lkA b n)))).q (.bool false)) w)
    (h : vA (via P b n m w x (ask (lkA b n))) = vB w (via P b n m w x (ask (lkA b n))) := by kernel_rfl)
    (h2 : ((vX (via P b n m w x (ask (lkA b n)))).u, (vX (via P b n m w x (ask (lkA b n)))).t) = ([.map (some bt), .pointer (some ⟨g, k * 2, none⟩)], [t, 0]) := by kernel_rfl)
    (ht : mapT P t = some (kt, et) := by kernel_rfl) {te : TypeId} (hkt : P.underlying kt = some (.pointer te) := by kernel_rfl) (hs : (match P.info? te with | some inf => Nat.blt 0 inf.size | none => false) = true := by kernel_rfl) (hz : (P.info? et).bind (·.zero) = some (.bool false) := by kernel_rfl) : Goal P B b n d x w := by
  obtain ⟨y, hr, hf⟩ := ask_ok h
  refine run_sound hr ?_
  generalize vX (via P b n m w x (ask (lkA b n))) = zz at *
  unfold lkA at hf
  split at hf <;> try contradiction
  rename_i q hq
  split at hf <;> try contradiction
  rename_i t' mo ix ok hop
  simp only [Option.some.injEq] at hf
  subst hf
  simp only [Prod.mk.injEq, List.cons.injEq, and_true] at h2
  obtain ⟨⟨h3, h4⟩, rfl, h5⟩ := h2
  obtain ⟨⟨es, ck, hb, hm⟩, _, _⟩ := H.at i hi
  obtain ⟨cur, hg, _, _⟩ := own_cell (H.at j hj)
  have hmt := mapT_eq ht
  have hzv : (zeroValue et).run P w = .ok (.bool false) w := by
    cases hinf : P.info? et with
    | none => simp [hinf] at hz
    | some inf => rw [hinf] at hz; simp only [Option.bind_some] at hz; simp [zeroValue, typeInfo, hinf, hz]
  refine hd_val hq ?_ kk
  unfold execOp
  have hgo := MapKept.run_getObj_map (P := P) (w := w) hb
  have hck : ∀ em, (Instr.checkKey em 10000 kt (.pointer (some ⟨g, k * 2, none⟩))).run P w = .ok () w := fun em => by unfold Instr.checkKey; simp only [Sem.run_bind, run_underlying hkt, Result.andThen]; rfl
  cases hinf : P.info? te with
  | none => rw [hinf] at hs; cases hs
  | some inf =>
    rw [hinf] at hs
    have hfk := pm_key (k := k) hkt hinf (by have := Nat.le_of_ble_eq_true hs; omega) hg es.toList (pm_keys hm)
    cases ok with
    | true => simp at h5
    | false => simp [hop, h3, h4, Instr.lookup, run_underlying hmt, Sem.run_bind, hgo, hck, hfk, hzv, Result.andThen]
/-- The next cell's address becomes a key. -/
theorem muP (m i j k : Nat) (H : Hs w0 L0 w L) {bt g t kt et e sz cap c : Nat} {xs : List Value} (hi : L[i]? = some (pmI bt g k)) (hj : L[j]? = some (.own e sz (some ⟨g, 0, none⟩) cap c xs))
    (kk : ∀ w', Hs w0 L0 w' (L.set i (pmI bt g (k + 1))) → Goal P B b n d (nx (vX (via P b n m w x (ask (muA b n)))).y (vX (via P b n m w x (ask (muA b n)))).q undef) w')
    (h : vA (via P b n m w x (ask (muA b n))) = vB w (via P b n m w x (ask (muA b n))) := by kernel_rfl)
    (h2 : ((vX (via P b n m w x (ask (muA b n)))).u, (vX (via P b n m w x (ask (muA b n)))).t) = ([.map (some bt), .pointer (some ⟨g, k * 2, none⟩), .bool true], [t]) := by kernel_rfl)
    (ht : mapT P t = some (kt, et) := by kernel_rfl) {te : TypeId} (hkt : P.underlying kt = some (.pointer te) := by kernel_rfl) (hs : (match P.info? te with | some inf => Nat.blt 0 inf.size | none => false) = true := by kernel_rfl) : Goal P B b n d x w := by
  obtain ⟨y, hr, hf⟩ := ask_ok h
  refine run_sound hr ?_
  generalize vX (via P b n m w x (ask (muA b n))) = zz at *
  unfold muA at hf
  split at hf <;> try contradiction
  rename_i q hq
  split at hf <;> try contradiction
  rename_i t' mo ix vo hop
  simp only [Option.some.injEq] at hf
  subst hf
  simp only [Prod.mk.injEq, List.cons.injEq, and_true] at h2
  obtain ⟨⟨h3, h4, h6⟩, rfl⟩ := h2
  obtain ⟨⟨es, ck, hb, hm⟩, _, _⟩ := H.at i hi
  obtain ⟨cur, hg, _, _⟩ := own_cell (H.at j hj)
  have hmt := mapT_eq ht
  have hgo := MapKept.run_getObj_map (P := P) (w := w) hb
  have hck : ∀ em, (Instr.checkKey em 10000 kt (.pointer (some ⟨g, k * 2, none⟩))).run P w = .ok () w := fun em => by unfold Instr.checkKey; simp only [Sem.run_bind, run_underlying hkt, Result.andThen]; rfl
  cases hinf : P.info? te with
  | none => rw [hinf] at hs; cases hs
  | some inf =>
    rw [hinf] at hs
    have hfk := pm_key (k := k) hkt hinf (by have := Nat.le_of_ble_eq_true hs; omega) hg es.toList (pm_keys hm)
    have hrun : (execOp (ev b n y.l) q.2.2).run P w = .ok .skip { w with heap := w.heap.setIfInBounds bt (.map (es.push { key := .pointer (some ⟨g, k * 2, none⟩), val := .bool true, born := ck }) (ck + 1)) } := by
      unfold execOp
      simp [hop, h3, h4, h6, Instr.mapUpdate, run_underlying hmt, Sem.run_bind, hgo, hck, hfk, Result.andThen, MapKept.run_setObj_map _ hb]
    refine at_hd hq fun j ho hw _ K hK => op_skip ho hw hrun (hK _ _ (kk _ ?_))
    refine H.put i hi rfl (Kp.mono (Kp.of_G (G_setObj w bt _)) (fun c hc => (Option.some.inj hc).symm)) (pmI_holds (Has_setObj _ hb) ?_) (fun c hc => .inl hc)
    rw [Array.toList_push, List.map_append, hm, List.range_succ, List.map_append]
    rfl
end
end Go.Sx
