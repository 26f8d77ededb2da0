/- Steps on pointers to blocks: are they the same, maps keyed by them. Nothing of the claim's program stands here. -/
import Derived.Test.YtfkkocjheeoobaaSx4
import Derived.LaidEqlPtr
import Derived.Test.YtfkkocjheeoobaaGraph
import Derived.Test.YtfkkocjheeoobaaSi
set_option linter.unusedVariables false
set_option linter.unusedSimpArgs false
set_option linter.unusedVariables false
set_option linter.unusedSimpArgs false
namespace Go.Sx
open Go.RowKit Go.Gx Go.MapKept
abbrev bp (b : Nat) : Value := .pointer (some ⟨b, 0, none⟩)
/-- A block of cells. -/
def Cb (w : World) (b : Nat) : Prop := ∃ ca ta, Has w b (.cells ca ta)
theorem eq_bp {P : Program} {w : World} {kt te : TypeId} {inf : TypeInfo} {a b : Nat} (hp : P.underlying kt = some (.pointer te)) (hte : P.info? te = some inf) (hsz : inf.size ≠ 0) (ha : Cb w a) (hb : Cb w b) :
    (Op.equal kt (bp a) (bp b)).run P w = .ok (decide (a = b)) w := by
  have h : ∀ d : Nat, (Op.equalIn (d + 1) kt (bp a) (bp b)).run P w = .ok (decide (a = b)) w := fun d => by
    by_cases e : a = b
    · subst e; simp [Op.equalIn, run_underlying hp, sizeOf, typeInfo, hte, run_sameAddr_same]
    · obtain ⟨ca, ta, ha⟩ := ha
      obtain ⟨cb, tb, hb⟩ := hb
      have hne : (⟨a, 0, none⟩ : Addr) ≠ ⟨b, 0, none⟩ := fun q => e (by injection q)
      simp [Op.equalIn, run_underlying hp, sizeOf, typeInfo, hte, hsz, run_sameAddr_other w hne ha hb, e]
  simp [Op.equal, Op.maxDepth, h 9999]
theorem find_bp {P : Program} {w : World} {kt te : TypeId} {inf : TypeInfo} {a : Nat} (hp : P.underlying kt = some (.pointer te)) (hte : P.info? te = some inf) (hsz : inf.size ≠ 0) (ha : Cb w a) :
    ∀ (es : List MapEntry) (m : List (Nat × Value)) (s : Nat), (∀ p ∈ m, Cb w p.1) → es.map (fun e => (e.key, e.val)) = m.map (fun p => (bp p.1, p.2)) →
      (Instr.findAsking kt (bp a) es s).run P w = .ok ((pos a m).bind fun j => (m[j]?).map fun p => (s + j, p.2)) w
  | [], [], _, _, _ => by simp [Instr.findAsking, pos]
  | [], _ :: _, _, _, h => by simp at h
  | _ :: _, [], _, _, h => by simp at h
  | e :: es, p :: m, s, hk, h => by
    simp only [List.map_cons, List.cons.injEq, Prod.mk.injEq] at h
    obtain ⟨⟨h1, h2⟩, h3⟩ := h
    have heq := eq_bp hp hte hsz ha (hk p (.head _))
    have ih := find_bp hp hte hsz ha es m (s + 1) (fun q hq => hk q (.tail _ hq)) h3
    by_cases e1 : a = p.1
    · rw [decide_eq_true e1] at heq
      simp only [Instr.findAsking, h1, Sem.run_bind, heq, Result.andThen, pos, if_pos e1.symm, if_true]
      simp [h2]
    · rw [decide_eq_false e1] at heq
      simp only [Instr.findAsking, h1, Sem.run_bind, heq, Result.andThen, pos, if_neg (Ne.symm e1), Bool.false_eq_true, if_false, ih]
      cases pos a m with
      | none => rfl
      | some j => simp only [Option.bind_some, Option.map_some, List.getElem?_cons_succ]; congr 2; funext q; congr 1; omega
theorem key_bp {P : Program} {w : World} {kt te : TypeId} {inf : TypeInfo} {a : Nat} (hp : P.underlying kt = some (.pointer te)) (hte : P.info? te = some inf) (hsz : inf.size ≠ 0) (ha : Cb w a)
    (es : List MapEntry) (m : List (Nat × Value)) (hk : ∀ p ∈ m, Cb w p.1) (h : es.map (fun e => (e.key, e.val)) = m.map (fun p => (bp p.1, p.2))) :
    (Instr.findKey kt (bp a) es).run P w = .ok ((pos a m).bind fun j => (m[j]?).map fun p => (0 + j, p.2)) w := by
  cases es with
  | nil => cases m with
    | nil => simp [Instr.findKey, run_underlying hp, Instr.findNow, pos]
    | cons p m => simp at h
  | cons e es =>
    have hf := find_bp hp hte hsz ha (e :: es) m 0 hk h
    have hn : Instr.findNow (.pointer te) (bp a) (e :: es) 0 = none := by
      cases m with
      | nil => simp at h
      | cons p m =>
        simp only [List.map_cons, List.cons.injEq, Prod.mk.injEq] at h
        simp [Instr.findNow, Instr.sameNow, h.1.1]
    simp [Instr.findKey, run_underlying hp, hn, hf]
/-- A map keyed by pointers to blocks. -/
def pkI (bt : Nat) (m : List (Nat × Value)) : Item := .abs (fun c => c = bt) (fun w => ∃ es ck, Has w bt (.map es ck) ∧ es.toList.map (fun e => (e.key, e.val)) = m.map (fun p => (bp p.1, p.2)))
theorem pkI_holds {bt : Nat} {m : List (Nat × Value)} {w : World} {es : Array MapEntry} {ck : Nat} (h : Has w bt (.map es ck)) (hm : es.toList.map (fun e => (e.key, e.val)) = m.map (fun p => (bp p.1, p.2))) : (pkI bt m).holds w :=
  ⟨⟨es, ck, h, hm⟩, fun c hc => by cases hc; exact h.lt, fun w w' _ hk ⟨es, ck, h1, h2⟩ => ⟨es, ck, (hk bt rfl).trans h1, h2⟩⟩
theorem pk_new {w0 w : World} {L0 L : List Item} {bt i : Nat} (H : Hs w0 L0 w L) (hi : L[i]? = some (.blk bt (.map #[] 0))) : Hs w0 L0 w (L.set i (pkI bt [])) :=
  H.as i _ hi rfl (pkI_holds (H.at i hi) rfl) (fun _ h => h)
def peA (b : Nat → Value) (n : Nat) (x : St) : Option Ask :=
  match hd b n x with
  | some q => match q.2.2.op with
    | .binOp op t y z t' => match op with
      | .eql => some ⟨[ev b n x.l y, ev b n x.l z], [t], x, q⟩
      | _ => none
    | _ => none
  | none => none
section
variable [Rd] {P : Program} {B : Exit → Act → World → Prop} {b : Nat → Value} {n : Nat} {d : List Deferred} {w0 w : World} {x : St} {L0 L : List Item}
/-- Are two pointers the same? -/
theorem peq (m p q : Nat) (t : Bool) (hp : Cb w p) (hq : Cb w q) (ht : decide (p = q) = t)
    (k : Goal P B b n d (nx (vX (via P b n m w x (ask (peA b n)))).y (vX (via P b n m w x (ask (peA b n)))).q (.bool t)) w)
    (h : vA (via P b n m w x (ask (peA b n))) = vB w (via P b n m w x (ask (peA b n))) := by kernel_rfl)
    {kt : Nat} (h2 : ((vX (via P b n m w x (ask (peA b n)))).u, (vX (via P b n m w x (ask (peA b n)))).t) = ([bp p, bp q], [kt]) := by kernel_rfl)
    {te : TypeId} (hkt : P.underlying kt = some (.pointer te) := by kernel_rfl) (hs : (match P.info? te with | some inf => Nat.blt 0 inf.size | none => false) = true := by kernel_rfl) : Goal P B b n d x w := by
  obtain ⟨y, hr, hf⟩ := ask_ok h
  refine run_sound hr ?_
  generalize vX (via P b n m w x (ask (peA b n))) = zz at *
  unfold peA at hf
  split at hf <;> try contradiction
  rename_i qq hqq
  split at hf <;> try contradiction
  rename_i op t1 y1 z1 t2 hop
  split at hf <;> try contradiction
  simp only [Option.some.injEq] at hf
  subst hf
  simp only [Prod.mk.injEq, List.cons.injEq, and_true] at h2
  obtain ⟨⟨h3, h4⟩, rfl⟩ := h2
  cases hinf : P.info? te with
  | none => rw [hinf] at hs; cases hs
  | some inf =>
    rw [hinf] at hs
    have he := eq_bp hkt hinf (by have := Nat.le_of_ble_eq_true hs; omega) hp hq
    refine hd_val hqq ?_ k
    unfold execOp
    subst ht
    simp [hop, h3, h4, binOp, Sem.run_bind, he, Result.andThen, eqGuard]
theorem lkB (m i a : Nat) (mp : List (Nat × Value)) (z : Value) (H : Hs w0 L0 w L) {bt t kt et : Nat} (ha : Cb w a) (hks : ∀ p ∈ mp, Cb w p.1) (hi : L[i]? = some (pkI bt mp)) {v : Value} (hv : (look a mp).getD z = v)
    (kk : Goal P B b n d (nx (vX (via P b n m w x (ask (lkA b n)))).y (vX (via P b n m w x (ask (lkA b n)))).q v) w)
    (h : vA (via P b n m w x (ask (lkA b n))) = vB w (via P b n m w x (ask (lkA b n))) := by kernel_rfl)
    (h2 : ((vX (via P b n m w x (ask (lkA b n)))).u, (vX (via P b n m w x (ask (lkA b n)))).t) = ([.map (some bt), bp a], [t, 0]) := by kernel_rfl)
    (ht : mapT P t = some (kt, et) := by kernel_rfl) {te : TypeId} (hkt : P.underlying kt = some (.pointer te) := by kernel_rfl) (hs : (match P.info? te with | some inf => Nat.blt 0 inf.size | none => false) = true := by kernel_rfl) (hz : (P.info? et).bind (·.zero) = some z := by kernel_rfl) : Goal P B b n d x w := by
  obtain ⟨y, hr, hf⟩ := ask_ok h
  refine run_sound hr ?_
  generalize vX (via P b n m w x (ask (lkA b n))) = zz at *
  unfold lkA at hf
  split at hf <;> try contradiction
  rename_i q hq
  split at hf <;> try contradiction
  rename_i t' mo ix ok hop
  simp only [Option.some.injEq] at hf
  subst hf
  simp only [Prod.mk.injEq, List.cons.injEq, and_true] at h2
  obtain ⟨⟨h3, h4⟩, rfl, h5⟩ := h2
  obtain ⟨⟨es, ck, hb, hm⟩, _, _⟩ := H.at i hi
  have hmt := mapT_eq ht
  have hzv : (zeroValue et).run P w = .ok z w := by
    cases hinf : P.info? et with
    | none => simp [hinf] at hz
    | some inf => rw [hinf] at hz; simp only [Option.bind_some] at hz; simp [zeroValue, typeInfo, hinf, hz]
  subst hv
  refine hd_val hq ?_ kk
  unfold execOp
  have hgo := MapKept.run_getObj_map (P := P) (w := w) hb
  have hck : ∀ em, (Instr.checkKey em 10000 kt (bp a)).run P w = .ok () w := fun em => by unfold Instr.checkKey; simp only [Sem.run_bind, run_underlying hkt, Result.andThen]; rfl
  cases hinf : P.info? te with
  | none => rw [hinf] at hs; cases hs
  | some inf =>
    rw [hinf] at hs
    have hfk := key_bp hkt hinf (by have := Nat.le_of_ble_eq_true hs; omega) ha es.toList mp hks hm
    rw [look_eq] at hfk
    cases hp : pos a mp with
    | none =>
      have hl := look_none.2 hp
      rw [hp] at hfk
      cases ok with
      | true => simp at h5
      | false => simp [hop, h3, h4, Instr.lookup, run_underlying hmt, Sem.run_bind, hgo, hck, hfk, hzv, hl, Result.andThen]
    | some j =>
      obtain ⟨v, hv⟩ := pos_some hp
      have hl : look a mp = some v := by unfold look; rw [hp]; simp [hv]
      rw [hp] at hfk
      simp only [hl, Option.map_some] at hfk
      cases ok with
      | true => simp at h5
      | false => simp [hop, h3, h4, Instr.lookup, run_underlying hmt, Sem.run_bind, hgo, hck, hfk, hl, Result.andThen]
theorem muB (m i a : Nat) (mp : List (Nat × Value)) (v : Value) (H : Hs w0 L0 w L) {bt t kt et : Nat} (ha : Cb w a) (hks : ∀ p ∈ mp, Cb w p.1) (hi : L[i]? = some (pkI bt mp)) {mp' : List (Nat × Value)} (hmp : upd a v mp = mp')
    (k : ∀ w', Hs w0 L0 w' (L.set i (pkI bt mp')) → Goal P B b n d (nx (vX (via P b n m w x (ask (muA b n)))).y (vX (via P b n m w x (ask (muA b n)))).q undef) w')
    (h : vA (via P b n m w x (ask (muA b n))) = vB w (via P b n m w x (ask (muA b n))) := by kernel_rfl)
    (h2 : ((vX (via P b n m w x (ask (muA b n)))).u, (vX (via P b n m w x (ask (muA b n)))).t) = ([.map (some bt), bp a, v], [t]) := by kernel_rfl)
    (ht : mapT P t = some (kt, et) := by kernel_rfl) {te : TypeId} (hkt : P.underlying kt = some (.pointer te) := by kernel_rfl) (hs : (match P.info? te with | some inf => Nat.blt 0 inf.size | none => false) = true := by kernel_rfl) : Goal P B b n d x w := by
  subst hmp
  obtain ⟨y, hr, hf⟩ := ask_ok h
  refine run_sound hr ?_
  generalize vX (via P b n m w x (ask (muA b n))) = zz at *
  unfold muA at hf
  split at hf <;> try contradiction
  rename_i q hq
  split at hf <;> try contradiction
  rename_i t' mo ix vo hop
  simp only [Option.some.injEq] at hf
  subst hf
  simp only [Prod.mk.injEq, List.cons.injEq, and_true] at h2
  obtain ⟨⟨h3, h4, h6⟩, rfl⟩ := h2
  obtain ⟨⟨es, ck, hb, hm⟩, _, _⟩ := H.at i hi
  have hmt := mapT_eq ht
  have hgo := MapKept.run_getObj_map (P := P) (w := w) hb
  have hck : ∀ em, (Instr.checkKey em 10000 kt (bp a)).run P w = .ok () w := fun em => by unfold Instr.checkKey; simp only [Sem.run_bind, run_underlying hkt, Result.andThen]; rfl
  have fin : ∀ es' : Array MapEntry, ∀ ck', es'.toList.map (fun e => (e.key, e.val)) = (upd a v mp).map (fun p => (bp p.1, p.2)) → (execOp (ev b n y.l) q.2.2).run P w = .ok .skip { w with heap := w.heap.setIfInBounds bt (.map es' ck') } → Goal P B b n d y w := by
    intro es' ck' hm' hrun
    refine at_hd hq fun j ho hw _ K hK => op_skip ho hw hrun (hK _ _ (k _ ?_))
    exact H.put i hi rfl (Kp.mono (Kp.of_G (G_setObj w bt _)) (fun c hc => (Option.some.inj hc).symm)) (pkI_holds (Has_setObj _ hb) hm') (fun c hc => .inl hc)
  cases hinf : P.info? te with
  | none => rw [hinf] at hs; cases hs
  | some inf =>
    rw [hinf] at hs
    have hfk := key_bp hkt hinf (by have := Nat.le_of_ble_eq_true hs; omega) ha es.toList mp hks hm
    rw [look_eq] at hfk
    cases hp : pos a mp with
    | none =>
      rw [hp] at hfk
      refine fin (es.push { key := bp a, val := v, born := ck }) (ck + 1) ?_ ?_
      · rw [Array.toList_push, List.map_append, hm]; simp [upd, hp]
      · unfold execOp
        simp [hop, h3, h4, h6, Instr.mapUpdate, run_underlying hmt, Sem.run_bind, hgo, hck, hfk, Result.andThen, MapKept.run_setObj_map _ hb]
    | some j =>
      obtain ⟨v0, hv⟩ := pos_some hp
      have hl : look a mp = some v0 := by unfold look; rw [hp]; simp [hv]
      rw [hp] at hfk
      simp only [hl, Option.map_some] at hfk
      have hkey : ∀ e, es[j]? = some e → e.key = bp a := by
        intro e he
        have h1 : (es.toList.map (fun e => (e.key, e.val)))[j]? = some (e.key, e.val) := by rw [List.getElem?_map]; simp [he]
        rw [hm, List.getElem?_map, hv] at h1
        simp only [Option.map_some, Option.some.injEq, Prod.mk.injEq] at h1
        exact h1.1.symm
      have hlen : j < es.size := by
        have h1 := congrArg List.length hm
        simp only [List.length_map, Array.length_toList] at h1
        have := (List.getElem?_eq_some_iff.1 hv).1
        omega
      refine fin (es.modify j fun e => { e with key := bp a, val := v }) ck ?_ ?_
      · simp only [upd, hp]
        apply List.ext_getElem?
        intro i'
        have h1 := congrArg (fun l => l[i']?) hm
        simp only [List.getElem?_map] at h1 ⊢
        rw [List.getElem?_set]
        simp only [Array.getElem?_toList, Array.getElem?_modify] at h1 ⊢
        split
        · rename_i e; subst e
          have := (List.getElem?_eq_some_iff.1 hv).1
          simp [hlen, this]
        · exact h1
      · unfold execOp
        have hkk : ((es[j]?).map (·.key)).getD (bp a) = bp a := by
          cases he : es[j]? with
          | none => rfl
          | some e => simp [hkey e he]
        simp [hop, h3, h4, h6, Instr.mapUpdate, run_underlying hmt, Sem.run_bind, hgo, hck, hfk, Result.andThen, MapKept.run_setObj_map _ hb, hkk, Instr.keyThatStays, Instr.sameBits]
/-- How many a map has. -/
theorem mlB (m i : Nat) (mp : List (Nat × Value)) (H : Hs w0 L0 w L) {bt t kt et : Nat} (hi : L[i]? = some (pkI bt mp)) {c : Nat} (hc : mp.length = c)
    (k : Goal P B b n d (nx (vX (via P b n m w x (ask (mlA b n)))).y (vX (via P b n m w x (ask (mlA b n)))).q (.int .i64 (c : Int))) w)
    (h : vA (via P b n m w x (ask (mlA b n))) = vB w (via P b n m w x (ask (mlA b n))) := by kernel_rfl)
    (h2 : ((vX (via P b n m w x (ask (mlA b n)))).u, (vX (via P b n m w x (ask (mlA b n)))).t) = ([.map (some bt)], [t]) := by kernel_rfl)
    (ht : mapT P t = some (kt, et) := by kernel_rfl) : Goal P B b n d x w := by
  subst hc
  obtain ⟨y, hr, hf⟩ := ask_ok h
  refine run_sound hr ?_
  generalize vX (via P b n m w x (ask (mlA b n))) = zz at *
  unfold mlA at hf
  split at hf <;> try contradiction
  rename_i q hq
  split at hf <;> try contradiction
  rename_i cl hop
  split at hf <;> try contradiction
  rename_i hcal
  split at hf <;> try contradiction
  rename_i s t1 ha1 ha2
  simp only [Option.some.injEq] at hf
  subst hf
  simp only [Prod.mk.injEq, List.cons.injEq, and_true] at h2
  obtain ⟨h3, rfl⟩ := h2
  obtain ⟨⟨es, ck, hb, hm⟩, _, _⟩ := H.at i hi
  have hmt := mapT_eq ht
  have hcl : cl = { callee := .builtin .len, args := #[s], argTypes := #[t1] } := by
    obtain ⟨ce, ca, ct⟩ := cl
    simp only at hcal ha1 ha2
    subst hcal
    congr 1
    · exact Array.toList_inj.1 ha1
    · exact Array.toList_inj.1 ha2
  have hsz : es.size = mp.length := by have := congrArg List.length hm; simpa using this
  refine hd_val hq ?_ k
  unfold execOp
  rw [hop, hcl]
  simp [h3, resolve, invoke, builtin, Builtin.len_, Builtin.lenOf, run_underlying hmt, Sem.run_bind, MapKept.run_getObj_map hb, Result.andThen, hsz, goInt]
end
end Go.Sx
set_option linter.unusedVariables false
set_option linter.unusedSimpArgs false
namespace Go.Inf
open Go.RowKit Go.Sx
def nats (l : List Nat) : List Value := l.map fun n : Nat => .int .i64 (n : Int)
def eI : Option Nat → Int
  | none => -1
  | some n => (n : Int)
def onats (l : List (Option Nat)) : List Value := l.map fun o => .int .i64 (eI o)
section
variable {P : Program} {t i : Nat}
theorem nats_at {l : List Nat} {n : Nat} (h : l[i]? = some n) (ht : P.underlying t = some (.int .i64) := by kernel_rfl) : loadX P t (nats l) (i * 1) (.int .i64 (n : Int)) := by
  unfold loadX; rw [ht]; simp [nats, h]
theorem onats_none {l : List (Option Nat)} (h : l[i]? = some none) (ht : P.underlying t = some (.int .i64) := by kernel_rfl) : loadX P t (onats l) (i * 1) (.int .i64 (-1)) := by
  unfold loadX; rw [ht]; simp [onats, eI, h]
theorem onats_some {l : List (Option Nat)} {n : Nat} (h : l[i]? = some (some n)) (ht : P.underlying t = some (.int .i64) := by kernel_rfl) : loadX P t (onats l) (i * 1) (.int .i64 (n : Int)) := by
  unfold loadX; rw [ht]; simp [onats, eI, h]
end
theorem nats_len (l : List Nat) : (nats l).length = l.length := List.length_map _
theorem onats_len (l : List (Option Nat)) : (onats l).length = l.length := List.length_map _
theorem nats_app (l : List Nat) (n : Nat) : nats l ++ [.int .i64 (n : Int)] = nats (l ++ [n]) := by simp [nats]
theorem onats_app (l : List (Option Nat)) {o : Option Nat} {v : Int} (h : v = eI o) : onats l ++ [.int .i64 v] = onats (l ++ [o]) := by simp [onats, h]
theorem onats_set (l : List (Option Nat)) (i : Nat) {o : Option Nat} {v : Int} (h : v = eI o) : (onats l).set (i * 1) (.int .i64 v) = onats (l.set i o) := by simp [onats, h, List.map_set]
/-! ### Lists of names -/
/-- A row of names that is only read. -/
def Strs (w : World) (S : Nat → Prop) (A : Option Addr) (l : List Nm) : Prop := ∀ i s, l[i]? = some s → ∃ a, A = some a ∧ S a.block ∧ w.cells? 0 (a.add (i * 1)) 1 = some [.string s]
theorem cells_same {w w' : World} {a : Addr} {n : Nat} {cs : List Value} (h : w.cells? 0 a n = some cs) (x : w'.heap[a.block]? = w.heap[a.block]?) : w'.cells? 0 a n = some cs := by
  have e : (fun i => w'.cell? (a.add i)) = fun i => w.cell? (a.add i) := funext fun i => by
    unfold World.cell?
    have : (a.add i).block = a.block := by unfold Addr.add; split <;> rfl
    rw [this, x]
  unfold World.cells? at h ⊢
  rw [e]
  exact h
theorem add_block (a : Addr) (n : Nat) : (a.add n).block = a.block := by unfold Addr.add; split <;> rfl
theorem Strs.keep {w w' : World} {S : Nat → Prop} {A : Option Addr} {l : List Nm} (h : Strs w S A l) (k : ∀ c, S c → w'.heap[c]? = w.heap[c]?) : Strs w' S A l := fun i s hs => by
  obtain ⟨a, ha, hS, hc⟩ := h i s hs
  exact ⟨a, ha, hS, cells_same hc (by rw [add_block]; exact k _ hS)⟩
theorem Strs.mono {w : World} {S S' : Nat → Prop} {A : Option Addr} {l : List Nm} (h : Strs w S A l) (k : ∀ c, S c → S' c) : Strs w S' A l := fun i s hs => by
  obtain ⟨a, ha, hS, hc⟩ := h i s hs
  exact ⟨a, ha, k _ hS, hc⟩
/-- A list of names that nobody else has. -/
def strI (S : Nat → Prop) (A : Option Addr) (l : List Nm) : Sx.Item := .abs S (fun w => Strs w S A l)
def strs (l : List Nm) : List Value := l.map Value.string
theorem strI_loc (S : Nat → Prop) (A : Option Addr) (l : List Nm) : Sx.Loc S (fun w => Strs w S A l) := fun _ _ _ hk h => h.keep hk
/-- A list's name at a place. -/
def gn (l : List Nm) (i : Nat) : Nm := (l[i]?).getD ⟨#[]⟩
theorem gn_at {l : List Nm} {i : Nat} (h : i < l.length) : l[i]? = some (gn l i) := by simp [gn, h]
theorem leN_eq (a b : Nm) : leN a b = (Go.Op.bytesLess a.toList b.toList || (a.toList == b.toList)) := by unfold leN; rw [ByteArray.toList_eq, ByteArray.toList_eq]
theorem eqN_eq (a b : Nm) : eqN a b = (a.toList == b.toList) := by unfold eqN; rw [ByteArray.toList_eq, ByteArray.toList_eq]
theorem Strs.nil {w : World} {S : Nat → Prop} {l : List Nm} (h : Strs w S none l) : l = [] := by
  cases l with
  | nil => rfl
  | cons s l => obtain ⟨a, ha, _⟩ := h 0 s rfl; cases ha
theorem strs_app (l : List Nm) (s : Nm) : strs l ++ [.string s] = strs (l ++ [s]) := by simp [strs]
theorem strs_take {l : List Nm} {i : Nat} (h : i < l.length) : strs (l.take i) ++ [.string (gn l i)] = strs (l.take (i + 1)) := by
  rw [strs_app, List.take_add_one, gn_at h]; rfl
theorem strs_cat (l m : List Nm) : strs l ++ strs m = strs (l ++ m) := by simp [strs]
theorem strs_one (l : List Nm) : ∀ u ∈ strs l, u.oneCell' = true := by
  intro u hu
  obtain ⟨s, _, rfl⟩ := List.mem_map.1 hu
  rfl
theorem putN_at {s : Nm} : ∀ {l : List Nm} {i : Nat}, i ≤ l.length → (∀ j, j < i → leN (gn l j) s = true) → (i = l.length ∨ leN (gn l i) s = false) → putN l s = l.take i ++ s :: l.drop i
  | [], i, h, _, _ => by have : i = 0 := by simpa using h
                         subst this; rfl
  | x :: l, 0, _, _, hx => by
    rcases hx with q | q
    · simp at q
    · have : leN x s = false := q
      simp [putN, this]
  | x :: l, i + 1, h, hle, hx => by
    have h0 : leN x s = true := hle 0 (by omega)
    simp only [putN, h0, if_true, List.take_succ_cons, List.drop_succ_cons, List.cons_append]
    have e : gn (x :: l) (i + 1) = gn l i := by simp [gn]
    have hx' : i = l.length ∨ leN (gn l i) s = false := hx.imp (fun q => by simpa using q) (fun q => e ▸ q)
    rw [putN_at (l := l) (i := i) (by simpa using h) (fun j hj => hle (j + 1) (by omega)) hx']
theorem putN_len (l : List Nm) (s : Nm) : (putN l s).length = l.length + 1 := by
  induction l with
  | nil => rfl
  | cons x l ih => unfold putN; split <;> simp [ih]
theorem and2 {a b : Bool} (h : (a && b) = true) : a = true ∧ b = true := by cases a <;> cases b <;> simp_all
theorem and0 {a b : Bool} (h : (a && b) = false) : a = false ∨ b = false := by cases a <;> cases b <;> simp_all
theorem strI_nil {w : World} : (strI (fun _ => False) none []).holds w := ⟨fun _ _ h => by simp at h, fun _ h => h.elim, strI_loc _ _ _⟩
/-- A row of one's own of names, as such a list. -/
theorem own_strI {w : World} {e n cap : Nat} {A : Option Addr} {l : List Nm} (h : w.ownsRow 0 e 1 (.slice A n cap) n (strs l)) : (strI (fun c => (Value.slice A n cap).ownBlock = some c) A l).holds w := by
  refine ⟨fun i s hs => ?_, fun c hc => own_lt h hc, strI_loc _ _ _⟩
  have hn : l.length = n := by have := h.1; simpa [strs] using this
  have hi : i < n := by rw [← hn]; exact (List.getElem?_eq_some_iff.1 hs).1
  rcases h.2 with ⟨_, h0⟩ | ⟨g, cap', cur, hv, _, hg, hnc, _, hcs, ht⟩
  · omega
  · injection hv with h1 h2 h3
    subst h1 h3
    refine ⟨_, rfl, rfl, ?_⟩
    have hc : cur[i]? = some (.string s) := by
      have : (cur.toList.take (n * 1))[i]? = some (.string s) := by rw [ht, strs, List.getElem?_map, hs]; rfl
      rw [List.getElem?_take, if_pos (by omega)] at this
      simpa using this
    have : (⟨g, 0, none⟩ : Addr).add (i * 1) = ⟨g, i, none⟩ := by unfold Addr.add; split <;> simp_all
    rw [this]
    refine ChangeShapes.cells?_of (Nat.zero_le _) rfl (fun j hj => ?_)
    have hj0 : j = 0 := by simpa using hj
    subst hj0
    rw [Nat.add_zero, cell_of_row w g i cur e (0, 0) hg]
    simpa using hc
section
variable {w0 w : World} {L0 L : List Sx.Item}
theorem Hs.toStr (H : Hs w0 L0 w L) (i : Nat) {e n cap : Nat} {A : Option Addr} {l : List Nm} (hi : L[i]? = some (.own e 1 A cap n (strs l))) : Hs w0 L0 w (L.set i (strI (fun c => (Value.slice A n cap).ownBlock = some c) A l)) :=
  H.as i _ hi rfl (own_strI (H.at i hi)) (fun _ h => h)
end
/-! ### The graph -/
abbrev Slot := Option Addr × Nat × Nat
def slV (s : Slot) : Value := .slice s.1 s.2.1 s.2.2
def OpsAt (w : World) (S : Nat → Prop) (sl : List Slot) (ops : List (List Nm)) : Prop := sl.length = ops.length ∧ ∀ (r : Nat) (s : Slot) (l : List Nm), sl[r]? = some s → ops[r]? = some l → s.2.1 = l.length ∧ Strs w S s.1 l
def rowsI (S : Nat → Prop) (sl : List Slot) (ops : List (List Nm)) : Sx.Item := .abs S (fun w => OpsAt w S sl ops)
theorem rowsI_loc (S : Nat → Prop) (sl : List Slot) (ops : List (List Nm)) : Sx.Loc S (fun w => OpsAt w S sl ops) := fun _ _ _ hk h => ⟨h.1, fun r s l h1 h2 => ⟨(h.2 r s l h1 h2).1, (h.2 r s l h1 h2).2.keep hk⟩⟩
abbrev encN (n : Int) : Value := .int .i64 n
def ivs (l : List (Int × Nat)) : List (Int × Value) := l.map fun p => (p.1, .int .i64 (p.2 : Int))
abbrev mapN (b : Nat) (l : List (Int × Nat)) : Sx.Item := mapI (.int .i64) encN b (ivs l)
structure Gm where
  k : Option Addr × Nat
  a : Option Addr × Nat
  b : Option Addr × Nat
  r : Option Addr × Nat
  l : Option Addr × Nat
  o : Option Addr × Nat
  n : Option Addr × Nat
  bt : Nat
  br : Nat
  sl : List Slot
  S : Nat → Prop
  nk : Nat
  no : Nat
/-- The things that a graph is. -/
abbrev gL (bg : Nat) (g : G) (m : Gm) : List Sx.Item :=
  [.blk bg (.cells #[.slice m.k.1 m.nk m.k.2, .slice m.a.1 m.nk m.a.2, .slice m.b.1 m.nk m.b.2, .slice m.r.1 m.nk m.r.2, .slice m.l.1 m.nk m.l.2, .slice m.o.1 m.no m.o.2, .slice m.n.1 m.no m.n.2, .map (some m.bt), .map (some m.br)] 94),
   .own 3 1 m.k.1 m.k.2 m.nk (nats g.kind), .own 3 1 m.a.1 m.a.2 m.nk (onats g.a), .own 3 1 m.b.1 m.b.2 m.nk (onats g.b), .own 3 1 m.r.1 m.r.2 m.nk (nats g.row), .own 3 1 m.l.1 m.l.2 m.nk (onats g.link),
   .own 30 1 m.o.1 m.o.2 m.no (m.sl.map slV), .own 3 1 m.n.1 m.n.2 m.no (onats g.next), mapN m.bt g.tv, mapN m.br g.rv, rowsI m.S m.sl g.ops]
def GI (S : Nat → Prop) (bg : Nat) (g : G) : Sx.Item := comp (fun L => ∃ m, L = gL bg g m) S
section
variable {w0 w : World} {L0 L : List Sx.Item}
theorem G_open (H : Hs w0 L0 w L) (i : Nat) {S : Nat → Prop} {bg : Nat} {g : G} (hi : picked [i] L = some [GI S bg g]) : ∃ m, Hs w0 L0 w (gL bg g m ++ rest [i] L) := by
  obtain ⟨L', ⟨m, rfl⟩, h⟩ := H.opn i hi
  exact ⟨m, h⟩
theorem G_close (H : Hs w0 L0 w L) (I : List Nat) {bg : Nat} {g : G} (m : Gm) (hi : picked I L = some (gL bg g m)) : ∃ S, Hs w0 L0 w (GI S bg g :: rest I L) :=
  ⟨_, H.cls I hi ⟨m, rfl⟩ rfl⟩
/-- The rows are as long as each other. -/
theorem G_len {R : List Sx.Item} {bg : Nat} {g : G} {m : Gm} (h : Hs w0 L0 w (gL bg g m ++ R)) : g.kind.length = m.nk ∧ g.a.length = m.nk ∧ g.b.length = m.nk ∧ g.row.length = m.nk ∧ g.link.length = m.nk ∧ g.ops.length = m.no ∧ g.next.length = m.no ∧ m.sl.length = m.no := by
  have q := (h.at 1 rfl).1
  have a := (h.at 2 rfl).1
  have b := (h.at 3 rfl).1
  have c := (h.at 4 rfl).1
  have d := (h.at 5 rfl).1
  have e := (h.at 7 rfl).1
  have f := (h.at 6 rfl).1
  have r := (h.at 10 rfl).1.1
  simp only [onats_len, nats_len, Nat.mul_one, List.length_map] at a b c d e f q
  exact ⟨q, a, b, c, d, by omega, e, f⟩
theorem sl_app (sl : List Slot) (A : Option Addr) (n c : Nat) : sl.map slV ++ [.slice A n c] = (sl ++ [(A, n, c)]).map slV := by simp [slV]
theorem sl_set (sl : List Slot) (i : Nat) (A : Option Addr) (n c : Nat) : (sl.map slV).set (i * 1) (.slice A n c) = (sl.set i (A, n, c)).map slV := by simp [slV, List.map_set]
theorem sl_at {P : Program} {t i : Nat} {sl : List Slot} {s : Slot} (h : sl[i]? = some s) (ht : (match P.underlying t with | some (.slice _) => true | _ => false) = true := by kernel_rfl) : loadX P t (sl.map slV) (i * 1) (.slice s.1 s.2.1 s.2.2) := by
  unfold loadX
  split at ht
  · rename_i e hu; rw [hu]; simp [h, slV]
  · cases ht
theorem Strs.drop {w : World} {S : Nat → Prop} {A C : Option Addr} {l : List Nm} {k : Nat} (h : Strs w S A l) (hC : ∀ a, C = some a → ∃ a0, A = some a0 ∧ (k < l.length → a = a0.add (k * 1))) (hn : C = none → A = none) : Strs w S C (l.drop k) := fun i s hs => by
  rw [List.getElem?_drop] at hs
  have hk : k < l.length := by have := (List.getElem?_eq_some_iff.1 hs).1; omega
  obtain ⟨a0, ha, hS, hc⟩ := h (k + i) s hs
  cases C with
  | none => rw [hn rfl] at ha; cases ha
  | some a =>
    obtain ⟨a1, h1, h2⟩ := hC a rfl
    rw [ha] at h1; cases h1
    have := h2 hk
    subst this
    refine ⟨_, rfl, by rw [add_block]; exact hS, ?_⟩
    rw [add_add, ← Nat.add_mul]
    exact hc
theorem Strs.cell {w : World} {S : Nat → Prop} {A : Option Addr} {l : List Nm} (h : Strs w S A l) {a : Addr} (ha : A = some a) : ∀ j u, (strs l)[j]? = some u → w.cell? (a.add j) = some u := by
  intro j u hu
  rw [strs, List.getElem?_map] at hu
  cases hs : l[j]? with
  | none => simp [hs] at hu
  | some s =>
    rw [hs, Option.map_some] at hu
    cases hu
    obtain ⟨a', ha', _, hc⟩ := h j s hs
    rw [ha] at ha'; cases ha'
    have := (World.cells?_some hc).2.2 0 (by decide)
    rw [show (a.add (j * 1)).add 0 = a.add j by rw [Nat.mul_one]; simp [Addr.add]] at this
    simpa using this
/-- A new row joins the rows. -/
theorem rows_add (H : Hs w0 L0 w L) (I : List Nat) {S S2 : Nat → Prop} {sl : List Slot} {ops : List (List Nm)} {A : Option Addr} {l : List Nm} {c n : Nat} (hp : picked I L = some [rowsI S sl ops, strI S2 A l]) (hn : n = l.length) :
    ∃ S', Hs w0 L0 w (rowsI S' (sl ++ [(A, n, c)]) (ops ++ [l]) :: rest I L) := by
  have h1 := H.pick I hp
  have a := (h1.at 0 rfl).1
  have b := (h1.at 1 rfl).1
  have k := H.cls I hp (shape := fun L => L = [rowsI S sl ops, strI S2 A l]) rfl rfl
  have e : ∀ q, fpA [rowsI S sl ops, strI S2 A l] q ↔ S q ∨ S2 q := fun q => by simp [fpA, rowsI, strI, Sx.Item.fp]
  refine ⟨fun q => S q ∨ S2 q, k.as 0 (rowsI (fun q => S q ∨ S2 q) (sl ++ [(A, n, c)]) (ops ++ [l])) rfl rfl ⟨⟨by simp [a.1], fun r s l' hs hl => ?_⟩, fun q hq => ?_, rowsI_loc _ _ _⟩ (fun q hq => (e q).2 hq)⟩
  · rcases Nat.lt_or_ge r sl.length with q | q
    · rw [List.getElem?_append_left q] at hs
      rw [List.getElem?_append_left (by rw [← a.1]; exact q)] at hl
      exact ⟨(a.2 r s l' hs hl).1, (a.2 r s l' hs hl).2.mono (fun _ h => .inl h)⟩
    · rw [List.getElem?_append_right q] at hs
      rw [List.getElem?_append_right (by rw [← a.1]; exact q)] at hl
      rw [← a.1] at hl
      cases hr : r - sl.length with
      | zero => rw [hr] at hs hl; simp at hs hl; subst hs hl; exact ⟨hn, b.mono (fun _ h => .inr h)⟩
      | succ j => rw [hr] at hs; simp at hs
  · rcases hq with q' | q'
    · exact (h1.at 0 rfl).2.1 q q'
    · exact (h1.at 1 rfl).2.1 q q'
/-- A row of the rows is another one now. -/
theorem rows_set (H : Hs w0 L0 w L) (I : List Nat) (v : Nat) {S S2 : Nat → Prop} {sl : List Slot} {ops : List (List Nm)} {A : Option Addr} {l : List Nm} {c n : Nat} (hp : picked I L = some [rowsI S sl ops, strI S2 A l]) (hn : n = l.length) :
    ∃ S', Hs w0 L0 w (rowsI S' (sl.set v (A, n, c)) (ops.set v l) :: rest I L) := by
  have h1 := H.pick I hp
  have a := (h1.at 0 rfl).1
  have b := (h1.at 1 rfl).1
  have k := H.cls I hp (shape := fun L => L = [rowsI S sl ops, strI S2 A l]) rfl rfl
  have e : ∀ q, fpA [rowsI S sl ops, strI S2 A l] q ↔ S q ∨ S2 q := fun q => by simp [fpA, rowsI, strI, Sx.Item.fp]
  refine ⟨fun q => S q ∨ S2 q, k.as 0 (rowsI (fun q => S q ∨ S2 q) (sl.set v (A, n, c)) (ops.set v l)) rfl rfl ⟨⟨by simp [a.1], fun r s l' hs hl => ?_⟩, fun q hq => ?_, rowsI_loc _ _ _⟩ (fun q hq => (e q).2 hq)⟩
  · rw [List.getElem?_set] at hs hl
    by_cases q : v = r
    · subst q
      rw [if_pos rfl] at hs hl
      split at hs <;> try contradiction
      split at hl <;> try contradiction
      cases hs; cases hl
      exact ⟨hn, b.mono (fun _ h => .inr h)⟩
    · rw [if_neg q] at hs hl
      exact ⟨(a.2 r s l' hs hl).1, (a.2 r s l' hs hl).2.mono (fun _ h => .inl h)⟩
  · rcases hq with q' | q'
    · exact (h1.at 0 rfl).2.1 q q'
    · exact (h1.at 1 rfl).2.1 q q'
end
end Go.Inf
set_option linter.unusedVariables false
set_option linter.unusedSimpArgs false
namespace Go.Slv
open Go.RowKit Go.Sx Go.Inf Go.Gx
/-! ### Banks: blocks of one type, some of them taken out -/
def bankI (ty : Nat) (T : List Nat) (C : Nat → List Value) (hs : List Nat) : Sx.Item := .abs (fun c => ∃ i : Nat, T[i]? = some c ∧ i ∉ hs) (fun w => (∀ (i b : Nat), T[i]? = some b → i ∉ hs → Has w b (.cells (C i).toArray ty)) ∧ ∀ (i j b : Nat), T[i]? = some b → T[j]? = some b → i ∉ hs → j ∉ hs → i = j)
section
variable {w0 w : World} {L0 L : List Sx.Item} {ty n b : Nat} {T hs : List Nat} {C C' : Nat → List Value}
theorem bank_holds (h1 : ∀ (i b : Nat), T[i]? = some b → i ∉ hs → Has w b (.cells (C i).toArray ty)) (h2 : ∀ (i j b : Nat), T[i]? = some b → T[j]? = some b → i ∉ hs → j ∉ hs → i = j) : (bankI ty T C hs).holds w :=
  ⟨⟨h1, h2⟩, fun _ ⟨i, hi, hn⟩ => (h1 i _ hi hn).lt, fun _ _ _ hk h => ⟨fun i b hi hn => (hk b ⟨i, hi, hn⟩).trans (h.1 i b hi hn), h.2⟩⟩
theorem bank_has (h : (bankI ty T C hs).holds w) (hb : T[n]? = some b) (hn : n ∉ hs) : Has w b (.cells (C n).toArray ty) := h.1.1 n b hb hn
theorem bank_cb (h : (bankI ty T C hs).holds w) (hb : T[n]? = some b) (hn : n ∉ hs) : Cb w b := ⟨_, _, bank_has h hb hn⟩
theorem bank_inj (h : (bankI ty T C hs).holds w) {i j : Nat} (hi : T[i]? = some b) (hj : T[j]? = some b) (ni : i ∉ hs) (nj : j ∉ hs) : i = j := h.1.2 i j b hi hj ni nj
/-- A block is taken out. -/
theorem bank_take (H : Hs w0 L0 w L) (i : Nat) (hi : picked [i] L = some [bankI ty T C hs]) (hb : T[n]? = some b) (hn : n ∉ hs) {v : List Value} (hv : C n = v) :
    Hs w0 L0 w (.blk b (.cells v.toArray ty) :: bankI ty T C (n :: hs) :: rest [i] L) := by
  subst hv
  have k : Hs w0 L0 w (bankI ty T C hs :: rest [i] L) := H.perm (picked_perm hi)
  have hh := k.at 0 rfl
  have sp : Sp w [.blk b (.cells (C n).toArray ty), bankI ty T C (n :: hs)] := by
    refine ⟨fun it hit => ?_, List.pairwise_cons.2 ⟨fun it hit => ?_, List.pairwise_singleton _ _⟩⟩
    · rcases List.mem_cons.1 hit with rfl | q
      · exact hh.1.1 n b hb hn
      · rw [List.mem_singleton.1 q]
        exact bank_holds (fun i b hi h => hh.1.1 i b hi fun q => h (.tail _ q)) (fun i j b hi hj h1 h2 => hh.1.2 i j b hi hj (fun q => h1 (.tail _ q)) fun q => h2 (.tail _ q))
    · rw [List.mem_singleton.1 hit]
      rintro _ c hc ⟨j, hj, hnj⟩
      have hc : c = b := hc
      subst hc
      exact hnj (by rw [hh.1.2 j n c hj hb (fun q => hnj (.tail _ q)) hn]; exact .head _)
  have k2 := k.as 0 (comp (fun L => L = [.blk b (.cells (C n).toArray ty), bankI ty T C (n :: hs)]) (fpA [.blk b (.cells (C n).toArray ty), bankI ty T C (n :: hs)])) rfl rfl (comp_holds sp rfl (fun it hit => by
      rcases List.mem_cons.1 hit with rfl | q
      · rfl
      · rw [List.mem_singleton.1 q]; rfl)) (fun c ⟨it, hit, hc⟩ => by
      rcases List.mem_cons.1 hit with rfl | q
      · have hc : c = b := hc
        subst hc; exact ⟨n, hb, hn⟩
      · rw [List.mem_singleton.1 q] at hc
        obtain ⟨j, hj, hnj⟩ := hc
        exact ⟨j, hj, fun q => hnj (.tail _ q)⟩)
  obtain ⟨L', rfl, k3⟩ := k2.opn 0 rfl
  exact k3
/-- A block is put back; what it says may have changed. -/
theorem bank_put (H : Hs w0 L0 w L) (I : List Nat) {v : List Value} (hp : picked I L = some [.blk b (.cells v.toArray ty), bankI ty T C (n :: hs)]) (hb : T[n]? = some b) (hn : n ∉ hs) (hv : C' n = v) (hC : ∀ i, i ≠ n → i < T.length → C' i = C i) :
    Hs w0 L0 w (bankI ty T C' hs :: rest I L) := by
  subst hv
  have sp := (H.pick I hp).sp
  have h1 : Has w b (.cells (C' n).toArray ty) := sp.all _ (.head _)
  have h2 : (bankI ty T C (n :: hs)).holds w := sp.all _ (.tail _ (.head _))
  have ap : ∀ j : Nat, T[j]? = some b → j ∉ hs → j = n := fun j hj hnj => by
    by_cases e : j = n
    · exact e
    · exact absurd ⟨j, hj, fun q => (List.mem_cons.1 q).elim e hnj⟩ ((List.pairwise_cons.1 sp.dis).1 _ (.head _) rfl b rfl)
  have nm : ∀ {i : Nat}, i ≠ n → i ∉ hs → i ∉ n :: hs := fun h1 h2 q => (List.mem_cons.1 q).elim h1 h2
  have k := H.cls I hp (shape := fun L => L = [.blk b (.cells (C' n).toArray ty), bankI ty T C (n :: hs)]) rfl rfl
  refine k.as 0 (bankI ty T C' hs) rfl rfl (bank_holds (fun i c hi hni => ?_) (fun i j c hi hj hni hnj => ?_)) (fun c ⟨i, hi, hni⟩ => ?_)
  · by_cases e : i = n
    · subst e; rw [hb] at hi; cases hi; exact h1
    · rw [hC i e (List.getElem?_eq_some_iff.1 hi).1]; exact h2.1.1 i c hi (nm e hni)
  · by_cases e : i = n
    · subst e; rw [hb] at hi; cases hi; exact (ap j hj hnj).symm
    · by_cases e2 : j = n
      · subst e2; rw [hb] at hj; cases hj; exact ap i hi hni
      · exact h2.1.2 i j c hi hj (nm e hni) (nm e2 hnj)
  · by_cases e : i = n
    · subst e; rw [hb] at hi; cases hi; exact ⟨_, .head _, rfl⟩
    · exact ⟨_, .tail _ (.head _), i, hi, nm e hni⟩
/-- A new block. -/
theorem bank_add (H : Hs w0 L0 w L) (I : List Nat) {v : List Value} (hp : picked I L = some [.blk b (.cells v.toArray ty), bankI ty T C hs]) (hv : C' T.length = v) (hC : ∀ i, i < T.length → C' i = C i) :
    Hs w0 L0 w (bankI ty (T ++ [b]) C' hs :: rest I L) := by
  subst hv
  have sp := (H.pick I hp).sp
  have h1 : Has w b (.cells (C' T.length).toArray ty) := sp.all _ (.head _)
  have h2 : (bankI ty T C hs).holds w := sp.all _ (.tail _ (.head _))
  have ap : ∀ j : Nat, T[j]? = some b → j ∉ hs → False := fun j hj hnj => (List.pairwise_cons.1 sp.dis).1 _ (.head _) rfl b rfl ⟨j, hj, hnj⟩
  have k := H.cls I hp (shape := fun L => L = [.blk b (.cells (C' T.length).toArray ty), bankI ty T C hs]) rfl rfl
  refine k.as 0 (bankI ty (T ++ [b]) C' hs) rfl rfl (bank_holds (fun i c hi hni => ?_) (fun i j c hi hj hni hnj => ?_)) (fun c ⟨i, hi, hni⟩ => ?_)
  · rcases app_at hi with ⟨q, e⟩ | ⟨rfl, rfl⟩
    · rw [hC i q]; exact h2.1.1 i c e hni
    · exact h1
  · rcases app_at hi with ⟨q, e⟩ | ⟨rfl, rfl⟩ <;> rcases app_at hj with ⟨q2, e2⟩ | ⟨rfl, e2⟩
    · exact h2.1.2 i j c e e2 hni hnj
    · subst e2; exact (ap i e hni).elim
    · exact (ap j e2 hnj).elim
    · rfl
  · rcases app_at hi with ⟨q, e⟩ | ⟨rfl, rfl⟩
    · exact ⟨_, .tail _ (.head _), i, e, hni⟩
    · exact ⟨_, .head _, rfl⟩
end
theorem nz0 {n : Nat} : n ∉ ([] : List Nat) := List.not_mem_nil
theorem nz1 {n m : Nat} (h : n ≠ m) : n ∉ [m] := by simpa using h
/-! ### Lists of pointers -/
def Ptrs (w : World) (S : Nat → Prop) (A : Option Addr) (l : List Nat) : Prop := ∀ (i b : Nat), l[i]? = some b → ∃ a, A = some a ∧ S a.block ∧ w.cells? 0 (a.add (i * 1)) 1 = some [bp b]
theorem Ptrs.keep {w w' : World} {S : Nat → Prop} {A : Option Addr} {l : List Nat} (h : Ptrs w S A l) (k : ∀ c, S c → w'.heap[c]? = w.heap[c]?) : Ptrs w' S A l := fun i s hs => by
  obtain ⟨a, ha, hS, hc⟩ := h i s hs
  exact ⟨a, ha, hS, cells_same hc (by rw [add_block]; exact k _ hS)⟩
theorem Ptrs.mono {w : World} {S S' : Nat → Prop} {A : Option Addr} {l : List Nat} (h : Ptrs w S A l) (k : ∀ c, S c → S' c) : Ptrs w S' A l := fun i s hs => by
  obtain ⟨a, ha, hS, hc⟩ := h i s hs
  exact ⟨a, ha, k _ hS, hc⟩
def bps (l : List Nat) : List Value := l.map bp
theorem bps_app (l : List Nat) (b : Nat) : bps l ++ [bp b] = bps (l ++ [b]) := by simp [bps]
theorem own_ptrs {w : World} {e n cap : Nat} {A : Option Addr} {l : List Nat} (h : w.ownsRow 0 e 1 (.slice A n cap) n (bps l)) : Ptrs w (fun c => (Value.slice A n cap).ownBlock = some c) A l := by
  intro i s hs
  have hn : l.length = n := by have := h.1; simpa [bps] using this
  have hi : i < n := by rw [← hn]; exact (List.getElem?_eq_some_iff.1 hs).1
  rcases h.2 with ⟨_, h0⟩ | ⟨g, cap', cur, hv, _, hg, hnc, _, hcs, ht⟩
  · omega
  · injection hv with h1 h2 h3
    subst h1 h3
    refine ⟨_, rfl, rfl, ?_⟩
    have hc : cur[i]? = some (bp s) := by
      have : (cur.toList.take (n * 1))[i]? = some (bp s) := by rw [ht, bps, List.getElem?_map, hs]; rfl
      rw [List.getElem?_take, if_pos (by omega)] at this
      simpa using this
    have : (⟨g, 0, none⟩ : Addr).add (i * 1) = ⟨g, i, none⟩ := by unfold Addr.add; split <;> simp_all
    rw [this]
    refine ChangeShapes.cells?_of (Nat.zero_le _) rfl (fun j hj => ?_)
    have hj0 : j = 0 := by simpa using hj
    subst hj0
    rw [Nat.add_zero, cell_of_row w g i cur e (0, 0) hg]
    simpa using hc
def KidsAt (w : World) (S : Nat → Prop) (as : List Slot) (ks : List (List Nat)) : Prop := as.length = ks.length ∧ ∀ (r : Nat) (s : Slot) (l : List Nat), as[r]? = some s → ks[r]? = some l → s.2.1 = l.length ∧ Ptrs w S s.1 l
def kidsI (S : Nat → Prop) (as : List Slot) (ks : List (List Nat)) : Sx.Item := .abs S (fun w => KidsAt w S as ks)
theorem kidsI_loc (S : Nat → Prop) (as : List Slot) (ks : List (List Nat)) : Sx.Loc S (fun w => KidsAt w S as ks) := fun _ _ _ hk h => ⟨h.1, fun r s l h1 h2 => ⟨(h.2 r s l h1 h2).1, (h.2 r s l h1 h2).2.keep hk⟩⟩
theorem kids_add {w0 w : World} {L0 L : List Sx.Item} (H : Hs w0 L0 w L) (I : List Nat) {S : Nat → Prop} {sa : List Slot} {ks : List (List Nat)} {e n cap : Nat} {A : Option Addr} {l : List Nat} (hp : picked I L = some [kidsI S sa ks, .own e 1 A cap n (bps l)]) :
    ∃ S', Hs w0 L0 w (kidsI S' (sa ++ [(A, n, cap)]) (ks ++ [l]) :: rest I L) := by
  have h1 := H.pick I hp
  have a := (h1.at 0 rfl).1
  have b := own_ptrs (h1.at 1 rfl)
  have hn : n = l.length := by have := (h1.at 1 rfl).1; simp [bps] at this; omega
  have k := H.cls I hp (shape := fun L => L = [kidsI S sa ks, .own e 1 A cap n (bps l)]) rfl rfl
  refine ⟨fun q => S q ∨ (Value.slice A n cap).ownBlock = some q, k.as 0 (kidsI (fun q => S q ∨ (Value.slice A n cap).ownBlock = some q) (sa ++ [(A, n, cap)]) (ks ++ [l])) rfl rfl ⟨⟨by simp [a.1], fun r s l' hs hl => ?_⟩, fun q hq => ?_, kidsI_loc _ _ _⟩ (fun q hq => ?_)⟩
  · rcases app_at hs with ⟨q, e⟩ | ⟨rfl, rfl⟩
    · rw [List.getElem?_append_left (by rw [← a.1]; exact q)] at hl
      exact ⟨(a.2 r s l' e hl).1, (a.2 r s l' e hl).2.mono (fun _ h => .inl h)⟩
    · rw [a.1] at hl
      simp at hl
      subst hl
      exact ⟨hn, b.mono (fun _ h => .inr h)⟩
  · rcases hq with q' | q'
    · exact (h1.at 0 rfl).2.1 q q'
    · exact own_lt (h1.at 1 rfl) q'
  · rcases hq with q' | q'
    · exact ⟨_, .head _, q'⟩
    · exact ⟨_, .tail _ (.head _), q'⟩
/-! ### The graph -/
def pB : Option Nat → Value
  | none => .pointer none
  | some b => bp b
structure Pm where
  as : List Slot
  il : List (Option Nat)
  sl : List Slot
  S1 : Nat → Prop
  S2 : Nat → Prop
def slD (l : List Slot) (i : Nat) : Slot := (l[i]?).getD (none, 0, 0)
def oB (T : List Nat) (o : Option Nat) : Option Nat := o.bind fun m => T[m]?
def rowB (R : List Nat) (g : G) (n : Nat) : Option Nat := if (g.kind[n]?).getD 0 = 6 then R[(g.row[n]?).getD 0]? else none
def tlB (R : List Nat) : Option Nat → Option Nat
  | some (q + 1) => R[q + 1]?
  | _ => none
def nxD (g : G) (r : Nat) : Option Nat := (g.next[r]?).getD none
def ndC (T R : List Nat) (g : G) (m : Pm) (n : Nat) : List Value := [.int .i64 (((g.kind[n]?).getD 0 : Nat) : Int), slV (slD m.as n), pB (rowB R g n), pB (oB T ((m.il[n]?).getD none))]
def rwC (R : List Nat) (g : G) (m : Pm) (r : Nat) : List Value := [slV (slD m.sl r), pB (tlB R (nxD g r)), .bool (nxD g r).isNone]
def ksO (T : List Nat) (a b : Option Nat) : List Nat := (a.toList ++ b.toList).map fun p => (T[p]?).getD 0
def ksL (T : List Nat) (g : G) : List (List Nat) := (List.range g.kind.length).map fun n => ksO T ((g.a[n]?).getD none) ((g.b[n]?).getD none)
abbrev pL (T R : List Nat) (g : G) (m : Pm) : List Sx.Item := [bankI 78 T (ndC T R g m) [], kidsI m.S1 m.as (ksL T g), bankI 80 R (rwC R g m) [0], rowsI m.S2 m.sl g.ops]
structure PR (T R : List Nat) (g : G) (m : Pm) : Prop where
  lT : T.length = g.kind.length
  lR : R.length = g.next.length
  la : g.a.length = g.kind.length
  lb : g.b.length = g.kind.length
  lr : g.row.length = g.kind.length
  ll : g.link.length = g.kind.length
  li : m.il.length = g.link.length
  en : ∀ x e, En g.link x e → En m.il x e
  al : All g.link
  ka : ∀ (n p : Nat), g.a[n]? = some (some p) ∨ g.b[n]? = some (some p) → p < g.kind.length
  kr : ∀ n : Nat, g.kind[n]? = some 6 → ∃ r, g.row[n]? = some r ∧ r < g.next.length ∧ r ≠ 0
  kn : ∀ r q : Nat, g.next[r]? = some (some (q + 1)) → q + 1 < g.next.length
  z : 0 < g.next.length
  lo : g.ops.length = g.next.length
  ar : ∀ n k : Nat, g.kind[n]? = some k → (k ≠ 4 ∧ k ≠ 5 ∧ k ≠ 6 ∧ g.a[n]? = some none ∧ g.b[n]? = some none) ∨ (k = 4 ∧ ∃ p, g.a[n]? = some (some p) ∧ g.b[n]? = some none) ∨ ((k = 5 ∨ k = 6) ∧ ∃ p q, g.a[n]? = some (some p) ∧ g.b[n]? = some (some q))
def PI (S : Nat → Prop) (Z : List Slot) (T R : List Nat) (g : G) : Sx.Item := comp (fun L => ∃ m, PR T R g m ∧ m.as = Z ∧ L = pL T R g m) S
section
variable {w0 w : World} {L0 L : List Sx.Item}
theorem P_open (H : Hs w0 L0 w L) (i : Nat) {S : Nat → Prop} {Z : List Slot} {T R : List Nat} {g : G} (hi : picked [i] L = some [PI S Z T R g]) : ∃ m, PR T R g m ∧ m.as = Z ∧ Hs w0 L0 w (pL T R g m ++ rest [i] L) := by
  obtain ⟨L', ⟨m, hm, hz, rfl⟩, h⟩ := H.opn i hi
  exact ⟨m, hm, hz, h⟩
theorem P_close (H : Hs w0 L0 w L) (I : List Nat) {Z : List Slot} {T R : List Nat} {g : G} (m : Pm) (hm : PR T R g m) (hz : m.as = Z) (hi : picked I L = some (pL T R g m)) : ∃ S, Hs w0 L0 w (PI S Z T R g :: rest I L) :=
  ⟨_, H.cls I hi ⟨m, hm, hz, rfl⟩ rfl⟩
/-- What is known of a node that is taken out. -/
theorem P_nd {T R : List Nat} {g : G} {m : Pm} (hm : PR T R g m) (h0 : (kidsI m.S1 m.as (ksL T g)).holds w) {n : Nat} (hn : n < g.kind.length) : ∃ A na ca, m.as[n]? = some (A, na, ca) ∧ na = (ksO T ((g.a[n]?).getD none) ((g.b[n]?).getD none)).length := by
  have h := h0.1
  have l : m.as.length = g.kind.length := by rw [h.1]; simp [ksL]
  obtain ⟨⟨A, na, ca⟩, h1⟩ : ∃ s, m.as[n]? = some s := ⟨_, List.getElem?_eq_getElem (by omega)⟩
  exact ⟨A, na, ca, h1, (h.2 n _ _ h1 (by simp [ksL, hn])).1⟩
theorem ndC_eq {T R : List Nat} {g : G} {m : Pm} {n kd na ca : Nat} {A : Option Addr} {rb io : Option Nat} (hk : g.kind[n]? = some kd) (ha : m.as[n]? = some (A, na, ca)) (hr : rowB R g n = rb) (hi : oB T ((m.il[n]?).getD none) = io) :
    ndC T R g m n = [.int .i64 (kd : Int), .slice A na ca, pB rb, pB io] := by unfold ndC slD; rw [hk, ha, hr, hi]; rfl
theorem rowB_no {R : List Nat} {g : G} {n kd : Nat} (hk : g.kind[n]? = some kd) (h : kd ≠ 6) : rowB R g n = none := by unfold rowB; rw [hk]; simp [h]
theorem rowB_yes {R : List Nat} {g : G} {n r : Nat} (hk : g.kind[n]? = some 6) (h : g.row[n]? = some r) : rowB R g n = R[r]? := by unfold rowB; rw [hk, h]; simp
theorem il_none {T : List Nat} {m : Pm} {n : Nat} (h : m.il[n]? = some none) : oB T ((m.il[n]?).getD none) = none := by rw [h]; rfl
theorem il_some {T : List Nat} {m : Pm} {n q b : Nat} (h : m.il[n]? = some (some q)) (hb : T[q]? = some b) : oB T ((m.il[n]?).getD none) = some b := by rw [h]; exact hb
end
/-! ### The way to what a node has become -/
inductive EnK (is : List (Option Nat)) : Nat → Nat → Nat → Prop
  | here {n} (h : is[n]? = some none) : EnK is 0 n n
  | on {k n m e} (h : is[n]? = some (some m)) (q : EnK is k m e) : EnK is (k + 1) n e
theorem En.k {is : List (Option Nat)} {n e : Nat} (h : En is n e) : ∃ k, EnK is k n e := by
  induction h with
  | here h => exact ⟨0, .here h⟩
  | on h _ ih => obtain ⟨k, hk⟩ := ih; exact ⟨k + 1, .on h hk⟩
theorem EnK.en {is : List (Option Nat)} {k n e : Nat} (h : EnK is k n e) : En is n e := by
  induction h with
  | here h => exact .here h
  | on h _ ih => exact .on h ih
theorem EnK.cs {is : List (Option Nat)} {k n e : Nat} (h : EnK is k n e) : (k = 0 ∧ is[n]? = some none ∧ n = e) ∨ ∃ j m, k = j + 1 ∧ is[n]? = some (some m) ∧ EnK is j m e := by
  cases h with
  | here h => exact .inl ⟨rfl, h, rfl⟩
  | on h k => exact .inr ⟨_, _, rfl, h, k⟩
theorem EnK.short {is : List (Option Nat)} {n m e : Nat} (hn : is[n]? = some (some m)) (hm : En is n e) {k x y : Nat} (h : EnK is k x y) : ∃ j, j ≤ k ∧ EnK (is.set n (some e)) j x y := by
  have he : e ≠ n := fun q => by have := hm.last; rw [q, hn] at this; cases this
  induction h with
  | @here x hx =>
    refine ⟨0, Nat.le_refl _, .here ?_⟩
    rw [List.getElem?_set_ne (fun q => by rw [← q, hn] at hx; cases hx)]; exact hx
  | @on k x z y hx hz ih =>
    by_cases q : x = n
    · subst q
      have hl := (List.getElem?_eq_some_iff.1 hn).1
      have e2 : y = e := (En.on hx hz.en).det hm
      subst e2
      refine ⟨1, by omega, .on (m := y) (by rw [List.getElem?_set_self hl]) (.here ?_)⟩
      rw [List.getElem?_set_ne (Ne.symm he)]; exact hm.last
    · obtain ⟨j, hj, hk⟩ := ih
      exact ⟨j + 1, by omega, .on (by rw [List.getElem?_set_ne (Ne.symm q)]; exact hx) hk⟩
/-- The way there is cut short. -/
theorem PR.short {T R : List Nat} {g : G} {m : Pm} (hm : PR T R g m) {n c e : Nat} (hn : m.il[n]? = some (some c)) (he : En m.il n e) : PR T R g { m with il := m.il.set n (some e) } :=
  ⟨hm.lT, hm.lR, hm.la, hm.lb, hm.lr, hm.ll, by show (m.il.set n (some e)).length = _; rw [List.length_set]; exact hm.li, fun x z h => En.short hn he (hm.en x z h), hm.al, hm.ka, hm.kr, hm.kn, hm.z, hm.lo, hm.ar⟩
theorem ndC_il {T R : List Nat} {g : G} {m : Pm} {n i : Nat} {o : Option Nat} (h : i ≠ n) : ndC T R g { m with il := m.il.set n o } i = ndC T R g m i := by unfold ndC; rw [List.getElem?_set_ne (Ne.symm h)]
theorem il_set {T : List Nat} {m : Pm} {n e b : Nat} (hl : n < m.il.length) (hb : T[e]? = some b) : oB T (((m.il.set n (some e))[n]?).getD none) = some b := by rw [List.getElem?_set_self hl]; exact hb
theorem PR.il_lt {T R : List Nat} {g : G} {m : Pm} (hm : PR T R g m) {n q : Nat} (h : En m.il n q) : n < T.length ∧ q < T.length := by
  have a := h.lt
  have b := h.lt2
  rw [hm.li, hm.ll] at a b
  rw [hm.lT]; exact ⟨a, b⟩
theorem tb {T : List Nat} {n : Nat} (h : n < T.length) : ∃ b, T[n]? = some b := ⟨_, List.getElem?_eq_getElem h⟩
end Go.Slv
