/- Things made of things; maps; quiet operations that are shown by hand. -/
import Derived.Test.YtdmdecgoebnamaaGreatGraph
import Derived.MapKept
set_option linter.unusedVariables false
set_option linter.unusedSimpArgs false
namespace Go.Sx
open Go.RowKit Go.Gx Go.MapKept
def comp (shape : List Item → Prop) (S : Nat → Prop) : Item := .abs S (fun w => ∃ L, shape L ∧ (∀ c, E8 L c ↔ S c) ∧ (∀ it ∈ L, it.wr = true) ∧ Sp w L)
theorem Sp.hO {w w' : World} {L : List Item} (h : Sp w L) (hs : w.heap.size ≤ w'.heap.size) (k : ∀ c, E8 L c → w'.heap[c]? = w.heap[c]?) : Sp w' L :=
 ⟨fun it hi => Item.hO (h.all it hi) hs (fun c hc => k c ⟨it, hi, hc⟩), h.yO⟩
theorem vP {w : World} {shape : List Item → Prop} {L : List Item} (h : Sp w L) (hs : shape L) (hw : ∀ it ∈ L, it.wr = true) : (comp shape (E8 L)).holds w := by
 refine ⟨⟨L, hs, fun _ => Iff.rfl, hw, h⟩, fun c ⟨it, hi, hc⟩ => Item.lt (h.all it hi) hc, ?_⟩;rintro w1 w2 zH hk ⟨L', a, b, c, d⟩;exact ⟨L', a, b, c, d.hO zH (fun c hc => hk c ((b c).1 hc))⟩
section
variable {w0 w w' : World} {L0 L R L1 : List Item}
theorem Hs.gu (H : Hs w0 L0 w L) (i : Nat) {shape : List Item → Prop} {S : Nat → Prop} (hi : bp [i] L = some [comp shape S]) : ∃ L', shape L' ∧ Hs w0 L0 w (L' ++ rest [i] L) := by
 have k := H.perm (gg hi);have pw := List.pairwise_append.1 k.sp.yO;have hm : comp shape S ∈ [comp shape S] ++ rest [i] L := List.mem_append_left _ (.head _);obtain ⟨⟨L', a, b, c, d⟩, _, _⟩ := k.sp.all _ hm;refine ⟨L', a, k.kp, ⟨fun it hi => ?_, List.pairwise_append.2 ⟨d.yO, pw.2.1, fun x hx y hy => ?_⟩⟩, fun it hi c hc hl => ?_, fun it hi hw c hc hl => ?_⟩
 · rcases List.mem_append.1 hi with q | q
   · exact d.all it q
   · exact k.sp.all it (List.mem_append_right _ q)
 · intro _ cc hcx Z3;exact pw.2.2 _ (.head _) y hy rfl cc ((b cc).1 ⟨x, hx, hcx⟩) Z3
 · rcases List.mem_append.1 hi with q | q
   · exact k.Cs _ hm c ((b c).1 ⟨it, q, hc⟩) hl
   · exact k.Cs it (List.mem_append_right _ q) c hc hl
 · rcases List.mem_append.1 hi with q | q
   · exact k.Hd _ hm rfl c ((b c).1 ⟨it, q, hc⟩) hl
   · exact k.Hd it (List.mem_append_right _ q) hw c hc hl
theorem Hs.cls (H : Hs w0 L0 w L) (I : List Nat) (hi : bp I L = some L1) {shape : List Item → Prop} (hs : shape L1) (hw : L1.all (·.wr) = true) : Hs w0 L0 w (comp shape (E8 L1) :: rest I L) := by
 have hw' : ∀ it ∈ L1, it.wr = true := fun it hi => List.all_eq_true.1 hw it hi;have k := H.perm (gg hi);have pw := List.pairwise_append.1 k.sp.yO;refine ⟨k.kp, ⟨fun it hi => ?_, List.pairwise_cons.2 ⟨fun y hy => ?_, pw.2.1⟩⟩, fun it hi c hc hl => ?_, fun it hi hww c hc hl => ?_⟩
 · rcases List.mem_cons.1 hi with rfl | q
   · exact vP ⟨fun it hi => k.sp.all it (List.mem_append_left _ hi), pw.1⟩ hs hw'
   · exact k.sp.all it (List.mem_append_right _ q)
 · rintro _ c ⟨x, hx, hc⟩ Z3;exact pw.2.2 x hx y hy (by rw [hw' x hx]; rfl) c hc Z3
 · rcases List.mem_cons.1 hi with rfl | q
   · obtain ⟨x, hx, hc⟩ := hc; exact k.Cs x (List.mem_append_left _ hx) c hc hl
   · exact k.Cs it (List.mem_append_right _ q) c hc hl
 · rcases List.mem_cons.1 hi with rfl | q
   · obtain ⟨x, hx, hc⟩ := hc; exact k.Hd x (List.mem_append_left _ hx) (hw' x hx) c hc hl
   · exact k.Hd it (List.mem_append_right _ q) hww c hc hl
end
section
variable {α : Type} [DecidableEq α]
def pos (a : α) : List (α × Value) → Option Nat
 | [] => none
 | p :: r => if p.1 = a then some 0 else (pos a r).map (· + 1)
def look (a : α) (m : List (α × Value)) : Option Value := (pos a m).bind fun j => (m[j]?).map (·.2)
def AM (a : α) (v : Value) (m : List (α × Value)) : List (α × Value) := match pos a m with
 | some j => m.set j (a, v)
 | none => m ++ [(a, v)]
def del (a : α) (m : List (α × Value)) : List (α × Value) := match pos a m with
 | some j => m.eraseIdx j
 | none => m
def C6 (kd : TypeDesc) (enc : α → Value) (es : Array MapEntry) (ck : Nat) (m : List (α × Value)) : Prop :=
 Stamped es ck ∧ (∀ x ∈ es.toList, IsKey kd x.key) ∧ es.toList.map (fun e => (e.key, e.val)) = m.map (fun p => (enc p.1, p.2))
def rf (kd : TypeDesc) (enc : α → Value) (b : Nat) (m : List (α × Value)) : Item := .abs (fun c => c = b) (fun w => ∃ es ck, Has w b (.map es ck) ∧ C6 kd enc es ck m)
omit [DecidableEq α] in
theorem LQ (kd : TypeDesc) (enc : α → Value) (b : Nat) (m : List (α × Value)) : Loc (fun c => c = b) (fun w => ∃ es ck, Has w b (.map es ck) ∧ C6 kd enc es ck m) := by
 rintro w w' _ hk ⟨es, ck, h1, h2⟩;exact ⟨es, ck, (hk b rfl).trans h1, h2⟩
omit [DecidableEq α] in
theorem jN {kd : TypeDesc} {enc : α → Value} {b : Nat} {m : List (α × Value)} {w : World} {es : Array MapEntry} {ck : Nat} (h : Has w b (.map es ck)) (hm : C6 kd enc es ck m) : (rf kd enc b m).holds w :=
 ⟨⟨es, ck, h, hm⟩, fun c hc => by cases hc; exact h.lt, LQ _ _ _ _⟩
theorem iB {kd : TypeDesc} {enc : α → Value} (hk : ∀ a, IsKey kd (enc a)) (sI : ∀ a b, enc a = enc b → a = b) (a : α) : ∀ (l : List MapEntry) (m : List (α × Value)) (i : Nat), l.map (fun e => (e.key, e.val)) = m.map (fun p => (enc p.1, p.2)) →
   Instr.findNow kd (enc a) l i = some ((pos a m).bind fun j => (m[j]?).map fun p => (i + j, p.2))
 | [], [], _, _ => rfl
 | [], _ :: _, _, h => by simp at h
 | _ :: _, [], _, h => by simp at h
 | e :: l, p :: m, i, h => by
   simp only [List.map_cons, List.cons.injEq, Prod.mk.injEq] at h;obtain ⟨⟨h1, h2⟩, h3⟩ := h;obtain ⟨r, hr, Z4⟩ := sameNow_of_keys (hk a) (b := e.key) (by rw [h1]; exact hk p.1);have ih := iB hk sI a l m (i + 1) h3;cases r with
   | true =>
     have : a = p.1 := sI _ _ ((Z4.1 rfl).trans h1);subst this;simp [Instr.findNow, hr, pos, h2]
   | false =>
     have mU : ¬ p.1 = a := fun q => by have := Z4.2 (by rw [h1, q]); cases this
     simp only [Instr.findNow, hr, ih, pos, if_neg mU, Option.bind_map];congr 1;cases pos a m with
     | none => rfl
     | some j => simp only [Option.bind_some, Function.comp, List.getElem?_cons_succ]; congr 1; funext q; congr 1; omega
theorem LR {a : α} {m : List (α × Value)} (h : pos a m = none) : ∀ p ∈ m, p.1 ≠ a := by
 induction m with
 | nil => simp
 | cons p r ih =>
   unfold pos at h;split at h
   · cases h
   · rename_i mU;cases hp : pos a r with
     | some j => simp [hp] at h
     | none => intro q hq; rcases List.mem_cons.1 hq with rfl | q'; exact mU; exact ih hp q q'
theorem nR {a : α} {m : List (α × Value)} {j : Nat} (h : pos a m = some j) : ∃ v, m[j]? = some (a, v) := by
 induction m generalizing j with
 | nil => simp [pos] at h
 | cons p r ih =>
   unfold pos at h;split at h
   · rename_i e; cases h; exact ⟨p.2, by rw [← e]; rfl⟩
   · cases hp : pos a r with
     | none => simp [hp] at h
     | some i => rw [hp, Option.map_some] at h; cases h; obtain ⟨v, hv⟩ := ih hp; exact ⟨v, hv⟩
theorem look_eq {a : α} {m : List (α × Value)} : (pos a m).bind (fun j => (m[j]?).map fun p => (0 + j, p.2)) = match pos a m with | some j => (look a m).map fun v => (j, v) | none => none := by
 unfold look;cases hp : pos a m with
 | none => rfl
 | some j => simp only [Option.bind_some, Option.map_map, Nat.zero_add]; rfl
theorem zO {a : α} {m : List (α × Value)} : look a m = none ↔ pos a m = none := by
 unfold look;cases hp : pos a m with
 | none => simp
 | some j => obtain ⟨v, hv⟩ := nR hp; simp [hv]
end
section
variable {α : Type} [DecidableEq α]
variable [Rd] {P : Program} {B : Exit → Act → World → Prop} {b : Nat → Value} {n : Nat} {d : List Deferred} {w0 w : World} {x : St} {L0 L : List Item}
def ki (P : Program) (t : TypeId) : Option (TypeId × TypeId) := match P.underlying t with
 | some (.map k e) => some (k, e)
 | _ => none
omit [Rd] in
theorem mf {t k e : TypeId} (h : ki P t = some (k, e)) : P.underlying t = some (.map k e) := by
 unfold ki at h;split at h
 · rename_i k' e' hu; simp only [Option.some.injEq, Prod.mk.injEq] at h; obtain ⟨rfl, rfl⟩ := h; exact hu
 · cases h
def lU (b : Nat → Value) (n : Nat) (x : St) : Option Ask :=
 match hd b n x with
 | some q => match q.2.2.op with
   | .lookup t mp ix ok => some ⟨[ev b n x.l mp, ev b n x.l ix], [t, (match ok with | true => 1 | false => 0)], x, q⟩
   | _ => none
 | none => none
theorem lk (m i : Nat) (H : Hs w0 L0 w L) {kd : TypeDesc} {enc : α → Value} {bt t kt et : Nat} {mp : List (α × Value)} {r : Nat} (a : α) (z : Value) (hi : L[i]? = some (rf kd enc bt mp)) (hk : ∀ a, IsKey kd (enc a)) (sI : ∀ a b, enc a = enc b → a = b)
   (k : Goal P B b n d (nx (vX (via P b n m w x (ask (lU b n)))).y (vX (via P b n m w x (ask (lU b n)))).q (match r with | 0 => (look a mp).getD z | _ => .tuple #[(look a mp).getD z, .bool (look a mp).isSome])) w)
   (h : vA (via P b n m w x (ask (lU b n))) = vB w (via P b n m w x (ask (lU b n))) := by kernel_rfl)
   (h2 : ((vX (via P b n m w x (ask (lU b n)))).u, (vX (via P b n m w x (ask (lU b n)))).t) = ([.map (some bt), enc a], [t, r]) := by kernel_rfl)
   (ht : ki P t = some (kt, et) := by kernel_rfl) (lE : P.underlying kt = some kd := by kernel_rfl) (hz : (P.info? et).bind (·.zero) = some z := by kernel_rfl) : Goal P B b n d x w := by
 obtain ⟨y, hr, hf⟩ := cG h;refine az hr ?_;generalize vX (via P b n m w x (ask (lU b n))) = zz at *;unfold lU at hf;split at hf <;> try contradiction
 rename_i q hq;split at hf <;> try contradiction
 rename_i t' mo ix ok hop;simp only [Option.some.injEq] at hf;subst hf;simp only [Prod.mk.injEq, List.cons.injEq, and_true] at h2;obtain ⟨⟨h3, h4⟩, rfl, h5⟩ := h2;obtain ⟨⟨es, ck, hb, cw, T6, hm⟩, _, _⟩ := H.at i hi;have C7 := mf ht;have rh := iB hk sI a es.toList mp 0 hm;rw [look_eq] at rh;have LS : (zeroValue et).run P w = .ok z w := by
   cases eE : P.info? et with
   | none => simp [eE] at hz
   | some inf => rw [eE] at hz; simp only [Option.bind_some] at hz; simp [zeroValue, typeInfo, eE, hz]
 refine cF hq ?_ k;unfold execOp;have Fe := MapKept.run_getObj_map (P := P) (w := w) hb;have Jm : (Instr.checkKey es.isEmpty 10000 kt (enc a)).run P w = .ok () w := run_checkKey lE (hk a) _ 9999;cases hp : pos a mp with
 | none =>
   have hl := zO.2 hp;rw [hp] at rh;have uW := run_findKey (P := P) (w := w) lE rh;cases ok <;> simp only at h5 <;> subst h5 <;> simp [hop, h3, h4, Instr.lookup, run_underlying C7, Sem.run_bind, Fe, Jm, uW, LS, hl, Result.andThen]
 | some j =>
   obtain ⟨v, hv⟩ := nR hp;have hl : look a mp = some v := by unfold look; rw [hp]; simp [hv]
   rw [hp] at rh;simp only [hl, Option.map_some] at rh;have uW := run_findKey (P := P) (w := w) lE rh;cases ok <;> simp only at h5 <;> subst h5 <;> simp [hop, h3, h4, Instr.lookup, run_underlying C7, Sem.run_bind, Fe, Jm, uW, hl, Result.andThen]
def pH (b : Nat → Value) (n : Nat) (x : St) : Option Ask :=
 match hd b n x with
 | some q => match q.2.2.op with
   | .mapUpdate t mp ix v => some ⟨[ev b n x.l mp, ev b n x.l ix, ev b n x.l v], [t], x, q⟩
   | _ => none
 | none => none
theorem mu (m i : Nat) (H : Hs w0 L0 w L) {kd : TypeDesc} {enc : α → Value} {bt t kt et : Nat} {mp : List (α × Value)} (a : α) (v : Value) (hi : L[i]? = some (rf kd enc bt mp)) (hk : ∀ a, IsKey kd (enc a)) (sI : ∀ a b, enc a = enc b → a = b) (hsb : ∀ a, Instr.sameBits 10000 (enc a) (enc a) = true)
   (k : ∀ w', Hs w0 L0 w' (L.set i (rf kd enc bt (AM a v mp))) → Goal P B b n d (nx (vX (via P b n m w x (ask (pH b n)))).y (vX (via P b n m w x (ask (pH b n)))).q undef) w')
   (h : vA (via P b n m w x (ask (pH b n))) = vB w (via P b n m w x (ask (pH b n))) := by kernel_rfl)
   (h2 : ((vX (via P b n m w x (ask (pH b n)))).u, (vX (via P b n m w x (ask (pH b n)))).t) = ([.map (some bt), enc a, v], [t]) := by kernel_rfl)
   (ht : ki P t = some (kt, et) := by kernel_rfl) (lE : P.underlying kt = some kd := by kernel_rfl) : Goal P B b n d x w := by
 obtain ⟨y, hr, hf⟩ := cG h;refine az hr ?_;generalize vX (via P b n m w x (ask (pH b n))) = zz at *;unfold pH at hf;split at hf <;> try contradiction
 rename_i q hq;split at hf <;> try contradiction
 rename_i t' mo ix vo hop;simp only [Option.some.injEq] at hf;subst hf;simp only [Prod.mk.injEq, List.cons.injEq, and_true] at h2;obtain ⟨⟨h3, h4, h6⟩, rfl⟩ := h2;obtain ⟨⟨es, ck, hb, cw, T6, hm⟩, _, _⟩ := H.at i hi;have C7 := mf ht;have rh := iB hk sI a es.toList mp 0 hm;rw [look_eq] at rh;have Fe := MapKept.run_getObj_map (P := P) (w := w) hb;have Jm : (Instr.checkKey false 10000 kt (enc a)).run P w = .ok () w := run_checkKey lE (hk a) _ 9999;have fin : ∀ VR VS, C6 kd enc VR VS (AM a v mp) → (execOp (ev b n y.l) q.2.2).run P w = .ok .skip { w with heap := w.heap.setIfInBounds bt (.map VR VS) } → Goal P B b n d y w := by
   intro VR VS hm' nL;refine tH hq fun j ho hw _ K hK => AL ho hw nL (hK _ _ (k _ ?_));exact H.put i hi rfl (Kp.mono (Kp.C2 (vw w bt _)) (fun c hc => (Option.some.inj hc).symm)) (jN (qd _ hb) hm') (fun c hc => .inl hc)
 cases hp : pos a mp with
 | none =>
   rw [hp] at rh;have uW := run_findKey (P := P) (w := w) lE rh;have mU : ∀ x ∈ es.toList, x.key ≠ enc a := by
     intro x hx e;have : (x.key, x.val) ∈ es.toList.map (fun e => (e.key, e.val)) := List.mem_map.2 ⟨x, hx, rfl⟩;rw [hm] at this;obtain ⟨p, hp', e'⟩ := List.mem_map.1 this;simp only [Prod.mk.injEq] at e';exact LR hp p hp' (sI _ _ (e'.1.trans e))
   refine fin (es.push { key := enc a, val := v, born := ck }) (ck + 1) ⟨stamped_push cw mU, ?_, ?_⟩ ?_
   · intro x hx;rw [Array.toList_push] at hx;rcases List.mem_append.1 hx with r | r
     · exact T6 x r
     · rw [List.mem_singleton.1 r]; exact hk a
   · rw [Array.toList_push, List.map_append, hm]; simp [AM, hp]
   · unfold execOp;simp [hop, h3, h4, h6, Instr.mapUpdate, run_underlying C7, Sem.run_bind, Fe, Jm, uW, Result.andThen, MapKept.run_setObj_map _ hb]
 | some j =>
   obtain ⟨v0, hv⟩ := nR hp;have hl : look a mp = some v0 := by unfold look; rw [hp]; simp [hv]
   rw [hp] at rh;simp only [hl, Option.map_some] at rh;have uW := run_findKey (P := P) (w := w) lE rh;have VT : ∀ e, es[j]? = some e → e.key = enc a := by
     intro e he;have h1 : (es.toList.map (fun e => (e.key, e.val)))[j]? = some (e.key, e.val) := by rw [List.getElem?_map]; simp [he]
     rw [hm, List.getElem?_map, hv] at h1;simp only [Option.map_some, Option.some.injEq, Prod.mk.injEq] at h1;exact h1.1.symm
   have hlen : j < es.size := by
     have h1 := congrArg List.length hm;simp only [List.length_map, Array.length_toList] at h1;have := (List.getElem?_eq_some_iff.1 hv).1;omega
   refine fin (es.modify j fun e => { e with key := enc a, val := v }) ck ⟨stamped_modify cw _ _ (fun _ _ => rfl) (fun e _ he => (VT e he).symm), isKey_modify T6 _ _ (fun e he => (VT e he).symm), ?_⟩ ?_
   · simp only [AM, hp];apply List.ext_getElem?;intro i';have h1 := congrArg (fun l => l[i']?) hm;simp only [List.getElem?_map] at h1 ⊢;rw [List.getElem?_set];simp only [Array.getElem?_toList, Array.getElem?_modify] at h1 ⊢;split
     · rename_i e; subst e;have := (List.getElem?_eq_some_iff.1 hv).1;simp [hlen, this]
     · exact h1
   · unfold execOp;have hkk : ((es[j]?).map (·.key)).getD (enc a) = enc a := by
       cases he : es[j]? with
       | none => rfl
       | some e => simp [VT e he]
     simp [hop, h3, h4, h6, Instr.mapUpdate, run_underlying C7, Sem.run_bind, Fe, Jm, uW, Result.andThen, MapKept.run_setObj_map _ hb, hkk, Instr.keyThatStays, hsb]
omit [DecidableEq α] [Rd] in
theorem gH (kd : TypeDesc) (enc : α → Value) {bt i : Nat} (H : Hs w0 L0 w L) (hi : L[i]? = some (.al bt (.map #[] 0))) : Hs w0 L0 w (L.set i (rf kd enc bt [])) :=
 H.as i _ hi rfl (jN (H.at i hi) ⟨stamped_empty 0, by simp, rfl⟩) (fun _ h => h)
def Hh (b : Nat → Value) (n : Nat) (x : St) : Option Ask :=
 match hd b n x with
 | some q => match q.2.2.op with
   | .call c => match c.callee with
     | .builtin .len => match c.args.toList, c.argTypes.toList with
       | [s], [t] => some ⟨[ev b n x.l s], [t], x, q⟩
       | _, _ => none
     | _ => none
   | _ => none
 | none => none
omit [DecidableEq α] in
theorem ml (m i : Nat) (H : Hs w0 L0 w L) {kd : TypeDesc} {enc : α → Value} {bt t kt et : Nat} {mp : List (α × Value)} (hi : L[i]? = some (rf kd enc bt mp))
   (k : Goal P B b n d (nx (vX (via P b n m w x (ask (Hh b n)))).y (vX (via P b n m w x (ask (Hh b n)))).q (.int .i64 (mp.length : Int))) w)
   (h : vA (via P b n m w x (ask (Hh b n))) = vB w (via P b n m w x (ask (Hh b n))) := by kernel_rfl)
   (h2 : ((vX (via P b n m w x (ask (Hh b n)))).u, (vX (via P b n m w x (ask (Hh b n)))).t) = ([.map (some bt)], [t]) := by kernel_rfl)
   (ht : ki P t = some (kt, et) := by kernel_rfl) : Goal P B b n d x w := by
 obtain ⟨y, hr, hf⟩ := cG h;refine az hr ?_;generalize vX (via P b n m w x (ask (Hh b n))) = zz at *;unfold Hh at hf;split at hf <;> try contradiction
 rename_i q hq;split at hf <;> try contradiction
 rename_i cl hop;split at hf <;> try contradiction
 rename_i q_;split at hf <;> try contradiction
 rename_i s t1 fY jM;simp only [Option.some.injEq] at hf;subst hf;simp only [Prod.mk.injEq, List.cons.injEq, and_true] at h2;obtain ⟨h3, rfl⟩ := h2;obtain ⟨⟨es, ck, hb, cw, T6, hm⟩, _, _⟩ := H.at i hi;have C7 := mf ht;have tD : cl = { callee := .builtin .len, args := #[s], argTypes := #[t1] } := by
   obtain ⟨ce, ca, ct⟩ := cl;simp only at q_ fY jM;subst q_;congr 1
   · exact Array.toList_inj.1 fY
   · exact Array.toList_inj.1 jM
 have zH : es.size = mp.length := by have := congrArg List.length hm; simpa using this
 refine cF hq ?_ k;unfold execOp;rw [hop, tD];simp [h3, resolve, invoke, builtin, Builtin.len_, Builtin.lenOf, run_underlying C7, Sem.run_bind, MapKept.run_getObj_map hb, Result.andThen, zH, goInt]
omit [Rd] in
theorem sJ {β γ : Type} (f : β → γ) : ∀ (l : List β) (i : Nat), (l.eraseIdx i).map f = (l.map f).eraseIdx i
 | [], _ => rfl
 | _ :: _, 0 => rfl
 | x :: l, i + 1 => by simp only [List.eraseIdx_cons_succ, List.map_cons, sJ f l i]
def Hi (b : Nat → Value) (n : Nat) (x : St) : Option Ask :=
 match hd b n x with
 | some q => match q.2.2.op with
   | .call c => match c.callee with
     | .builtin .delete => match c.args.toList, c.argTypes.toList with
       | [s, y], [t, t'] => some ⟨[ev b n x.l s, ev b n x.l y], [t, t'], x, q⟩
       | _, _ => none
     | _ => none
   | _ => none
 | none => none
theorem de (m i : Nat) (H : Hs w0 L0 w L) {kd : TypeDesc} {enc : α → Value} {bt t t' kt et : Nat} {mp : List (α × Value)} (a : α) (hi : L[i]? = some (rf kd enc bt mp)) (hk : ∀ a, IsKey kd (enc a)) (sI : ∀ a b, enc a = enc b → a = b)
   (k : ∀ w', Hs w0 L0 w' (L.set i (rf kd enc bt (del a mp))) → Goal P B b n d (nx (vX (via P b n m w x (ask (Hi b n)))).y (vX (via P b n m w x (ask (Hi b n)))).q (.tuple #[])) w')
   (h : vA (via P b n m w x (ask (Hi b n))) = vB w (via P b n m w x (ask (Hi b n))) := by kernel_rfl)
   (h2 : ((vX (via P b n m w x (ask (Hi b n)))).u, (vX (via P b n m w x (ask (Hi b n)))).t) = ([.map (some bt), enc a], [t, t']) := by kernel_rfl)
   (ht : ki P t = some (kt, et) := by kernel_rfl) (lE : P.underlying kt = some kd := by kernel_rfl) : Goal P B b n d x w := by
 obtain ⟨y, hr, hf⟩ := cG h;refine az hr ?_;generalize vX (via P b n m w x (ask (Hi b n))) = zz at *;unfold Hi at hf;split at hf <;> try contradiction
 rename_i q hq;split at hf <;> try contradiction
 rename_i cl hop;split at hf <;> try contradiction
 rename_i q_;split at hf <;> try contradiction
 rename_i s yv t1 t2 fY jM;simp only [Option.some.injEq] at hf;subst hf;simp only [Prod.mk.injEq, List.cons.injEq, and_true] at h2;obtain ⟨⟨h3, h4⟩, rfl, rfl⟩ := h2;obtain ⟨⟨es, ck, hb, cw, T6, hm⟩, _, _⟩ := H.at i hi;have C7 := mf ht;have rh := iB hk sI a es.toList mp 0 hm;rw [look_eq] at rh;have Fe := MapKept.run_getObj_map (P := P) (w := w) hb;have Jm : (Instr.checkKey es.isEmpty 10000 kt (enc a)).run P w = .ok () w := run_checkKey lE (hk a) _ 9999;have tD : cl = { callee := .builtin .delete, args := #[s, yv], argTypes := #[t1, t2] } := by
   obtain ⟨ce, ca, ct⟩ := cl;simp only at q_ fY jM;subst q_;congr 1
   · exact Array.toList_inj.1 fY
   · exact Array.toList_inj.1 jM
 have fin : ∀ VR VS, C6 kd enc VR VS (del a mp) → (execOp (ev b n y.l) q.2.2).run P w = .ok (.value (.tuple #[])) { w with heap := w.heap.setIfInBounds bt (.map VR VS) } → Goal P B b n d y w := by
   intro VR VS hm' nL;refine cF hq nL (k _ ?_);exact H.put i hi rfl (Kp.mono (Kp.C2 (vw w bt _)) (fun c hc => (Option.some.inj hc).symm)) (jN (qd _ hb) hm') (fun c hc => .inl hc)
 cases hp : pos a mp with
 | none =>
   rw [hp] at rh;have uW := run_findKey (P := P) (w := w) lE rh;refine fin es ck ⟨cw, T6, by simp [del, hp, hm]⟩ ?_;unfold execOp;rw [hop, tD];simp [h3, h4, resolve, invoke, builtin, Builtin.delete_, run_underlying C7, Sem.run_bind, Fe, Jm, uW, Result.andThen, MapKept.run_setObj_map _ hb]
 | some j =>
   obtain ⟨v0, hv⟩ := nR hp;have hl : look a mp = some v0 := by unfold look; rw [hp]; simp [hv]
   rw [hp] at rh;simp only [hl, Option.map_some] at rh;have uW := run_findKey (P := P) (w := w) lE rh;have hlen : j < es.size := by
     have h1 := congrArg List.length hm;simp only [List.length_map, Array.length_toList] at h1;have := (List.getElem?_eq_some_iff.1 hv).1;omega
   have iZ : (es.eraseIdxIfInBounds j).toList = es.toList.eraseIdx j := by unfold Array.eraseIdxIfInBounds; rw [dif_pos hlen, Array.toList_eraseIdx]
   refine fin (es.eraseIdxIfInBounds j) ck ⟨stamped_erase cw j, fun x hx => T6 x (List.mem_of_mem_eraseIdx (iZ ▸ hx)), ?_⟩ ?_
   · simp only [del, hp]; rw [iZ, sJ, hm, sJ]
   · unfold execOp;rw [hop, tD];simp [h3, h4, resolve, invoke, builtin, Builtin.delete_, run_underlying C7, Sem.run_bind, Fe, Jm, uW, Result.andThen, MapKept.run_setObj_map _ hb]
end
section
variable [Rd] {P : Program} {B : Exit → Act → World → Prop} {b : Nat → Value} {n : Nat} {d : List Deferred} {w0 w : World} {x : St} {L0 L : List Item}
omit [Rd] in
theorem add_add (a : Addr) (i j : Nat) : (a.add i).add j = a.add (i + j) := by
 unfold Addr.add;by_cases hi : i = 0
 · subst hi; simp
 · by_cases hj : j = 0
   · subst hj; simp [hi]
   · simp [hi, hj, Nat.add_assoc]
omit [Rd] in
theorem kD {w : World} {e sz cap c : Nat} {A : Option Addr} {xs : List Value} (h : (Item.own e sz A cap c xs).holds w) : c ≤ cap := by
 rcases h.2 with ⟨hv, h0⟩ | ⟨g, cM, cur, hv, _, _, zI, _⟩
 · omega
 · injection hv with _ _ h3; omega
def T7 (P : Program) (b : Nat → Value) (n : Nat) (x : St) : Option Ask :=
 match hd b n x with
 | some q => match q.2.2.op with
   | .slice t s lo hi mx => match lo, hi, mx with
     | some k, none, none => match P.underlying t with
       | some (.slice e) => match P.info? e with
         | some inf => some ⟨[ev b n x.l s, ev b n x.l k], [inf.size], x, q⟩
         | none => none
       | _ => none
     | _, _, _ => none
   | _ => none
 | none => none
theorem sf (m : Nat) (A : Option Addr) (len cap k sz : Nat) (hk : k ≤ len) (hc : len ≤ cap)
   (g : ∀ C : Option Addr, (C = none → A = none) → (∀ a, C = some a → ∃ a0, A = some a0 ∧ (k < len → a = a0.add (k * sz))) → Goal P B b n d (nx (vX (via P b n m w x (ask (T7 P b n)))).y (vX (via P b n m w x (ask (T7 P b n)))).q (.slice C (len - k) (cap - k))) w)
   (h : vA (via P b n m w x (ask (T7 P b n))) = vB w (via P b n m w x (ask (T7 P b n))) := by kernel_rfl)
   (h2 : ((vX (via P b n m w x (ask (T7 P b n)))).u, (vX (via P b n m w x (ask (T7 P b n)))).t) = ([.slice A len cap, .int .i64 (k : Int)], [sz]) := by kernel_rfl) : Goal P B b n d x w := by
 obtain ⟨y, hr, hf⟩ := cG h;refine az hr ?_;generalize vX (via P b n m w x (ask (T7 P b n))) = z at *;unfold T7 at hf;split at hf <;> try contradiction
 rename_i q hq;split at hf <;> try contradiction
 rename_i t s lo hi mx hop;split at hf <;> try contradiction
 rename_i ko;split at hf <;> try contradiction
 rename_i e hu;split at hf <;> try contradiction
 rename_i inf eE;simp only [Option.some.injEq] at hf;subst hf;simp only [Prod.mk.injEq, List.cons.injEq, and_true] at h2;obtain ⟨⟨h3, h4⟩, rfl⟩ := h2;refine cF hq (v := .slice (if cap = k then A else A.map (·.add (k * inf.size))) (len - k) (cap - k)) ?_ (g _ ?_ ?_)
 · unfold execOp;have hl : ((k : Int) ≤ (len : Int)) := by omega
   simp [hop, h3, h4, Instr.sliceAt, Instr.slice, run_underlying hu, Sem.run_bind, Instr.sliceBounds, Instr.sliceBound, asIntOf, go_sem, hl, hk, sizeOf, typeInfo, eE]
 · intro h; split at h
   · exact h
   · cases A with
     | none => rfl
     | some a => simp at h
 · intro a ha;split at ha
   · exact ⟨a, ha, fun dO => by omega⟩
   · cases A with
     | none => simp at ha
     | some a0 => simp only [Option.map_some, Option.some.injEq] at ha; exact ⟨a0, rfl, fun _ => ha.symm⟩
theorem Z5 (m i LK k' e sz t c' : Nat) (C A : Option Addr) (cap c : Nat) (xs news : List Value) (H : Hs w0 L0 w L) (hC : C = none → k' = 0) (ri : ∀ a, C = some a → ∀ j u, news[j]? = some u → w.cell? (a.add j) = some u)
   (hl : news.length = k' * sz) (h1 : ∀ u ∈ news, u.oneCell' = true)
   (hb : (c + k') * LK ≤ 140737488355328) (hn : c + k' ≤ 9223372036854775807) (Ff : c ≤ cap) {y_ : List Value} (hx : xs ++ news = y_)
   (k : ∀ A' cM w', Hs w0 L0 w' (L.set i (.own e sz A' cM (c + k') y_)) → Goal P B b n d (nx (vX (via P b n m w x (ask (uV P b n)))).y (vX (via P b n m w x (ask (uV P b n)))).q (.slice A' (c + k') cM)) w')
   (h : vA (via P b n m w x (ask (uV P b n))) = vB w (via P b n m w x (ask (uV P b n))) := by kernel_rfl)
   (hi : L[i]? = some (.own e sz A cap c xs) := by kernel_rfl)
   (h2 : ((vX (via P b n m w x (ask (uV P b n)))).u, (vX (via P b n m w x (ask (uV P b n)))).t) = ([.slice A c cap, .slice C k' c'], [t, t, e, sz, LK, sz, 1]) := by kernel_rfl)
   (hz : Nat.blt 0 sz = true := by kernel_rfl) : Goal P B b n d x w := by
 subst hx;obtain ⟨y, hr, hf⟩ := cG h;refine az hr ?_;generalize vX (via P b n m w x (ask (uV P b n))) = z at *;unfold uV at hf;split at hf <;> try contradiction
 rename_i q hq;split at hf <;> try contradiction
 rename_i cl hop;split at hf <;> try contradiction
 rename_i q_;split at hf <;> try contradiction
 rename_i s yv t1 t2 fY jM;split at hf <;> try contradiction
 rename_i e1 hu;split at hf <;> try contradiction
 rename_i inf eE;simp only [Option.some.injEq] at hf;subst hf;simp only [Prod.mk.injEq, List.cons.injEq, and_true] at h2;obtain ⟨⟨h3, h4⟩, rfl, rfl, rfl, rfl, rfl, h5, h6⟩ := h2;have Z1 : inf.zero.map (·.cells.size) = some inf.size := by
   cases T4 : inf.zero with
   | none => simp [T4] at h6
   | some zv => simp only [T4, Option.map_some, Option.getD_some] at h5; simp [h5]
 have tD : cl = { callee := .builtin .append, args := #[s, yv], argTypes := #[t2, t2] } := by
   obtain ⟨ce, ca, ct⟩ := cl;simp only at q_ fY jM;subst q_;congr 1
   · exact Array.toList_inj.1 fY
   · exact Array.toList_inj.1 jM
 have jK := H.at i hi;obtain ⟨zv, LS, TR⟩ := Option.map_eq_some_iff.1 Z1;have key : ∃ v' w', (Builtin.append_ #[t2, t2] q.2.2.type #[.slice A c cap, .slice C k' c']).run P w = .ok v' w' ∧ w'.ownsRow 0 e1 inf.size v' (c + k') (xs ++ news) ∧ w.grownBy w' (Value.slice A c cap).ownBlock ∧ (v'.ownBlock = (Value.slice A c cap).ownBlock ∨ v'.ownBlock = some w.heap.size) := by
   cases C with
   | some a =>
     obtain ⟨v', w', r1, r2, r3, _, r4⟩ := run_append_own_at (P := P) w 0 t2 q.2.2.type e1 inf zv inf.size inf.bytes hu eE LS rfl rfl TR (Nat.le_of_ble_eq_true hz) _ c xs jK a k' c' news hl (ri a rfl) h1 (by unfold maxLen; omega) hb (Nat.zero_le _);exact ⟨v', w', r1, r2, r3, r4⟩
   | none =>
     obtain rfl := hC rfl;have VD : news = [] := List.eq_nil_of_length_eq_zero (by simpa using hl);subst VD;refine ⟨.slice A c cap, w, ?_, by rw [Nat.add_zero, List.append_nil]; exact jK, ⟨rfl, rfl, rfl, Nat.le_refl _, fun _ _ _ => rfl⟩, .inl rfl⟩;cases A <;> simp [Builtin.append_, run_underlying hu, sizeOf, typeInfo, eE, Builtin.lenOf, Builtin.firstCells, Ff, storeCells, Sem.run_bind, Result.andThen]
 obtain ⟨v', w', nL, zK, hG, LL⟩ := key;refine cF hq ?_ ?_ (v := v') (w' := w')
 · unfold execOp;rw [hop, tD];simp [h3, h4, resolve, invoke, builtin, Sem.run_bind, nL]
 · obtain ⟨A', cM, rfl⟩ := sD zK;refine k A' cM w' (H.put i hi rfl (Kp.C2 hG) zK (fun cc hc => ?_));rcases LL with q | q
   · exact .inl (q.symm.trans hc)
   · exact .inr (Nat.le_of_eq (Option.some.inj (q.symm.trans hc)))
end
end Go.Sx
namespace Go.aS
open Go.RowKit Go.Sx
def bL (l : List Nat) : List Value := l.map fun n : Nat => .int .i64 (n : Int)
def eI : Option Nat → Int
 | none => -1
 | some n => (n : Int)
def aw (l : List (Option Nat)) : List Value := l.map fun o => .int .i64 (eI o)
section
variable {P : Program} {t i : Nat}
theorem b_ {l : List Nat} {n : Nat} (h : l[i]? = some n) (ht : P.underlying t = some (.int .i64) := by kernel_rfl) : eP P t (bL l) (i * 1) (.int .i64 (n : Int)) := by
 unfold eP; rw [ht]; simp [bL, h]
theorem Fg {l : List (Option Nat)} (h : l[i]? = some none) (ht : P.underlying t = some (.int .i64) := by kernel_rfl) : eP P t (aw l) (i * 1) (.int .i64 (-1)) := by
 unfold eP; rw [ht]; simp [aw, eI, h]
theorem aQ {l : List (Option Nat)} {n : Nat} (h : l[i]? = some (some n)) (ht : P.underlying t = some (.int .i64) := by kernel_rfl) : eP P t (aw l) (i * 1) (.int .i64 (n : Int)) := by
 unfold eP; rw [ht]; simp [aw, eI, h]
end
theorem LU (l : List Nat) : (bL l).length = l.length := List.length_map _
theorem lG (l : List (Option Nat)) : (aw l).length = l.length := List.length_map _
theorem C8 (l : List Nat) (n : Nat) : bL l ++ [.int .i64 (n : Int)] = bL (l ++ [n]) := by simp [bL]
theorem oO (l : List (Option Nat)) {o : Option Nat} {v : Int} (h : v = eI o) : aw l ++ [.int .i64 v] = aw (l ++ [o]) := by simp [aw, h]
theorem oP (l : List (Option Nat)) (i : Nat) {o : Option Nat} {v : Int} (h : v = eI o) : (aw l).set (i * 1) (.int .i64 v) = aw (l.set i o) := by simp [aw, h, List.map_set]
def jO (w : World) (S : Nat → Prop) (A : Option Addr) (l : List Nm) : Prop := ∀ i s, l[i]? = some s → ∃ a, A = some a ∧ S a.block ∧ w.cells? 0 (a.add (i * 1)) 1 = some [.string s]
theorem eZ {w w' : World} {a : Addr} {n : Nat} {cs : List Value} (h : w.cells? 0 a n = some cs) (x : w'.heap[a.block]? = w.heap[a.block]?) : w'.cells? 0 a n = some cs := by
 have e : (fun i => w'.cell? (a.add i)) = fun i => w.cell? (a.add i) := funext fun i => by
   unfold World.cell?;have : (a.add i).block = a.block := by unfold Addr.add; split <;> rfl
   rw [this, x]
 unfold World.cells? at h ⊢;rw [e];exact h
theorem gh (a : Addr) (n : Nat) : (a.add n).block = a.block := by unfold Addr.add; split <;> rfl
theorem jO.hO {w w' : World} {S : Nat → Prop} {A : Option Addr} {l : List Nm} (h : jO w S A l) (k : ∀ c, S c → w'.heap[c]? = w.heap[c]?) : jO w' S A l := fun i s hs => by
 obtain ⟨a, ha, hS, hc⟩ := h i s hs;exact ⟨a, ha, hS, eZ hc (by rw [gh]; exact k _ hS)⟩
theorem jO.mono {w : World} {S S' : Nat → Prop} {A : Option Addr} {l : List Nm} (h : jO w S A l) (k : ∀ c, S c → S' c) : jO w S' A l := fun i s hs => by
 obtain ⟨a, ha, hS, hc⟩ := h i s hs;exact ⟨a, ha, k _ hS, hc⟩
def bf (S : Nat → Prop) (A : Option Addr) (l : List Nm) : Sx.Item := .abs S (fun w => jO w S A l)
def strs (l : List Nm) : List Value := l.map Value.string
theorem C9 (S : Nat → Prop) (A : Option Addr) (l : List Nm) : Sx.Loc S (fun w => jO w S A l) := fun _ _ _ hk h => h.hO hk
def gn (l : List Nm) (i : Nat) : Nm := (l[i]?).getD ⟨#[]⟩
theorem jq {l : List Nm} {i : Nat} (h : i < l.length) : l[i]? = some (gn l i) := by simp [gn, h]
theorem AX (a b : Nm) : KG a b = (Go.Op.bytesLess a.toList b.toList || (a.toList == b.toList)) := by unfold KG; rw [ByteArray.toList_eq, ByteArray.toList_eq]
theorem dx (a b : Nm) : ee a b = (a.toList == b.toList) := by unfold ee; rw [ByteArray.toList_eq, ByteArray.toList_eq]
theorem jO.nil {w : World} {S : Nat → Prop} {l : List Nm} (h : jO w S none l) : l = [] := by
 cases l with
 | nil => rfl
 | cons s l => obtain ⟨a, ha, _⟩ := h 0 s rfl; cases ha
theorem iC (l : List Nm) (s : Nm) : strs l ++ [.string s] = strs (l ++ [s]) := by simp [strs]
theorem zP {l : List Nm} {i : Nat} (h : i < l.length) : strs (l.take i) ++ [.string (gn l i)] = strs (l.take (i + 1)) := by
 rw [iC, List.take_add_one, jq h]; rfl
theorem C_ (l m : List Nm) : strs l ++ strs m = strs (l ++ m) := by simp [strs]
theorem vQ (l : List Nm) : ∀ u ∈ strs l, u.oneCell' = true := by
 intro u hu;obtain ⟨s, _, rfl⟩ := List.mem_map.1 hu;rfl
theorem AY {s : Nm} : ∀ {l : List Nm} {i : Nat}, i ≤ l.length → (∀ j, j < i → KG (gn l j) s = true) → (i = l.length ∨ KG (gn l i) s = false) → iY l s = l.take i ++ s :: l.drop i
 | [], i, h, _, _ => by have : i = 0 := by simpa using h
                        subst this; rfl
 | x :: l, 0, _, _, hx => by
   rcases hx with q | q
   · simp at q
   · have : KG x s = false := q;simp [iY, this]
 | x :: l, i + 1, h, hle, hx => by
   have h0 : KG x s = true := hle 0 (by omega);simp only [iY, h0, if_true, List.take_succ_cons, List.drop_succ_cons, List.cons_append];have e : gn (x :: l) (i + 1) = gn l i := by simp [gn]
   have hx' : i = l.length ∨ KG (gn l i) s = false := hx.imp (fun q => by simpa using q) (fun q => e ▸ q);rw [AY (l := l) (i := i) (by simpa using h) (fun j hj => hle (j + 1) (by omega)) hx']
theorem nS (l : List Nm) (s : Nm) : (iY l s).length = l.length + 1 := by
 induction l with
 | nil => rfl
 | cons x l ih => unfold iY; split <;> simp [ih]
theorem LV {a b : Bool} (h : (a && b) = true) : a = true ∧ b = true := by cases a <;> cases b <;> simp_all
theorem LW {a b : Bool} (h : (a && b) = false) : a = false ∨ b = false := by cases a <;> cases b <;> simp_all
theorem dw {w : World} : (bf (fun _ => False) none []).holds w := ⟨fun _ _ h => by simp at h, fun _ h => h.elim, C9 _ _ _⟩
theorem LX {w : World} {e n cap : Nat} {A : Option Addr} {l : List Nm} (h : w.ownsRow 0 e 1 (.slice A n cap) n (strs l)) : (bf (fun c => (Value.slice A n cap).ownBlock = some c) A l).holds w := by
 refine ⟨fun i s hs => ?_, fun c hc => LC h hc, C9 _ _ _⟩;have hn : l.length = n := by have := h.1; simpa [strs] using this
 have hi : i < n := by rw [← hn]; exact (List.getElem?_eq_some_iff.1 hs).1
 rcases h.2 with ⟨_, h0⟩ | ⟨g, cM, cur, hv, _, hg, zI, _, pq, ht⟩
 · omega
 · injection hv with h1 h2 h3;subst h1 h3;refine ⟨_, rfl, rfl, ?_⟩;have hc : cur[i]? = some (.string s) := by
     have : (cur.toList.take (n * 1))[i]? = some (.string s) := by rw [ht, strs, List.getElem?_map, hs]; rfl
     rw [List.getElem?_take, if_pos (by omega)] at this;simpa using this
   have : (⟨g, 0, none⟩ : Addr).add (i * 1) = ⟨g, i, none⟩ := by unfold Addr.add; split <;> simp_all
   rw [this];refine ChangeShapes.cells?_of (Nat.zero_le _) rfl (fun j hj => ?_);have hj0 : j = 0 := by simpa using hj
   subst hj0;rw [Nat.add_zero, cell_of_row w g i cur e (0, 0) hg];simpa using hc
section
variable {w0 w : World} {L0 L : List Sx.Item}
theorem Hs.toStr (H : Hs w0 L0 w L) (i : Nat) {e n cap : Nat} {A : Option Addr} {l : List Nm} (hi : L[i]? = some (.own e 1 A cap n (strs l))) : Hs w0 L0 w (L.set i (bf (fun c => (Value.slice A n cap).ownBlock = some c) A l)) :=
 H.as i _ hi rfl (LX (H.at i hi)) (fun _ h => h)
end
abbrev Slot := Option Addr × Nat × Nat
def Da (s : Slot) : Value := .slice s.1 s.2.1 s.2.2
def T8 (w : World) (S : Nat → Prop) (sl : List Slot) (ops : List (List Nm)) : Prop := sl.length = ops.length ∧ ∀ (r : Nat) (s : Slot) (l : List Nm), sl[r]? = some s → ops[r]? = some l → s.2.1 = l.length ∧ jO w S s.1 l
def gU (S : Nat → Prop) (sl : List Slot) (ops : List (List Nm)) : Sx.Item := .abs S (fun w => T8 w S sl ops)
theorem sK (S : Nat → Prop) (sl : List Slot) (ops : List (List Nm)) : Sx.Loc S (fun w => T8 w S sl ops) := fun _ _ _ hk h => ⟨h.1, fun r s l h1 h2 => ⟨(h.2 r s l h1 h2).1, (h.2 r s l h1 h2).2.hO hk⟩⟩
abbrev kj (n : Int) : Value := .int .i64 n
def EA (l : List (Int × Nat)) : List (Int × Value) := l.map fun p => (p.1, .int .i64 (p.2 : Int))
abbrev i_ (b : Nat) (l : List (Int × Nat)) : Sx.Item := rf (.int .i64) kj b (EA l)
structure Gm where
 k : Option Addr × Nat
 a : Option Addr × Nat
 b : Option Addr × Nat
 r : Option Addr × Nat
 l : Option Addr × Nat
 o : Option Addr × Nat
 n : Option Addr × Nat
 bt : Nat
 br : Nat
 sl : List Slot
 S : Nat → Prop
 nk : Nat
 no : Nat
abbrev gL (bg : Nat) (g : G) (m : Gm) : List Sx.Item :=
 [.al bg (.cells #[.slice m.k.1 m.nk m.k.2, .slice m.a.1 m.nk m.a.2, .slice m.b.1 m.nk m.b.2, .slice m.r.1 m.nk m.r.2, .slice m.l.1 m.nk m.l.2, .slice m.o.1 m.no m.o.2, .slice m.n.1 m.no m.n.2, .map (some m.bt), .map (some m.br)] 154),
  .own 3 1 m.k.1 m.k.2 m.nk (bL g.kind), .own 3 1 m.a.1 m.a.2 m.nk (aw g.a), .own 3 1 m.b.1 m.b.2 m.nk (aw g.b), .own 3 1 m.r.1 m.r.2 m.nk (bL g.row), .own 3 1 m.l.1 m.l.2 m.nk (aw g.link),
  .own 30 1 m.o.1 m.o.2 m.no (m.sl.map Da), .own 3 1 m.n.1 m.n.2 m.no (aw g.next), i_ m.bt g.tv, i_ m.br g.rv, gU m.S m.sl g.ops]
def GI (S : Nat → Prop) (bg : Nat) (g : G) : Sx.Item := comp (fun L => ∃ m, L = gL bg g m) S
section
variable {w0 w : World} {L0 L : List Sx.Item}
theorem ba (H : Hs w0 L0 w L) (i : Nat) {S : Nat → Prop} {bg : Nat} {g : G} (hi : bp [i] L = some [GI S bg g]) : ∃ m, Hs w0 L0 w (gL bg g m ++ rest [i] L) := by
 obtain ⟨L', ⟨m, rfl⟩, h⟩ := H.gu i hi;exact ⟨m, h⟩
theorem aq (H : Hs w0 L0 w L) (I : List Nat) {bg : Nat} {g : G} (m : Gm) (hi : bp I L = some (gL bg g m)) : ∃ S, Hs w0 L0 w (GI S bg g :: rest I L) :=
 ⟨_, H.cls I hi ⟨m, rfl⟩ rfl⟩
theorem bM {R : List Sx.Item} {bg : Nat} {g : G} {m : Gm} (h : Hs w0 L0 w (gL bg g m ++ R)) : g.kind.length = m.nk ∧ g.a.length = m.nk ∧ g.b.length = m.nk ∧ g.row.length = m.nk ∧ g.link.length = m.nk ∧ g.ops.length = m.no ∧ g.next.length = m.no ∧ m.sl.length = m.no := by
 have q := (h.at 1 rfl).1;have a := (h.at 2 rfl).1;have b := (h.at 3 rfl).1;have c := (h.at 4 rfl).1;have d := (h.at 5 rfl).1;have e := (h.at 7 rfl).1;have f := (h.at 6 rfl).1;have r := (h.at 10 rfl).1.1;simp only [lG, LU, Nat.mul_one, List.length_map] at a b c d e f q;exact ⟨q, a, b, c, d, by omega, e, f⟩
theorem VU (sl : List Slot) (A : Option Addr) (n c : Nat) : sl.map Da ++ [.slice A n c] = (sl ++ [(A, n, c)]).map Da := by simp [Da]
theorem VV (sl : List Slot) (i : Nat) (A : Option Addr) (n c : Nat) : (sl.map Da).set (i * 1) (.slice A n c) = (sl.set i (A, n, c)).map Da := by simp [Da, List.map_set]
theorem T9 {P : Program} {t i : Nat} {sl : List Slot} {s : Slot} (h : sl[i]? = some s) (ht : (match P.underlying t with | some (.slice _) => true | _ => false) = true := by kernel_rfl) : eP P t (sl.map Da) (i * 1) (.slice s.1 s.2.1 s.2.2) := by
 unfold eP;split at ht
 · rename_i e hu; rw [hu]; simp [h, Da]
 · cases ht
theorem jO.drop {w : World} {S : Nat → Prop} {A C : Option Addr} {l : List Nm} {k : Nat} (h : jO w S A l) (hC : ∀ a, C = some a → ∃ a0, A = some a0 ∧ (k < l.length → a = a0.add (k * 1))) (hn : C = none → A = none) : jO w S C (l.drop k) := fun i s hs => by
 rw [List.getElem?_drop] at hs;have hk : k < l.length := by have := (List.getElem?_eq_some_iff.1 hs).1; omega
 obtain ⟨a0, ha, hS, hc⟩ := h (k + i) s hs;cases C with
 | none => rw [hn rfl] at ha; cases ha
 | some a =>
   obtain ⟨a1, h1, h2⟩ := hC a rfl;rw [ha] at h1; cases h1;have := h2 hk;subst this;refine ⟨_, rfl, by rw [gh]; exact hS, ?_⟩;rw [add_add, ← Nat.add_mul];exact hc
theorem jO.cell {w : World} {S : Nat → Prop} {A : Option Addr} {l : List Nm} (h : jO w S A l) {a : Addr} (ha : A = some a) : ∀ j u, (strs l)[j]? = some u → w.cell? (a.add j) = some u := by
 intro j u hu;rw [strs, List.getElem?_map] at hu;cases hs : l[j]? with
 | none => simp [hs] at hu
 | some s =>
   rw [hs, Option.map_some] at hu;cases hu;obtain ⟨a', Lv, _, hc⟩ := h j s hs;rw [ha] at Lv; cases Lv;have := (World.cells?_some hc).2.2 0 (by decide);rw [show (a.add (j * 1)).add 0 = a.add j by rw [Nat.mul_one]; simp [Addr.add]] at this;simpa using this
theorem LY (H : Hs w0 L0 w L) (I : List Nat) {S S2 : Nat → Prop} {sl : List Slot} {ops : List (List Nm)} {A : Option Addr} {l : List Nm} {c n : Nat} (hp : bp I L = some [gU S sl ops, bf S2 A l]) (hn : n = l.length) :
   ∃ S', Hs w0 L0 w (gU S' (sl ++ [(A, n, c)]) (ops ++ [l]) :: rest I L) := by
 have h1 := H.pick I hp;have a := (h1.at 0 rfl).1;have b := (h1.at 1 rfl).1;have k := H.cls I hp (shape := fun L => L = [gU S sl ops, bf S2 A l]) rfl rfl;have e : ∀ q, E8 [gU S sl ops, bf S2 A l] q ↔ S q ∨ S2 q := fun q => by simp [E8, gU, bf, Sx.Item.fp]
 refine ⟨fun q => S q ∨ S2 q, k.as 0 (gU (fun q => S q ∨ S2 q) (sl ++ [(A, n, c)]) (ops ++ [l])) rfl rfl ⟨⟨by simp [a.1], fun r s l' hs hl => ?_⟩, fun q hq => ?_, sK _ _ _⟩ (fun q hq => (e q).2 hq)⟩
 · rcases Nat.lt_or_ge r sl.length with q | q
   · rw [List.getElem?_append_left q] at hs;rw [List.getElem?_append_left (by rw [← a.1]; exact q)] at hl;exact ⟨(a.2 r s l' hs hl).1, (a.2 r s l' hs hl).2.mono (fun _ h => .inl h)⟩
   · rw [List.getElem?_append_right q] at hs;rw [List.getElem?_append_right (by rw [← a.1]; exact q)] at hl;rw [← a.1] at hl;cases hr : r - sl.length with
     | zero => rw [hr] at hs hl; simp at hs hl; subst hs hl; exact ⟨hn, b.mono (fun _ h => .inr h)⟩
     | succ j => rw [hr] at hs; simp at hs
 · rcases hq with q' | q'
   · exact (h1.at 0 rfl).2.1 q q'
   · exact (h1.at 1 rfl).2.1 q q'
theorem LZ (H : Hs w0 L0 w L) (I : List Nat) (v : Nat) {S S2 : Nat → Prop} {sl : List Slot} {ops : List (List Nm)} {A : Option Addr} {l : List Nm} {c n : Nat} (hp : bp I L = some [gU S sl ops, bf S2 A l]) (hn : n = l.length) :
   ∃ S', Hs w0 L0 w (gU S' (sl.set v (A, n, c)) (ops.set v l) :: rest I L) := by
 have h1 := H.pick I hp;have a := (h1.at 0 rfl).1;have b := (h1.at 1 rfl).1;have k := H.cls I hp (shape := fun L => L = [gU S sl ops, bf S2 A l]) rfl rfl;have e : ∀ q, E8 [gU S sl ops, bf S2 A l] q ↔ S q ∨ S2 q := fun q => by simp [E8, gU, bf, Sx.Item.fp]
 refine ⟨fun q => S q ∨ S2 q, k.as 0 (gU (fun q => S q ∨ S2 q) (sl.set v (A, n, c)) (ops.set v l)) rfl rfl ⟨⟨by simp [a.1], fun r s l' hs hl => ?_⟩, fun q hq => ?_, sK _ _ _⟩ (fun q hq => (e q).2 hq)⟩
 · rw [List.getElem?_set] at hs hl;by_cases q : v = r
   · subst q;rw [if_pos rfl] at hs hl;split at hs <;> try contradiction
     split at hl <;> try contradiction
     cases hs; cases hl;exact ⟨hn, b.mono (fun _ h => .inr h)⟩
   · rw [if_neg q] at hs hl;exact ⟨(a.2 r s l' hs hl).1, (a.2 r s l' hs hl).2.mono (fun _ h => .inl h)⟩
 · rcases hq with q' | q'
   · exact (h1.at 0 rfl).2.1 q q'
   · exact (h1.at 1 rfl).2.1 q q'
end
theorem bB {P : Program} {t i : Nat} {l : List (Option Nat)} {o : Option Nat} (h : l[i]? = some o) (ht : P.underlying t = some (.int .i64) := by kernel_rfl) : eP P t (aw l) (i * 1) (.int .i64 (eI o)) := by
 unfold eP; rw [ht]; simp [aw, h]
theorem Hj {w0 w : World} {L0 L : List Sx.Item} (H : Hs w0 L0 w L) (j : Nat) {S : Nat → Prop} {sl : List Slot} {ops : List (List Nm)} {r : Nat} {s : Slot} {l : List Nm} (hi : L[j]? = some (gU S sl ops)) (hs : sl[r]? = some s) (hl : ops[r]? = some l) : s.2.1 = l.length ∧ jO w S s.1 l := (H.at j hi).1.2 r s l hs hl
theorem Rf {o : Option Nat} (h : (eI o == (-1 : Int)) = true) : o = none := by
 cases o with
 | none => rfl
 | some n => have := eq_of_beq h; simp only [eI] at this; omega
theorem Rg {o : Option Nat} (h : (eI o == (0 : Int)) = true) : o = some 0 := by
 cases o with
 | none => have := eq_of_beq h; simp [eI] at this
 | some n => have := eq_of_beq h; simp only [eI] at this; congr 1; omega
theorem VW {o : Option Nat} (h : (eI o == (-1 : Int)) = false) (h0 : (eI o == (0 : Int)) = false) : ∃ q, o = some (q + 1) := by
 cases o with
 | none => simp [eI] at h
 | some n =>
   cases n with
   | zero => simp [eI] at h0
   | succ q => exact ⟨q, rfl⟩
theorem kG {z r v : Nat} {g : G} {acc l : List Nm} (h : whole (z + 1) g r acc = some (l, v)) :
   ∃ lr nx, g.ops[r]? = some lr ∧ acc.length + lr.length < 1000000000 ∧ g.next[r]? = some nx ∧ (nx = none → fX acc lr = l ∧ r = v) ∧ (nx = some 0 → fX acc lr = l ∧ 0 = v) ∧ ∀ q, nx = some (q + 1) → whole z g (q + 1) (fX acc lr) = some (l, v) := by
 unfold whole at h;split at h
 · rename_i lr hl;split at h
   · rename_i hb;split at h <;> rename_i hn
     · simp at h; exact ⟨lr, _, hl, hb, hn, fun _ => h, by simp, by simp⟩
     · simp at h; exact ⟨lr, _, hl, hb, hn, by simp, fun _ => h, by simp⟩
     · exact ⟨lr, _, hl, hb, hn, by simp, by simp, fun q e => by cases e; exact h⟩
     · cases h
   · cases h
 · cases h
theorem Db {k r : Nat} {g : G} {acc : List Nm} {o : List Nm × Nat} (h : whole k g r acc = some o) : r < g.ops.length := by
 cases k with
 | zero => simp [whole] at h
 | succ z =>
   obtain ⟨l, v⟩ := o;obtain ⟨lr, _, hl, _⟩ := kG h;exact (List.getElem?_eq_some_iff.1 hl).1
theorem Dc {l : List Nm} {i : Nat} (a : List Nm) (h : i < l.length) : fX a (l.drop i) = fX (iY a (gn l i)) (l.drop (i + 1)) := by
 rw [List.drop_eq_getElem_cons h];have : gn l i = l[i] := by simp [gn, h]
 rw [this]; rfl
theorem vR (a l : List Nm) : (fX a l).length = a.length + l.length := by
 induction l generalizing a with
 | nil => rfl
 | cons s l ih => rw [fX, ih, nS, List.length_cons]; omega
end Go.aS
namespace Go.Sx
open Go.RowKit Go.Gx
theorem afO {b : Bool} {p : Prop} (h : b = true) (h0 : b = false) : p := by rw [h0] at h; cases h
theorem spN {w : World} {LJ : List Item} (h : LJ = []) : Sp w LJ := by subst h; exact ⟨fun _ h => (by cases h), .nil⟩
structure Tz where
 o : Oper
 k : Value → St
 l : List (Nat × Value)
instance : Inhabited Tz := ⟨⟨default, fun _ => default, []⟩⟩
def gC (b : Nat → Value) (n i : Nat) (C : List Nat) (x : St) : Option (Nat × Nat × Tz) :=
 match x.f with
 | .any ops LJ D fuel aj => match fuel with
   | fuel + 1 => match ops[i]? with
     | some o => match Region.noSelect ops && (Region.free .any ops aj i && ((Region.ready .any ops aj).contains i && !D.contains i)) && (Region.wanted o (yl ops b n x.l) && (waits .any ops C i && !C.contains i && D.all C.contains && C.all (fun c => !aj.getD c true))) with
       | true => some (0, 0, ⟨o, fun v => ⟨.any ops LJ D fuel (aj.setIfInBounds i true), x.k, gE o v x.l⟩, x.l⟩)
       | false => none
     | none => none
   | 0 => none
 | _ => none
section
variable [Rd] {P : Program} {B : Exit → Act → World → Prop} [Pn B] {b : Nat → Value} {n : Nat} {d : List Deferred} {w0 w : World} {x : St} {L0 L : List Item}
theorem tv (i : Nat) (C : List Nat) (v : Value) (hS : mW x = true → Sp w (jy x))
   (hr : ∀ w', Sp w' (jy x) → (execOp (ev b n (vX (via P b n 0 w x (gC b n i C))).l) (vX (via P b n 0 w x (gC b n i C))).o).run P w' = .ok (.value v) w')
   (k : Goal P B b n d ((vX (via P b n 0 w x (gC b n i C))).k v) w)
   (h : vA (via P b n 0 w x (gC b n i C)) = vB w (via P b n 0 w x (gC b n i C))) : Goal P B b n d x w := by
 obtain ⟨a, y, Jn, hf⟩ := fJ h;simp only [run, Option.some.injEq, Prod.mk.injEq, true_and] at Jn;subst Jn;generalize vX (via P b n 0 w x (gC b n i C)) = z at *;obtain ⟨f, kk, l⟩ := x;unfold gC at hf;split at hf <;> try contradiction
 rename_i ops LJ D fuel aj sj;split at hf <;> try contradiction
 rename_i fuel;split at hf <;> try contradiction
 rename_i o ho;split at hf <;> try contradiction
 rename_i hc;simp only at sj;subst sj;simp only [Option.some.injEq, Prod.mk.injEq] at hf;obtain ⟨_, _, rfl⟩ := hf;rw [Bool.and_eq_true, Bool.and_eq_true (Region.wanted _ _)] at hc;obtain ⟨h0, hw, hC⟩ := hc;simp only [Bool.and_eq_true (Region.noSelect _), Bool.and_eq_true (Region.free _ _ _ _), Bool.and_eq_true (Array.contains _ _), Bool.and_eq_true (List.contains _ _), Bool.not_eq_true'] at h0;obtain ⟨h1, h2, h3, h4⟩ := h0;have hC' := hC;simp only [Bool.and_eq_true] at hC';have tD : clear D aj = true := vD hC'.1.2 (fun c hc => by simpa using List.all_eq_true.1 hC'.2 c hc);exact vF i C v v rfl ho h1 h2 h3 h4 hC (fun _ _ _ => re) (hS tD) hw hr k
def iaO (P : Program) (b : Nat → Value) (n : Nat) (z : Tz) : Option (List Value × List Nat) := match z.o.op with
 | .indexAddr t s ix => match P.underlying t with
   | some (.slice e) => match P.info? e with
     | some inf => some ([ev b n z.l s, ev b n z.l ix], [inf.size])
     | none => none
   | _ => none
 | _ => none
theorem tvi (i : Nat) (C : List Nat) (a : Addr) (j sz len cap : Nat) {A : Option Addr} (hA : A = some a) (hj : j < len) (hS : mW x = true → Sp w (jy x))
   (k : Goal P B b n d ((vX (via P b n 0 w x (gC b n i C))).k (.pointer (some (a.add (j * sz))))) w)
   (h : vA (via P b n 0 w x (gC b n i C)) = vB w (via P b n 0 w x (gC b n i C)) := by kernel_rfl)
   (h2 : iaO P b n (vX (via P b n 0 w x (gC b n i C))) = some ([.slice A len cap, .int .i64 (j : Int)], [sz]) := by kernel_rfl) : Goal P B b n d x w := by
 refine tv i C _ hS (fun w' _ => ?_) k h;generalize vX (via P b n 0 w x (gC b n i C)) = z at *;unfold iaO at h2;split at h2 <;> try contradiction
 rename_i t s ix hop;split at h2 <;> try contradiction
 rename_i e hu;split at h2 <;> try contradiction
 rename_i inf eE;simp only [Option.some.injEq, Prod.mk.injEq, List.cons.injEq, and_true] at h2;obtain ⟨⟨h3, h4⟩, rfl⟩ := h2;exact nJ hop e inf.size hu (by rw [eE]; rfl) a hA len cap h3 .i64 j h4 hj
theorem tvg (i : Nat) (C : List Nat) (g j sz len cap : Nat) (hj : j < len) (hS : mW x = true → Sp w (jy x))
   (k : Goal P B b n d ((vX (via P b n 0 w x (gC b n i C))).k (.pointer (some ⟨g, j * sz, none⟩))) w)
   (h : vA (via P b n 0 w x (gC b n i C)) = vB w (via P b n 0 w x (gC b n i C)) := by kernel_rfl)
   (h2 : iaO P b n (vX (via P b n 0 w x (gC b n i C))) = some ([.slice (some ⟨g, 0, none⟩) len cap, .int .i64 (j : Int)], [sz]) := by kernel_rfl) : Goal P B b n d x w := by
 refine tvi i C ⟨g, 0, none⟩ j sz len cap rfl hj hS ?_ h h2;have e : (⟨g, 0, none⟩ : Addr).add (j * sz) = ⟨g, j * sz, none⟩ := by unfold Addr.add; split <;> simp_all
 rw [e];exact k
def ldO (b : Nat → Value) (n : Nat) (z : Tz) : Option (List Value × List Nat) := match z.o.op with
 | .load t s => some ([ev b n z.l s], [t])
 | _ => none
theorem tvl (i : Nat) (C : List Nat) (jj e sz t g cap c off : Nat) (xs : List Value) (v : Value) (hv : eP P t xs off v) (hS : mW x = true → Sp w (jy x))
   (k : Goal P B b n d ((vX (via P b n 0 w x (gC b n i C))).k v) w)
   (h : vA (via P b n 0 w x (gC b n i C)) = vB w (via P b n 0 w x (gC b n i C)) := by kernel_rfl)
   (h2 : ldO b n (vX (via P b n 0 w x (gC b n i C))) = some ([.pointer (some ⟨g, off, none⟩)], [t]) := by kernel_rfl) (hi : (jy x)[jj]? = some (.own e sz (some ⟨g, 0, none⟩) cap c xs) := by kernel_rfl) : Goal P B b n d x w := by
 refine tv i C _ hS (fun w' hs => ?_) k h;generalize vX (via P b n 0 w x (gC b n i C)) = z at *;unfold ldO at h2;split at h2 <;> try contradiction
 rename_i t' s hop;simp only [Option.some.injEq, Prod.mk.injEq, List.cons.injEq, and_true] at h2;obtain ⟨h3, rfl⟩ := h2;obtain ⟨cur, hg, ht, _⟩ := C5 (hs.all _ (List.mem_of_getElem? hi));exact Gx.run_load hop off v h3 hg (Hf hv ht)
theorem tvo (i : Nat) (C : List Nat) {a : Addr} {t c : Nat} (cs : List Value) (v : Value) (hc : ∀ w', Sp w' (jy x) → w'.cells? 0 a c = some cs) (hS : mW x = true → Sp w (jy x))
   (k : Goal P B b n d ((vX (via P b n 0 w x (gC b n i C))).k v) w)
   (h : vA (via P b n 0 w x (gC b n i C)) = vB w (via P b n 0 w x (gC b n i C)) := by kernel_rfl)
   (h2 : ldO b n (vX (via P b n 0 w x (gC b n i C))) = some ([.pointer (some a)], [t]) := by kernel_rfl)
   (hm : Nat.beq cs.length c = true := by kernel_rfl) (hv : CT P t cs = some v := by kernel_rfl) : Goal P B b n d x w := by
 refine tv i C _ hS (fun w' hs => ?_) k h;generalize vX (via P b n 0 w x (gC b n i C)) = z at *;unfold ldO at h2;split at h2 <;> try contradiction
 rename_i t' s hop;simp only [Option.some.injEq, Prod.mk.injEq, List.cons.injEq, and_true] at h2;obtain ⟨h3, rfl⟩ := h2;exact zJ hop cs v h3 c (hc w' hs) hm hv
theorem L2 (i : Nat) (C : List Nat) (u v : Value) (e : u = v) (hS : mW x = true → Sp w (jy x))
   (k : Goal P B b n d ((vX (via P b n 0 w x (gC b n i C))).k v) w)
   (h : vA (via P b n 0 w x (gC b n i C)) = vB w (via P b n 0 w x (gC b n i C)) := by kernel_rfl)
   (h2 : ∀ w', (execOp (ev b n (vX (via P b n 0 w x (gC b n i C))).l) (vX (via P b n 0 w x (gC b n i C))).o).run P w' = .ok (.value u) w' := by intro w'; kernel_rfl) : Goal P B b n d x w := by
 subst e;exact tv i C _ hS (fun w' _ => h2 w') k h
end
section
variable [Rd] {P : Program} {B : Exit → Act → World → Prop} {b : Nat → Value} {n : Nat} {d : List Deferred} {w0 w : World} {x : St} {L0 L : List Item}
def T_ (P : Program) (b : Nat → Value) (n : Nat) (x : St) : Option Ask :=
 match hd b n x with
 | some q => match q.2.2.op with
   | .makeSlice t l c => match P.underlying t with
     | some (.slice e) => match P.info? e with
       | some inf => match inf.zero with
         | some z => some ⟨[ev b n x.l l, ev b n x.l c, z], [e, inf.size, inf.bytes], x, q⟩
         | none => none
       | none => none
     | _ => none
   | _ => none
 | none => none
theorem mk (m e LK len : Nat) (z : Value) (H : Hs w0 L0 w L) (hb : LK * len ≤ 281474976710656) (hn : len ≤ 9223372036854775807)
   (k : ∀ g w', Hs w0 L0 w' (L ++ [.own e 1 (some ⟨g, 0, none⟩) len len (List.replicate len z)]) → Goal P B b n d (nx (vX (via P b n m w x (ask (T_ P b n)))).y (vX (via P b n m w x (ask (T_ P b n)))).q (.slice (some ⟨g, 0, none⟩) len len)) w')
   (h : vA (via P b n m w x (ask (T_ P b n))) = vB w (via P b n m w x (ask (T_ P b n))) := by kernel_rfl)
   (h2 : ((vX (via P b n m w x (ask (T_ P b n)))).u, (vX (via P b n m w x (ask (T_ P b n)))).t) = ([.int .i64 (len : Int), .int .i64 (len : Int), z], [e, 1, LK]) := by kernel_rfl) (hz : z.cells = #[z] := by kernel_rfl) : Goal P B b n d x w := by
 obtain ⟨y, hr, hf⟩ := cG h;refine az hr ?_;generalize vX (via P b n m w x (ask (T_ P b n))) = zz at *;unfold T_ at hf;split at hf <;> try contradiction
 rename_i q hq;split at hf <;> try contradiction
 rename_i t l c hop;split at hf <;> try contradiction
 rename_i e1 hu;split at hf <;> try contradiction
 rename_i inf eE;split at hf <;> try contradiction
 rename_i zv LS;simp only [Option.some.injEq] at hf;subst hf;simp only [Prod.mk.injEq, List.cons.injEq, and_true] at h2;obtain ⟨⟨h3, h4, rfl⟩, rfl, zH, rfl⟩ := h2;obtain ⟨w', hr, jK, hg'⟩ := run_make_full (P := P) w 0 t e1 inf zv 1 hu eE LS zH .i64 .i64 len hb (by unfold maxLen; omega) (Nat.zero_le _);rw [hz, Nat.mul_one, toList_madeCells_one] at jK;refine cF hq ?_ (k w.heap.size w' (H.add (it := .own e1 1 (some ⟨w.heap.size, 0, none⟩) len len (List.replicate len zv)) hg' jK (fun c hc => ?_)))
 · unfold execOp;simp [hop, h3, h4, Sem.run_bind, hr]
 · have : some w.heap.size = some c := hc;exact Nat.le_of_eq (Option.some.inj this)
end
end Go.Sx
namespace Go.Sx
section
variable [Rd] {P : Program} {B : Exit → Act → World → Prop} {b : Nat → Value} {n : Nat} {d : List Deferred} {w : World} {x : St}
theorem nmx (k : let z := x; Goal P B b n d z w) : Goal P B b n d x w := k
end
end Go.Sx
namespace Go.Sx
open Go.RowKit Go.Gx
section
variable {w0 w : World} {L0 L : List Item}
theorem Hs.tI (H : Hs w0 L0 w L) (i sz n : Nat) {k e : Nat} {cs : Array Value} (hi : L[i]? = some (.al k (.cells cs e))) (hs : cs.size = n * sz) (hn : n ≤ 9223372036854775807) : Hs w0 L0 w (L.set i (.own e sz (some ⟨k, 0, none⟩) n n cs.toList)) :=
 H.as i _ hi rfl ⟨by simpa using hs, .inr ⟨k, n, cs, rfl, Nat.zero_le _, H.at i hi, Nat.le_refl _, hn, hs, List.take_of_length_le (by rw [Array.length_toList, hs]; exact Nat.le_refl _)⟩⟩ (fun c hc => by
   have : some k = some c := hc
   exact (Option.some.inj this).symm)
end
end Go.Sx
namespace Go.Sx
open Go.RowKit Go.Gx Go.MapKept
section
variable [Rd] {P : Program} {B : Exit → Act → World → Prop} [Pn B] {b : Nat → Value} {n : Nat} {d : List Deferred} {w0 w : World} {x : St} {L0 L : List Item} {α : Type} [DecidableEq α]
omit [Rd] in
theorem VX {o : Oper} {t kt et : TypeId} {mo ix : Operand} {l : List (Nat × Value)} (hop : o.op = .lookup t mo ix true) {kd : TypeDesc} {enc : α → Value} {bt : Nat} {mp : List (α × Value)} {a : α} {z : Value}
   (h3 : ev b n l mo = .map (some bt)) (h4 : ev b n l ix = enc a) (hh : (rf kd enc bt mp).holds w) (hk : ∀ a, IsKey kd (enc a)) (sI : ∀ a b, enc a = enc b → a = b)
   (ht : ki P t = some (kt, et)) (lE : P.underlying kt = some kd) (hz : (P.info? et).bind (·.zero) = some z) :
   (execOp (ev b n l) o).run P w = .ok (.value (.tuple #[(Sx.look a mp).getD z, .bool (Sx.look a mp).isSome])) w := by
 obtain ⟨⟨es, ck, hb, cw, T6, hm⟩, _, _⟩ := hh;have C7 := mf ht;have rh := iB hk sI a es.toList mp 0 hm;rw [look_eq] at rh;have LS : (zeroValue et).run P w = .ok z w := by
   cases eE : P.info? et with
   | none => simp [eE] at hz
   | some inf => rw [eE] at hz; simp only [Option.bind_some] at hz; simp [zeroValue, typeInfo, eE, hz]
 unfold execOp;have Fe := MapKept.run_getObj_map (P := P) (w := w) hb;have Jm : (Instr.checkKey es.isEmpty 10000 kt (enc a)).run P w = .ok () w := run_checkKey lE (hk a) _ 9999;cases hp : pos a mp with
 | none =>
   have hl := zO.2 hp;rw [hp] at rh;have uW := run_findKey (P := P) (w := w) lE rh;simp [hop, h3, h4, Instr.lookup, run_underlying C7, Sem.run_bind, Fe, Jm, uW, LS, hl, Result.andThen]
 | some j =>
   obtain ⟨v, hv⟩ := nR hp;have hl : Sx.look a mp = some v := by unfold Sx.look; rw [hp]; simp [hv]
   rw [hp] at rh;simp only [hl, Option.map_some] at rh;have uW := run_findKey (P := P) (w := w) lE rh;simp [hop, h3, h4, Instr.lookup, run_underlying C7, Sem.run_bind, Fe, Jm, uW, hl, Result.andThen]
def Z6 (b : Nat → Value) (n : Nat) (z : Tz) : Option (List Value × List Nat) := match z.o.op with
 | .lookup t mp ix ok => match ok with
   | true => some ([ev b n z.l mp, ev b n z.l ix], [t])
   | false => none
 | _ => none
theorem tvk (i : Nat) (C : List Nat) (jj : Nat) {kd : TypeDesc} {enc : α → Value} {bt t kt et : Nat} {mp : List (α × Value)} (a : α) (z v : Value) (hk : ∀ a, IsKey kd (enc a)) (sI : ∀ a b, enc a = enc b → a = b)
   (hv : .tuple #[(Sx.look a mp).getD z, .bool (Sx.look a mp).isSome] = v) (hS : mW x = true → Sp w (jy x))
   (k : Goal P B b n d ((vX (via P b n 0 w x (gC b n i C))).k v) w) (hi : (jy x)[jj]? = some (rf kd enc bt mp))
   (h : vA (via P b n 0 w x (gC b n i C)) = vB w (via P b n 0 w x (gC b n i C)))
   (h2 : Z6 b n (vX (via P b n 0 w x (gC b n i C))) = some ([.map (some bt), enc a], [t]))
   (ht : ki P t = some (kt, et)) (lE : P.underlying kt = some kd) (hz : (P.info? et).bind (·.zero) = some z) : Goal P B b n d x w := by
 refine tv i C _ hS (fun w' hs => ?_) k h;generalize vX (via P b n 0 w x (gC b n i C)) = zz at *;unfold Z6 at h2;split at h2 <;> try contradiction
 rename_i t' mo ix ok hop;split at h2 <;> try contradiction
 simp only [Option.some.injEq, Prod.mk.injEq, List.cons.injEq, and_true] at h2;obtain ⟨⟨h3, h4⟩, rfl⟩ := h2;subst hv;exact VX hop h3 h4 (hs.all _ (List.mem_of_getElem? hi)) hk sI ht lE hz
end
end Go.Sx
namespace Go.Sx
open Go.RowKit Go.Gx
section
variable {w0 w : World} {L0 L : List Item}
theorem Hs.ro (H : Hs w0 L0 w L) (i : Nat) {S : Nat → Prop} {A B : World → Prop} (hi : L[i]? = some (.ro S A)) (hB : B w) (hl : Loc S B) : Hs w0 L0 w (L ++ [.ro S B]) := by
 have hm : (Item.ro S A) ∈ L := List.mem_of_getElem? hi;have hA := H.sp.all _ hm;refine H.step (Kp.refl (fun _ => False) w) (fun _ q => q.elim) ⟨fun j hj => ?_, ?_⟩ ?_ ?_
 · rcases List.mem_append.1 hj with q | q
   · exact H.sp.all j q
   · rw [List.mem_singleton.1 q]; exact ⟨hB, hA.2.1, hl⟩
 · refine List.pairwise_append.2 ⟨H.sp.yO, List.pairwise_singleton _ _, fun x hx y hy => ?_⟩;rw [List.mem_singleton.1 hy];obtain ⟨j, hj⟩ := List.mem_iff_getElem?.1 hx;obtain ⟨oN, ei⟩ := List.getElem?_eq_some_iff.1 hi;obtain ⟨TT, ej⟩ := List.getElem?_eq_some_iff.1 hj;have pw := List.pairwise_iff_getElem.1 H.sp.yO;intro hw c hc T1;rcases Nat.lt_trichotomy j i with r | r | r
   · have := pw j i TT oN r; rw [ei, ej] at this; exact this hw c hc T1
   · subst r; rw [ei] at ej; subst ej; cases hw
   · have := pw i j oN TT r; rw [ei, ej] at this; exact this (by rw [Bool.or_comm]; exact hw) c T1 hc
 · intro x hx c hc _;rcases List.mem_append.1 hx with q | q
   · exact ⟨x, q, hc⟩
   · rw [List.mem_singleton.1 q] at hc; exact ⟨_, hm, hc⟩
 · intro x hx Ey c hc _;rcases List.mem_append.1 hx with q | q
   · exact ⟨x, q, Ey, hc⟩
   · rw [List.mem_singleton.1 q] at Ey; cases Ey
end
end Go.Sx
namespace Go.Sx
open Go.RowKit Go.Gx
section
variable {w0 w : World} {L0 L L1 : List Item}
theorem Hs.fz (H : Hs w0 L0 w L) (I : List Nat) (hi : bp I L = some L1) {φ : World → Prop} (hφ : Sp w L1 → φ w) (hl : Loc (E8 L1) φ) : Hs w0 L0 w (.ro (E8 L1) φ :: rest I L) := by
 have k := H.perm (gg hi);have pw := List.pairwise_append.1 k.sp.yO;have s1 : Sp w L1 := ⟨fun it hi => k.sp.all it (List.mem_append_left _ hi), pw.1⟩;refine ⟨k.kp, ⟨fun it hi => ?_, List.pairwise_cons.2 ⟨fun y hy => ?_, pw.2.1⟩⟩, fun it hi c hc hl => ?_, fun it hi hww c hc hl => ?_⟩
 · rcases List.mem_cons.1 hi with rfl | q
   · exact ⟨hφ s1, fun c ⟨it, hi, hc⟩ => Item.lt (s1.all it hi) hc, hl⟩
   · exact k.sp.all it (List.mem_append_right _ q)
 · rintro hw c ⟨x, hx, hc⟩ Z3;have : y.wr = true := by simpa [Item.wr] using hw
   exact pw.2.2 x hx y hy (by rw [this, Bool.or_true]) c hc Z3
 · rcases List.mem_cons.1 hi with rfl | q
   · obtain ⟨x, hx, hc⟩ := hc; exact k.Cs x (List.mem_append_left _ hx) c hc hl
   · exact k.Cs it (List.mem_append_right _ q) c hc hl
 · rcases List.mem_cons.1 hi with rfl | q
   · cases hww
   · exact k.Hd it (List.mem_append_right _ q) hww c hc hl
end
end Go.Sx
namespace Go.aS
open Go.RowKit Go.Sx
abbrev Us := List (Nm × Bool)
def Dd (us : Us) : List Value := us.map fun p => .bool p.2
def AZ (us : Us) (j : Nat) : Bool := ((us[j]?).getD (⟨#[]⟩, true)).2
theorem Ua {P : Program} {t j : Nat} {u : Bool} {us : Us} (h : j < us.length) (hu : AZ us j = u) (ht : (match P.underlying t with | some .bool => true | _ => false) = true := by kernel_rfl) : eP P t (Dd us) (j * 1) (.bool u) := by
 unfold eP;split at ht
 · rename_i e; rw [e]; subst hu; simp [Dd, AZ, h]
 · cases ht
theorem Hk (us : Us) : (Dd us).length = us.length := List.length_map _
theorem Hl (us : Us) (j : Nat) (s : Nm) : (Dd us).set (j * 1) (.bool true) = Dd (us.set j (s, true)) := by simp [Dd, List.map_set]
theorem Hm {us : Us} {b : List Nm} {j : Nat} (hb : us.map (·.1) = b) (h : j < us.length) : us.drop j = (gn b j, AZ us j) :: us.drop (j + 1) := by
 subst hb;rw [List.drop_eq_getElem_cons h];congr 1;simp [gn, AZ, h]
theorem Jo {us : Us} {b : List Nm} {j : Nat} {s : Nm} (hb : us.map (·.1) = b) (h : j < us.length) (hu : AZ us j = false) (he : ((gn b j).toList == s.toList) = true) : dt s (us.drop j) = some 0 := by
 rw [Hm hb h, hu, dt, dx, he]; rfl
theorem Fh {us : Us} {b : List Nm} {j : Nat} {s : Nm} (hb : us.map (·.1) = b) (h : j < us.length) (hu : AZ us j = true ∨ ((gn b j).toList == s.toList) = false) : dt s (us.drop j) = (dt s (us.drop (j + 1))).map (· + 1) := by
 rw [Hm hb h, dt, dx];rcases hu with hu | hu <;> rw [hu] <;> simp
def Fs (s : Nm) (us : Us) (j : Nat) : Option Nat → Prop
 | none => dt s us = (dt s (us.drop j)).map (· + j)
 | some q => dt s us = some q
theorem Fs0 (s : Nm) (us : Us) : Fs s us 0 none := by simp [Fs]
theorem VY {us : Us} {b : List Nm} {j : Nat} {s : Nm} {o : Option Nat} (ho : o = none) (hf : Fs s us j o) (hb : us.map (·.1) = b) (h : j < us.length) (hu : AZ us j = false) (he : ((gn b j).toList == s.toList) = true) : Fs s us (j + 1) (some j) := by
 subst ho;have := Jo hb h hu he;simp only [Fs, this, Option.map_some, Nat.zero_add] at hf;exact hf
theorem Hn {us : Us} {b : List Nm} {j : Nat} {s : Nm} {o : Option Nat} (ho : o = none) (hf : Fs s us j o) (hb : us.map (·.1) = b) (h : j < us.length) (hu : AZ us j = true ∨ ((gn b j).toList == s.toList) = false) : Fs s us (j + 1) o := by
 subst ho;have := Fh hb h hu;simp only [Fs, this, Option.map_map] at hf ⊢;rw [hf];congr 1;funext x;simp only [Function.comp_apply];omega
theorem vS {us : Us} {s : Nm} {q : Nat} (h : dt s us = some q) : q < us.length ∧ ∃ x, (us[q]?).map (·.1) = some x ∧ ee x s = true := by
 induction us generalizing q with
 | nil => simp [dt] at h
 | cons p r ih =>
   obtain ⟨x, u⟩ := p;unfold dt at h;split at h
   · rename_i hc;cases h;simp only [Bool.and_eq_true] at hc;exact ⟨by simp, x, by simp, hc.2⟩
   · cases hr : dt s r with
     | none => simp [hr] at h
     | some q' =>
       simp only [hr, Option.map_some, Option.some.injEq] at h;subst h;obtain ⟨h1, x', h2, h3⟩ := ih hr;exact ⟨by simp; omega, x', by simpa using h2, h3⟩
theorem L3 {a b : Nm} (h : ee a b = true) : a = b := by
 have := eq_of_beq h;exact ByteArray.ext (Array.toList_inj.1 this)
theorem zQ {us : Us} {s : Nm} {q : Nat} {b : List Nm} (h : dt s us = some q) (hb : us.map (·.1) = b) : (us.set q (s, true)).map (·.1) = b := by
 subst hb;obtain ⟨h1, x, h2, h3⟩ := vS h;have := L3 h3;subst this;rw [List.map_set];apply List.ext_getElem?;intro i;rw [List.getElem?_set];split
 · rename_i e; subst e;rw [List.length_map, if_pos h1, List.getElem?_map, h2]
 · rfl
theorem VZ {us : Us} {s : Nm} {j : Nat} {o : Option Nat} (hf : Fs s us j o) (h : us.length ≤ j) : dt s us = o := by
 cases o with
 | none => simpa [Fs, List.drop_of_length_le h, dt] using hf
 | some q => exact hf
theorem Ho {us : Us} {s : Nm} {j : Nat} {o : Option Nat} (hf : Fs s us j o) (h : us.length ≤ j ∨ o ≠ none) : dt s us = o := by
 rcases h with h | h
 · exact VZ hf h
 · cases o with
   | none => exact absurd rfl h
   | some q => exact hf
theorem zR {a : List Nm} {i : Nat} (us : Us) (h : i < a.length) : pD (a.drop i) us = match dt (gn a i) us with
   | none => gn a i :: pD (a.drop (i + 1)) us
   | some j => pD (a.drop (i + 1)) (us.set j (gn a i, true)) := by
 rw [List.drop_eq_getElem_cons h];have : gn a i = a[i] := by simp [gn, h]
 first | (rw [this, pD]; done) | (rw [this, pD]; cases dt a[i] us <;> rfl)
theorem Hq {o : Option Nat} (h : decide (eI o < 0) = true) : o = none := by
 cases o with
 | none => rfl
 | some n => have := of_decide_eq_true h; simp only [eI] at this; omega
theorem Hr {o : Option Nat} (h : decide (eI o < 0) = false) : ∃ q, o = some q := by
 cases o with
 | none => simp [eI] at h
 | some n => exact ⟨n, rfl⟩
theorem jO.one {w : World} {S : Nat → Prop} {A : Option Addr} {l : List Nm} {a : Addr} {i : Nat} {s : Nm} (h : jO w S A l) (ha : A = some a) (hl : l[i]? = some s) : w.cells? 0 (a.add (i * 1)) 1 = some [.string s] := by
 obtain ⟨a', Lv, _, hc⟩ := h i s hl;rw [ha] at Lv; cases Lv;exact hc
theorem cQ {w : World} {L : List Sx.Item} {it : Sx.Item} (h : Sp w L) (j : Nat) (hi : L[j]? = some it) : it.holds w := h.all _ (List.mem_of_getElem? hi)
theorem Rh (b : List Nm) : List.replicate b.length (Value.bool false) = Dd (b.map fun x => (x, false)) := by
 simp only [Dd, List.map_map];induction b with
 | nil => rfl
 | cons x b ih => simp [List.replicate_succ, ih]
theorem eG {k r v : Nat} {g : G} {acc l : List Nm} (h : whole k g r acc = some (l, v)) : l.length < 1000000000 := by
 induction k generalizing r acc with
 | zero => simp [whole] at h
 | succ z ih =>
   obtain ⟨lr, nx, _, hb, _, h1, h2, h3⟩ := kG h;rcases nx with _ | q
   · rw [← (h1 rfl).1, vR]; exact hb
   · cases q with
     | zero => rw [← (h2 rfl).1, vR]; exact hb
     | succ q => exact ih (h3 q rfl)
end Go.aS
namespace Go.aS
open Go.RowKit Go.Sx
abbrev L4 (v w : Nat) (d e : List Nm) : Bool := ((v == 0) && !e.isEmpty) || ((w == 0) && !d.isEmpty)
theorem pI {k r s : Nat} {g g' : G} {t : Bool} (h : ik k g r s = some (g', t)) :
   ∃ a v b u, whole k g r [] = some (a, v) ∧ whole k g s [] = some (b, u) ∧
     (v = u → g = g' ∧ ((less a b).isEmpty && (less b a).isEmpty) = t) ∧
     (v ≠ u → L4 v u (less a b) (less b a) = true → g = g' ∧ false = t) ∧
     (v ≠ u → L4 v u (less a b) (less b a) = false → v = 0 → g.eY u (less a b) (some 0) = g' ∧ true = t) ∧
     (v ≠ u → L4 v u (less a b) (less b a) = false → v ≠ 0 → u = 0 → g.eY v (less b a) (some 0) = g' ∧ true = t) ∧
     (v ≠ u → L4 v u (less a b) (less b a) = false → v ≠ 0 → u ≠ 0 → ∃ g1 x, g.gu = some (g1, x) ∧ (g1.eY v (less b a) (some x)).eY u (less a b) (some x) = g' ∧ true = t) := by
 unfold ik at h;split at h <;> try contradiction
 rename_i a v b u h1 h2;refine ⟨a, v, b, u, h1, h2, ?_⟩;simp only at h;split at h
 · rename_i e; cases h; simp [e]
 · rename_i e;split at h
   · rename_i e2; cases h;exact ⟨fun q => absurd q e, fun _ _ => ⟨rfl, rfl⟩, fun _ q => by simp [L4, e2] at q, fun _ q => by simp [L4, e2] at q, fun _ q => by simp [L4, e2] at q⟩
   · rename_i e2;have e2 : L4 v u (less a b) (less b a) = false := by simpa using e2
     split at h
     · rename_i e3; cases h;exact ⟨fun q => absurd q e, fun _ q => by simp [e2] at q, fun _ _ _ => ⟨rfl, rfl⟩, fun _ _ q => absurd e3 q, fun _ _ q => absurd e3 q⟩
     · rename_i e3;split at h
       · rename_i e4; cases h;exact ⟨fun q => absurd q e, fun _ q => by simp [e2] at q, fun _ _ q => absurd q e3, fun _ _ _ _ => ⟨rfl, rfl⟩, fun _ _ _ q => absurd e4 q⟩
       · rename_i e4;split at h <;> try contradiction
         rename_i g1 x h5;cases h;exact ⟨fun q => absurd q e, fun _ q => by simp [e2] at q, fun _ _ q => absurd q e3, fun _ _ _ q => absurd q e4, fun _ _ _ _ => ⟨g1, x, h5, rfl, rfl⟩⟩
theorem Ht {k r v : Nat} {g : G} {acc l : List Nm} (h : whole k g r acc = some (l, v)) : v = 0 ∨ v < g.ops.length := by
 induction k generalizing r acc with
 | zero => simp [whole] at h
 | succ z ih =>
   obtain ⟨lr, nx, ho, hb, _, h1, h2, h3⟩ := kG h;rcases nx with _ | q
   · rw [← (h1 rfl).2]; exact .inr (List.getElem?_eq_some_iff.1 ho).1
   · cases q with
     | zero => exact .inl (h2 rfl).2.symm
     | succ q => exact ih (h3 q rfl)
theorem Z7 (l : List Nm) : ((l.length : Int) == (0 : Int)) = l.isEmpty := by cases l <;> simp <;> omega
theorem Ri (l : List Nm) : decide ((l.length : Int) > (0 : Int)) = !l.isEmpty := by cases l <;> simp <;> omega
theorem L5 (v : Nat) : ((v : Int) == (0 : Int)) = (v == 0) := by cases v <;> simp <;> omega
theorem Rj {g g' : G} {n : Nat} (h : g.gu = some (g', n)) : g'.ops.length = g.ops.length + 1 := by
 unfold G.gu G.putRow at h;split at h
 · simp only [mH, nP, lD, Option.some.injEq, Prod.mk.injEq] at h; obtain ⟨rfl, _⟩ := h; simp
 · cases h
theorem Fi (g : G) (v : Nat) (l : List Nm) (nx : Option Nat) : (g.eY v l nx).ops.length = g.ops.length := by
 simp only [G.eY, mH, nP, lD, List.length_set]
end Go.aS
namespace Go.aS
open Go.RowKit Go.Sx
abbrev ui (g : G) (m n : Nat) : G := ⟨g.kind, g.a, g.b, g.row, g.link.set m (some n), g.ops, g.next, g.tv, g.rv⟩
theorem Fj (g : G) (m n : Nat) : g.ZW m n = ui g m n := by simp only [G.ZW, lD, mH]
def SC (k : Nat) (g : G) (m n km : Nat) (g' : G) (t : Bool) : Prop := (km ≠ 6 → g = g' ∧ true = t) ∧ (km = 6 → ∃ r s, g.row[m]? = some r ∧ g.row[n]? = some s ∧ ik k g r s = some (g', t))
def SB (k : Nat) (g : G) (m n km : Nat) (g' : G) (t : Bool) : Prop := ∃ y, g.b[m]? = some y ∧ (y = none → SC k g m n km g' t) ∧ ∀ p, y = some p → ∃ q t2 g2, g.b[n]? = some (some q) ∧ same k g p q = some (g2, t2) ∧ (t2 = false → g2 = g' ∧ false = t) ∧ (t2 = true → SC k g2 m n km g' t)
def SAa (k : Nat) (g : G) (m n km : Nat) (g' : G) (t : Bool) : Prop := ∃ y, g.a[m]? = some y ∧ (y = none → SB k g m n km g' t) ∧ ∀ p, y = some p → ∃ q t2 g2, g.a[n]? = some (some q) ∧ same k g p q = some (g2, t2) ∧ (t2 = false → g2 = g' ∧ false = t) ∧ (t2 = true → SB k g2 m n km g' t)
theorem vT {k m n : Nat} {g g' : G} {t : Bool} (h : same (k + 1) g m n = some (g', t)) : ∃ m1 n1, find k g m = some m1 ∧ find k g n = some n1 ∧ (m1 = n1 → g = g' ∧ true = t) ∧
   (m1 ≠ n1 → ∃ km kn, g.kind[m1]? = some km ∧ g.kind[n1]? = some kn ∧ (km = 0 → ui g m1 n1 = g' ∧ true = t) ∧ (km ≠ 0 → kn = 0 → ui g n1 m1 = g' ∧ true = t) ∧ (km ≠ 0 → kn ≠ 0 → km ≠ kn → g = g' ∧ false = t) ∧ (km ≠ 0 → kn ≠ 0 → km = kn → SAa k (ui g m1 n1) m1 n1 km g' t)) := by
 unfold same at h;split at h <;> try contradiction
 rename_i m1 n1 hm hn;refine ⟨m1, n1, hm, hn, ?_⟩;split at h
 · rename_i e; cases h; exact ⟨fun _ => ⟨rfl, rfl⟩, fun q => absurd e q⟩
 · rename_i e;refine ⟨fun q => absurd q e, fun _ => ?_⟩;split at h <;> try contradiction
   rename_i km kn Hu Ub;refine ⟨km, kn, Hu, Ub, ?_⟩;split at h
   · rename_i e1; cases h; exact ⟨fun _ => ⟨(Fj _ _ _).symm, rfl⟩, fun q => absurd e1 q, fun q => absurd e1 q, fun q => absurd e1 q⟩
   · rename_i e1;split at h
     · rename_i e2; cases h; exact ⟨fun q => absurd q e1, fun _ _ => ⟨(Fj _ _ _).symm, rfl⟩, fun _ q => absurd e2 q, fun _ q => absurd e2 q⟩
     · rename_i e2;split at h
       · rename_i e3; cases h; exact ⟨fun q => absurd q e1, fun _ q => absurd q e2, fun _ _ _ => ⟨rfl, rfl⟩, fun _ _ q => absurd q e3⟩
       · rename_i e3;refine ⟨fun q => absurd q e1, fun _ q => absurd q e2, fun _ _ q => absurd q e3, fun _ _ _ => ?_⟩;rw [Fj] at h;generalize ui g m1 n1 = g0 at h ⊢;simp only at h;have hC : ∀ g2, (if km = 6 then (match g2.row[m1]?, g2.row[n1]? with | some r, some s => ik k g2 r s | _, _ => none) else some (g2, true)) = some (g', t) → SC k g2 m1 n1 km g' t := by
           intro g2 h;split at h
           · rename_i e6;split at h <;> try contradiction
             rename_i r s hr hs;exact ⟨fun q => absurd e6 q, fun _ => ⟨r, s, hr, hs, h⟩⟩
           · rename_i e6; cases h; exact ⟨fun _ => ⟨rfl, rfl⟩, fun q => absurd q e6⟩
         have hA : ∀ (g0 : G) (x y : Option (Option Nat)) (g1 : G) (t1 : Bool), (match x, y with | some none, _ => some (g0, true) | some (some p), some (some q) => same k g0 p q | _, _ => none) = some (g1, t1) →
             ∃ o, x = some o ∧ (o = none → g0 = g1 ∧ true = t1) ∧ ∀ p, o = some p → ∃ q, y = some (some q) ∧ same k g0 p q = some (g1, t1) := by
           intro g0 x y g1 t1 h
           split at h <;> try contradiction
           · cases h; exact ⟨none, rfl, fun _ => ⟨rfl, rfl⟩, fun p q => by cases q⟩
           · rename_i p q; exact ⟨some p, rfl, fun q => (by cases q), fun p' e => by cases e; exact ⟨q, rfl, h⟩⟩
         have hB : ∀ g1, (match (match g1.b[m1]?, g1.b[n1]? with | some none, _ => some (g1, true) | some (some p), some (some q) => same k g1 p q | _, _ => none) with
             | some (g, false) => some (g, false)
             | some (g, true) => if km = 6 then (match g.row[m1]?, g.row[n1]? with | some r, some s => ik k g r s | _, _ => none) else some (g, true)
             | none => none) = some (g', t) → SB k g1 m1 n1 km g' t := by
           intro g1 h
           split at h <;> try contradiction
           · rename_i g2 hg
             obtain ⟨o, ho, h1, h2⟩ := hA _ _ _ _ _ hg
             refine ⟨o, ho, fun q => by simp at h1; exact absurd q (fun e => by have := h1 e; simp_all), fun p hp => ?_⟩
             obtain ⟨q, hq, hs⟩ := h2 p hp
             cases h
             exact ⟨q, false, _, hq, hs, fun _ => ⟨rfl, rfl⟩, fun e => by cases e⟩
           · rename_i g2 hg
             obtain ⟨o, ho, h1, h2⟩ := hA _ _ _ _ _ hg
             refine ⟨o, ho, fun q => by rw [(h1 q).1]; exact hC _ h, fun p hp => ?_⟩
             obtain ⟨q, hq, hs⟩ := h2 p hp
             exact ⟨q, true, g2, hq, hs, fun e => (by cases e), fun _ => hC _ h⟩
         split at h <;> try contradiction
         · rename_i g2 hg;obtain ⟨o, ho, h1, h2⟩ := hA _ _ _ _ _ hg;refine ⟨o, ho, fun q => by simp at h1; exact absurd q (fun e => by have := h1 e; simp_all), fun p hp => ?_⟩;obtain ⟨q, hq, hs⟩ := h2 p hp;cases h;exact ⟨q, false, _, hq, hs, fun _ => ⟨rfl, rfl⟩, fun e => by cases e⟩
         · rename_i g2 hg;obtain ⟨o, ho, h1, h2⟩ := hA _ _ _ _ _ hg;refine ⟨o, ho, fun q => by rw [(h1 q).1]; exact hB _ h, fun p hp => ?_⟩;obtain ⟨q, hq, hs⟩ := h2 p hp;exact ⟨q, true, g2, hq, hs, fun e => (by cases e), fun _ => hB _ h⟩
theorem L6 {g g' : G} {n : Nat} (h : g.gu = some (g', n)) : g'.kind = g.kind := by
 unfold G.gu G.putRow at h;split at h
 · simp only [mH, nP, lD, Option.some.injEq, Prod.mk.injEq] at h; obtain ⟨rfl, _⟩ := h; rfl
 · cases h
theorem kH (g : G) (v : Nat) (l : List Nm) (nx : Option Nat) : (g.eY v l nx).kind = g.kind := by simp only [G.eY, mH, nP, lD]
theorem A0 {k r s : Nat} {g g' : G} {t : Bool} (h : ik k g r s = some (g', t)) : g'.kind = g.kind := by
 obtain ⟨a, v, b, u, _, _, h1, h2, h3, h4, h5⟩ := pI h;by_cases e1 : v = u
 · rw [(h1 e1).1]
 · cases e2 : L4 v u (less a b) (less b a) with
   | true => rw [(h2 e1 e2).1]
   | false =>
     by_cases e3 : v = 0
     · rw [← (h3 e1 e2 e3).1, kH]
     · by_cases e4 : u = 0
       · rw [← (h4 e1 e2 e3 e4).1, kH]
       · obtain ⟨g1, x, ho, hg, _⟩ := h5 e1 e2 e3 e4;rw [← hg, kH, kH, L6 ho]
theorem Hv {k m n km : Nat} {g g' : G} {t : Bool} (h : SC k g m n km g' t) : g'.kind = g.kind := by
 by_cases e : km = 6
 · obtain ⟨r, s, _, _, h⟩ := h.2 e; exact A0 h
 · rw [(h.1 e).1]
theorem zS {k m n : Nat} {g g' : G} {t : Bool} (h : same k g m n = some (g', t)) : g'.kind = g.kind := by
 induction k generalizing g g' m n t with
 | zero => simp [same] at h
 | succ k ih =>
   obtain ⟨m1, n1, _, _, h0, h1⟩ := vT h;by_cases e : m1 = n1
   · rw [(h0 e).1]
   · obtain ⟨km, kn, _, _, a1, a2, a3, a4⟩ := h1 e;by_cases e1 : km = 0
     · rw [← (a1 e1).1]
     · by_cases e2 : kn = 0
       · rw [← (a2 e1 e2).1]
       · by_cases e3 : km = kn
         · have hb : ∀ g1, SB k g1 m1 n1 km g' t → g'.kind = g1.kind := by
             rintro g1 ⟨y, _, b1, b2⟩;cases y with
             | none => exact Hv (b1 rfl)
             | some p =>
               obtain ⟨q, t2, g2, _, hs, b3, b4⟩ := b2 p rfl;rw [← ih hs];cases t2 with
               | false => rw [(b3 rfl).1]
               | true => exact Hv (b4 rfl)
           obtain ⟨y, _, b1, b2⟩ := a4 e1 e2 e3;cases y with
           | none => exact hb (ui g m1 n1) (b1 rfl)
           | some p =>
             obtain ⟨q, t2, g2, _, hs, b3, b4⟩ := b2 p rfl;have := ih hs;cases t2 with
             | false => rw [← (b3 rfl).1]; exact this
             | true => rw [hb _ (b4 rfl)]; exact this
         · rw [(a3 e1 e2 e3).1]
theorem e_ {o : Option Nat} (h : decide (eI o ≥ 0) = true) : ∃ q, o = some q := by
 cases o with
 | none => simp [eI] at h
 | some n => exact ⟨n, rfl⟩
theorem ff {o : Option Nat} (h : decide (eI o ≥ 0) = false) : o = none := by
 cases o with
 | none => rfl
 | some n => have := of_decide_eq_false h; simp only [eI] at this; omega
theorem ne6 {km : Nat} (h : km ≠ 6) : ((km : Int) != (6 : Int)) = true := by simp; omega
theorem ar {α : Type} {l : List α} {i : Nat} {x : α} (h : l[i]? = some x) : i < l.length := (List.getElem?_eq_some_iff.1 h).1
end Go.aS
namespace Go.aS
open Go.RowKit Go.Sx Go.Gx Go.MapKept
theorem za (a : Int) : IsKey (.int .i64) (kj a) := rfl
theorem A_ (a b : Int) (h : kj a = kj b) : a = b := by simpa [kj] using h
theorem L7 (a : Int) : Instr.sameBits 10000 (kj a) (kj a) = true := by simp [kj, Instr.sameBits]
def lH (s : Seen) : List (Int × Nat) := s.map fun p => ((p.1 : Int), p.2)
abbrev dG (b : Nat) (s : Seen) : Sx.Item := i_ b (lH s)
theorem zT (a : Int) (p : Int × Value) (r : List (Int × Value)) : Sx.look a (p :: r) = if p.1 = a then some p.2 else Sx.look a r := by
 unfold Sx.look;rw [pos];split
 · simp
 · cases pos a r <;> simp
theorem vU (a : Int) (l : List (Int × Nat)) : Sx.look a (EA l) = (c0 a l).map fun v => .int .i64 (v : Int) := by
 induction l with
 | nil => rfl
 | cons p l ih =>
   obtain ⟨m, v⟩ := p;rw [show EA ((m, v) :: l) = (m, Value.int .i64 (v : Int)) :: EA l from rfl, zT, c0];split
   · rfl
   · exact ih
theorem Rk (s : Seen) (n : Nat) : (Sx.look (n : Int) (EA (lH s))).getD (.int .i64 0) = .int .i64 (s.at n : Int) := by
 rw [vU];induction s with
 | nil => rfl
 | cons p s ih =>
   obtain ⟨m, v⟩ := p;rw [show lH ((m, v) :: s) = ((m : Int), v) :: lH s from rfl, c0, Seen.at];by_cases e : m = n
   · subst e; simp
   · rw [if_neg (by omega), if_neg e]; exact ih
theorem vV (a : Int) (v : Value) (p : Int × Value) (r : List (Int × Value)) : AM a v (p :: r) = if p.1 = a then (a, v) :: r else p :: AM a v r := by
 unfold AM;rw [pos];by_cases e : p.1 = a
 · rw [if_pos e, if_pos e]; rfl
 · rw [if_neg e, if_neg e]; cases pos a r <;> rfl
theorem L8 (s : Seen) (n v : Nat) : AM (n : Int) (.int .i64 (v : Int)) (EA (lH s)) = EA (lH (s.put n v)) := by
 induction s with
 | nil => rfl
 | cons p s ih =>
   obtain ⟨m, u⟩ := p;rw [show EA (lH ((m, u) :: s)) = ((m : Int), Value.int .i64 (u : Int)) :: EA (lH s) from rfl, vV, Seen.put];by_cases e : m = n
   · subst e; simp; rfl
   · rw [if_neg (by show ¬ ((m : Int) = n); omega), if_neg e, ih]; rfl
theorem G0 (a : Int) (v : Nat) (l : List (Int × Nat)) (h : c0 a l = none) : AM a (.int .i64 (v : Int)) (EA l) = EA (l ++ [(a, v)]) := by
 induction l with
 | nil => rfl
 | cons p l ih =>
   obtain ⟨m, u⟩ := p;unfold c0 at h;split at h
   · cases h
   · rename_i e;rw [show EA ((m, u) :: l) = (m, Value.int .i64 (u : Int)) :: EA l from rfl, vV, if_neg e, ih h]; rfl
section
variable {P : Program} {B : Exit → Act → World → Prop} {b : Nat → Value} {n : Nat} {d : List Deferred} {w0 w : World} {x : St} {L0 L : List Sx.Item}
theorem lks (m i bt q : Nat) (s : Seen) (H : Hs w0 L0 w L) {t kt et : Nat} (hi : L[i]? = some (dG bt s))
   (k : Goal P B b n d (Sx.nx (vX (via P b n m w x (Sx.ask (lU b n)))).y (vX (via P b n m w x (Sx.ask (lU b n)))).q (.int .i64 (s.at q : Int))) w)
   (h : vA (via P b n m w x (Sx.ask (lU b n))) = vB w (via P b n m w x (Sx.ask (lU b n))) := by kernel_rfl)
   (h2 : ((vX (via P b n m w x (Sx.ask (lU b n)))).u, (vX (via P b n m w x (Sx.ask (lU b n)))).t) = ([.map (some bt), .int .i64 (q : Int)], [t, 0]) := by kernel_rfl)
   (ht : ki P t = some (kt, et) := by kernel_rfl) (lE : P.underlying kt = some (.int .i64) := by kernel_rfl) (hz : (P.info? et).bind (·.zero) = some (.int .i64 0) := by kernel_rfl) : Goal P B b n d x w :=
 lk (r := 0) m i H (q : Int) (.int .i64 0) hi za A_ (by rw [Rk]; exact k) h h2 ht lE hz
theorem lki (m i bt : Nat) (a : Int) (l : List (Int × Nat)) (o : Option Nat) (ho : c0 a l = o) (H : Hs w0 L0 w L) {t kt et : Nat} (hi : L[i]? = some (i_ bt l))
   (k : Goal P B b n d (Sx.nx (vX (via P b n m w x (Sx.ask (lU b n)))).y (vX (via P b n m w x (Sx.ask (lU b n)))).q (.tuple #[.int .i64 (o.getD 0 : Int), .bool o.isSome])) w)
   (h : vA (via P b n m w x (Sx.ask (lU b n))) = vB w (via P b n m w x (Sx.ask (lU b n))) := by kernel_rfl)
   (h2 : ((vX (via P b n m w x (Sx.ask (lU b n)))).u, (vX (via P b n m w x (Sx.ask (lU b n)))).t) = ([.map (some bt), .int .i64 a], [t, 1]) := by kernel_rfl)
   (ht : ki P t = some (kt, et) := by kernel_rfl) (lE : P.underlying kt = some (.int .i64) := by kernel_rfl) (hz : (P.info? et).bind (·.zero) = some (.int .i64 0) := by kernel_rfl) : Goal P B b n d x w := by
 refine lk (r := 1) m i H a (.int .i64 0) hi za A_ ?_ h h2 ht lE hz;subst ho;show Goal P B b n d (Sx.nx _ _ (.tuple #[(Sx.look a (EA l)).getD (.int .i64 0), .bool (Sx.look a (EA l)).isSome])) w;rw [vU, Option.isSome_map, show (Option.map (fun v : Nat => Value.int .i64 (v : Int)) (c0 a l)).getD (.int .i64 0) = .int .i64 (((c0 a l).getD 0 : Nat) : Int) by cases c0 a l <;> rfl];exact k
theorem YL (m i bt q v : Nat) (s : Seen) (H : Hs w0 L0 w L) {t kt et : Nat} (hi : L[i]? = some (dG bt s))
   (k : ∀ w', Hs w0 L0 w' (L.set i (dG bt (s.put q v))) → Goal P B b n d (Sx.nx (vX (via P b n m w x (Sx.ask (pH b n)))).y (vX (via P b n m w x (Sx.ask (pH b n)))).q undef) w')
   (h : vA (via P b n m w x (Sx.ask (pH b n))) = vB w (via P b n m w x (Sx.ask (pH b n))) := by kernel_rfl)
   (h2 : ((vX (via P b n m w x (Sx.ask (pH b n)))).u, (vX (via P b n m w x (Sx.ask (pH b n)))).t) = ([.map (some bt), .int .i64 (q : Int), .int .i64 (v : Int)], [t]) := by kernel_rfl)
   (ht : ki P t = some (kt, et) := by kernel_rfl) (lE : P.underlying kt = some (.int .i64) := by kernel_rfl) : Goal P B b n d x w :=
 mu m i H (q : Int) (.int .i64 (v : Int)) hi za A_ L7 (fun w' H' => by rw [L8] at H'; exact k w' H') h h2 ht lE
theorem mui (m i bt : Nat) (a : Int) (v : Nat) (l : List (Int × Nat)) (ho : c0 a l = none) (H : Hs w0 L0 w L) {t kt et : Nat} (hi : L[i]? = some (i_ bt l))
   (k : ∀ w', Hs w0 L0 w' (L.set i (i_ bt (l ++ [(a, v)]))) → Goal P B b n d (Sx.nx (vX (via P b n m w x (Sx.ask (pH b n)))).y (vX (via P b n m w x (Sx.ask (pH b n)))).q undef) w')
   (h : vA (via P b n m w x (Sx.ask (pH b n))) = vB w (via P b n m w x (Sx.ask (pH b n))) := by kernel_rfl)
   (h2 : ((vX (via P b n m w x (Sx.ask (pH b n)))).u, (vX (via P b n m w x (Sx.ask (pH b n)))).t) = ([.map (some bt), .int .i64 a, .int .i64 (v : Int)], [t]) := by kernel_rfl)
   (ht : ki P t = some (kt, et) := by kernel_rfl) (lE : P.underlying kt = some (.int .i64) := by kernel_rfl) : Goal P B b n d x w :=
 mu m i H a (.int .i64 (v : Int)) hi za A_ L7 (fun w' H' => by rw [G0 a v l ho] at H'; exact k w' H') h h2 ht lE
theorem mli (m i bt : Nat) (l : List (Int × Nat)) (H : Hs w0 L0 w L) {t kt et : Nat} (hi : L[i]? = some (i_ bt l))
   (k : Goal P B b n d (Sx.nx (vX (via P b n m w x (Sx.ask (Hh b n)))).y (vX (via P b n m w x (Sx.ask (Hh b n)))).q (.int .i64 (l.length : Int))) w)
   (h : vA (via P b n m w x (Sx.ask (Hh b n))) = vB w (via P b n m w x (Sx.ask (Hh b n))) := by kernel_rfl)
   (h2 : ((vX (via P b n m w x (Sx.ask (Hh b n)))).u, (vX (via P b n m w x (Sx.ask (Hh b n)))).t) = ([.map (some bt)], [t]) := by kernel_rfl)
   (ht : ki P t = some (kt, et) := by kernel_rfl) : Goal P B b n d x w :=
 ml m i H hi (by rw [show (EA l).length = l.length from List.length_map _]; exact k) h h2 ht
end
theorem Jp {m : List (Int × Nat)} {n q : Nat} (h : c0 n m = some q) : hJ m n = (m, q) := by unfold hJ; rw [h]
theorem Jq {m : List (Int × Nat)} {n : Nat} (h : c0 n m = none) : hJ m n = (m ++ [((n : Int), m.length + 1)], m.length + 1) := by unfold hJ; rw [h]
theorem vW {o : Option Nat} (h : (!o.isSome) = true) : o = none := by cases o <;> simp_all
theorem rj {o : Option Nat} (h : (!o.isSome) = false) : ∃ q, o = some q := by cases o <;> simp_all
end Go.aS
namespace Go.aS
open Go.RowKit Go.Sx
theorem Jr {w : World} : (gU (fun _ => False) [(none, 0, 0)] [[]]).holds w := by
 refine ⟨⟨rfl, fun r s l hs hl => ?_⟩, fun _ h => h.elim, sK _ _ _⟩;cases r with
 | zero => simp at hs hl; subst hs hl; exact ⟨rfl, fun _ _ h => by simp at h⟩
 | succ r => simp at hs
end Go.aS
namespace Go.aS
open Go.RowKit Go.Sx Go.Gx
section
variable {P : Program} {fn : Func} {R : Ending → World → Prop} {b : Nat → Value} {n : Nat} {d : List Deferred} {w0 w : World} {x : St} {L0 L : List Sx.Item}
theorem Z8 (i : Nat) (C : List Nat) (jj bt : Nat) (a : Int) (l : List (Int × Nat)) (o : Option Nat) (ho : c0 a l = o) {t kt et : Nat} (hS : mW x = true → Sp w (jy x))
   (k : Goal P (bodyPost P fn R) b n d ((vX (via P b n 0 w x (gC b n i C))).k (.tuple #[.int .i64 (o.getD 0 : Int), .bool o.isSome])) w)
   (hi : (jy x)[jj]? = some (i_ bt l) := by kernel_rfl)
   (h : vA (via P b n 0 w x (gC b n i C)) = vB w (via P b n 0 w x (gC b n i C)) := by kernel_rfl)
   (h2 : Z6 b n (vX (via P b n 0 w x (gC b n i C))) = some ([.map (some bt), .int .i64 a], [t]) := by kernel_rfl)
   (ht : ki P t = some (kt, et) := by kernel_rfl) (lE : P.underlying kt = some (.int .i64) := by kernel_rfl) (hz : (P.info? et).bind (·.zero) = some (.int .i64 0) := by kernel_rfl) : Goal P (bodyPost P fn R) b n d x w := by
 refine tvk i C jj a (.int .i64 0) _ za A_ ?_ hS k hi h h2 ht lE hz;subst ho;rw [vU, Option.isSome_map];cases c0 a l <;> rfl
end
end Go.aS
namespace Go.aS
open Go.RowKit Go.Sx
def RB (k : Nat) (g : G) (n : Nat) (s : Seen) (r : Bool) (s' : Seen) : Prop := ∃ y, g.b[n]? = some y ∧ (y = none → false = r ∧ s.put n 2 = s') ∧ ∀ p, y = some p → ∃ t s2, round k g p s = some (t, s2) ∧ (t = true → true = r ∧ s2 = s') ∧ (t = false → false = r ∧ s2.put n 2 = s')
def RA (k : Nat) (g : G) (n : Nat) (s : Seen) (r : Bool) (s' : Seen) : Prop := ∃ y, g.a[n]? = some y ∧ (y = none → RB k g n s r s') ∧ ∀ p, y = some p → ∃ t s2, round k g p s = some (t, s2) ∧ (t = true → true = r ∧ s2 = s') ∧ (t = false → RB k g n s2 r s')
theorem De {k n : Nat} {g : G} {s s' : Seen} {r : Bool} (h : round (k + 1) g n s = some (r, s')) :
   ∃ n1, find k g n = some n1 ∧ (0 < s.at n1 → (s.at n1 == 1) = r ∧ s = s') ∧ (s.at n1 = 0 → RA k g n1 (s.put n1 1) r s') := by
 unfold round at h;split at h <;> try contradiction
 rename_i n1 hn;refine ⟨n1, hn, ?_⟩;simp only at h;split at h
 · rename_i e; cases h; exact ⟨fun _ => ⟨rfl, rfl⟩, fun q => by omega⟩
 · rename_i e;refine ⟨fun q => absurd q e, fun _ => ?_⟩;have hA : ∀ (x : Option (Option Nat)) (s : Seen) (t : Bool) (s2 : Seen), (match x with | some none => some (false, s) | some (some m) => round k g m s | none => none) = some (t, s2) →
       ∃ o, x = some o ∧ (o = none → false = t ∧ s = s2) ∧ ∀ p, o = some p → round k g p s = some (t, s2) := by
     intro x s t s2 h
     split at h <;> try contradiction
     · cases h; exact ⟨none, rfl, fun _ => ⟨rfl, rfl⟩, fun p q => by cases q⟩
     · rename_i m; exact ⟨some m, rfl, fun q => (by cases q), fun p e => by cases e; exact h⟩
   have hB : ∀ s, (match (match g.b[n1]? with | some none => some (false, s) | some (some m) => round k g m s | none => none) with
       | some (true, s) => some (true, s) | some (false, s) => some (false, s.put n1 2) | none => none) = some (r, s') → RB k g n1 s r s' := by
     intro s h
     split at h <;> try contradiction
     · rename_i s2 hg
       obtain ⟨o, ho, h1, h2⟩ := hA _ _ _ _ hg
       cases h
       exact ⟨o, ho, fun q => by have := (h1 q).1; simp at this, fun p hp => ⟨true, _, h2 p hp, fun _ => ⟨rfl, rfl⟩, fun e => by cases e⟩⟩
     · rename_i s2 hg
       obtain ⟨o, ho, h1, h2⟩ := hA _ _ _ _ hg
       cases h
       exact ⟨o, ho, fun q => by rw [(h1 q).2]; exact ⟨rfl, rfl⟩, fun p hp => ⟨false, _, h2 p hp, fun e => (by cases e), fun _ => ⟨rfl, rfl⟩⟩⟩
   split at h <;> try contradiction
   · rename_i s2 hg;obtain ⟨o, ho, h1, h2⟩ := hA _ _ _ _ hg;cases h;exact ⟨o, ho, fun q => by have := (h1 q).1; simp at this, fun p hp => ⟨true, _, h2 p hp, fun _ => ⟨rfl, rfl⟩, fun e => by cases e⟩⟩
   · rename_i s2 hg;obtain ⟨o, ho, h1, h2⟩ := hA _ _ _ _ hg;exact ⟨o, ho, fun q => by rw [(h1 q).2]; exact hB _ h, fun p hp => ⟨false, _, h2 p hp, fun e => (by cases e), fun _ => hB _ h⟩⟩
def PD (n c j : Nat) (s : Seen) (r : Nat) (s' : Seen) : Prop := c + j ≤ 2147483647 ∧ min (c + j) 1000000 = r ∧ s.put n (min (c + j) 1000000) = s'
def PC (k : Nat) (g : G) (n c : Nat) (s : Seen) (r : Nat) (s' : Seen) : Prop := ∃ kd, g.kind[n]? = some kd ∧ (kd ≠ 6 → PD n c 0 s r s') ∧ (kd = 6 → ∃ q l v, g.row[n]? = some q ∧ whole k g q [] = some (l, v) ∧ PD n c l.length s r s')
def PB (k : Nat) (g : G) (n c : Nat) (s : Seen) (r : Nat) (s' : Seen) : Prop := ∃ y, g.b[n]? = some y ∧ (y = none → PC k g n c s r s') ∧ ∀ p, y = some p → ∃ j s2, parts k g p s = some (j, s2) ∧ PC k g n (c + j) s2 r s'
def PA (k : Nat) (g : G) (n c : Nat) (s : Seen) (r : Nat) (s' : Seen) : Prop := ∃ y, g.a[n]? = some y ∧ (y = none → PB k g n c s r s') ∧ ∀ p, y = some p → ∃ j s2, parts k g p s = some (j, s2) ∧ PB k g n (c + j) s2 r s'
theorem L9 {k n c r : Nat} {g : G} {s s' : Seen} (h : PC k g n c s r s') : c ≤ 2147483647 := by
 obtain ⟨kd, _, h1, h2⟩ := h;by_cases e : kd = 6
 · obtain ⟨_, l, _, _, _, h⟩ := h2 e; have := h.1; omega
 · have := (h1 e).1; omega
theorem Uc {k n c r : Nat} {g : G} {s s' : Seen} (h : PB k g n c s r s') : c ≤ 2147483647 := by
 obtain ⟨y, _, h1, h2⟩ := h;cases y with
 | none => exact L9 (h1 rfl)
 | some p => obtain ⟨j, _, _, h⟩ := h2 p rfl; have := L9 h; omega
theorem Df {k n r : Nat} {g : G} {s s' : Seen} (h : parts (k + 1) g n s = some (r, s')) :
   ∃ n1, find k g n = some n1 ∧ (0 < s.at n1 → s.at n1 = r ∧ s = s') ∧ (s.at n1 = 0 → PA k g n1 1 s r s') := by
 unfold parts at h;split at h <;> try contradiction
 rename_i n1 hn;refine ⟨n1, hn, ?_⟩;simp only at h;split at h
 · rename_i e; cases h; exact ⟨fun _ => ⟨rfl, rfl⟩, fun q => by omega⟩
 · rename_i e;refine ⟨fun q => absurd q e, fun _ => ?_⟩;have hA : ∀ (x : Option (Option Nat)) (c : Nat) (s : Seen) (t : Nat) (s2 : Seen), (match x with | some none => some (c, s) | some (some m) => (match parts k g m s with | some (j, s) => some (c + j, s) | none => none) | none => none) = some (t, s2) →
       ∃ o, x = some o ∧ (o = none → c = t ∧ s = s2) ∧ ∀ p, o = some p → ∃ j, parts k g p s = some (j, s2) ∧ c + j = t := by
     intro x c s t s2 h
     split at h <;> try contradiction
     · cases h; exact ⟨none, rfl, fun _ => ⟨rfl, rfl⟩, fun p q => by cases q⟩
     · rename_i m
       split at h <;> try contradiction
       rename_i j s3 hp
       cases h
       exact ⟨some m, rfl, fun q => (by cases q), fun p e => by cases e; exact ⟨j, hp, rfl⟩⟩
   split at h <;> try contradiction
   rename_i c1 s1 hg;obtain ⟨o, ho, h1, h2⟩ := hA _ _ _ _ _ hg;have hB : PB k g n1 c1 s1 r s' := by
     split at h <;> try contradiction
     rename_i c2 s2 vY;obtain ⟨o2, EB, h3, h4⟩ := hA _ _ _ _ _ vY;have hC : PC k g n1 c2 s2 r s' := by
       split at h <;> try contradiction
       rename_i j hj;split at h <;> try contradiction
       rename_i hle;cases h;split at hj <;> try contradiction
       · rename_i hk;split at hj <;> try contradiction
         rename_i q hq;rw [Option.map_eq_some_iff] at hj;obtain ⟨⟨l, v⟩, hw, rfl⟩ := hj;exact ⟨6, hk, fun e => absurd rfl e, fun _ => ⟨q, l, v, hq, hw, hle, rfl, rfl⟩⟩
       · rename_i kd h6 hk;cases hj;exact ⟨kd, hk, fun _ => ⟨hle, rfl, rfl⟩, fun e => absurd e (by intro e; subst e; exact h6 rfl)⟩
     exact ⟨o2, EB, fun q => by obtain ⟨rfl, rfl⟩ := h3 q; exact hC, fun p hp => by obtain ⟨j, hj, rfl⟩ := h4 p hp; exact ⟨j, s2, hj, hC⟩⟩
   exact ⟨o, ho, fun q => by obtain ⟨rfl, rfl⟩ := h1 q; exact hB, fun p hp => by obtain ⟨j, hj, rfl⟩ := h2 p hp; exact ⟨j, s1, hj, hB⟩⟩
end Go.aS
namespace Go.aS
theorem L_ (v : Nat) : ((v : Int) == (1 : Int)) = (v == 1) := by
 by_cases h : v = 1
 · subst h; rfl
 · have h2 : ¬ ((v : Int) = 1) := by omega
   rw [beq_eq_false_iff_ne.2 h, beq_eq_false_iff_ne.2 h2]
end Go.aS
namespace Go.aS
open Go.RowKit Go.Sx
structure Tv where
 A : Option Addr
 na : Nat
 ca : Nat
 B : Option Addr
 nb : Nat
 cb : Nat
def Fk (t : Ty) (p : Tv) : List Value := match t with
 | .mk kd n row _ _ => [.int .i64 (kd : Int), .int .i64 (n : Int), .int .i64 (row : Int), .slice p.A p.na p.ca, .slice p.B p.nb p.cb]
inductive cO (w : World) (S : Nat → Prop) : Tv → Ty → Prop
 | mk {kd n row : Nat} {ops : List Nm} {args : List Ty} (p : Tv) (ps : List Tv) (hs : jO w S p.A ops) (hn : p.na = ops.length) (hc : p.na ≤ p.ca ∧ ops.length < 1000000000 ∧ args.length ≤ 2) (hb : p.nb = args.length) (hl : ps.length = args.length)
     (hm : ∀ (i : Nat) (q : Tv) (t : Ty), ps[i]? = some q → args[i]? = some t → ∃ a, p.B = some a ∧ S a.block ∧ w.cells? 0 (a.add (i * 5)) 5 = some (Fk t q))
     (ht : ∀ (i : Nat) (q : Tv) (t : Ty), ps[i]? = some q → args[i]? = some t → cO w S q t) : cO w S p (.mk kd n row ops args)
theorem cO.hO {w w' : World} {S : Nat → Prop} {p : Tv} {t : Ty} (h : cO w S p t) (k : ∀ c, S c → w'.heap[c]? = w.heap[c]?) : cO w' S p t := by
 induction h with
 | mk p ps hs hn hc hb hl hm _ ih => exact .mk p ps (hs.hO k) hn hc hb hl (fun i q t h1 h2 => by obtain ⟨a, ha, hS, pq⟩ := hm i q t h1 h2; exact ⟨a, ha, hS, eZ pq (by rw [gh]; exact k _ hS)⟩) ih
theorem cO.mono {w : World} {S S' : Nat → Prop} {p : Tv} {t : Ty} (h : cO w S p t) (k : ∀ c, S c → S' c) : cO w S' p t := by
 induction h with
 | mk p ps hs hn hc hb hl hm _ ih => exact .mk p ps (hs.mono k) hn hc hb hl (fun i q t h1 h2 => by obtain ⟨a, ha, hS, pq⟩ := hm i q t h1 h2; exact ⟨a, ha, k _ hS, pq⟩) ih
theorem eQ (S : Nat → Prop) (p : Tv) (t : Ty) : Sx.Loc S (fun w => cO w S p t) := fun _ _ _ hk h => h.hO hk
def lV (S : Nat → Prop) (p : Tv) (t : Ty) : Sx.Item := .ro S (fun w => cO w S p t)
theorem cO.open {w : World} {S : Nat → Prop} {p : Tv} {kd n row : Nat} {ops : List Nm} {args : List Ty} (h : cO w S p (.mk kd n row ops args)) :
   jO w S p.A ops ∧ p.na = ops.length ∧ (p.na ≤ p.ca ∧ ops.length < 1000000000 ∧ args.length ≤ 2) ∧ p.nb = args.length ∧ ∀ i t, args[i]? = some t → ∃ (q : Tv) (a : Addr), p.B = some a ∧ w.cells? 0 (a.add (i * 5)) 5 = some (Fk t q) ∧ cO w S q t := by
 cases h with
 | mk _ ps hs hn hc hb hl hm ht =>
   refine ⟨hs, hn, hc, hb, fun i t h => ?_⟩;have hi : i < ps.length := by rw [hl]; exact (List.getElem?_eq_some_iff.1 h).1
   obtain ⟨a, ha, hS, pq⟩ := hm i _ t (List.getElem?_eq_getElem hi) h;exact ⟨_, a, ha, pq, ht i _ t (List.getElem?_eq_getElem hi) h⟩
theorem Rl {k n row : Nat} {g g' : G} {ops : List Nm} {args : List Ty} {m : Nat} (h : tG (k + 1) g (.mk 0 n row ops args) = some (g', m)) :
   (∃ q, c0 n g.tv = some q ∧ g = g' ∧ q = m) ∨ (c0 n g.tv = none ∧ ∃ g1, g.var = some (g1, m) ∧ { g1 with tv := g1.tv ++ [((n : Int), m)] } = g') := by
 simp only [tG, if_true] at h;split at h
 · rename_i q hq; cases h; exact .inl ⟨_, hq, rfl, rfl⟩
 · rename_i hq;split at h <;> try contradiction
   rename_i g1 m1 hv;cases h; exact .inr ⟨hq, g1, hv, rfl⟩
def OR (kd row : Nat) (ops : List Nm) (g : G) (a b : Option Nat) (g' : G) (m : Nat) : Prop :=
 (kd ≠ 6 → g.put kd a b 0 = some (g', m)) ∧
 (kd = 6 → ∃ g1 x, ((row = 0 ∧ g = g1 ∧ 0 = x) ∨ (0 < row ∧ c0 row g.rv = some x ∧ g = g1) ∨ (0 < row ∧ c0 row g.rv = none ∧ ∃ g2, g.gu = some (g2, x) ∧ { g2 with rv := g2.rv ++ [((row : Int), x)] } = g1)) ∧
   ∃ g3 r, g1.putRow ops (some x) = some (g3, r) ∧ g3.put kd a b r = some (g', m))
def OB (k kd row : Nat) (ops : List Nm) (g : G) (a : Option Nat) (t : Option Ty) (g' : G) (m : Nat) : Prop :=
 (t = none → OR kd row ops g a none g' m) ∧ ∀ u, t = some u → ∃ g1 b, tG k g u = some (g1, b) ∧ OR kd row ops g1 a (some b) g' m
def OA (k kd row : Nat) (ops : List Nm) (g : G) (t t2 : Option Ty) (g' : G) (m : Nat) : Prop :=
 (t = none → OB k kd row ops g none t2 g' m) ∧ ∀ u, t = some u → ∃ g1 b, tG k g u = some (g1, b) ∧ OB k kd row ops g1 (some b) t2 g' m
theorem Ma {k kd n row : Nat} {g g' : G} {ops : List Nm} {args : List Ty} {m : Nat} (hk : kd ≠ 0) (h : tG (k + 1) g (.mk kd n row ops args) = some (g', m)) : OA k kd row ops g args[0]? args[1]? g' m := by
 simp only [tG, if_neg hk] at h;have hX : ∀ (g : G) (t : Option Ty) (g1 : G) (a : Option Nat), (match t with | none => some (g, none) | some t => (match tG k g t with | some (g, m) => some (g, some m) | none => none)) = some (g1, a) →
     (t = none → g = g1 ∧ none = a) ∧ ∀ u, t = some u → ∃ b, tG k g u = some (g1, b) ∧ some b = a := by
   intro g t g1 a h
   cases t with
   | none => cases h; exact ⟨fun _ => ⟨rfl, rfl⟩, fun u e => by cases e⟩
   | some t =>
     simp only at h
     split at h <;> try contradiction
     rename_i g2 b hb
     cases h
     exact ⟨fun e => (by cases e), fun u e => by cases e; exact ⟨b, hb, rfl⟩⟩
 split at h <;> try contradiction
 rename_i g1 a hA;have hA := hX _ _ _ _ hA;have hOB : OB k kd row ops g1 a args[1]? g' m := by
   split at h <;> try contradiction
   rename_i g2 b hB;have hB := hX _ _ _ _ hB;have hOR : OR kd row ops g2 a b g' m := by
     split at h
     · rename_i h6;refine ⟨fun e => absurd h6 e, fun _ => ?_⟩;split at h <;> try contradiction
       rename_i g3 x hx;split at h <;> try contradiction
       rename_i g4 r hr;refine ⟨g3, x, ?_, g4, r, hr, h⟩;split at hx
       · rename_i h0;split at hx
         · rename_i q hq; cases hx; exact .inr (.inl ⟨h0, hq, rfl⟩)
         · rename_i hq;split at hx <;> try contradiction
           rename_i g5 q ho;cases hx;exact .inr (.inr ⟨h0, hq, g5, ho, rfl⟩)
       · cases hx; exact .inl ⟨by omega, rfl, rfl⟩
     · rename_i h6; exact ⟨fun _ => h, fun e => absurd e h6⟩
   exact ⟨fun e => by obtain ⟨rfl, rfl⟩ := hB.1 e; exact hOR, fun u e => by obtain ⟨q, h1, rfl⟩ := hB.2 u e; exact ⟨g2, q, h1, hOR⟩⟩
 exact ⟨fun e => by obtain ⟨rfl, rfl⟩ := hA.1 e; exact hOB, fun u e => by obtain ⟨q, h1, rfl⟩ := hA.2 u e; exact ⟨g1, q, h1, hOB⟩⟩
end Go.aS
namespace Go.aS
open Go.RowKit Go.Sx
theorem V0 {g g' : G} {kd r n : Nat} {a b : Option Nat} (h : g.put kd a b r = some (g', n)) : g'.tv = g.tv ∧ g'.rv = g.rv := by
 unfold G.put at h;split at h
 · simp only [nP, lD, mH, Option.some.injEq, Prod.mk.injEq] at h; obtain ⟨rfl, _⟩ := h; exact ⟨rfl, rfl⟩
 · cases h
theorem V1 {g g' : G} {n : Nat} (h : g.gu = some (g', n)) : g'.rv = g.rv := by
 unfold G.gu G.putRow at h;split at h
 · simp only [nP, lD, mH, Option.some.injEq, Prod.mk.injEq] at h; obtain ⟨rfl, _⟩ := h; rfl
 · cases h
theorem dj {α : Type} {l : List α} {i : Nat} (h : i < l.length) : ∃ x, l[i]? = some x := ⟨_, List.getElem?_eq_getElem h⟩
theorem Hw {α : Type} {l : List α} {i : Nat} (h : l.length ≤ i) : l[i]? = none := List.getElem?_eq_none h
end Go.aS
namespace Go.aS
open Go.RowKit Go.Sx
theorem kI {w0 w : World} {L0 L : List Sx.Item} {S : Nat → Prop} {p : Tv} {t : Ty} (H : Hs w0 L0 w L) (j : Nat) (hi : L[j]? = some (lV S p t)) : cO w S p t := (H.at j hi).1
end Go.aS
