/- Cut: two segments in memory are compared; what is taken, what is asked. -/
import Derived.Test.YtokplpijjnkboaaStk
import Derived.LaidEqlPtr
set_option linter.unusedVariables false
set_option linter.unusedSimpArgs false
namespace Go.Sx
open Go.RowKit Go.Gx
section
variable {P : Program} {B : Exit → Act → World → Prop} {b : Nat → Value} {n : Nat} {d : List Deferred} {w : World} {x : St}
def pqA (P : Program) (b : Nat → Value) (n : Nat) (x : St) : Option Ask :=
  match hd b n x with
  | some q => match q.2.2.op with
    | .binOp op t y z _ => match op with
      | .eql => match P.underlying t with
        | some (.pointer e) => match P.info? e with
          | some inf => some ⟨[ev b n x.l y, ev b n x.l z], [inf.size], x, q⟩
          | none => none
        | _ => none
      | _ => none
    | _ => none
  | none => none
/-- The same pointer. -/
theorem pqs (m : Nat) (a : Addr) (sz : Nat) (k : Goal P B b n d (nx (vX (via P b n m w x (ask (pqA P b n)))).y (vX (via P b n m w x (ask (pqA P b n)))).q (.bool true)) w)
    (h : vA (via P b n m w x (ask (pqA P b n))) = vB w (via P b n m w x (ask (pqA P b n))) := by kernel_rfl)
    (h2 : ((vX (via P b n m w x (ask (pqA P b n)))).u, (vX (via P b n m w x (ask (pqA P b n)))).t) = ([.pointer (some a), .pointer (some a)], [sz]) := by kernel_rfl) : Goal P B b n d x w := by
  obtain ⟨y, hr, hf⟩ := ask_ok h
  refine run_sound hr ?_
  generalize vX (via P b n m w x (ask (pqA P b n))) = z at *
  unfold pqA at hf
  split at hf <;> try contradiction
  rename_i q hq
  split at hf <;> try contradiction
  rename_i op t y1 z1 _ hop
  split at hf <;> try contradiction
  split at hf <;> try contradiction
  rename_i e hu
  split at hf <;> try contradiction
  rename_i inf hinf
  simp only [Option.some.injEq] at hf
  subst hf
  simp only [Prod.mk.injEq, List.cons.injEq, and_true] at h2
  obtain ⟨⟨h3, h4⟩, _⟩ := h2
  refine hd_val hq ?_ k
  unfold execOp
  simp [hop, h3, h4, eqGuard, Sem.run_bind, run_eql_ptr_same w a hu hinf]
/-- Pointers of two blocks. -/
theorem pqo (m : Nat) (b1 b2 : Nat) (sz : Nat) {c1 c2 : Array Value} {t1 t2 : Nat} (hne : b1 ≠ b2) (h1 : Has w b1 (.cells c1 t1)) (h2' : Has w b2 (.cells c2 t2)) (k : Goal P B b n d (nx (vX (via P b n m w x (ask (pqA P b n)))).y (vX (via P b n m w x (ask (pqA P b n)))).q (.bool false)) w)
    (h : vA (via P b n m w x (ask (pqA P b n))) = vB w (via P b n m w x (ask (pqA P b n))) := by kernel_rfl)
    (h2 : ((vX (via P b n m w x (ask (pqA P b n)))).u, (vX (via P b n m w x (ask (pqA P b n)))).t) = ([.pointer (some ⟨b1, 0, none⟩), .pointer (some ⟨b2, 0, none⟩)], [sz]) := by kernel_rfl) (hz : Nat.blt 0 sz = true := by kernel_rfl) : Goal P B b n d x w := by
  obtain ⟨y, hr, hf⟩ := ask_ok h
  refine run_sound hr ?_
  generalize vX (via P b n m w x (ask (pqA P b n))) = z at *
  unfold pqA at hf
  split at hf <;> try contradiction
  rename_i q hq
  split at hf <;> try contradiction
  rename_i op t y1 z1 _ hop
  split at hf <;> try contradiction
  split at hf <;> try contradiction
  rename_i e hu
  split at hf <;> try contradiction
  rename_i inf hinf
  simp only [Option.some.injEq] at hf
  subst hf
  simp only [Prod.mk.injEq, List.cons.injEq, and_true] at h2
  obtain ⟨⟨h3, h4⟩, rfl⟩ := h2
  refine hd_val hq ?_ k
  have hs : inf.size ≠ 0 := by have := Nat.le_of_ble_eq_true hz; omega
  unfold execOp
  simp [hop, h3, h4, eqGuard, Sem.run_bind, run_eql_ptr_other w (a := ⟨b1, 0, none⟩) (b := ⟨b2, 0, none⟩) hu hinf hs (fun e => hne (by injection e)) h1 h2']
end
end Go.Sx
namespace Go.Stk
open Go.RowKit Go.Sx Go.Gx
theorem fr_dup {w0 w : World} {L0 L : List Sx.Item} (H : Hs w0 L0 w L) (j : Nat) (Q : Nat → Prop) (p : Option Addr) (l : List Int) (hi : L[j]? = some (frI Q p l)) : Hs w0 L0 w (L ++ [frI Q p l]) :=
  H.ro j (S := Q) (A := fun w => Fr Q w p l) (B := fun w => Fr Q w p l) hi (H.at j hi).1 (frI_loc _ _ _)
theorem ptrs_app (bs : List Nat) (b : Nat) : ptrs bs ++ [.pointer (some ⟨b, 0, none⟩)] = ptrs (bs ++ [b]) := by simp [ptrs]
theorem tot_rev (m : List Seg) : tot m.reverse = tot m := by simp [tot, List.sum_reverse]
theorem fix_len (deep : Bool) (s : Seg) : (fixS deep s).l = s.l := by unfold fixS; split <;> rfl
/-- What is taken, from the place x on. -/
def pcM (deep : Bool) (ms : List Seg) (s : Seg) (x : Nat) : List Seg := ((ms ++ [fixS deep s]).drop x).reverse
theorem pc_nil (deep : Bool) (ms : List Seg) (s : Seg) : pcM deep ms s (ms.length + 1) = [] := by
  unfold pcM; rw [List.drop_of_length_le (by simp)]; rfl
theorem pc_zero (deep : Bool) (ms : List Seg) (s : Seg) : pcM deep ms s 0 = fixS deep s :: ms.reverse := by simp [pcM]
theorem pc_hit (deep : Bool) (ms : List Seg) (s : Seg) : pcM deep ms s ms.length = pcM deep ms s (ms.length + 1) ++ [fixS deep s] := by
  rw [pc_nil]; unfold pcM; rw [List.drop_left]; rfl
theorem pc_step (deep : Bool) {ms : List Seg} (s : Seg) {y : Nat} {e : Seg} (h : (ms ++ [s])[y]? = some e) (hy : y < ms.length) : pcM deep ms s y = pcM deep ms s (y + 1) ++ [e] := by
  unfold pcM
  rw [List.getElem?_append_left hy] at h
  obtain ⟨hi, rfl⟩ := List.getElem?_eq_some_iff.1 h
  rw [List.drop_eq_getElem_cons (i := y) (by simp; omega), List.reverse_cons, List.getElem_append_left hi]
theorem pc_le (deep : Bool) {ms : List Seg} (s : Seg) {y : Nat} {e : Seg} (h : (ms ++ [s])[y]? = some e) : tot (pcM deep ms s (y + 1)) + e.l.length ≤ tot ms + s.l.length ∧ (pcM deep ms s (y + 1)).length ≤ ms.length := by
  have hs : tot (ms ++ [fixS deep s]) = tot ms + s.l.length := by rw [tot_snoc, fix_len]
  have hy := (List.getElem?_eq_some_iff.1 h).1
  simp only [List.length_append, List.length_singleton] at hy
  refine ⟨?_, by unfold pcM; rw [List.length_reverse, List.length_drop]; simp⟩
  have key : ∃ e', (ms ++ [fixS deep s])[y]? = some e' ∧ e'.l = e.l := by
    by_cases q : y < ms.length
    · rw [List.getElem?_append_left q] at h ⊢; exact ⟨e, h, rfl⟩
    · obtain rfl : y = ms.length := by omega
      rw [List.getElem?_concat_length] at h ⊢
      injection h with h
      exact ⟨_, rfl, by rw [fix_len, h]⟩
  obtain ⟨e', he, hl⟩ := key
  obtain ⟨h1, _, _⟩ := (⟨rfl, rfl, rfl⟩ : True = True ∧ True = True ∧ True = True)
  have h2 := List.take_append_drop y (ms ++ [fixS deep s])
  obtain ⟨hi, hq⟩ := List.getElem?_eq_some_iff.1 he
  rw [List.drop_eq_getElem_cons hi, hq] at h2
  have h3 := congrArg tot h2
  rw [tot_app, hs] at h3
  have h4 : tot (e' :: (ms ++ [fixS deep s]).drop (y + 1)) = e'.l.length + tot ((ms ++ [fixS deep s]).drop (y + 1)) := by simp [tot]
  unfold pcM
  rw [tot_rev, ← hl]
  omega
theorem cut_step {k : Int} {m : List Seg} {s : Seg} (h : isHit k s = false) : cutR k (m ++ [s]).reverse = (cutR k m.reverse).map fun p => (s :: p.1, p.2.1, p.2.2) := by
  rw [List.reverse_concat, cutR, if_neg (by rw [h]; simp)]
theorem cut_hit {k : Int} {m : List Seg} {s : Seg} (h : isHit k s = true) : cutR k (m ++ [s]).reverse = some ([], s, m.reverse) := by
  rw [List.reverse_concat, cutR, if_pos h]
theorem ask_no {k : Int} {m : List Seg} {s : Seg} (h : s.has = false) : askR k (m ++ [s]).reverse = askR k m.reverse := by
  rw [List.reverse_concat, askR, if_neg (by rw [h]; simp)]
theorem ask_miss {k : Int} {m : List Seg} {s : Seg} (h : s.has = true) (h2 : hitB k s.tag = false) : askR k (m ++ [s]).reverse = s.tag :: askR k m.reverse := by
  rw [List.reverse_concat, askR, if_pos h, if_neg (by rw [h2]; simp)]
theorem ask_hit {k : Int} {m : List Seg} {s : Seg} (h : s.has = true) (h2 : hitB k s.tag = true) : askR k (m ++ [s]).reverse = [s.tag] := by
  rw [List.reverse_concat, askR, if_pos h, if_pos h2]
/-- How far the search has come: what was passed. -/
structure CutAt (k : Int) (m m1 ms : List Seg) (l l1 : List Int) : Prop where
  hm : m = m1 ++ ms.reverse
  hc : cutR k m.reverse = (cutR k m1.reverse).map fun p => (ms ++ p.1, p.2.1, p.2.2)
  ha : l ++ askR k m.reverse = l1 ++ askR k m1.reverse
theorem CutAt.init (k : Int) (m : List Seg) (l : List Int) : CutAt k m m [] l l := ⟨by simp, by cases cutR k m.reverse <;> simp, rfl⟩
theorem CutAt.no {k : Int} {m m1 ms : List Seg} {l l1 : List Int} {tg : Int} {fs : List Int} (h : CutAt k m (m1 ++ [⟨false, tg, fs⟩]) ms l l1) : CutAt k m m1 (ms ++ [⟨false, tg, fs⟩]) l l1 :=
  ⟨by rw [h.hm]; simp, by rw [h.hc, cut_step (by simp [isHit])]; cases cutR k m1.reverse <;> simp, by rw [h.ha, ask_no rfl]⟩
theorem CutAt.miss {k : Int} {m m1 ms : List Seg} {l l1 : List Int} {tg : Int} {fs : List Int} (h : CutAt k m (m1 ++ [⟨true, tg, fs⟩]) ms l l1) (hb : hitB k tg = false) : CutAt k m m1 (ms ++ [⟨true, tg, fs⟩]) l (l1 ++ [tg]) :=
  ⟨by rw [h.hm]; simp, by rw [h.hc, cut_step (by simp [isHit, hb])]; cases cutR k m1.reverse <;> simp, by rw [h.ha, ask_miss rfl hb]; simp⟩
theorem CutAt.hit {k : Int} {m m1 ms : List Seg} {l l1 : List Int} {tg : Int} {fs : List Int} (h : CutAt k m (m1 ++ [⟨true, tg, fs⟩]) ms l l1) (hb : hitB k tg = true) : cutR k m.reverse = some (ms, ⟨true, tg, fs⟩, m1.reverse) ∧ l ++ askR k m.reverse = l1 ++ [tg] :=
  ⟨by rw [h.hc, cut_hit (by simp [isHit, hb])]; simp, by rw [h.ha, ask_hit rfl hb]⟩
theorem CutAt.none {k : Int} {m ms : List Seg} {l l1 : List Int} (h : CutAt k m [] ms l l1) : cutR k m.reverse = none ∧ l ++ askR k m.reverse = l1 := ⟨by rw [h.hc]; rfl, by rw [h.ha]; simp [askR]⟩
theorem CutAt.tot {k : Int} {m m1 ms : List Seg} {l l1 : List Int} (h : CutAt k m m1 ms l l1) : Stk.tot m = Stk.tot m1 + Stk.tot ms ∧ m.length = m1.length + ms.length := by
  rw [h.hm, tot_app, tot_rev]; simp
end Go.Stk
