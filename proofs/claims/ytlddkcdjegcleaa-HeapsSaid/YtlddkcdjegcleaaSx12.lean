/- A call of 'yield', within a range over a function. -/
import Derived.Test.YtlddkcdjegcleaaSx11
import Derived.RangeFuncSeq
set_option linter.unusedVariables false
set_option linter.unusedSimpArgs false
namespace Go.Sx
open Go.RowKit Go.Gx
section
variable [Rd] {P : Program} {B : Exit → Act → World → Prop} {b : Nat → Value} {n : Nat} {d : List Deferred} {w0 w : World} {x : St} {L0 L : List Item}
def yA (b : Nat → Value) (n : Nat) (x : St) : Option Ask :=
  match x.f with
  | .ops _ _ => match hd b n x with
    | some q => match q.2.2.op with
      | .call c => match c.callee with
        | .value g => some ⟨ev b n x.l g :: (c.args.map (ev b n x.l)).toList, [], x, q⟩
        | _ => none
      | _ => none
    | none => none
  | _ => none
theorem y (m : Nat) (I : List Nat) (H : Hs w0 L0 w L) {l : Nat} {args : List Value} {L1 : List Item}
    (k : Sp w L1 → ∀ R : Ending → World → Prop, (∀ v w' L1', Hs w L1 w' L1' → (Hs w0 L0 w' (L1' ++ rest I L) → Goal P B b n d (nx (vX (via P b n m w x (ask (yA b n)))).y (vX (via P b n m w x (ask (yA b n)))).q v) w') → R (.returned v) w') →
      YieldAt Fence.wide 0 P l args.toArray w (fun e w' => ∃ v, e = .returned v ∧ R e w'))
    (h : vA (via P b n m w x (ask (yA b n))) = vB w (via P b n m w x (ask (yA b n))) := by kernel_rfl)
    (h2 : (vX (via P b n m w x (ask (yA b n)))).u = .func (.yield l) #[] #[] :: args := by kernel_rfl)
    (hp : picked I L = some L1 := by kernel_rfl) : Goal P B b n d x w := by
  obtain ⟨y, hr, hf⟩ := ask_ok h
  refine run_sound hr ?_
  generalize vX (via P b n m w x (ask (yA b n))) = z at *
  unfold yA at hf
  split at hf <;> try contradiction
  rename_i ops js hfo
  split at hf <;> try contradiction
  rename_i q hq
  split at hf <;> try contradiction
  rename_i c hop
  split at hf <;> try contradiction
  rename_i g hcal
  simp only [Option.some.injEq] at hf
  subst hf
  simp only [List.cons.injEq] at h2
  obtain ⟨h3, h4⟩ := h2
  obtain ⟨f, kk, ll⟩ := y
  simp only at hfo
  subst hfo
  cases js with
  | nil => simp [hd] at hq
  | cons i r =>
    unfold hd at hq
    simp only at hq
    cases ho : ops[i]? with
    | none => simp [ho] at hq
    | some o =>
      simp only [ho] at hq
      cases hw : Region.wanted o (yl ops b n ll) with
      | false => simp [hw] at hq
      | true =>
        simp only [hw] at hq
        cases hnd : ndf o with
        | false => simp [hnd] at hq
        | true =>
        simp only [hnd, Option.some.injEq] at hq
        subst hq
        show wpOpsIn fw 1 P ops (post P B kk) (i :: r) (Fr b n ll d) w
        simp only [wpOpsIn, ho]
        rw [yielded_Fr, if_pos hw]
        refine ⟨fun _ _ => trivial, ?_⟩
        obtain ⟨fn, tmps, assign, body, hy, hR⟩ := k (H.sub I hp) (fun e w' => ∀ v, e = .returned v → Goal P B b n d (nx ⟨.ops ops (i :: r), kk, ll⟩ (ops, r, o) v) w') (fun v w' L1' H1 hg v' e => by cases e; exact hg (H.call I hp H1))
        have hex : (execOp (ev b n ll) o).run P w = .ok (.round l fn tmps assign body) w := by
          have ha : c.args.map (ev b n ll) = args.toArray := by rw [← h4]
          unfold execOp
          simp only at hop
          simp [hop, resolve, hcal, h3, ha, Deferred.ofValue, invoke, Sem.run_bind, hy, go_sem]
        show o.uponIn fw 1 P (Fr b n ll d) _ _ ((o.semAt fw.round (Fr b n ll d).eval).run P w)
        rw [semw hnd, eval_Fr, hex]
        refine ⟨fun _ => Nat.le_refl _, hR.mono ?_⟩
        rintro e w' ⟨v, rfl, hr⟩
        have q := hr v rfl
        show wpOpsIn fw 1 P ops (post P B kk) r ((Fr b n ll d).put o.dst v) w'
        rw [put_putL]
        exact q
end
end Go.Sx
