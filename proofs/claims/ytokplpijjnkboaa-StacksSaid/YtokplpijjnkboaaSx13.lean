/- A range over a function: the statement, its rounds, the way out of the function that holds it. -/
import Derived.Test.YtokplpijjnkboaaSx12
import Derived.RangeFuncLeaves
import Derived.RangeFuncRecord
import Derived.RangeFuncOwn
set_option linter.unusedVariables false
set_option linter.unusedSimpArgs false
namespace Go.Sx
open Go.RowKit Go.Gx
/-- What goes through at the widest fence goes through in a round. -/
theorem ops_round {P : Program} {ops : Array Oper} {Q : Exit → Act → World → Prop} (lr m : Nat) (hd : ∀ o ∈ ops, ∀ c, o.op ≠ .defer c) : ∀ (js : List Nat) (a : Act) (w : World), wpOpsIn Fence.wide 1 P ops Q js a w → wpOpsIn (Fence.wide.inRound lr) m P ops Q js a w
  | [], _, _, h => h
  | i :: js, a, w, h => by
    simp only [wpOpsIn] at h ⊢
    cases ho : ops[i]? with
    | none => simp only [ho] at h; exact ops_round lr m hd js _ _ h
    | some o =>
      simp only [ho] at h ⊢
      have hm : o ∈ ops := Array.mem_of_getElem? ho
      split at h
      · rename_i hw
        rw [if_pos hw]
        refine ⟨fun _ _ => trivial, ?_⟩
        have h := h.2
        rw [show Fence.wide.round = none from rfl, Oper.semAt_none] at h
        rw [show (Fence.wide.inRound lr).round = some lr from rfl, Oper.semAt_eq _ _ _ (hd o hm)]
        generalize (execOp a.eval o).run P w = r at *
        have hn : (Fence.wide.inRound lr).depth.isSome = true → 1 ≤ m := fun q => by simp [Fence.wide] at q
        cases r with
        | ok n w' =>
          cases n <;> simp only [Oper.uponIn] at h ⊢ <;> try exact h.elim
          case value v => exact ops_round lr m hd js _ _ h
          case skip => exact ops_round lr m hd js _ _ h
          case defer d => exact ops_round lr m hd js _ _ h
          case enter f args =>
            refine ⟨hn, trivial, fun cs _ => ?_⟩
            obtain ⟨e, w1, fr, hR, hs⟩ := h.2.2 cs (room_wide _)
            refine ⟨e, w1, fr, ?_, hs⟩
            cases e with
            | returned v => exact ops_round lr m hd js _ _ hR
            | panicked c => exact hR
            | outgrown => exact hR
          case row row args =>
            refine ⟨hn, fun c cs _ => ?_⟩
            obtain ⟨v, w1, hR, hs⟩ := h.2 c cs (room_wide _)
            exact ⟨v, w1, ops_round lr m hd js _ _ hR, hs⟩
          case round l f t as bd =>
            refine ⟨hn, trivial, fun c cs _ => ?_⟩
            obtain ⟨e, w1, hR, hs⟩ := h.2.2 c cs (room_wide _)
            refine ⟨e, w1, ?_, hs⟩
            cases e with
            | returned v => exact ops_round lr m hd js _ _ hR
            | panicked c => exact hR
            | outgrown => exact hR
        | halt y w' => cases y <;> simp only [Oper.uponIn] at h ⊢ <;> first | exact h | exact h.elim
      · rename_i hw
        rw [if_neg hw]
        exact ⟨fun _ _ => trivial, ops_round lr m hd js _ _ h.2⟩
section
variable {P : Program} {B : Exit → Act → World → Prop} {b : Nat → Value} {n : Nat} {d : List Deferred} {w0 w : World} {x : St} {L0 L : List Item}
/-- A region of a round's. -/
theorem reg_round (lr m id : Nat) (ops : Array Oper) (l : List (Nat × Value)) (Q : Exit → Act → World → Prop) (hd : ops.toList.all (fun o => match o.op with | .defer _ => false | _ => true) = true)
    (k : ∀ K : Act → World → Prop, (∀ a w, Q .normal a w → K a w) → Goal P (fun _ _ _ => False) b n d ⟨.ops ops (List.range ops.size), [.to K], l⟩ w) : (Code.region id ops false).wpIn (Fence.wide.inRound lr) m P Q (Fr b n l d) w := by
  refine wpIn_mono (wpIn_region (ops_round lr m (fun o ho c e => ?_) _ _ _ (k _ fun _ _ h => h))) (fun e a w h => ?_)
  · have := List.all_eq_true.1 hd o (by simpa using ho)
    rw [e] at this; cases this
  · cases e <;> first | exact h | exact h.elim
/-- Into a function that holds a range over a function. -/
theorem enM {f : FuncId} {fn : Func} {vs : List Value} {w : World} {K : Ending → World → Prop} (n : Nat)
    (hf : P.funcs[f]? = some fn) (k : Goal P (bodyPostM Fence.wide 1 P fn K) (fun _ => undef) n [] ⟨.code (bodyOf fn), [], enterL vs 0⟩ w) (hb : fn.body.isSome = true := by kernel_rfl) (hn : fn.ntmps = n := by kernel_rfl) (hle : Nat.ble vs.length n = true := by kernel_rfl) : Calls P f vs.toArray w K := by
  unfold bodyOf at k
  cases h : fn.body with
  | none => simp [h] at hb
  | some c =>
    rw [h] at k
    have hle := Nat.le_of_ble_eq_true hle
    refine (callsIn_wide (n := 1)).1 (callsIn_of_wp_marks hf h trivial (wpIn_wide.2 ?_))
    have e : ({ tmps := vs.toArray ++ Array.replicate (fn.ntmps - vs.toArray.size) undef, defers := [] } : Act) = Fr (fun _ => undef) n (enterL vs 0) [] := by
      unfold Fr
      congr 1
      apply Array.ext
      · simp [hn]; omega
      · intro j h1 h2
        simp only [Array.getElem_ofFn, get_enterL, Nat.zero_le, true_and, Nat.sub_zero]
        by_cases hj : j < vs.length
        · rw [dif_pos hj, Array.getElem_append_left (by simpa using hj)]
          simp
        · rw [dif_neg hj, Array.getElem_append_right (by simpa using hj)]
          simp
    rw [e]
    exact k
def rfR (x : St) : Option (Nat × Nat × St × Operand × Array Tmp × Code × Code) :=
  match x.f with
  | .code c => match c with
    | .rangeFunc g ps as bd => some (0, 0, x, g, ps, as, bd)
    | _ => none
  | _ => none
/-- At the statement. -/
theorem rf0 (m : Nat) (g : Operand) (ps : Array Tmp) (as bd : Code) (l' : List (Nat × Value))
    (k : (Code.rangeFunc g ps as bd).wpIn Fence.wide 1 P (post P B (vX (via P b n m w x rfR)).1.k) (Fr b n l' d) w)
    (h : vA (via P b n m w x rfR) = vB w (via P b n m w x rfR) := by kernel_rfl)
    (h2 : (vX (via P b n m w x rfR)).2 = (g, ps, as, bd) := by kernel_rfl) (h3 : (vX (via P b n m w x rfR)).1.l = l' := by kernel_rfl) : Goal P B b n d x w := by
  subst h3
  obtain ⟨a, y, hr, hf⟩ := via_ok h
  refine run_sound hr ?_
  generalize vX (via P b n m w x rfR) = z at *
  obtain ⟨f, kk, ll⟩ := y
  unfold rfR at hf
  split at hf <;> try contradiction
  rename_i c hc
  split at hf <;> try contradiction
  rename_i g' ps' as' bd'
  simp only [Option.some.injEq, Prod.mk.injEq] at hf
  obtain ⟨_, _, rfl⟩ := hf
  simp only [Prod.mk.injEq] at h2 hc
  obtain ⟨rfl, rfl, rfl, rfl⟩ := h2
  subst hc
  exact wpIn_wide.1 k
/-- The way out: the block of the rounds' deferred calls is shut. -/
theorem rtM {fn : Func} {K : Ending → World → Prop} (m : Nat) (I : List Nat) (H : Hs w0 L0 w L) (v : Value) (j D : Nat) (hj : L[j]? = some (.blk D (.deferred (some [])))) (k : ∀ w', Hs w0 L0 w' (L.set j (.blk D (.deferred none))) → K (.returned v) w')
    (h : vA (via P b n m w x (rtR P fn b n (L.set j (.blk D (.deferred none))) I)) = vB w (via P b n m w x (rtR P fn b n (L.set j (.blk D (.deferred none))) I)) := by kernel_rfl)
    (he : (vX (via P b n m w x (rtR P fn b n (L.set j (.blk D (.deferred none))) I))).1.map (·.1) = (vX (via P b n m w x (rtR P fn b n (L.set j (.blk D (.deferred none))) I))).1.map (·.2) := by kernel_rfl)
    (hv : (vX (via P b n m w x (rtR P fn b n (L.set j (.blk D (.deferred none))) I))).2 = v := by kernel_rfl) : Goal P (bodyPostM Fence.wide 1 P fn K) b n [{ target := .collected D, args := #[] }] x w := by
  obtain ⟨a, y, hr, hf⟩ := via_ok h
  refine run_sound hr ?_
  generalize vX (via P b n m w x (rtR P fn b n (L.set j (.blk D (.deferred none))) I)) = z at *
  obtain ⟨f, k', l⟩ := y
  unfold rtR at hf
  split at hf <;> try contradiction
  rename_i hk
  split at hf <;> try contradiction
  rename_i hfo
  split at hf <;> try contradiction
  rename_i e vs hl
  simp only [Option.some.injEq, Prod.mk.injEq] at hf
  obtain ⟨_, _, rfl⟩ := hf
  simp only at hk hfo he hv hl
  subst hk hv
  have hD : Has w D (.deferred (some [])) := H.at j hj
  have H' : Hs w0 L0 (w.putObj D (.deferred none)) (L.set j (.blk D (.deferred none))) := H.set hj (grownBy_putObj' w D _) (World.putObj_heap_same (Has.lt hD))
  have hres := rt_res (rt_list hl he H'.sp)
  have key : LeavesInM Fence.wide 1 P fn (Fr b n l [{ target := .collected D, args := #[] }]).tmps K [{ target := .collected D, args := #[] }] .returning w :=
    ⟨by simp, .inl ⟨D, _, rfl, run_takeDeferred hD, ⟨_, hres, k _ H'⟩⟩⟩
  unfold Goal
  cases f with
  | ex e => cases e <;> simp only [reduceCtorEq] at hfo <;> exact key
  | code c => simp at hfo
  | ops o j => simp at hfo
  | op1 _ _ _ => simp at hfo
  | kk _ => simp at hfo
  | any _ _ _ _ _ => simp at hfo
end
end Go.Sx
