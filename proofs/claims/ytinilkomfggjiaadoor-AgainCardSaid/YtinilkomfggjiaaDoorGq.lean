/- Deferred calls, of a function that recovers: one step at a time. -/
import Derived.Test.YtinilkomfggjiaaDoorGp
import Derived.Defers
import Derived.Recover
set_option linter.unusedVariables false
set_option linter.unusedSimpArgs false
namespace Go.Gq
open Go.Gx
section
variable {P : Program} {Q : Exit → Act → World → Prop} {w : World} {ops : Array Oper} {b : Nat → Value} {n : Nat} {l : List (Nat × Value)} {d : List Deferred} {K : Act → World → Prop}
theorem op_defer {i : Nat} {o : Oper} (D : Deferred) (ho : ops[i]? = some o) (hg : Region.wanted o (yl ops b n l) = true) (hr : (execOp (ev b n l) o).run P w = .ok (.defer D) w)
    (k : K (Fr b n (putL o undef l) (D :: d)) w) : wpOp P ops Q i K (Fr b n l d) w := by
  simp only [wpOp, ho]
  rw [yielded_Fr, if_pos hg]
  refine .inl ?_
  unfold Oper.wp
  rw [eval_Fr, hr]
  rw [Oper.upon_defer]
  have e : ({ Fr b n l d with defers := D :: (Fr b n l d).defers } : Act) = Fr b n l (D :: d) := rfl
  rw [e, put_putL]
  exact k
end
theorem enter_frame {fn : Func} {vs : List Value} (n : Nat) (hn : fn.ntmps = n) (hle : vs.length ≤ n) :
    ({ tmps := vs.toArray ++ Array.replicate (fn.ntmps - vs.toArray.size) undef, defers := [] } : Act) = Fr (fun _ => undef) n (enterL vs 0) [] := by
  unfold Fr
  congr 1
  apply Array.ext
  · simp [hn]; omega
  · intro j h1 h2
    simp only [Array.getElem_ofFn, get_enterL, Nat.zero_le, true_and, Nat.sub_zero]
    by_cases hj : j < vs.length
    · rw [dif_pos hj, Array.getElem_append_left (by simpa using hj)]
      simp
    · rw [dif_neg hj, Array.getElem_append_right (by simpa using hj)]
      simp
theorem noPanic {P : Program} {c : Code} {Q : Exit → Act → World → Prop} {a : Act} {w : World} (h : c.wp P (fun e a' w' => match e with | .normal => Q .normal a' w' | _ => False) a w) : c.wp P Q a w :=
  Code.wp_mono (fun e a' w' q => by cases e <;> first | exact q | exact q.elim) h
theorem enterDef {P : Program} {f : FuncId} {fn : Func} {c : Code} {vs : List Value} {w : World} {K : Ending → World → Prop} (n : Nat)
    (hf : P.funcs[f]? = some fn) (hb : fn.body = some c) (hn : fn.ntmps = n) (hle : vs.length ≤ n)
    (h : c.wp P (bodyPostD P fn K) (Fr (fun _ => undef) n (enterL vs 0) []) w) : Calls P f vs.toArray w K := by
  refine calls_of_wp_defers hf hb ?_
  rw [enter_frame n hn hle]
  exact h
theorem enterS {P : Program} {f : FuncId} {fn : Func} {c : Code} {vs : List Value} {w : World} {u : FrameMode} {R : Ending → FrameMode → World → Prop} (n : Nat)
    (hf : P.funcs[f]? = some fn) (hb : fn.body = some c) (hn : fn.ntmps = n) (hle : vs.length ≤ n)
    (h : ∀ (c₀ : Frame) (cs : List Frame), c₀.mode = u → c.wpS P (bodyPostS P fn c₀ cs R) (Fr (fun _ => undef) n (enterL vs 0) []) (c₀ :: cs) w) : CallsD P f vs.toArray u w R := by
  refine callsD_of_wpS hf hb fun c₀ cs hu => ?_
  rw [enter_frame n hn hle]
  exact h c₀ cs hu
section
variable {P : Program} {w : World} {b : Nat → Value} {n : Nat} {l : List (Nat × Value)} {d : List Deferred} {o : Oper} {y : Code} {id : Nat} {c₀ : Frame} {cs : List Frame}
theorem rec_some {Q : Exit → Act → List Frame → World → Prop} {v : Value} (hop : (execOp (ev b n l) o).run P w = .ok .recover w) (hg : Region.wanted o (yl #[o] b n l) = true)
    (hu : c₀.mode = .panicking [{ v := v, recovered := false }])
    (h : y.wp P (fun e a' w' => Q e a' ({ c₀ with mode := .panicking [{ v := v, recovered := true }] } :: cs) w') (Fr b n (putL o v l) d) w) :
    (Code.seq (Code.region id #[o] false) y).wpS P Q (Fr b n l d) (c₀ :: cs) w := by
  apply wpS_seq
  apply wpS_region
  show wpOpsS P #[o] _ [0] _ _ _
  unfold wpOpsS
  simp only [List.getElem?_toArray, List.getElem?_cons_zero]
  rw [yielded_Fr, if_pos hg, eval_Fr, hop]
  simp only [recoverD, hu]
  unfold wpOpsS
  rw [put_putL]
  exact wpS_of_wp h
theorem rec_none {Q : Exit → Act → List Frame → World → Prop} (hop : (execOp (ev b n l) o).run P w = .ok .recover w) (hg : Region.wanted o (yl #[o] b n l) = true)
    (hu : c₀.mode = .returning)
    (h : y.wp P (fun e a' w' => Q e a' (c₀ :: cs) w') (Fr b n (putL o .nilIface l) d) w) :
    (Code.seq (Code.region id #[o] false) y).wpS P Q (Fr b n l d) (c₀ :: cs) w := by
  apply wpS_seq
  apply wpS_region
  show wpOpsS P #[o] _ [0] _ _ _
  unfold wpOpsS
  simp only [List.getElem?_toArray, List.getElem?_cons_zero]
  rw [yielded_Fr, if_pos hg, eval_Fr, hop]
  simp only [recoverD, hu]
  unfold wpOpsS
  rw [put_putL]
  exact wpS_of_wp h
theorem retS {fn : Func} {R : Ending → FrameMode → World → Prop} {u' : FrameMode} (h0 : fn.results = #[]) (h : R (.returned (.tuple #[])) u' w) :
    bodyPostS P fn c₀ cs R .normal (Fr b n l []) ({ c₀ with mode := u' } :: cs) w := ⟨rfl, u', rfl, .tuple #[], res0 h0, h⟩
theorem retS0 {fn : Func} {R : Ending → FrameMode → World → Prop} {u : FrameMode} (hu : c₀.mode = u) (h0 : fn.results = #[]) (h : R (.returned (.tuple #[])) u w) :
    bodyPostS P fn c₀ cs R .normal (Fr b n l []) (c₀ :: cs) w := ⟨rfl, u, by subst hu; rfl, .tuple #[], res0 h0, h⟩
end
section
variable {P : Program} {fn : Func} {K : Ending → World → Prop} {b : Nat → Value} {n : Nat} {l : List (Nat × Value)} {w : World} {v : Value}
theorem retD (hr : (results fn (Fr b n l []).tmps).run P w = .ok v w) (h : K (.returned v) w) : bodyPostD P fn K .ret (Fr b n l []) w := ⟨v, hr, h⟩
theorem retD1 {f : FuncId} {cap args : Array Value} (hi : (invoke (.fn (.func f) cap) #[]).run P w = .ok (.enter f args) w)
    (h : CallsD P f args .returning w (fun e u' w' => e = .returned (.tuple #[]) ∧ u' = .returning ∧ ∃ r, (results fn (Fr b n l [{ target := .fn (.func f) cap, args := #[] }]).tmps).run P w' = .ok r w' ∧ K (.returned r) w')) :
    bodyPostD P fn K .ret (Fr b n l [{ target := .fn (.func f) cap, args := #[] }]) w := by
  show Leaves P fn (Fr b n l [{ target := .fn (.func f) cap, args := #[] }]).tmps K [{ target := .fn (.func f) cap, args := #[] }] .returning w
  refine leaves_cons (by simp) hi (h.mono ?_)
  rintro e u' w' ⟨rfl, rfl, h⟩
  exact h
theorem panicD1 {f : FuncId} {cap args : Array Value} {v : Value} (hi : (invoke (.fn (.func f) cap) #[]).run P w = .ok (.enter f args) w)
    (h : CallsD P f args (.panicking [{ v := v, recovered := false }]) w (fun e u' w' => e = .returned (.tuple #[]) ∧ u' = .panicking [{ v := v, recovered := true }] ∧ ∃ r, (results fn (Fr b n l [{ target := .fn (.func f) cap, args := #[] }]).tmps).run P w' = .ok r w' ∧ K (.returned r) w')) :
    bodyPostD P fn K (.panic [{ v := v, recovered := false }]) (Fr b n l [{ target := .fn (.func f) cap, args := #[] }]) w := by
  show Leaves P fn (Fr b n l [{ target := .fn (.func f) cap, args := #[] }]).tmps K [{ target := .fn (.func f) cap, args := #[] }] (.panicking [{ v := v, recovered := false }]) w
  refine leaves_cons (by simp) hi (h.mono ?_)
  rintro e u' w' ⟨rfl, rfl, h⟩
  exact h
end
end Go.Gq
