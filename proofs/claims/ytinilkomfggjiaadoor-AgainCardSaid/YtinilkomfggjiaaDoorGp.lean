/- Calls that may panic; what a walk does there. -/
import Derived.Test.YtinilkomfggjiaaDoorGs
set_option linter.unusedVariables false
set_option linter.unusedSimpArgs false
namespace Go.Gx
section
variable {P : Program} {Q : Exit → Act → World → Prop} {w : World} {ops : Array Oper} {b : Nat → Value} {n : Nat} {l : List (Nat × Value)} {d : List Deferred} {K : Act → World → Prop}
theorem op_callP {i f : Nat} {args : Array Value} {o : Oper} (ho : ops[i]? = some o) (hg : Region.wanted o (yl ops b n l) = true)
    (hr : (execOp (ev b n l) o).run P w = .ok (.enter f args) w)
    (k : ∀ R : Ending → World → Prop, (∀ v w', K (Fr b n (putL o v l) d) w' → R (.returned v) w') → (∀ ch w', Q (.panic ch) (Fr b n l d) w' → R (.panicked ch) w') → Calls P f args w R) : wpOp P ops Q i K (Fr b n l d) w := by
  simp only [wpOp, ho]
  rw [yielded_Fr, if_pos hg]
  refine .inl ?_
  unfold Oper.wp
  rw [eval_Fr, hr]
  simp only [Oper.upon, put_putL]
  exact k _ (fun v w' h => h) (fun ch w' h => h)
theorem panicked {fn : Func} {R : Ending → World → Prop} {ch : List PanicEntry} (h : R (.panicked ch) w) : bodyPost P fn R (.panic ch) (Fr b n l []) w := ⟨rfl, h⟩
end
end Go.Gx
namespace Go.Z
section
variable {P : Program} {Q : Exit → Act → World → Prop} {w : World} {ops : Array Oper} {b : Nat → Value} {n : Nat} {l : List (Nat × Value)} {d : List Deferred} {i : Nat} {f : Nat} {args : Array Value}
theorem kP {js : List Nat} {o : Oper} (k : ∀ R : Ending → World → Prop, (∀ v w', wpOps P ops Q js (Gx.Fr b n (Gx.putL o v l) d) w' → R (.returned v) w') → (∀ ch w', Q (.panic ch) (Gx.Fr b n l d) w' → R (.panicked ch) w') → Calls P f args w R)
    (ho : ops[i]? = some o := by exact rfl) (hg : Region.wanted o (Gx.yl ops b n l) = true := by kernel_rfl) (hr : (execOp (Gx.ev b n l) o).run P w = .ok (.enter f args) w := by kernel_rfl) : wpOps P ops Q (i :: js) (Gx.Fr b n l d) w := Gx.cons (Gx.op_callP ho hg hr k)
variable {S : World → Prop} {D : List Nat} {oi : Oper} {fuel : Nat} {listed : Array Bool}
theorem oP (i : Nat) (k : ∀ R : Ending → World → Prop, (∀ v w', (S w' ∧ wpAnyH P .any ops Q S fuel (listed.setIfInBounds i true) (Gx.Fr b n (Gx.putL oi v l) d) w') → R (.returned v) w') → (∀ ch w', Q (.panic ch) (Gx.Fr b n l d) w' → R (.panicked ch) w') → Calls P f args w R)
    (ho : ops[i]? = some oi := by exact rfl) (hr : Region.ready .any ops listed = [i] := by kernel_rfl) (hg : Region.wanted oi (Gx.yl ops b n l) = true := by kernel_rfl) (he : (execOp (Gx.ev b n l) oi).run P w = .ok (.enter f args) w := by kernel_rfl) :
    wpAnyH P .any ops Q S (fuel + 1) listed (Gx.Fr b n l d) w := Gx.any_one i hr (Gx.op_callP ho hg he k)
theorem eP (i : Nat) (k : ∀ R : Ending → World → Prop, (∀ v w', ((Gx.clear D (listed.setIfInBounds i true) = true → S w') ∧ Gx.anyE P .any ops Q S D fuel (listed.setIfInBounds i true) (Gx.Fr b n (Gx.putL oi v l) d) w') → R (.returned v) w') → (∀ ch w', Q (.panic ch) (Gx.Fr b n l d) w' → R (.panicked ch) w') → Calls P f args w R)
    (ho : ops[i]? = some oi := by exact rfl) (hr : Region.ready .any ops listed = [i] := by kernel_rfl) (hg : Region.wanted oi (Gx.yl ops b n l) = true := by kernel_rfl) (he : (execOp (Gx.ev b n l) oi).run P w = .ok (.enter f args) w := by kernel_rfl) :
    Gx.anyE P .any ops Q S D (fuel + 1) listed (Gx.Fr b n l d) w := Gx.anyE_one i hr (Gx.op_callP ho hg he k)
end
end Go.Z
