/- The law Stacks returns true of every script: the program's two stacks and the document's are alike behind each operation. There are no conditions. -/
import Derived.Test.YtokplpijjnkboaaRows
import Derived.Test.YtokplpijjnkboaaStw10
import Derived.Lib.SmallJoins
import Derived.Deep.Slices
import Derived.WalkKit
import Derived.ProofKit
import Derived.OpenShut
import Derived.ShutString
set_option linter.unusedVariables false
set_option linter.unusedSimpArgs false
namespace Go.Proofs.Ytokplpijjnkboaa.stacks
open Go.ChangeShapes Go.WideShapes Go.ChangeAt Go.RowKit Go.Deep
open Go.WideMaps Go.WideElems Go.Stk Go.Proofs.Ytokplpijjnkboaa
theorem own : ownKnob Try.prog.godebug = none := by kernel_rfl
theorem laidOut : laidOutB Try.prog = true := by kernel_rfl
theorem c32 : Try.prog.cellsOf 32 = 2 := by kernel_rfl
theorem c3 : Try.prog.cellsOf 3 = 1 := by kernel_rfl
theorem trodAll_below {H : Type} {enc : TypeId × Value → H} {P : Program} (hl : laidOutB P = true) {W W' : World} (hb : Below W.heap.size W W') :
    ∀ (ts : List TypeId) (vs : List Value) (ds : List (DataW H)) (ps : List MemPlace), (∀ t ∈ ts, P.readableRec t = true ∧ t < P.types.size) → (∀ x ∈ ps, x.block < W.heap.size) →
      DataW.TrodAll enc P W 0 (fun _ => true) true ts vs ds ps → DataW.TrodAll enc P W' 0 (fun b => decide (b < W.heap.size)) true ts vs ds ps
  | [], [], [], _, _, _, h => h
  | t :: ts, v :: vs, d :: ds, ps, hr, hlt, h => by
    obtain ⟨p, q, h1, h2, e⟩ := h
    subst e
    exact ⟨p, q, Below.trod hl (hr t (by simp)).1 (hr t (by simp)).2 h1 hb (fun x hx => hlt x (List.mem_append_left _ hx)),
      trodAll_below hl hb ts vs ds q (fun u hu => hr u (by simp [hu])) (fun x hx => hlt x (List.mem_append_right _ hx)) h2, rfl⟩
  | [], _ :: _, _, _, _, _, h => h.elim
  | [], [], _ :: _, _, _, _, h => h.elim
  | _ :: _, [], _, _, _, _, h => h.elim
  | _ :: _, _ :: _, [], _, _, _, h => h.elim
/-- The script's operations. -/
theorem ops_open {H : Type} {enc : TypeId × Value → H} {w : World} {sp : Nat → Bool} {held : Bool} {fuel : Nat} {v : Value} {x : DataW H × List MemPlace} (h : DataW.trod enc Try.prog w 0 sp held fuel 22 [v] = some x) :
    ∃ (A : Option Addr) (n c : Nat) (kd nn : Nat → Int), v = .slice A n c ∧ Gx.Rd w A n 2 (fun i => [.int .i64 (kd i), .int .i64 (nn i)]) := by
  rcases open_slice Try.underlying22 h with ⟨hn, _⟩ | ⟨a, len, cap, m, n, D, Pl, hc, _, hl, _, hm, rfl, hx⟩
  · injection hn with hn
    exact ⟨none, 0, 0, fun _ => 0, fun _ => 0, hn, fun i hi => absurd hi (Nat.not_lt_zero i)⟩
  · injection hc with hc
    have hlm : len ≤ m := by rw [hm]; split <;> omega
    have hk : ∀ i, i < len → ∃ p : Int × Int, w.cells? 0 (a.add (i * 2)) 2 = some [.int .i64 p.1, .int .i64 p.2] := fun i hi => by
      obtain ⟨cs, h1, h2⟩ := hx i (by omega)
      rw [c32] at h1
      obtain ⟨y0, y1, k, hk, hl2, t0, t1⟩ := trod_struct2 Try.underlying32 h2
      rw [c32] at hl2
      match cs, hl2 with
      | [p, q], _ =>
        simp only [c3, List.drop_zero, List.take_succ_cons, List.take_zero, List.drop_succ_cons] at t0 t1
        obtain ⟨x0, k0, _, _⟩ := DataW.trod_int Try.underlying3 t0
        obtain ⟨x1, k1, _, _⟩ := DataW.trod_int Try.underlying3 t1
        injection k0 with k0; injection k1 with k1
        subst k0 k1
        exact ⟨(x0, x1), h1⟩
    refine ⟨some a, len, cap, fun i => if hi : i < len then (hk i hi).choose.1 else 0, fun i => if hi : i < len then (hk i hi).choose.2 else 0, by simpa using hc, fun i hi => ⟨a, rfl, ?_⟩⟩
    simp only [dif_pos hi]
    exact (hk i hi).choose_spec
attribute [local irreducible] Go.Calls in
/-- The call on an argument that is read. -/
theorem call {H : Type} {enc : TypeId × Value → H} (W : World) (base : Nat) (v : Value) (d : DataW H) (p : List MemPlace) (K : Ending → World → Prop)
    (hval : Value.okWide Try.prog W .any base 22 v) (h : DataW.Trod enc Try.prog W 0 (fun _ => true) true 22 v d p) (hK : ∀ W', Gx.Ext W W' → K (.returned (.bool true)) W') : Calls Try.prog 3 #[v] W K := by
  obtain ⟨fuel, h0⟩ := h
  obtain ⟨A0, n0, c0, rfl⟩ := okWide_slice Try.underlying22 hval
  obtain ⟨A, n, c, kd, nn, e0, hR⟩ := ops_open h0
  rw [e0]
  refine Stacks_c A n c kd nn W _ (ent_sp W) hR (fun W' hH => hK W' ?_)
  exact Sx.Kp.ext (hH.kp.mono fun x hx => by obtain ⟨it, hi, hw, _⟩ := hx; rw [List.mem_singleton.1 hi] at hw; cases hw)
set_option maxRecDepth 100000 in
theorem lifted (os : Os) (started : os.Started) (H : Type) (enc : TypeId × Value → H) :
    ReturnsInHanded {} Try.checked os 3 .any (Rows.stacksSpec.pre6 enc Try.prog Try.f3 Rows.stacksRow.domain false) (Rows.stacksSpec.post enc Try.prog Try.f3 false true false false) := by
  refine returnsInHanded_of_change (C := Try.checked) own started (by kernel_rfl) Try.func3
    (ChangeSpec.witness6 (enc := enc) (C := Try.checked) false ⟨#[], #[.slice none 0 0], []⟩ 8 (by kernel_rfl) (by kernel_rfl) (by kernel_rfl) (by kernel_rfl)) ?_
  intro W base args ds gs before hval0 hW hcnd _
  have hval : ∀ (j : Nat) t v, Try.f3.params[j]? = some t → args[j]? = some v → Value.okWide Try.prog W .any base t v := hval0
  have hW' := hW
  have hlt := hW.lt
  obtain ⟨p, q, hA0, hV, rfl, hfz, hnd⟩ := hW
  have hA : DataW.TrodAll enc Try.prog W 0 (fun _ => true) true Try.f3.params.toList args.toList ds p := hA0
  have hAk := hA
  rw [Try.params3] at hA hval
  obtain ⟨v0, d0, rfl, rfl, h0⟩ := trodAll_one hA
  obtain ⟨rfl, rfl⟩ := trodVars_none hV
  refine call W base v0 d0 p _ (hval 0 22 v0 rfl rfl) h0 (fun W' hb => ?_)
  exact ⟨_, rfl, _, _, _, [], p, [], hW', trodAll_mk1 (shut_bool Try.underlying4 true),
    trodAll_below laidOut hb.below _ _ _ _ (by rw [Try.params3]; intro t ht; simp at ht; subst ht; exact ⟨by kernel_rfl, of_decide_eq_true (by kernel_rfl)⟩) (fun x hx => hlt x (by simpa using hx)) hAk, rfl, hb.below.frame _, fun h => by cases h⟩
theorem over : Rows.stacksRow.holds Try.pinned (OpenSpec.ofChange Rows.stacksSpec) :=
  OpenClaim.holds_of_wide 3 Try.f3 rfl rfl rfl rfl rfl rfl rfl ⟨rfl, rfl, rfl, rfl, rfl⟩ rfl rfl rfl rfl rfl (by kernel_rfl) Try.func3 (by kernel_rfl)
    (of_decide_eq_true (by kernel_rfl)) (by unfold Func.isWrapper; first | (rw [if_pos (by decide +kernel)]; kernel_rfl) | (rw [if_neg (by decide +kernel)]; exact ⟨rfl, rfl⟩))
    (fun os started H enc _ => lifted os started H enc)
theorem proved : Rows.StacksSaid := over
#print axioms proved
end Go.Proofs.Ytokplpijjnkboaa.stacks
