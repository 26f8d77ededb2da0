/- The law General returns true of every list of pairs and of everything that is given, where these are together of bulk at most 1048576. -/
import Derived.Test.YtfkkocjheeoobaaSopen
import Derived.Test.YtfkkocjheeoobaaSw11
import Derived.Lib.SmallJoins
import Derived.ShutString
set_option linter.unusedVariables false
set_option linter.unusedSimpArgs false
set_option linter.unusedVariables false
set_option linter.unusedSimpArgs false
namespace Go.Proofs.Ytfkkocjheeoobaa.general
open Go.ChangeShapes Go.WideShapes Go.ChangeAt Go.RowKit Go.Deep
open Go.WideMaps Go.WideElems Go.Slv Go.Proofs.Ytfkkocjheeoobaa Go.Proofs.Ytfkkocjheeoobaa.open_
theorem own : ownKnob Try.prog.godebug = none := by kernel_rfl
theorem laidOut : laidOutB Try.prog = true := by kernel_rfl
theorem trodAll_below {H : Type} {enc : TypeId × Value → H} {P : Program} (hl : laidOutB P = true) {W W' : World} (hb : Below W.heap.size W W') :
    ∀ (ts : List TypeId) (vs : List Value) (ds : List (DataW H)) (ps : List MemPlace), (∀ t ∈ ts, P.readableRec t = true ∧ t < P.types.size) → (∀ x ∈ ps, x.block < W.heap.size) →
      DataW.TrodAll enc P W 0 (fun _ => true) true ts vs ds ps → DataW.TrodAll enc P W' 0 (fun b => decide (b < W.heap.size)) true ts vs ds ps
  | [], [], [], _, _, _, h => h
  | t :: ts, v :: vs, d :: ds, ps, hr, hlt, h => by
    obtain ⟨p, q, h1, h2, e⟩ := h
    subst e
    exact ⟨p, q, Below.trod hl (hr t (by simp)).1 (hr t (by simp)).2 h1 hb (fun x hx => hlt x (List.mem_append_left _ hx)),
      trodAll_below hl hb ts vs ds q (fun u hu => hr u (by simp [hu])) (fun x hx => hlt x (List.mem_append_right _ hx)) h2, rfl⟩
  | [], _ :: _, _, _, _, _, h => h.elim
  | [], [], _ :: _, _, _, _, h => h.elim
  | _ :: _, [], _, _, _, _, h => h.elim
  | _ :: _, _ :: _, [], _, _, _, h => h.elim
set_option maxRecDepth 20000 in
attribute [local irreducible] Go.Calls in
/-- The call on arguments that are read. -/
theorem call {H : Type} {enc : TypeId × Value → H} (W : World) (base : Nat) (u v : Value) (d d' : DataW H) (p p' : List MemPlace) (K : Ending → World → Prop)
    (hu : Value.okWide Try.prog W .any base 22 u) (hv : Value.okWide Try.prog W .any base 34 v) (h : DataW.Trod enc Try.prog W 0 (fun _ => true) true 22 u d p) (h' : DataW.Trod enc Try.prog W 0 (fun _ => true) true 34 v d' p') (hb : Rows.uptoBulk d' ≤ 1048576) (hK : ∀ W', Gx.Ext W W' → K (.returned (.bool true)) W') : Calls Try.prog 4 #[u, v] W K := by
  obtain ⟨fuel, h0⟩ := h
  obtain ⟨fuel', h1⟩ := h'
  obtain ⟨A0, n0, c0, rfl⟩ := okWide_slice Try.underlying22 hu
  obtain ⟨A1, n1, c1, rfl⟩ := okWide_slice Try.underlying34 hv
  obtain ⟨A, rl, c, e0, a1, a2, hR⟩ := open_pairs h0
  obtain ⟨B, gs, c', e1, b1, b2, b3, hG⟩ := open_given h1 hb
  rw [e0, e1]
  have H0 : Sx.Sp W [psI (Ent W) A rl, gvI (Ent W) B gs] := ⟨fun it hi => by
    rcases List.mem_cons.1 hi with rfl | hi
    · exact ⟨hR, fun _ h => h, psI_loc _ _ _⟩
    · rw [List.mem_singleton.1 hi]
      exact ⟨hG, fun _ h => h, gv_loc _ _ _⟩, List.pairwise_cons.2 ⟨fun y hy => by rw [List.mem_singleton.1 hy]; exact (fun e => by cases e), List.pairwise_singleton _ _⟩⟩
  refine General_c (Ent W) A rl.length c rl (Ent W) B gs.length c' gs W _ H0 ⟨rfl, a1, a2⟩ ⟨rfl, by omega, fun g hg => by have := b3 g hg; omega⟩ (fun W' hH => hK W' ?_)
  exact Sx.Kp.ext (hH.kp.mono fun x hx => by
    obtain ⟨it, hi, hw, _⟩ := hx
    rcases List.mem_cons.1 hi with rfl | hi
    · cases hw
    · rw [List.mem_singleton.1 hi] at hw; cases hw)
set_option maxRecDepth 100000 in
theorem lifted (os : Os) (started : os.Started) (H : Type) (enc : TypeId × Value → H) (F : Stop.Interp) :
    ReturnsInHanded {} Try.checked os 4 .any ((Rows.OpenSpec.upto Rows.generalSpec).pre6 enc Try.prog Try.f4 Rows.generalUptoRow.domain false) (((Rows.OpenSpec.upto Rows.generalSpec).at F).post enc Try.prog Try.f4 false true false false) := by
  refine returnsInHanded_of_cond (C := Try.checked) (s := Rows.OpenSpec.upto Rows.generalSpec) (k := Rows.uptoSmall) rfl own started (by kernel_rfl) Try.func4
    (OpenSpec.witness (enc := enc) (C := Try.checked) (s := Rows.OpenSpec.upto Rows.generalSpec) (k := Rows.uptoSmall) rfl false ⟨#[], #[.slice none 0 0, .slice none 0 0], []⟩ 8 (by kernel_rfl) (by kernel_rfl) (by kernel_rfl)
      (x := ([.nil, .nil], [], [])) (by kernel_rfl) rfl (by kernel_rfl)) ?_
  intro W base args ds gs before hval0 hW _ hk _
  have hval : ∀ (j : Nat) t v, Try.f4.params[j]? = some t → args[j]? = some v → Value.okWide Try.prog W .any base t v := hval0
  have hW' := hW
  have hlt := hW.lt
  obtain ⟨p, q, hA0, hV, rfl, hfz, hnd⟩ := hW
  have hA : DataW.TrodAll enc Try.prog W 0 (fun _ => true) true Try.f4.params.toList args.toList ds p := hA0
  have hAk := hA
  rw [Try.params4] at hA hval
  obtain ⟨v0, v1, d0, d1, p0, p1, rfl, rfl, rfl, h0, h1⟩ := trodAll_two hA
  obtain ⟨rfl, rfl⟩ := trodVars_none hV
  have hbk : Rows.uptoBulk d1 ≤ 1048576 := by
    have h := of_decide_eq_true hk
    simp only [Rows.uptoBulkAll, List.append_nil] at h
    omega
  refine call W base v0 v1 d0 d1 p0 p1 _ (hval 0 22 v0 rfl rfl) (hval 1 34 v1 rfl rfl) h0 h1 hbk (fun W' hb => ?_)
  exact ⟨_, rfl, _, _, _, [], p0 ++ p1, [], hW', trodAll_mk1 (shut_bool Try.underlying4 true),
    trodAll_below laidOut hb.below _ _ _ _ (by rw [Try.params4]; intro t ht; simp at ht; rcases ht with rfl | rfl <;> exact ⟨by kernel_rfl, of_decide_eq_true (by kernel_rfl)⟩) (fun x hx => hlt x (by simpa using hx)) hAk, rfl, hb.below.frame _, fun h => by cases h⟩
theorem over : Rows.generalUptoRow.holds Try.pinned (Rows.OpenSpec.upto Rows.generalSpec) :=
  OpenClaim.holds_of_cond 4 Try.f4 rfl rfl rfl rfl rfl rfl rfl ⟨rfl, rfl, rfl, rfl, rfl⟩ rfl rfl rfl rfl rfl (by kernel_rfl) Try.func4 (by kernel_rfl)
    (of_decide_eq_true (by kernel_rfl)) (by unfold Func.isWrapper; first | (rw [if_pos (by decide +kernel)]; kernel_rfl) | (rw [if_neg (by decide +kernel)]; exact ⟨rfl, rfl⟩))
    (fun os started H enc _ F => lifted os started H enc F)
theorem proved : Rows.GeneralUptoSaid := over
#print axioms proved
end Go.Proofs.Ytfkkocjheeoobaa.general
