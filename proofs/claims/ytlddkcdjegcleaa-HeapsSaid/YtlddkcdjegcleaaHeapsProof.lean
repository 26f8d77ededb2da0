/- The law Heaps returns true of every script: the program's heap and the document's are alike behind each operation. There are no conditions. -/
import Derived.Test.YtlddkcdjegcleaaRows
import Derived.Test.YtlddkcdjegcleaaHw12
import Derived.Lib.SmallJoins
import Derived.Deep.Slices
import Derived.WalkKit
import Derived.ProofKit
import Derived.OpenShut
import Derived.ShutString
set_option linter.unusedVariables false
set_option linter.unusedSimpArgs false
namespace Go.Proofs.Ytlddkcdjegcleaa.heaps
open Go.ChangeShapes Go.WideShapes Go.ChangeAt Go.RowKit Go.Deep
open Go.WideMaps Go.WideElems Go.Hp Go.Proofs.Ytlddkcdjegcleaa
theorem own : ownKnob Try.prog.godebug = none := by kernel_rfl
theorem laidOut : laidOutB Try.prog = true := by kernel_rfl
theorem c33 : Try.prog.cellsOf 33 = 5 := by kernel_rfl
theorem c3 : Try.prog.cellsOf 3 = 1 := by kernel_rfl
theorem trodAll_below {H : Type} {enc : TypeId × Value → H} {P : Program} (hl : laidOutB P = true) {W W' : World} (hb : Below W.heap.size W W') :
    ∀ (ts : List TypeId) (vs : List Value) (ds : List (DataW H)) (ps : List MemPlace), (∀ t ∈ ts, P.readableRec t = true ∧ t < P.types.size) → (∀ x ∈ ps, x.block < W.heap.size) →
      DataW.TrodAll enc P W 0 (fun _ => true) true ts vs ds ps → DataW.TrodAll enc P W' 0 (fun b => decide (b < W.heap.size)) true ts vs ds ps
  | [], [], [], _, _, _, h => h
  | t :: ts, v :: vs, d :: ds, ps, hr, hlt, h => by
    obtain ⟨p, q, h1, h2, e⟩ := h
    subst e
    exact ⟨p, q, Below.trod hl (hr t (by simp)).1 (hr t (by simp)).2 h1 hb (fun x hx => hlt x (List.mem_append_left _ hx)),
      trodAll_below hl hb ts vs ds q (fun u hu => hr u (by simp [hu])) (fun x hx => hlt x (List.mem_append_right _ hx)) h2, rfl⟩
  | [], _ :: _, _, _, _, _, h => h.elim
  | [], [], _ :: _, _, _, _, h => h.elim
  | _ :: _, [], _, _, _, _, h => h.elim
  | _ :: _, _ :: _, [], _, _, _, h => h.elim
/-- Structs of five fields. -/
theorem trod_struct5 {H : Type} {enc : TypeId × Value → H} {P : Program} {w : World} {base : Nat} {spare : Nat → Bool} {held : Bool} {t : TypeId} {f0 f1 f2 f3 f4 : Field} {fuel : Nat} {cs : List Value} {x : DataW H × List MemPlace} (ht : P.underlying t = some (.struct #[f0, f1, f2, f3, f4])) (h : DataW.trod enc P w base spare held fuel t cs = some x) :
    ∃ y0 y1 y2 y3 y4 n, cs.length = P.cellsOf t ∧ DataW.trod enc P w base spare held n f0.type ((cs.drop f0.offset).take (P.cellsOf f0.type)) = some y0 ∧ DataW.trod enc P w base spare held n f1.type ((cs.drop f1.offset).take (P.cellsOf f1.type)) = some y1 ∧
      DataW.trod enc P w base spare held n f2.type ((cs.drop f2.offset).take (P.cellsOf f2.type)) = some y2 ∧ DataW.trod enc P w base spare held n f3.type ((cs.drop f3.offset).take (P.cellsOf f3.type)) = some y3 ∧ DataW.trod enc P w base spare held n f4.type ((cs.drop f4.offset).take (P.cellsOf f4.type)) = some y4 := by
  obtain ⟨xs, n, _, rfl, hl, hlen, hf⟩ := DataW.trod_struct ht h
  match xs, hlen with
  | [y0, y1, y2, y3, y4], _ => exact ⟨y0, y1, y2, y3, y4, n, hl, by simpa using hf 0 f0 rfl, by simpa using hf 1 f1 rfl, by simpa using hf 2 f2 rfl, by simpa using hf 3 f3 rfl, by simpa using hf 4 f4 rfl⟩
/-- The script's operations. -/
theorem ops_open {H : Type} {enc : TypeId × Value → H} {w : World} {sp : Nat → Bool} {held : Bool} {fuel : Nat} {v : Value} {x : DataW H × List MemPlace} (h : DataW.trod enc Try.prog w 0 sp held fuel 22 [v] = some x) :
    ∃ (A : Option Addr) (n c : Nat) (kd rr aa bb cc : Nat → Int), v = .slice A n c ∧ Gx.Rd w A n 5 (fun i => [.int .i64 (kd i), .int .i64 (rr i), .int .i64 (aa i), .int .i64 (bb i), .int .i64 (cc i)]) := by
  rcases open_slice Try.underlying22 h with ⟨hn, _⟩ | ⟨a, len, cap, m, n, D, Pl, hc, _, hl, _, hm, rfl, hx⟩
  · injection hn with hn
    exact ⟨none, 0, 0, fun _ => 0, fun _ => 0, fun _ => 0, fun _ => 0, fun _ => 0, hn, fun i hi => absurd hi (Nat.not_lt_zero i)⟩
  · injection hc with hc
    have hlm : len ≤ m := by rw [hm]; split <;> omega
    have hk : ∀ i, i < len → ∃ p : Int × Int × Int × Int × Int, w.cells? 0 (a.add (i * 5)) 5 = some [.int .i64 p.1, .int .i64 p.2.1, .int .i64 p.2.2.1, .int .i64 p.2.2.2.1, .int .i64 p.2.2.2.2] := fun i hi => by
      obtain ⟨cs, h1, h2⟩ := hx i (by omega)
      rw [c33] at h1
      obtain ⟨y0, y1, y2, y3, y4, k, hl2, t0, t1, t2, t3, t4⟩ := trod_struct5 Try.underlying33 h2
      rw [c33] at hl2
      match cs, hl2 with
      | [p, q, r, s, u], _ =>
        simp only [c3, List.drop_zero, List.take_succ_cons, List.take_zero, List.drop_succ_cons] at t0 t1 t2 t3 t4
        obtain ⟨x0, k0, _, _⟩ := DataW.trod_int Try.underlying3 t0
        obtain ⟨x1, k1, _, _⟩ := DataW.trod_int Try.underlying3 t1
        obtain ⟨x2, k2, _, _⟩ := DataW.trod_int Try.underlying3 t2
        obtain ⟨x3, k3, _, _⟩ := DataW.trod_int Try.underlying3 t3
        obtain ⟨x4, k4, _, _⟩ := DataW.trod_int Try.underlying3 t4
        injection k0 with k0; injection k1 with k1; injection k2 with k2; injection k3 with k3; injection k4 with k4
        subst k0 k1 k2 k3 k4
        exact ⟨(x0, x1, x2, x3, x4), h1⟩
    refine ⟨some a, len, cap, fun i => if hi : i < len then (hk i hi).choose.1 else 0, fun i => if hi : i < len then (hk i hi).choose.2.1 else 0, fun i => if hi : i < len then (hk i hi).choose.2.2.1 else 0, fun i => if hi : i < len then (hk i hi).choose.2.2.2.1 else 0, fun i => if hi : i < len then (hk i hi).choose.2.2.2.2 else 0, by simpa using hc, fun i hi => ⟨a, rfl, ?_⟩⟩
    simp only [dif_pos hi]
    exact (hk i hi).choose_spec
attribute [local irreducible] Go.Calls in
/-- The call on arguments that are read. -/
theorem call {H : Type} {enc : TypeId × Value → H} (W : World) (u v : Value) (d d' : DataW H) (p p' : List MemPlace) (K : Ending → World → Prop)
    (base : Nat) (hu : Value.okWide Try.prog W .any base 3 u) (hv : Value.okWide Try.prog W .any base 22 v) (h0 : DataW.Trod enc Try.prog W 0 (fun _ => true) true 3 u d p) (h : DataW.Trod enc Try.prog W 0 (fun _ => true) true 22 v d' p') (hK : ∀ W', Gx.Ext W W' → K (.returned (.bool true)) W') : Calls Try.prog 3 #[u, v] W K := by
  obtain ⟨fuel0, h0⟩ := h0
  obtain ⟨fuel, h1⟩ := h
  obtain ⟨z, rfl⟩ := okWide_int Try.underlying3 hu
  obtain ⟨A0, n0, c0, rfl⟩ := okWide_slice Try.underlying22 hv
  obtain ⟨A, n, c, kd, rr, aa, bb, cc, e0, hR⟩ := ops_open h1
  rw [e0]
  refine heaps_c z A n c kd rr aa bb cc W _ (ent_sp W) hR (fun W' hH => hK W' ?_)
  exact Sx.Kp.ext (hH.kp.mono fun x hx => by obtain ⟨it, hi, hw, _⟩ := hx; rw [List.mem_singleton.1 hi] at hw; cases hw)
set_option maxRecDepth 100000 in
theorem lifted (os : Os) (started : os.Started) (H : Type) (enc : TypeId × Value → H) :
    ReturnsInHanded {} Try.checked os 3 .any (Rows.heapsSpec.pre6 enc Try.prog Try.f3 Rows.heapsRow.domain false) (Rows.heapsSpec.post enc Try.prog Try.f3 false true false false) := by
  refine returnsInHanded_of_change (C := Try.checked) own started (by kernel_rfl) Try.func3
    (ChangeSpec.witness6 (enc := enc) (C := Try.checked) false ⟨#[], #[.int .i64 0, .slice none 0 0], []⟩ 8 (by kernel_rfl) (by kernel_rfl) (by kernel_rfl) (by kernel_rfl)) ?_
  intro W base args ds gs before hval0 hW hcnd _
  have hval : ∀ (j : Nat) t v, Try.f3.params[j]? = some t → args[j]? = some v → Value.okWide Try.prog W .any base t v := hval0
  have hW' := hW
  have hlt := hW.lt
  obtain ⟨p, q, hA0, hV, rfl, hfz, hnd⟩ := hW
  have hA : DataW.TrodAll enc Try.prog W 0 (fun _ => true) true Try.f3.params.toList args.toList ds p := hA0
  have hAk := hA
  rw [Try.params3] at hA hval
  obtain ⟨v0, v1, d0, d1, p0, p1, rfl, rfl, rfl, h0, h1⟩ := trodAll_two hA
  obtain ⟨rfl, rfl⟩ := trodVars_none hV
  refine call W v0 v1 d0 d1 p0 p1 _ base (hval 0 3 v0 rfl rfl) (hval 1 22 v1 rfl rfl) h0 h1 (fun W' hb => ?_)
  exact ⟨_, rfl, _, _, _, [], p0 ++ p1, [], hW', trodAll_mk1 (shut_bool Try.underlying4 true),
    trodAll_below laidOut hb.below _ _ _ _ (by rw [Try.params3]; intro t ht; simp at ht; rcases ht with rfl | rfl <;> exact ⟨by kernel_rfl, of_decide_eq_true (by kernel_rfl)⟩) (fun x hx => hlt x (by simpa using hx)) hAk, rfl, hb.below.frame _, fun h => by cases h⟩
theorem over : Rows.heapsRow.holds Try.pinned (OpenSpec.ofChange Rows.heapsSpec) :=
  OpenClaim.holds_of_wide 3 Try.f3 rfl rfl rfl rfl rfl rfl rfl ⟨rfl, rfl, rfl, rfl, rfl⟩ rfl rfl rfl rfl rfl (by kernel_rfl) Try.func3 (by kernel_rfl)
    (of_decide_eq_true (by kernel_rfl)) (by unfold Func.isWrapper; first | (rw [if_pos (by decide +kernel)]; kernel_rfl) | (rw [if_neg (by decide +kernel)]; exact ⟨rfl, rfl⟩))
    (fun os started H enc _ => lifted os started H enc)
theorem proved : Rows.HeapsSaid := over
#print axioms proved
end Go.Proofs.Ytlddkcdjegcleaa.heaps
