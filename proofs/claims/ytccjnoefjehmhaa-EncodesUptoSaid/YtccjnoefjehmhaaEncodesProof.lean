/- The law Encodes returns true of every code whose values and letters are together at most 1048576. -/
import Derived.Test.YtccjnoefjehmhaaEncOpen
import Derived.ShutString
namespace Go.Proofs.Ytccjnoefjehmhaa.encodes
open Go.ChangeShapes Go.WideShapes Go.ChangeAt Go.RowKit
open Go.WideMaps Go.WideElems Go.Enc Go.Deep
open Go.Proofs.Ytccjnoefjehmhaa.enc

theorem own : ownKnob Try.prog.godebug = none := by kernel_rfl
theorem laidOut : laidOutB Try.prog = true := by kernel_rfl

theorem trodAll_below {H : Type} {enc : TypeId × Value → H} {P : Program} (hl : laidOutB P = true) {W W' : World} (hb : Below W.heap.size W W') :
    ∀ (ts : List TypeId) (vs : List Value) (ds : List (DataW H)) (ps : List MemPlace), (∀ t ∈ ts, P.readableRec t = true ∧ t < P.types.size) → (∀ x ∈ ps, x.block < W.heap.size) →
      DataW.TrodAll enc P W 0 (fun _ => true) true ts vs ds ps → DataW.TrodAll enc P W' 0 (fun b => decide (b < W.heap.size)) true ts vs ds ps
  | [], [], [], _, _, _, h => h
  | t :: ts, v :: vs, d :: ds, ps, hr, hlt, h => by
    obtain ⟨p, q, h1, h2, e⟩ := h
    subst e
    exact ⟨p, q, Below.trod hl (hr t (by simp)).1 (hr t (by simp)).2 h1 hb (fun x hx => hlt x (List.mem_append_left _ hx)),
      trodAll_below hl hb ts vs ds q (fun u hu => hr u (by simp [hu])) (fun x hx => hlt x (List.mem_append_right _ hx)) h2, rfl⟩
  | [], _ :: _, _, _, _, _, h => h.elim
  | [], [], _ :: _, _, _, _, h => h.elim
  | _ :: _, [], _, _, _, _, h => h.elim
  | _ :: _, _ :: _, [], _, _, _, h => h.elim

attribute [local irreducible] Go.Calls in
set_option maxHeartbeats 2000000 in
/-- The call on an argument that is read. -/
theorem call {H : Type} {enc : TypeId × Value → H} (W : World) (base : Nat) (v : Value) (d : DataW H) (p : List MemPlace) (K : Ending → World → Prop)
    (hval : Value.okWide Try.prog W .any base 26 v) (h : DataW.Trod enc Try.prog W 0 (fun _ => true) true 26 v d p) (hb : Rows.uptoBulk d ≤ 1048576)
    (hK : ∀ W', Gx.Ext W W' → K (.returned (.bool true)) W') : Calls Try.prog 3 #[v] W K := by
  obtain ⟨v0, v1, v2, v3, y0, y1, y2, y3, n, rfl, rfl, _, t0, t1, t2, t3⟩ := Joins.open_agg4 Try.underlying26 (by kernel_rfl) c26 hval h
  simp only [Rows.uptoBulk, Rows.uptoBulkAll] at hb
  obtain ⟨shape, hs, hy0, _⟩ := DataW.trod_string Try.underlying9 t0
  injection hs with hs
  subst hs hy0
  obtain ⟨A1, ops, k1, rfl, zo, r1⟩ := slice_open op0 Try.underlying22 t1 (by omega) (fun (o : OpP) cs => cs = [.string o.name, .bool o.once] ∧ o.name.size ≤ 1048576) (fun n cs y h hb => el_op h hb)
  obtain ⟨A2, L2, k2, rfl, zh, r2⟩ := slice_open (hd0, (none : Option Addr), (0 : Nat)) Try.underlying23 t2 (by omega) _ (fun n cs y h hb => el_hd h hb)
  obtain ⟨A3, L3, k3, rfl, zf, r3⟩ := slice_open (fun0, (none : Option Addr), (0 : Nat)) Try.underlying24 t3 (by omega) _ (fun n cs y h hb => el_fn h hb)
  have g2 : ∀ i, (L2.map (·.1)).getD i hd0 = (L2.getD i (hd0, none, 0)).1 := fun i => by
    simp only [List.getD_eq_getElem?_getD, List.getElem?_map]
    cases L2[i]? <;> rfl
  have g3 : ∀ i, (L3.map (·.1)).getD i fun0 = (L3.getD i (fun0, none, 0)).1 := fun i => by
    simp only [List.getD_eq_getElem?_getD, List.getElem?_map]
    cases L3[i]? <;> rfl
  have l2 : (L2.map (·.1)).length = L2.length := by simp
  have l3 : (L3.map (·.1)).length = L3.length := by simp
  have i0 : I64 0 := ⟨by decide, by decide⟩
  have out2 : ∀ i, ¬ i < L2.length → L2.getD i (hd0, none, 0) = (hd0, none, 0) := fun i q => by rw [List.getD_eq_getElem?_getD, List.getElem?_eq_none (by omega)]; rfl
  have out3 : ∀ i, ¬ i < L3.length → L3.getD i (fun0, none, 0) = (fun0, none, 0) := fun i q => by rw [List.getD_eq_getElem?_getD, List.getElem?_eq_none (by omega)]; rfl
  have hz : shape.data.size = shape.size := rfl
  simp only [Rows.uptoBulk, Array.length_toList] at hb
  rw [← l2, ← l3]
  refine Encodes_c shape ops (L2.map (·.1)) (L3.map (·.1)) A1 A2 A3 k1 k2 k3 (fun i => (L2.getD i (hd0, none, 0)).2.1) (fun i => (L3.getD i (fun0, none, 0)).2.1) (fun i => (L2.getD i (hd0, none, 0)).2.2) (fun i => (L3.getD i (fun0, none, 0)).2.2)
    W K ?_ ?_ ?_ ?_ ?_ (by omega) zo ?_ (by rw [l2]; exact zh) ?_ (by rw [l3]; exact zf) ?_ ?_ ?_ ?_ hK
  · intro i hi
    obtain ⟨a, e, cs, h1, rfl, _⟩ := r1 i hi
    rw [c37] at h1
    exact ⟨a, e, h1⟩
  · intro i hi
    rw [l2] at hi
    obtain ⟨a, e, cs, h1, rfl, _⟩ := r2 i hi
    rw [c41] at h1
    simp only [g2]
    exact ⟨a, e, h1⟩
  · intro i hi
    rw [l2] at hi
    obtain ⟨a, e, cs, h1, rfl, _, _, h2⟩ := r2 i hi
    rw [g2]
    exact h2
  · intro i hi
    rw [l3] at hi
    obtain ⟨a, e, cs, h1, rfl, _⟩ := r3 i hi
    rw [c44] at h1
    simp only [g3]
    exact ⟨a, e, h1⟩
  · intro i hi
    rw [l3] at hi
    obtain ⟨a, e, cs, h1, rfl, _, _, _, h2⟩ := r3 i hi
    rw [g3]
    exact h2
  · intro i
    by_cases q : i < ops.length
    · obtain ⟨_, _, _, _, _, k⟩ := r1 i q; exact k
    · rw [List.getD_eq_getElem?_getD, List.getElem?_eq_none (by omega)]; exact Nat.zero_le _
  · intro i
    rw [g2]
    by_cases q : i < L2.length
    · obtain ⟨_, _, _, _, _, k, _⟩ := r2 i q; exact k
    · rw [out2 i q]; exact Nat.zero_le _
  · intro i
    rw [g3]
    by_cases q : i < L3.length
    · obtain ⟨_, _, _, _, _, k, _⟩ := r3 i q; exact k
    · rw [out3 i q]; exact Nat.zero_le _
  · intro i j
    rw [g2]
    by_cases q : i < L2.length
    · obtain ⟨_, _, _, _, _, _, k, _⟩ := r2 i q; exact k j
    · rw [out2 i q]; exact i0
  · intro i
    rw [g3]
    by_cases q : i < L3.length
    · obtain ⟨_, _, _, _, _, _, k, _⟩ := r3 i q; exact k
    · rw [out3 i q]; exact ⟨i0, i0⟩
  · intro i j
    rw [g3]
    by_cases q : i < L3.length
    · obtain ⟨_, _, _, _, _, _, _, k, _⟩ := r3 i q; exact k j
    · rw [out3 i q]; exact ⟨i0, i0, i0, i0⟩

set_option maxRecDepth 100000 in
theorem lifted (os : Os) (started : os.Started) (H : Type) (enc : TypeId × Value → H) (F : Stop.Interp) :
    ReturnsInHanded {} Try.checked os 3 .any ((Rows.OpenSpec.upto Rows.encodesSpec).pre6 enc Try.prog Try.f3 Rows.encodesUptoRow.domain false) (((Rows.OpenSpec.upto Rows.encodesSpec).at F).post enc Try.prog Try.f3 false true false false) := by
  refine returnsInHanded_of_cond (C := Try.checked) (s := Rows.OpenSpec.upto Rows.encodesSpec) (k := Rows.uptoSmall) rfl own started (by kernel_rfl) Try.func3
    (OpenSpec.witness (enc := enc) (C := Try.checked) (s := Rows.OpenSpec.upto Rows.encodesSpec) (k := Rows.uptoSmall) rfl false ⟨#[], #[.agg #[.string ⟨#[]⟩, .slice none 0 0, .slice none 0 0, .slice none 0 0]], []⟩ 8 (by kernel_rfl) (by kernel_rfl) (by kernel_rfl)
      (x := ([.agg [.lit (.string []), .nil, .nil, .nil]], [], [])) (by kernel_rfl) rfl (by kernel_rfl)) ?_
  intro W base args ds gs before hval0 hW _ hk _
  have hval : ∀ (j : Nat) t v, Try.f3.params[j]? = some t → args[j]? = some v → Value.okWide Try.prog W .any base t v := hval0
  have hW' := hW
  have hlt := hW.lt
  obtain ⟨p, q, hA0, hV, rfl, hfz, hnd⟩ := hW
  have hA : DataW.TrodAll enc Try.prog W 0 (fun _ => true) true Try.f3.params.toList args.toList ds p := hA0
  have hAk := hA
  rw [Try.params3] at hA hval
  obtain ⟨v0, vs0, d0, ds0, p0, q0, hargs, rfl, rfl, h0, r0⟩ := trodAll_cons hA
  obtain ⟨rfl, rfl, rfl⟩ := trodAll_nil r0
  obtain rfl : args = #[v0] := by cases args; simp_all
  obtain ⟨rfl, rfl⟩ := trodVars_none hV
  have hbk : Rows.uptoBulk d0 ≤ 1048576 := by
    have h := of_decide_eq_true hk
    simp only [Rows.uptoBulkAll, List.append_nil] at h
    omega
  refine call W base v0 d0 p0 _ (hval 0 26 v0 rfl rfl) h0 hbk (fun W' hb => ?_)
  exact ⟨_, rfl, _, _, _, [], p0 ++ [], [], hW', trodAll_mk1 (shut_bool Try.underlying4 true),
    trodAll_below laidOut hb.below _ _ _ _ (by rw [Try.params3]; intro u hu; simp at hu; subst hu; exact ⟨by kernel_rfl, of_decide_eq_true (by kernel_rfl)⟩) (fun x hx => hlt x (by simpa using hx)) hAk, rfl, hb.below.frame _, fun h => by cases h⟩

theorem over : Rows.encodesUptoRow.holds Try.pinned (Rows.OpenSpec.upto Rows.encodesSpec) :=
  OpenClaim.holds_of_cond 3 Try.f3 rfl rfl rfl rfl rfl rfl rfl ⟨rfl, rfl, rfl, rfl, rfl⟩ rfl rfl rfl rfl rfl (by kernel_rfl) Try.func3 (by kernel_rfl)
    (of_decide_eq_true (by kernel_rfl)) (by unfold Func.isWrapper; first | (rw [if_pos (by decide +kernel)]; kernel_rfl) | (rw [if_neg (by decide +kernel)]; exact ⟨rfl, rfl⟩))
    (fun os started H enc _ F => lifted os started H enc F)

theorem proved : Rows.EncodesUptoSaid := over
#print axioms proved
end Go.Proofs.Ytccjnoefjehmhaa.encodes
