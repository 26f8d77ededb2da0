/- The argument of the law opened: a type as it lies in the memory. -/
import Derived.Test.YtmlmppdffeacdaaDoorShowWalks7
import Derived.Deep.Slices
import Derived.WalkKit
import Derived.ProofKit
import Derived.OpenShut
namespace Go.Proofs.YtmlmppdffeacdaaDoor.open_
open Go.Show Go.RowKit Go.ChangeShapes Go.WideShapes Go.Deep

theorem c9 : Tryd.prog.cellsOf 9 = 1 := by kernel_rfl
theorem c3 : Tryd.prog.cellsOf 3 = 1 := by kernel_rfl
theorem c22 : Tryd.prog.cellsOf 22 = 1 := by kernel_rfl
theorem c23 : Tryd.prog.cellsOf 23 = 1 := by kernel_rfl
theorem c25 : Tryd.prog.cellsOf 25 = 5 := by kernel_rfl

theorem bulk_one {H : Type} (d : DataW H) : 1 ≤ Rows.uptoBulk d := by
  cases d with
  | lit l => cases l <;> simp [Rows.uptoBulk]
  | nil => simp [Rows.uptoBulk]
  | ptr d => simp [Rows.uptoBulk]
  | slice elems spare => simp [Rows.uptoBulk]
  | agg parts => simp [Rows.uptoBulk]
  | iface t d => simp [Rows.uptoBulk]
  | map entries => simp [Rows.uptoBulk]
  | held h => simp [Rows.uptoBulk]
theorem bulk_part {H : Type} {d : DataW H} {l : List (DataW H)} (h : d ∈ l) : Rows.uptoBulk d ≤ Rows.uptoBulkAll l := by
  induction l with
  | nil => cases h
  | cons x r ih =>
    simp only [Rows.uptoBulkAll]
    cases List.mem_cons.1 h with
    | inl e => subst e; omega
    | inr e => have := ih e; omega
theorem bulk_length {H : Type} (l : List (DataW H)) : l.length ≤ Rows.uptoBulkAll l := by
  induction l with
  | nil => simp [Rows.uptoBulkAll]
  | cons x r ih => have := bulk_one x; simp only [Rows.uptoBulkAll, List.length_cons]; omega

section
variable {H : Type} {enc : TypeId × Value → H} {w : World} {sp : Nat → Bool} {held : Bool}

/-- A slice, each element by what is known of it and of its datum. -/
theorem slice_open {α : Type} (d : α) {t e : TypeId} (ht : Tryd.prog.underlying t = some (.slice e)) {fuel : Nat} {v : Value} {x : DataW H × List MemPlace} (h : DataW.trod enc Tryd.prog w 0 sp held fuel t [v] = some x)
    (Q : α → List Value → DataW H → Prop) (hq : ∀ n cs y, DataW.trod enc Tryd.prog w 0 sp held n e cs = some y → Rows.uptoBulk y.1 < Rows.uptoBulk x.1 → ∃ el, Q el cs y.1) :
    ∃ (A : Option Addr) (l : List α) (cap : Nat) (Ds : List (DataW H)), v = .slice A l.length cap ∧ l.length ≤ cap ∧ Ds.length = l.length ∧ Rows.uptoBulkAll Ds + 1 ≤ Rows.uptoBulk x.1 ∧
      ∀ i, i < l.length → ∃ a, A = some a ∧ ∃ cs, w.cells? 0 (a.add (i * Tryd.prog.cellsOf e)) (Tryd.prog.cellsOf e) = some cs ∧ Q (l.getD i d) cs (Ds.getD i .nil) := by
  haveI : Inhabited α := ⟨d⟩
  rcases open_slice ht h with ⟨hn, hx⟩ | ⟨a, len, cap, m, n, D, Pl, hc, _, hl, _, hm, rfl, hx⟩
  · injection hn with hn
    subst hx
    exact ⟨none, [], 0, [], hn, Nat.le_refl _, rfl, by simp [Rows.uptoBulk, Rows.uptoBulkAll], fun i hi => absurd hi (Nat.not_lt_zero i)⟩
  · injection hc with hc
    have hlm : len ≤ m := by rw [hm]; split <;> omega
    have hB : Rows.uptoBulkAll ((List.range len).map D) + 1 ≤ Rows.uptoBulk (.slice ((List.range len).map D) ((List.range (m - len)).map fun j => D (len + j))) := by simp only [Rows.uptoBulk]; omega
    obtain ⟨El, hEl⟩ := choose_lt (α := α) (n := len) (p := fun i el => ∃ cs, w.cells? 0 (a.add (i * Tryd.prog.cellsOf e)) (Tryd.prog.cellsOf e) = some cs ∧ Q el cs (D i)) (fun i hi => by
      obtain ⟨cs, h1, h2⟩ := hx i (by omega)
      have hD : Rows.uptoBulk (D i) ≤ Rows.uptoBulkAll ((List.range len).map D) := bulk_part (List.mem_map.2 ⟨i, List.mem_range.2 hi, rfl⟩)
      obtain ⟨el, hel⟩ := hq n cs _ h2 (Nat.lt_of_le_of_lt hD (Nat.lt_of_lt_of_le (Nat.lt_succ_self _) hB))
      exact ⟨el, cs, h1, hel⟩)
    refine ⟨some a, (List.range len).map El, cap, (List.range len).map D, by simpa using hc, by simpa using hl, by simp, hB, fun i hi => ?_⟩
    have hi' : i < len := by simpa using hi
    obtain ⟨cs, h1, h2⟩ := hEl i hi'
    refine ⟨a, rfl, cs, h1, ?_⟩
    have e1 : ((List.range len).map El).getD i d = El i := by simp [List.getD, hi']
    have e2 : ((List.range len).map D).getD i .nil = D i := by simp [List.getD, hi']
    rw [e1, e2]
    exact h2

theorem join_bulk : ∀ (l : List ByteArray) (Ds : List (DataW H)), Ds.length = l.length → (∀ i, i < l.length → (l.getD i e0).size + 1 ≤ Rows.uptoBulk (Ds.getD i .nil)) → (l.map (fun s => s.size + 2)).sum ≤ 2 * Rows.uptoBulkAll Ds
  | [], [], _, _ => by simp [Rows.uptoBulkAll]
  | x :: l, y :: Ds, h, hi => by
    have h0 := hi 0 (by simp)
    have ih := join_bulk l Ds (by simpa using h) (fun i q => by have := hi (i + 1) (by simpa using q); simpa using this)
    simp only [List.getD_cons_zero] at h0
    simp only [List.map_cons, List.sum_cons, Rows.uptoBulkAll]
    omega
  | [], _ :: _, h, _ => by simp at h
  | _ :: _, [], h, _ => by simp at h

/-- How long a type's text is, by its parts. -/
theorem show_len {k n row : Int} {ops : List ByteArray} {args : List TyP} (hn : I64 n) (hr : I64 row) (f : Nat → Nat) (hf : ∀ i, i < args.length → (showP (args.getD i ty0)).size ≤ f i) :
    (showP (.mk k n row ops args)).size ≤ (joinB ops).size + 40 + (if args.length = 1 then f 0 else if args.length = 2 then f 0 + f 1 else 0) := by
  have l5 : ∀ a b c d e : UInt8, (⟨#[a, b, c, d, e]⟩ : ByteArray).size = 5 := fun _ _ _ _ _ => rfl
  have l4 : ∀ a b c d : UInt8, (⟨#[a, b, c, d]⟩ : ByteArray).size = 4 := fun _ _ _ _ => rfl
  have l3 : ∀ a b c : UInt8, (⟨#[a, b, c]⟩ : ByteArray).size = 3 := fun _ _ _ => rfl
  have l1 : ∀ a : UInt8, (⟨#[a]⟩ : ByteArray).size = 1 := fun _ => rfl
  have l0 : e0.size = 0 := rfl
  by_cases hb : (args.length : Int) = arity k
  · rcases arity_range k with ⟨h1, rfl | rfl | rfl | rfl⟩ | ⟨h1, rfl⟩ | ⟨h1, rfl | rfl⟩ | h1
    · rw [show_0 (by omega)]
      have hd := dig_size (m := n.toNat) (by unfold I64 at hn; omega)
      unfold varS
      split
      · rw [l1]; omega
      · split
        · rw [l0]; omega
        · rw [ByteArray.size_append]; have : bA.size = 1 := rfl; omega
    · rw [show_1 (by omega), l3]; omega
    · rw [show_2 (by omega), l4]; omega
    · rw [show_3 (by omega), l4]; omega
    · have e : args.length = 1 := by omega
      have h0 := hf 0 (by omega)
      have hp := (par_size 2 (args.getD 0 ty0).kind (showP (args.getD 0 ty0))).2
      rw [show_4 e, ByteArray.size_append, l5, if_pos e]
      unfold inP
      omega
    · have e : args.length = 2 := by omega
      have h0 := hf 0 (by omega)
      have h1 := hf 1 (by omega)
      have hp := (par_size 2 (args.getD 0 ty0).kind (showP (args.getD 0 ty0))).2
      have hq := (par_size 1 (args.getD 1 ty0).kind (showP (args.getD 1 ty0))).2
      rw [show_5 e, ByteArray.size_append, ByteArray.size_append, l3, if_neg (by omega), if_pos e]
      unfold inP
      omega
    · have e : args.length = 2 := by omega
      have h0 := hf 0 (by omega)
      have h1 := hf 1 (by omega)
      have hp := (par_size 1 (args.getD 0 ty0).kind (showP (args.getD 0 ty0))).2
      have hq := (par_size 0 (args.getD 1 ty0).kind (showP (args.getD 1 ty0))).2
      have hd := dig_size (m := row.toNat) (by unfold I64 at hr; omega)
      have hS : bS.size = 1 := rfl
      have hR : bR.size = 3 := rfl
      have hL : bL.size = 3 := rfl
      have hE : bE.size = 4 := rfl
      have hA : bArr.size = 4 := rfl
      have hrow : (rowB (joinB ops) row).size ≤ (joinB ops).size + 25 := by
        unfold rowB
        split
        · simp only [ByteArray.size_append]
          split
          · simp only [ByteArray.size_append]; omega
          · omega
        · omega
      have harr : (arrB (rowB (joinB ops) row)).size ≤ (joinB ops).size + 32 := by
        unfold arrB
        split
        · simp only [ByteArray.size_append]; omega
        · omega
      rw [show_6 e, ByteArray.size_append, ByteArray.size_append, if_neg (by omega), if_pos e]
      unfold inP
      omega
    · omega
  · rw [show_bad hb, l0]; omega

theorem open_ty : ∀ (N fuel : Nat) (cs : List Value) (x : DataW H × List MemPlace), Rows.uptoBulk x.1 ≤ N → N ≤ 1048576 → DataW.trod enc Tryd.prog w 0 sp held fuel 25 cs = some x →
    ∃ t, TyIn w t (.agg cs.toArray) ∧ (showP t).size ≤ 64 * Rows.uptoBulk x.1 := by
  intro N
  induction N using Nat.strongRecOn with
  | _ N ih =>
    intro fuel cs x hx hN h
    obtain ⟨xs, m, _, rfl, hlen, hxl, hf⟩ := DataW.trod_struct Tryd.underlying25 h
    rw [c25] at hlen
    match cs, hlen, xs, hxl with
    | [a, b, c, d, e], _, [y0, y1, y2, y3, y4], _ =>
      have f0 := hf 0 _ rfl
      have f1 := hf 1 _ rfl
      have f2 := hf 2 _ rfl
      have f3 := hf 3 _ rfl
      have f4 := hf 4 _ rfl
      simp only [c3, c22, c23, List.drop_zero, List.take_succ_cons, List.take_zero, List.drop_succ_cons, List.getElem?_cons_zero, List.getElem?_cons_succ] at f0 f1 f2 f3 f4
      have wf : ∀ x : Int, (Lit.int .i64 x).wf = true → I64 x := fun x hw => by simpa [Lit.wf, IntKind.min, IntKind.max, IntKind.signed, IntKind.bits, I64] using hw
      obtain ⟨z0, k0, _, w0⟩ := DataW.trod_int Tryd.underlying3 f0
      obtain ⟨z1, k1, _, w1⟩ := DataW.trod_int Tryd.underlying3 f1
      obtain ⟨z2, k2, _, w2⟩ := DataW.trod_int Tryd.underlying3 f2
      injection k0 with k0; injection k1 with k1; injection k2 with k2
      subst k0 k1 k2
      simp only [List.map_cons, List.map_nil, Rows.uptoBulk, Rows.uptoBulkAll] at hx ⊢
      have b0 := bulk_one y0.1
      have b1 := bulk_one y1.1
      have b2 := bulk_one y2.1
      obtain ⟨A1, ops, c1, D1, rfl, hc1, hd1, hb1, r1⟩ := slice_open e0 Tryd.underlying22 f3 (fun s cs dd => cs = [.string s] ∧ s.size + 1 ≤ Rows.uptoBulk dd) (fun n cs y hy _ => by
        obtain ⟨s, hs, hyy, _⟩ := DataW.trod_string Tryd.underlying9 hy
        subst hyy
        exact ⟨s, hs, by simp only [Rows.uptoBulk, Array.length_toList]; exact Nat.le_refl _⟩)
      obtain ⟨A2, args, c2, D2, rfl, hc2, hd2, hb2, r2⟩ := slice_open ty0 Tryd.underlying23 f4 (fun t cs dd => TyIn w t (.agg cs.toArray) ∧ (showP t).size ≤ 64 * Rows.uptoBulk dd) (fun n cs y hy hlt => by
        obtain ⟨t, h1, h2⟩ := ih (Rows.uptoBulk y.1) (by omega) n cs y (Nat.le_refl _) (by omega) hy
        exact ⟨t, h1, h2⟩)
      have l1 := bulk_length D1
      have l2 := bulk_length D2
      have hz : ∀ i, (ops.getD i e0).size ≤ 1048576 := fun i => by
        by_cases q : i < ops.length
        · obtain ⟨_, _, _, _, _, h1⟩ := r1 i q
          have h2 : Rows.uptoBulk (D1.getD i .nil) ≤ Rows.uptoBulkAll D1 := bulk_part (by rw [List.getD_eq_getElem?_getD, List.getElem?_eq_getElem (by omega)]; exact List.getElem_mem _)
          omega
        · rw [List.getD_eq_getElem?_getD, List.getElem?_eq_none (by omega)]; exact Nat.zero_le _
      obtain ⟨cf, hcf⟩ := choose_lt (α := List Value) (n := args.length) (p := fun i cs => ∃ a, A2 = some a ∧ w.cells? 0 (a.add (i * 5)) 5 = some cs ∧ TyIn w (args.getD i ty0) (.agg cs.toArray)) (fun i hi => by
        obtain ⟨a, e, cs, h1, h2, _⟩ := r2 i hi
        rw [c25] at h1
        exact ⟨cs, a, e, h1, h2⟩)
      refine ⟨.mk z0 z1 z2 ops args, TyIn.mk cf (wf _ w0) (wf _ w1) (wf _ w2) hc1 ⟨by omega, by omega⟩ hz (fun i hi => ?_) (fun i hi => ?_) (fun i hi => ?_), ?_⟩
      · obtain ⟨a, e, cs, h1, rfl, _⟩ := r1 i hi
        rw [c9] at h1
        exact ⟨a, e, h1⟩
      · obtain ⟨a, e, h1, _⟩ := hcf i hi
        exact ⟨a, e, h1⟩
      · obtain ⟨_, _, _, h1⟩ := hcf i hi
        exact h1
      · have hj := join_size ops
        have hjb := join_bulk ops D1 hd1 (fun i hi => by obtain ⟨_, _, _, _, _, h1⟩ := r1 i hi; exact h1)
        have hl := show_len (k := z0) (ops := ops) (wf _ w1) (wf _ w2) (fun i => 64 * Rows.uptoBulk (D2.getD i .nil)) (args := args) (fun i hi => by obtain ⟨_, _, _, _, _, h1⟩ := r2 i hi; exact h1)
        have hsum : (if args.length = 1 then 64 * Rows.uptoBulk (D2.getD 0 .nil) else if args.length = 2 then 64 * Rows.uptoBulk (D2.getD 0 .nil) + 64 * Rows.uptoBulk (D2.getD 1 .nil) else 0) ≤ 64 * Rows.uptoBulkAll D2 := by
          match D2, hd2 with
          | [], hd => simp only [List.length_nil] at hd; rw [if_neg (by omega), if_neg (by omega)]; omega
          | [p], hd => simp only [List.length_cons, List.length_nil] at hd; rw [if_pos (by omega)]; simp [Rows.uptoBulkAll]
          | [p, q], hd => simp only [List.length_cons, List.length_nil] at hd; rw [if_neg (by omega), if_pos (by omega)]; simp [Rows.uptoBulkAll]; omega
          | p :: q :: u :: r, hd => simp only [List.length_cons] at hd; rw [if_neg (by omega), if_neg (by omega)]; omega
        omega
end
end Go.Proofs.YtmlmppdffeacdaaDoor.open_
