/- The arguments of the laws opened: types as they lie in the memory, of any size. -/
import Derived.Test.YtfkkocjheeoobaaRows
import Derived.Test.YtfkkocjheeoobaaPx
import Derived.Deep.Slices
import Derived.DataShut
import Derived.DataElems
import Derived.WalkKit
import Derived.ProofKit
import Derived.OpenShut
import Derived.Test.YtfkkocjheeoobaaGc
set_option linter.unusedVariables false
set_option linter.unusedSimpArgs false
set_option linter.unusedVariables false
set_option linter.unusedSimpArgs false
namespace Go.Proofs.Ytfkkocjheeoobaa.open_
open Go.RowKit Go.ChangeShapes Go.WideShapes Go.Deep Go.Inf Go.Slv
theorem c9 : Try.prog.cellsOf 9 = 1 := by kernel_rfl
theorem c3 : Try.prog.cellsOf 3 = 1 := by kernel_rfl
theorem c30 : Try.prog.cellsOf 30 = 1 := by kernel_rfl
theorem c23 : Try.prog.cellsOf 23 = 1 := by kernel_rfl
theorem c32 : Try.prog.cellsOf 32 = 5 := by kernel_rfl
theorem c36 : Try.prog.cellsOf 36 = 10 := by kernel_rfl
theorem bulk_part {H : Type} {d : DataW H} {l : List (DataW H)} (h : d ∈ l) : Rows.uptoBulk d ≤ Rows.uptoBulkAll l := by
  induction l with
  | nil => cases h
  | cons x r ih =>
    simp only [Rows.uptoBulkAll]
    cases List.mem_cons.1 h with
    | inl e => subst e; omega
    | inr e => have := ih e; omega
section
variable {H : Type} {enc : TypeId × Value → H} {w : World} {sp : Nat → Bool} {held : Bool}
/-- A slice, each element by what is known of it. -/
theorem slice_open {α : Type} {t e : TypeId} (ht : Try.prog.underlying t = some (.slice e)) {fuel : Nat} {v : Value} {x : DataW H × List MemPlace} (h : DataW.trod enc Try.prog w 0 sp held fuel t [v] = some x)
    (Q : α → List Value → Prop) (hp : 0 < Try.prog.cellsOf e) (hq : ∀ n cs y, DataW.trod enc Try.prog w 0 sp held n e cs = some y → Rows.uptoBulk y.1 < Rows.uptoBulk x.1 → ∃ el, Q el cs) :
    ∃ (A : Option Addr) (l : List α) (cap : Nat), v = .slice A l.length cap ∧ l.length ≤ cap ∧ l.length < 9223372036854775808 ∧
      ∀ (i : Nat) (el : α), l[i]? = some el → ∃ a, A = some a ∧ a.block < w.heap.size ∧ ∃ cs, w.cells? 0 (a.add (i * Try.prog.cellsOf e)) (Try.prog.cellsOf e) = some cs ∧ Q el cs := by
  rcases open_slice ht h with ⟨hn, hx⟩ | ⟨a, len, cap, m, n, D, Pl, hc, _, hl, hcm, hm, rfl, hx⟩
  · injection hn with hn
    exact ⟨none, [], 0, hn, Nat.le_refl _, by simp, fun i el hi => by simp at hi⟩
  · injection hc with hc
    have hlm : len ≤ m := by rw [hm]; split <;> omega
    have hB : Rows.uptoBulkAll ((List.range len).map D) + 1 ≤ Rows.uptoBulk (.slice ((List.range len).map D) ((List.range (m - len)).map fun j => D (len + j))) := by simp only [Rows.uptoBulk]; omega
    have hk : ∀ i, i < len → ∃ el cs, w.cells? 0 (a.add (i * Try.prog.cellsOf e)) (Try.prog.cellsOf e) = some cs ∧ Q el cs := fun i hi => by
      obtain ⟨cs, h1, h2⟩ := hx i (by omega)
      have hD : Rows.uptoBulk (D i) ≤ Rows.uptoBulkAll ((List.range len).map D) := bulk_part (List.mem_map.2 ⟨i, List.mem_range.2 hi, rfl⟩)
      obtain ⟨el, hel⟩ := hq n cs _ h2 (Nat.lt_of_le_of_lt hD (Nat.lt_of_lt_of_le (Nat.lt_succ_self _) hB))
      exact ⟨el, cs, h1, hel⟩
    have hcm' : cap ≤ 2 ^ 63 - 1 := hcm
    refine ⟨some a, (List.range len).pmap (fun i hi => (hk i hi).choose) (fun i hi => List.mem_range.1 hi), cap, by simpa using hc, by simpa using hl, by simp; omega, fun i el hi => ?_⟩
    have hi' : i < len := by have := (List.getElem?_eq_some_iff.1 hi).1; simpa using this
    have e1 : el = (hk i hi').choose := by
      rw [List.getElem?_pmap] at hi
      simp only [List.getElem?_range hi'] at hi
      simpa using hi.symm
    obtain ⟨cs, h1, h2⟩ := (hk i hi').choose_spec
    have hb := World.cells?_block h1 hp
    rw [e1]
    refine ⟨a, rfl, ?_, cs, h1, h2⟩
    rw [add_block] at hb
    exact hb
theorem struct5 {t : TypeId} {f0 f1 f2 f3 f4 : Field} {fuel : Nat} {cs : List Value} {x : DataW H × List MemPlace} (ht : Try.prog.underlying t = some (.struct #[f0, f1, f2, f3, f4])) (h : DataW.trod enc Try.prog w 0 sp held fuel t cs = some x) :
    ∃ y0 y1 y2 y3 y4 n, cs.length = Try.prog.cellsOf t ∧ x.1 = .agg [y0.1, y1.1, y2.1, y3.1, y4.1] ∧ DataW.trod enc Try.prog w 0 sp held n f0.type ((cs.drop f0.offset).take (Try.prog.cellsOf f0.type)) = some y0 ∧ DataW.trod enc Try.prog w 0 sp held n f1.type ((cs.drop f1.offset).take (Try.prog.cellsOf f1.type)) = some y1 ∧
      DataW.trod enc Try.prog w 0 sp held n f2.type ((cs.drop f2.offset).take (Try.prog.cellsOf f2.type)) = some y2 ∧ DataW.trod enc Try.prog w 0 sp held n f3.type ((cs.drop f3.offset).take (Try.prog.cellsOf f3.type)) = some y3 ∧ DataW.trod enc Try.prog w 0 sp held n f4.type ((cs.drop f4.offset).take (Try.prog.cellsOf f4.type)) = some y4 := by
  obtain ⟨xs, n, _, rfl, hl, hlen, hf⟩ := DataW.trod_struct ht h
  match xs, hlen with
  | [y0, y1, y2, y3, y4], _ => exact ⟨y0, y1, y2, y3, y4, n, hl, by simp, by simpa using hf 0 f0 rfl, by simpa using hf 1 f1 rfl, by simpa using hf 2 f2 rfl, by simpa using hf 3 f3 rfl, by simpa using hf 4 f4 rfl⟩
theorem len5 {α : Type} {l : List α} (h : l.length = 5) : ∃ a b c d e, l = [a, b, c, d, e] := by
  match l, h with
  | [a, b, c, d, e], _ => exact ⟨a, b, c, d, e, rfl⟩
/-- What lay there at first. -/
abbrev Ent (w : World) : Nat → Prop := fun c => c < w.heap.size
theorem open_names {fuel : Nat} {v : Value} {x : DataW H × List MemPlace} (h : DataW.trod enc Try.prog w 0 sp held fuel 30 [v] = some x) : ∃ (A : Option Addr) (l : List Nm) (cap : Nat), v = .slice A l.length cap ∧ l.length ≤ cap ∧ l.length < 9223372036854775808 ∧ Strs w (Ent w) A l := by
  obtain ⟨A, l, cap, h1, h2, h3, h4⟩ := slice_open Try.underlying30 h (fun (s : Nm) cs => cs = [.string s]) (by rw [c9]; exact Nat.zero_lt_one) (fun n cs y hy _ => by
    obtain ⟨s, hs, _, _⟩ := DataW.trod_string Try.underlying9 hy
    exact ⟨s, hs⟩)
  refine ⟨A, l, cap, h1, h2, h3, fun i s hi => ?_⟩
  obtain ⟨a, ha, hb, cs, hc, rfl⟩ := h4 i s hi
  rw [c9] at hc
  exact ⟨a, ha, hb, hc⟩
theorem open_type : ∀ (N fuel : Nat) (cs : List Value) (x : DataW H × List MemPlace), Rows.uptoBulk x.1 ≤ N → DataW.trod enc Try.prog w 0 sp held fuel 32 cs = some x → ∃ q t, cs = trC t q ∧ TrIn w (Ent w) q t := by
  intro N
  induction N using Nat.strongRecOn with
  | _ N ih =>
    intro fuel cs x hN h
    obtain ⟨y0, y1, y2, y3, y4, m, hlen, hx, f0, f1, f2, f3, f4⟩ := struct5 Try.underlying32 h
    rw [c32] at hlen
    obtain ⟨a, b, c, d, e, rfl⟩ := len5 hlen
    simp only [c3, c30, c23, List.drop_zero, List.take_succ_cons, List.take_zero, List.drop_succ_cons] at f0 f1 f2 f3 f4
    obtain ⟨z0, k0, _, w0⟩ := DataW.trod_int Try.underlying3 f0
    obtain ⟨z1, k1, _, w1⟩ := DataW.trod_int Try.underlying3 f1
    obtain ⟨z2, k2, _, w2⟩ := DataW.trod_int Try.underlying3 f2
    injection k0 with k0; injection k1 with k1; injection k2 with k2
    subst k0 k1 k2
    have hb : Rows.uptoBulk y4.1 < Rows.uptoBulk x.1 := by rw [hx]; simp only [Rows.uptoBulk, Rows.uptoBulkAll]; omega
    obtain ⟨A, ops, ca, rfl, hca, hol, hs⟩ := open_names f3
    obtain ⟨B, ks, cb, rfl, hcb, hbl, hk⟩ := slice_open (α := Tv × Tr) Try.underlying23 f4 (fun k cs => cs = trC k.2 k.1 ∧ TrIn w (Ent w) k.1 k.2) (by rw [c32]; decide) (fun n cs y hy hlt => by
      obtain ⟨q, t, h1, h2⟩ := ih (Rows.uptoBulk y.1) (by omega) n cs y (Nat.le_refl _) hy
      exact ⟨(q, t), h1, h2⟩)
    refine ⟨⟨A, ops.length, ca, B, ks.length, cb⟩, .mk z0 z1 z2 ops (ks.map (·.2)), rfl, .mk _ (ks.map (·.1)) hs rfl ⟨hca, hol, by simpa using hbl⟩ (by simp) (by simp) (fun i q t h1 h2 => ?_) (fun i q t h1 h2 => ?_)⟩
    · rw [List.getElem?_map] at h1 h2
      cases hi : ks[i]? with
      | none => rw [hi] at h1; simp at h1
      | some k =>
        rw [hi] at h1 h2
        obtain rfl : k.1 = q := by simpa using h1
        obtain rfl : k.2 = t := by simpa using h2
        obtain ⟨a, ha, hb, cs, hc, rfl, _⟩ := hk i k hi
        rw [c32] at hc
        exact ⟨a, ha, hb, hc⟩
    · rw [List.getElem?_map] at h1 h2
      cases hi : ks[i]? with
      | none => rw [hi] at h1; simp at h1
      | some k =>
        rw [hi] at h1 h2
        obtain rfl : k.1 = q := by simpa using h1
        obtain rfl : k.2 = t := by simpa using h2
        obtain ⟨a, ha, hb, cs, hc, _, h⟩ := hk i k hi
        exact h
theorem cells_cut {a : Addr} {n m : Nat} {xs ys : List Value} (h : w.cells? 0 a (n + m) = some (xs ++ ys)) (hx : xs.length = n) : w.cells? 0 a n = some xs ∧ w.cells? 0 (a.add n) m = some ys := by
  obtain ⟨_, hl, hc⟩ := World.cells?_some h
  have hy : ys.length = m := by rw [List.length_append] at hl; omega
  refine ⟨World.cells?_of_each (Nat.zero_le _) hx fun i hi => ?_, World.cells?_of_each (Nat.zero_le _) hy fun i hi => ?_⟩
  · rw [hc i (by omega), List.getElem?_append_left (by omega)]
  · rw [Addr.add_add, hc (n + i) (by omega), List.getElem?_append_right (by omega), hx, Nat.add_sub_cancel_left]
/-- The pairs. -/
theorem open_pairs {fuel : Nat} {v : Value} {x : DataW H × List MemPlace} (h : DataW.trod enc Try.prog w 0 sp held fuel 22 [v] = some x) :
    ∃ (A : Option Addr) (rl : List (Tr × Tr)) (cap : Nat), v = .slice A rl.length cap ∧ rl.length ≤ cap ∧ rl.length < 9223372036854775808 ∧ PsIn w (Ent w) A rl := by
  obtain ⟨A, l, cap, h1, h2, h3, h4⟩ := slice_open (α := (Tv × Tr) × (Tv × Tr)) Try.underlying22 h (fun k cs => cs = trC k.1.2 k.1.1 ++ trC k.2.2 k.2.1 ∧ TrIn w (Ent w) k.1.1 k.1.2 ∧ TrIn w (Ent w) k.2.1 k.2.2) (by rw [c36]; decide) (fun n cs y hy _ => by
    obtain ⟨y0, y1, k, hk, hl2, t0, t1⟩ := trod_struct2 Try.underlying36 hy
    rw [c36] at hl2
    simp only [c32] at t0 t1
    obtain ⟨q0, u0, e0, i0⟩ := open_type _ _ _ _ (Nat.le_refl _) t0
    obtain ⟨q1, u1, e1, i1⟩ := open_type _ _ _ _ (Nat.le_refl _) t1
    refine ⟨((q0, u0), (q1, u1)), ?_, i0, i1⟩
    have a : cs.take 5 = trC u0 q0 := e0
    have b : (cs.drop 5).take 5 = trC u1 q1 := e1
    have c : (cs.drop 5).take 5 = cs.drop 5 := List.take_of_length_le (by rw [List.length_drop]; omega)
    rw [← a, ← b, c, List.take_append_drop])
  refine ⟨A, l.map fun k => (k.1.2, k.2.2), cap, by simpa using h1, by simpa using h2, by simpa using h3, fun i r hi => ?_⟩
  rw [List.getElem?_map] at hi
  cases hk : l[i]? with
  | none => rw [hk] at hi; simp at hi
  | some k =>
    rw [hk] at hi
    obtain rfl : (k.1.2, k.2.2) = r := by simpa using hi
    obtain ⟨a, ha, hb, cs, hc, rfl, i0, i1⟩ := h4 i k hk
    rw [c36] at hc
    have hl : (trC k.1.2 k.1.1).length = 5 := by cases k.1.2; rfl
    obtain ⟨p1, p2⟩ := cells_cut (n := 5) (m := 5) hc hl
    exact ⟨k.1.1, k.2.1, a, ha, hb, hc, p1, p2, i0, i1⟩
end
theorem c72 : Try.prog.cellsOf 72 = 9 := by kernel_rfl
theorem bulk_one {H : Type} (d : DataW H) : 1 ≤ Rows.uptoBulk d := by
  cases d with
  | lit l => cases l <;> simp [Rows.uptoBulk]
  | nil => simp [Rows.uptoBulk]
  | ptr d => simp [Rows.uptoBulk]
  | slice elems spare => simp [Rows.uptoBulk]
  | agg parts => simp [Rows.uptoBulk]
  | iface t d => simp [Rows.uptoBulk]
  | map entries => simp [Rows.uptoBulk]
  | held h => simp [Rows.uptoBulk]
theorem bulk_length {H : Type} (l : List (DataW H)) : l.length ≤ Rows.uptoBulkAll l := by
  induction l with
  | nil => simp [Rows.uptoBulkAll]
  | cons x r ih => have := bulk_one x; simp only [Rows.uptoBulkAll, List.length_cons]; omega
section
variable {H : Type} {enc : TypeId × Value → H} {w : World} {sp : Nat → Bool} {held : Bool}
/-- A slice is no longer than its bulk. -/
theorem slice_bulk {t e : TypeId} (ht : Try.prog.underlying t = some (.slice e)) {fuel : Nat} {A : Option Addr} {n c : Nat} {x : DataW H × List MemPlace} (h : DataW.trod enc Try.prog w 0 sp held fuel t [.slice A n c] = some x) : n ≤ Rows.uptoBulk x.1 := by
  rcases open_slice ht h with ⟨hn, hx⟩ | ⟨a, len, cap, m, k, D, Pl, hc, _, hl, hcm, hm, rfl, hx⟩
  · injection hn with hn
    injection hn with _ h2 _
    omega
  · injection hc with hc
    injection hc with _ h2 _
    have := bulk_length ((List.range len).map D)
    simp only [List.length_map, List.length_range] at this
    simp only [Rows.uptoBulk]
    omega
theorem open_given {fuel : Nat} {v : Value} {x : DataW H × List MemPlace} (h : DataW.trod enc Try.prog w 0 sp held fuel 34 [v] = some x) (hb : Rows.uptoBulk x.1 ≤ 1048576) :
    ∃ (A : Option Addr) (gs : List Gv) (cap : Nat), v = .slice A gs.length cap ∧ gs.length ≤ cap ∧ gs.length ≤ 1048576 ∧ (∀ g ∈ gs, g.ops.length ≤ 1048576) ∧ GvIn w (Ent w) A gs := by
  obtain ⟨A, l, cap, h1, h2, h3, h4⟩ := slice_open (α := Tv × Option Addr × Nat × Gv) Try.underlying34 h (fun k cs => cs = .int .i64 k.2.2.2.n :: (trC k.2.2.2.t k.1 ++ [.int .i64 k.2.2.2.row, .slice k.2.1 k.2.2.2.ops.length k.2.2.1, .int .i64 k.2.2.2.more]) ∧ TrIn w (Ent w) k.1 k.2.2.2.t ∧ Strs w (Ent w) k.2.1 k.2.2.2.ops ∧ k.2.2.2.ops.length ≤ k.2.2.1 ∧ k.2.2.2.ops.length ≤ 1048576) (by rw [c72]; decide) (fun n cs y hy hlt => by
    obtain ⟨y0, y1, y2, y3, y4, m, hlen, hx, f0, f1, f2, f3, f4⟩ := struct5 Try.underlying72 hy
    rw [c72] at hlen
    simp only [c3, c30, c32] at f0 f1 f2 f3 f4
    obtain ⟨z0, k0, _, _⟩ := DataW.trod_int Try.underlying3 f0
    obtain ⟨q, t, k1, i1⟩ := open_type _ _ _ _ (Nat.le_refl _) f1
    obtain ⟨z2, k2, _, _⟩ := DataW.trod_int Try.underlying3 f2
    obtain ⟨z4, k4, _, _⟩ := DataW.trod_int Try.underlying3 f4
    obtain ⟨v3, k3⟩ : ∃ v3, (cs.drop 7).take 1 = [v3] := by
      have : ((cs.drop 7).take 1).length = 1 := by rw [List.length_take, List.length_drop]; omega
      exact List.length_eq_one_iff.1 this
    change DataW.trod enc Try.prog w 0 sp held m 30 ((cs.drop 7).take 1) = some y3 at f3
    rw [k3] at f3
    obtain ⟨B, ops, cb, rfl, hcb, _, hs⟩ := open_names f3
    have hbk := slice_bulk Try.underlying30 f3
    have hy3 : Rows.uptoBulk y3.1 ≤ Rows.uptoBulk y.1 := by rw [hx]; simp only [Rows.uptoBulk, Rows.uptoBulkAll]; omega
    refine ⟨(q, B, cb, ⟨z0, t, z2, ops, z4⟩), ?_, i1, hs, hcb, (show ops.length ≤ 1048576 by omega)⟩
    have e0 : cs.take 1 = [.int .i64 z0] := k0
    have e1 : (cs.drop 1).take 5 = trC t q := k1
    have e2 : (cs.drop 6).take 1 = [.int .i64 z2] := k2
    have e4 : (cs.drop 8).take 1 = [.int .i64 z4] := k4
    clear k0 k1 k2 k4 f0 f1 f2 f3 f4 hx
    match cs, hlen with
    | [a, b1, b2, b3, b4, b5, c, d, e], _ =>
      simp only [List.take_succ_cons, List.take_zero, List.drop_succ_cons, List.drop_zero] at e0 e1 e2 e4 k3
      show _ = .int .i64 z0 :: (trC t q ++ _)
      rw [← e1]
      simp at e0 e2 e4 k3 ⊢
      exact ⟨e0, e2, k3, e4⟩)
  refine ⟨A, l.map (·.2.2.2), cap, by simpa using h1, by simpa using h2, ?_, fun g hg => ?_, fun i g hi => ?_⟩
  · subst h1
    have := slice_bulk Try.underlying34 h
    simp; omega
  · obtain ⟨k, hk, rfl⟩ := List.mem_map.1 hg
    obtain ⟨i, hi⟩ := List.getElem?_of_mem hk
    obtain ⟨_, _, _, _, _, _, _, _, _, hz⟩ := h4 i k hi
    exact hz
  · rw [List.getElem?_map] at hi
    cases hk : l[i]? with
    | none => rw [hk] at hi; simp at hi
    | some k =>
      rw [hk] at hi
      obtain ⟨q, B, cb, g'⟩ := k
      obtain rfl : g' = g := by simpa using hi
      obtain ⟨a, ha, hb', cs, hc, rfl, i1, hs, hcb, hz⟩ := h4 i _ hk
      rw [c72] at hc
      have hl : (trC g'.t q).length = 5 := trC_len _ _
      have p0 := cells_cut (n := 1) (m := 8) (xs := [.int .i64 g'.n]) hc rfl
      have p1 := cells_cut (n := 5) (m := 3) (xs := trC g'.t q) p0.2 hl
      have p2 := cells_cut (n := 1) (m := 2) (xs := [.int .i64 g'.row]) p1.2 rfl
      have p3 := cells_cut (n := 1) (m := 1) (xs := [.slice B g'.ops.length cb]) p2.2 rfl
      have e : ∀ x y : Nat, ((a.add (i * 9)).add x).add y = (a.add (i * 9)).add (x + y) := fun x y => Addr.add_add _ _ _
      rw [e] at p1 p2 p3
      rw [e] at p2 p3
      rw [e] at p3
      refine ⟨q, B, _, cb, a, ha, hb', by rw [add0]; exact p0.1, p1.1, p2.1, p3.1, p3.2, i1, hs, rfl, hcb, Nat.le_trans (show g'.ops.length ≤ 1048576 from hz) (by decide)⟩
end
end Go.Proofs.Ytfkkocjheeoobaa.open_
