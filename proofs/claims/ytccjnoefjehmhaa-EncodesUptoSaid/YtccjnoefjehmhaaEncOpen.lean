/- The argument of the law opened: a code's parts as lists. -/
import Derived.Test.YtccjnoefjehmhaaEncWalks8
import Derived.Lib.SmallJoins
import Derived.Deep.Slices
import Derived.Deep.Strs
import Derived.JoinedCond
import Derived.WalkKit
import Derived.ProofKit
import Derived.OpenShut
namespace Go.Proofs.Ytccjnoefjehmhaa.enc
open Go.Enc Go.RowKit Go.ChangeShapes Go.WideShapes Go.Deep

theorem c9 : Try.prog.cellsOf 9 = 1 := by kernel_rfl
theorem c4 : Try.prog.cellsOf 4 = 1 := by kernel_rfl
theorem c3 : Try.prog.cellsOf 3 = 1 := by kernel_rfl
theorem c39 : Try.prog.cellsOf 39 = 1 := by kernel_rfl
theorem c42 : Try.prog.cellsOf 42 = 1 := by kernel_rfl
theorem c37 : Try.prog.cellsOf 37 = 2 := by kernel_rfl
theorem c41 : Try.prog.cellsOf 41 = 2 := by kernel_rfl
theorem c44 : Try.prog.cellsOf 44 = 3 := by kernel_rfl
theorem c46 : Try.prog.cellsOf 46 = 4 := by kernel_rfl
theorem c26 : Try.prog.cellsOf 26 = 4 := by kernel_rfl

theorem bulk_one {H : Type} (d : DataW H) : 1 ≤ Rows.uptoBulk d := by
  cases d with
  | lit l => cases l <;> simp [Rows.uptoBulk]
  | nil => simp [Rows.uptoBulk]
  | ptr d => simp [Rows.uptoBulk]
  | slice elems spare => simp [Rows.uptoBulk]
  | agg parts => simp [Rows.uptoBulk]
  | iface t d => simp [Rows.uptoBulk]
  | map entries => simp [Rows.uptoBulk]
  | held h => simp [Rows.uptoBulk]
theorem bulk_part {H : Type} {d : DataW H} {l : List (DataW H)} (h : d ∈ l) : Rows.uptoBulk d ≤ Rows.uptoBulkAll l := by
  induction l with
  | nil => cases h
  | cons x r ih =>
    simp only [Rows.uptoBulkAll]
    cases List.mem_cons.1 h with
    | inl e => subst e; omega
    | inr e => have := ih e; omega
theorem bulk_length {H : Type} (l : List (DataW H)) : l.length ≤ Rows.uptoBulkAll l := by
  induction l with
  | nil => simp [Rows.uptoBulkAll]
  | cons x r ih => have := bulk_one x; simp only [Rows.uptoBulkAll, List.length_cons]; omega

section
variable {H : Type} {enc : TypeId × Value → H} {w : World} {sp : Nat → Bool} {held : Bool}

/-- A slice, each element by what is known of it. -/
theorem slice_open {α : Type} (d : α) {t e : TypeId} (ht : Try.prog.underlying t = some (.slice e)) {fuel : Nat} {v : Value} {x : DataW H × List MemPlace} (h : DataW.trod enc Try.prog w 0 sp held fuel t [v] = some x) (hb : Rows.uptoBulk x.1 ≤ 1048576)
    (Q : α → List Value → Prop) (hq : ∀ n cs y, DataW.trod enc Try.prog w 0 sp held n e cs = some y → Rows.uptoBulk y.1 ≤ 1048576 → ∃ el, Q el cs) :
    ∃ (A : Option Addr) (l : List α) (cap : Nat), v = .slice A l.length cap ∧ l.length ≤ 1048576 ∧
      ∀ i, i < l.length → ∃ a, A = some a ∧ ∃ cs, w.cells? 0 (a.add (i * Try.prog.cellsOf e)) (Try.prog.cellsOf e) = some cs ∧ Q (l.getD i d) cs := by
  haveI : Inhabited α := ⟨d⟩
  rcases open_slice ht h with ⟨hn, _⟩ | ⟨a, len, cap, m, n, D, Pl, hc, _, hl, _, hm, rfl, hx⟩
  · injection hn with hn
    exact ⟨none, [], 0, hn, Nat.zero_le _, fun i hi => absurd hi (Nat.not_lt_zero i)⟩
  · injection hc with hc
    have hlm : len ≤ m := by rw [hm]; split <;> omega
    have hB : Rows.uptoBulkAll ((List.range len).map D) ≤ 1048576 := by simp only [Rows.uptoBulk] at hb; omega
    have hlen : len ≤ 1048576 := by have := bulk_length ((List.range len).map D); simp at this; omega
    obtain ⟨El, hEl⟩ := choose_lt (α := α) (n := len) (p := fun i el => ∃ cs, w.cells? 0 (a.add (i * Try.prog.cellsOf e)) (Try.prog.cellsOf e) = some cs ∧ Q el cs) (fun i hi => by
      obtain ⟨cs, h1, h2⟩ := hx i (by omega)
      have hD : Rows.uptoBulk (D i) ≤ Rows.uptoBulkAll ((List.range len).map D) := bulk_part (List.mem_map.2 ⟨i, List.mem_range.2 hi, rfl⟩)
      obtain ⟨el, hel⟩ := hq n cs _ h2 (by show Rows.uptoBulk (D i) ≤ _; omega)
      exact ⟨el, cs, h1, hel⟩)
    refine ⟨some a, (List.range len).map El, cap, by simpa using hc, by simpa using hlen, fun i hi => ?_⟩
    have hi' : i < len := by simpa using hi
    obtain ⟨cs, h1, h2⟩ := hEl i hi'
    refine ⟨a, rfl, cs, h1, ?_⟩
    have : ((List.range len).map El).getD i d = El i := by simp [List.getD, hi']
    rw [this]
    exact h2

theorem el_int {n : Nat} {cs : List Value} {y : DataW H × List MemPlace} (h : DataW.trod enc Try.prog w 0 sp held n 3 cs = some y) (_ : Rows.uptoBulk y.1 ≤ 1048576) : ∃ x : Int, cs = [.int .i64 x] ∧ I64 x := by
  obtain ⟨x, rfl, _, hw⟩ := DataW.trod_int Try.underlying3 h
  exact ⟨x, rfl, by simpa [Lit.wf, IntKind.min, IntKind.max, IntKind.signed, IntKind.bits, I64] using hw⟩
theorem el_op {n : Nat} {cs : List Value} {y : DataW H × List MemPlace} (h : DataW.trod enc Try.prog w 0 sp held n 37 cs = some y) (hb : Rows.uptoBulk y.1 ≤ 1048576) :
    ∃ o : OpP, cs = [.string o.name, .bool o.once] ∧ o.name.size ≤ 1048576 := by
  obtain ⟨y0, y1, m, rfl, hl, h0, h1⟩ := trod_struct2 Try.underlying37 h
  rw [c37] at hl
  match cs, hl with
  | [a, b], _ =>
    simp only [c9, c4, List.drop_zero, List.take_succ_cons, List.take_zero, List.drop_succ_cons] at h0 h1
    obtain ⟨s, hs, hy, _⟩ := DataW.trod_string Try.underlying9 h0
    obtain ⟨f, hf, _⟩ := DataW.trod_bool Try.underlying4 h1
    injection hs with hs
    injection hf with hf
    subst hs hf hy
    simp only [Rows.uptoBulk, Rows.uptoBulkAll, Array.length_toList] at hb
    have e : s.data.size = s.size := rfl
    exact ⟨⟨s, f⟩, rfl, by show s.size ≤ _; omega⟩
theorem el_ins {n : Nat} {cs : List Value} {y : DataW H × List MemPlace} (h : DataW.trod enc Try.prog w 0 sp held n 46 cs = some y) (_ : Rows.uptoBulk y.1 ≤ 1048576) :
    ∃ x : InsP, cs = [.int .i64 x.op, .int .i64 x.a, .int .i64 x.b, .int .i64 x.n] ∧ I64 x.op ∧ I64 x.a ∧ I64 x.b ∧ I64 x.n := by
  obtain ⟨y0, y1, y2, y3, m, rfl, hl, h0, h1, h2, h3⟩ := Joins.trod_struct4 Try.underlying46 h
  rw [c46] at hl
  match cs, hl with
  | [a, b, c, d], _ =>
    simp only [c3, List.drop_zero, List.take_succ_cons, List.take_zero, List.drop_succ_cons] at h0 h1 h2 h3
    have wf : ∀ x : Int, (Lit.int .i64 x).wf = true → I64 x := fun x hw => by simpa [Lit.wf, IntKind.min, IntKind.max, IntKind.signed, IntKind.bits, I64] using hw
    obtain ⟨x0, k0, _, w0⟩ := DataW.trod_int Try.underlying3 h0
    obtain ⟨x1, k1, _, w1⟩ := DataW.trod_int Try.underlying3 h1
    obtain ⟨x2, k2, _, w2⟩ := DataW.trod_int Try.underlying3 h2
    obtain ⟨x3, k3, _, w3⟩ := DataW.trod_int Try.underlying3 h3
    injection k0 with k0; injection k1 with k1; injection k2 with k2; injection k3 with k3
    subst k0 k1 k2 k3
    exact ⟨⟨x0, x1, x2, x3⟩, rfl, wf _ w0, wf _ w1, wf _ w2, wf _ w3⟩
theorem el_hd {n : Nat} {cs : List Value} {y : DataW H × List MemPlace} (h : DataW.trod enc Try.prog w 0 sp held n 41 cs = some y) (hb : Rows.uptoBulk y.1 ≤ 1048576) :
    ∃ o : HdP × Option Addr × Nat, cs = [.bool o.1.shallow, .slice o.2.1 o.1.ops.length o.2.2] ∧ o.1.ops.length ≤ 1048576 ∧ (∀ j, I64 (o.1.ops.getD j 0)) ∧ Gx.Rd w o.2.1 o.1.ops.length 1 (fun j => [.int .i64 (o.1.ops.getD j 0)]) := by
  obtain ⟨y0, y1, m, rfl, hl, h0, h1⟩ := trod_struct2 Try.underlying41 h
  rw [c41] at hl
  match cs, hl with
  | [a, b], _ =>
    simp only [c4, c39, List.drop_zero, List.take_succ_cons, List.take_zero, List.drop_succ_cons] at h0 h1
    obtain ⟨f, hf, _⟩ := DataW.trod_bool Try.underlying4 h0
    injection hf with hf
    subst hf
    simp only [Rows.uptoBulk, Rows.uptoBulkAll] at hb
    obtain ⟨A, l, cap, hv, hl, hi⟩ := slice_open (0 : Int) Try.underlying39 h1 (by omega) (fun x cs => cs = [.int .i64 x] ∧ I64 x) (fun n cs y h hb => el_int h hb)
    subst hv
    refine ⟨(⟨f, l⟩, A, cap), rfl, hl, fun j => ?_, fun i hi' => ?_⟩
    · show I64 (l.getD j 0)
      rcases Nat.lt_or_ge j l.length with q | q
      · obtain ⟨_, _, _, _, _, k⟩ := hi j q; exact k
      · rw [List.getD_eq_getElem?_getD, List.getElem?_eq_none q]; exact ⟨by decide, by decide⟩
    · obtain ⟨a, e, cs, h1, rfl, _⟩ := hi i hi'
      rw [c3] at h1
      exact ⟨a, e, h1⟩
theorem el_fn {n : Nat} {cs : List Value} {y : DataW H × List MemPlace} (h : DataW.trod enc Try.prog w 0 sp held n 44 cs = some y) (hb : Rows.uptoBulk y.1 ≤ 1048576) :
    ∃ o : FunP × Option Addr × Nat, cs = [.int .i64 o.1.free, .int .i64 o.1.slots, .slice o.2.1 o.1.ins.length o.2.2] ∧ o.1.ins.length ≤ 1048576 ∧ (I64 o.1.free ∧ I64 o.1.slots) ∧
      (∀ j, I64 (o.1.ins.getD j ins0).op ∧ I64 (o.1.ins.getD j ins0).a ∧ I64 (o.1.ins.getD j ins0).b ∧ I64 (o.1.ins.getD j ins0).n) ∧
      Gx.Rd w o.2.1 o.1.ins.length 4 (fun j => [.int .i64 (o.1.ins.getD j ins0).op, .int .i64 (o.1.ins.getD j ins0).a, .int .i64 (o.1.ins.getD j ins0).b, .int .i64 (o.1.ins.getD j ins0).n]) := by
  obtain ⟨y0, y1, y2, m, rfl, hl, h0, h1, h2⟩ := trod_struct3 Try.underlying44 h
  rw [c44] at hl
  match cs, hl with
  | [a, b, c], _ =>
    simp only [c3, c42, List.drop_zero, List.take_succ_cons, List.take_zero, List.drop_succ_cons] at h0 h1 h2
    have wf : ∀ x : Int, (Lit.int .i64 x).wf = true → I64 x := fun x hw => by simpa [Lit.wf, IntKind.min, IntKind.max, IntKind.signed, IntKind.bits, I64] using hw
    obtain ⟨x0, k0, _, w0⟩ := DataW.trod_int Try.underlying3 h0
    obtain ⟨x1, k1, _, w1⟩ := DataW.trod_int Try.underlying3 h1
    injection k0 with k0; injection k1 with k1
    subst k0 k1
    simp only [Rows.uptoBulk, Rows.uptoBulkAll] at hb
    obtain ⟨A, l, cap, hv, hl, hi⟩ := slice_open ins0 Try.underlying42 h2 (by omega) (fun (x : InsP) cs => cs = [.int .i64 x.op, .int .i64 x.a, .int .i64 x.b, .int .i64 x.n] ∧ I64 x.op ∧ I64 x.a ∧ I64 x.b ∧ I64 x.n) (fun n cs y h hb => el_ins h hb)
    subst hv
    refine ⟨(⟨x0, x1, l⟩, A, cap), rfl, hl, ⟨wf _ w0, wf _ w1⟩, fun j => ?_, fun i hi' => ?_⟩
    · show I64 (l.getD j ins0).op ∧ I64 (l.getD j ins0).a ∧ I64 (l.getD j ins0).b ∧ I64 (l.getD j ins0).n
      rcases Nat.lt_or_ge j l.length with q | q
      · obtain ⟨_, _, _, _, _, k⟩ := hi j q; exact k
      · rw [List.getD_eq_getElem?_getD, List.getElem?_eq_none q]; exact ⟨⟨by decide, by decide⟩, ⟨by decide, by decide⟩, ⟨by decide, by decide⟩, ⟨by decide, by decide⟩⟩
    · obtain ⟨a, e, cs, h1, rfl, _⟩ := hi i hi'
      rw [c46] at h1
      exact ⟨a, e, h1⟩
end
end Go.Proofs.Ytccjnoefjehmhaa.enc
