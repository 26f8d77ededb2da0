/- The document's Put and Cut: rows side by side, the beginning of a row. -/
import Derived.Test.YtokplpijjnkboaaSte
set_option linter.unusedVariables false
set_option linter.unusedSimpArgs false
namespace Go.Stk
open Go.RowKit Go.Sx Go.Gx
theorem own_cells {w : World} {e sz n cap : Nat} {A : Option Addr} {xs : List Value} (h : (Sx.Item.own e sz A cap n xs).holds w) (a : Addr) (ha : A = some a) (j : Nat) (u : Value) (hj : xs[j]? = some u) : w.cell? (a.add j) = some u := by
  obtain ⟨a', ha', hc⟩ := own_at (show w.ownsRow 0 e sz (.slice A n cap) n xs from h) hj
  rw [ha] at ha'
  injection ha' with ha'
  subst ha'
  exact hc
theorem own_none {w : World} {e sz n cap : Nat} {A : Option Addr} {xs : List Value} (h : (Sx.Item.own e sz A cap n xs).holds w) (ha : A = none) : n = 0 := by
  rcases (show w.ownsRow 0 e sz (.slice A n cap) n xs from h).2 with ⟨_, h0⟩ | ⟨g, cap', cur, hv, _⟩
  · exact h0
  · injection hv with h1; rw [ha] at h1; cases h1
theorem recs_one (hm : List HS) : ∀ u ∈ recs hm, u.oneCell' = true := by
  intro u hu
  obtain ⟨h, _, hr⟩ := List.mem_flatMap.1 hu
  simp only [recC, List.mem_cons, List.not_mem_nil, or_false] at hr
  rcases hr with rfl | rfl | rfl <;> rfl
theorem recs_take (hm : List HS) (y : Nat) (hy : y ≤ hm.length) : (recs hm).take (y * 3) = recs (hm.take y) := by
  have h := congrArg recs (List.take_append_drop y hm)
  rw [recs_app] at h
  rw [← h, List.take_left' (by rw [recs_len, List.length_take]; omega)]
theorem sr_cap {w : World} {S : Nat → Prop} {A : Option Addr} {cap : Nat} {hm : List HS} (h : (srI S A cap hm).holds w) : hm.length ≤ cap := by
  obtain ⟨⟨_, rfl, _, _, sp⟩, _, _⟩ := h
  exact own_cap (sp.all _ (.head _))
theorem tot_drop (hm : List HS) (y : Nat) : tot (segsOf (hm.drop y)) ≤ tot (segsOf hm) := by
  have h := congrArg (fun l => tot (segsOf l)) (List.take_append_drop y hm)
  simp only [segsOf_app, tot_app] at h
  omega
section
variable {w0 w : World} {L0 L R : List Sx.Item} {P : Prop}
theorem _root_.Go.Sx.Hs.tail' {x : Sx.Item} (H : Hs w0 L0 w (x :: L)) : Hs w0 L0 w L :=
  ⟨H.kp, ⟨fun it hi => H.sp.all it (.tail _ hi), (List.pairwise_cons.1 H.sp.dis).2⟩, fun it hi => H.ofA it (.tail _ hi), fun it hi => H.ofW it (.tail _ hi)⟩
theorem rw_split (H : Hs w0 L0 w L) (i : Nat) (S : Nat → Prop) (hm : List HS) (y : Nat) (hi : picked [i] L = some [rwI S hm]) (k : ∀ S1, Hs w0 L0 w (rwI S1 (hm.take y) :: rest [i] L) → P) : P := by
  rw [← List.take_append_drop y hm] at hi
  refine rw_app H i S _ _ hi fun S1 S2 H1 => k S1 ?_
  exact (H1.perm (List.Perm.swap _ _ _)).tail'
end
theorem first_ld {P : Program} {t off : Nat} {r xs : List Value} {v : Value} (hv : r[off]? = some v) (ht : (match P.underlying t with | some (.struct _) | some (.array _ _) => false | some _ => true | none => false) = true := by kernel_rfl) : loadX P t (r ++ xs) (0 * 3 + off) v := by
  unfold loadX
  split at ht <;> try contradiction
  rename_i dsc h1' h2' hu
  have : (r ++ xs)[0 * 3 + off]? = some v := by rw [Nat.zero_mul, Nat.zero_add, List.getElem?_append_left (List.getElem?_eq_some_iff.1 hv).1]; exact hv
  cases dsc <;> simp_all
theorem first_set (r xs : List Value) (off : Nat) (v : Value) (h : off < r.length) : (r ++ xs).set (0 * 3 + off) v = r.set off v ++ xs := by
  rw [Nat.zero_mul, Nat.zero_add, List.set_append_left _ _ h]
theorem first_lt (r xs : List Value) (off : Nat) (h : off < r.length) : 0 * 3 + off < (r ++ xs).length := by rw [List.length_append]; omega
/-- How far the document's search has come. -/
def CutD (k : Int) (hm : List HS) (x : Nat) : Prop := cutR k (segsOf hm).reverse = (cutR k (segsOf (hm.take x)).reverse).map fun p => ((segsOf (hm.drop x)).reverse ++ p.1, p.2.1, p.2.2)
theorem CutD.init (k : Int) (hm : List HS) : CutD k hm hm.length := by
  unfold CutD
  rw [List.take_length, List.drop_length]
  cases cutR k (segsOf hm).reverse <;> simp [segsOf]
theorem drop_at {hm : List HS} {y : Nat} {x : HS} (h : hm[y]? = some x) : hm.drop y = x :: hm.drop (y + 1) := by
  obtain ⟨hi, rfl⟩ := List.getElem?_eq_some_iff.1 h
  exact List.drop_eq_getElem_cons hi
theorem CutD.step {k : Int} {hm : List HS} {y : Nat} {x : HS} (h : CutD k hm (y + 1)) (hx : hm[y]? = some x) (hh : isHit k x.s = false) : CutD k hm y := by
  unfold CutD at *
  rw [h, segs_step hx, cut_step hh, drop_at hx]
  cases cutR k (segsOf (hm.take y)).reverse <;> simp [segsOf]
theorem CutD.hit {k : Int} {hm : List HS} {y : Nat} {x : HS} (h : CutD k hm (y + 1)) (hx : hm[y]? = some x) (hh : isHit k x.s = true) : cutR k (segsOf hm).reverse = some ((segsOf (hm.drop (y + 1))).reverse, x.s, (segsOf (hm.take y)).reverse) := by
  unfold CutD at h
  rw [h, segs_step hx, cut_hit hh]
  simp
theorem CutD.none {k : Int} {hm : List HS} (h : CutD k hm 0) : cutR k (segsOf hm).reverse = none := by
  unfold CutD at h
  rw [h]
  simp [segsOf, cutR]
theorem segs_cons {hm : List HS} {s : Seg} {m : List Seg} (h : segsOf hm = s :: m) : ∃ B c tl, hm = ⟨s, B, c⟩ :: tl ∧ segsOf tl = m := by
  cases hm with
  | nil => simp [segsOf] at h
  | cons x tl =>
    obtain ⟨s', B, c⟩ := x
    simp only [segsOf, List.map_cons, List.cons.injEq] at h
    obtain ⟨rfl, h2⟩ := h
    exact ⟨B, c, tl, rfl, h2⟩
end Go.Stk
