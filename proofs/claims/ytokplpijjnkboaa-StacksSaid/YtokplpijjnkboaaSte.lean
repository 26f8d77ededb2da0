/- Reading of the document's segments: copies, pairs. -/
import Derived.Test.YtokplpijjnkboaaStd
import Derived.Test.YtokplpijjnkboaaStl
set_option linter.unusedVariables false
set_option linter.unusedSimpArgs false
namespace Go.Stk
open Go.RowKit Go.Sx Go.Gx
section
variable {w0 w : World} {L0 L R : List Sx.Item} {P : Prop}
theorem sp_it {LJ : List Sx.Item} {it : Sx.Item} (hs : Sp w LJ) (j : Nat) (hi : LJ[j]? = some it) : it.holds w := hs.all _ (List.mem_of_getElem? hi)
/-- One more record, one more row. -/
theorem rec_join (H : Hs w0 L0 w L) (I : List Nat) (S1 : Nat → Prop) (A : Option Addr) (cap n : Nat) (h1 : List HS) (hs : Bool) (tg : Int) (l : List Int) (B : Option Addr) (c m : Nat) (hm : m = l.length)
    (hi : picked I L = some [.own 69 3 A cap n (recs h1 ++ rec3 hs tg B m c), .own 3 1 B c m (ints l), rwI S1 h1]) (k : ∀ S', Hs w0 L0 w (.own 69 3 A cap n (recs (h1 ++ [⟨⟨hs, tg, l⟩, B, c⟩])) :: rwI S' (h1 ++ [⟨⟨hs, tg, l⟩, B, c⟩]) :: rest I L) → P) : P := by
  have H1 := H.perm (picked_perm hi)
  refine rw_in H1 [1] ⟨hs, tg, l⟩ B c m (ints l) hm rfl rfl fun S2 H2 => ?_
  refine rw_cat H2 [2, 0] S1 S2 h1 [⟨⟨hs, tg, l⟩, B, c⟩] rfl fun S3 H3 => ?_
  have e : recs h1 ++ rec3 hs tg B m c = recs (h1 ++ [⟨⟨hs, tg, l⟩, B, c⟩]) := by rw [recs_app, hm]; simp [recs, recC]
  rw [e] at H3
  exact k S3 (H3.perm (List.Perm.swap _ _ _))
end
theorem allF_len (j : Nat) (m : List Seg) : (allF j m).length = tot m := by
  induction m generalizing j with
  | nil => rfl
  | cons s m ih => simp [allF, ih, tot]
theorem tagsF_len (j : Nat) (m : List Seg) : (tagsF j m).length ≤ m.length := by
  induction m generalizing j with
  | nil => exact Nat.le_refl _
  | cons s m ih => simp only [tagsF, List.length_append, List.length_cons]; have := ih (j + 1); split <;> simp <;> omega
theorem segs_at {hm : List HS} {i : Nat} {x : HS} (h : hm[i]? = some x) : (segsOf hm)[i]? = some x.s := by simp [segsOf, h]
theorem segs_take (hm : List HS) (i : Nat) : segsOf (hm.take i) = (segsOf hm).take i := by simp [segsOf, List.map_take]
theorem segs_step {hm : List HS} {i : Nat} {x : HS} (h : hm[i]? = some x) : segsOf (hm.take (i + 1)) = segsOf (hm.take i) ++ [x.s] := by rw [List.take_add_one, h]; simp [segsOf]
theorem take_len {hm : List HS} {i : Nat} {x : HS} (h : hm[i]? = some x) : (segsOf (hm.take i)).length = i := by
  have := (List.getElem?_eq_some_iff.1 h).1
  rw [segsOf_len, List.length_take]; omega
theorem flat_all {hm : List HS} {i : Nat} {x : HS} (h : hm[i]? = some x) : allF 0 (segsOf (hm.take (i + 1))) = allF 0 (segsOf (hm.take i)) ++ x.s.l.map (fun f => ((i : Int), f)) := by
  rw [segs_step h, allF_app, Nat.zero_add, take_len h]; simp [allF]
theorem flat_tags {hm : List HS} {i : Nat} {x : HS} (h : hm[i]? = some x) : tagsF 0 (segsOf (hm.take (i + 1))) = tagsF 0 (segsOf (hm.take i)) ++ (if x.s.has = true then [((i : Int), x.s.tag)] else []) := by
  rw [segs_step h, tagsF_app, Nat.zero_add, take_len h]; simp [tagsF]
theorem seg_le {hm : List HS} {i : Nat} {x : HS} (h : hm[i]? = some x) : tot (segsOf (hm.take i)) + x.s.l.length ≤ tot (segsOf hm) := by
  have := tot_at (segs_at h)
  rwa [← segs_take] at this
theorem prs_snoc (xs : List (Int × Int)) (a b : Int) : prs xs ++ [.int .i64 a, .int .i64 b] = prs (xs ++ [(a, b)]) := by simp [prs]
theorem all_more {i j : Nat} {fs : List Int} {f : Int} (h : fs[j]? = some f) (xs : List (Int × Int)) : prs (xs ++ (fs.take j).map (fun f => ((i : Int), f))) ++ [.int .i64 (i : Int), .int .i64 f] = prs (xs ++ (fs.take (j + 1)).map (fun f => ((i : Int), f))) := by
  rw [prs_snoc, List.take_add_one, h]; simp
theorem ints_one (l : List Int) : ∀ u ∈ ints l, u.oneCell' = true := by
  intro u hu
  obtain ⟨f, _, rfl⟩ := List.mem_map.1 hu
  rfl
end Go.Stk
