/- The script: its plain laws, and what lies in memory beside the two stacks. -/
import Derived.Test.YtokplpijjnkboaaStf
import Derived.Test.YtokplpijjnkboaaStw4
import Derived.Test.YtokplpijjnkboaaStw7
import Derived.Test.YtokplpijjnkboaaStm
set_option linter.unusedVariables false
set_option linter.unusedSimpArgs false
namespace Go.Stk
open Go.RowKit Go.Sx Go.Gx
/-! ### The first segment has no tag -/
def Bas (m : List Seg) : Prop := ∃ s r, m = s :: r ∧ s.has = false
theorem Bas.ne {m : List Seg} (h : Bas m) : m ≠ [] := by obtain ⟨s, r, rfl, _⟩ := h; simp
theorem Bas.app {m : List Seg} (h : Bas m) (x : List Seg) : Bas (m ++ x) := by obtain ⟨s, r, rfl, e⟩ := h; exact ⟨s, r ++ x, rfl, e⟩
theorem Bas.set {m : List Seg} (h : Bas m) (l : List Int) : Bas (setM m l) := by
  obtain ⟨s, r, rfl, e⟩ := h
  cases r with
  | nil => exact ⟨⟨s.has, s.tag, l⟩, [], by simp [setM, lastG], e⟩
  | cons t r => exact ⟨s, (t :: r).dropLast ++ [_], by simp only [setM, List.dropLast_cons_of_ne_nil (List.cons_ne_nil t r), List.cons_append]; rfl, e⟩
theorem Bas.push {m : List Seg} (h : Bas m) (f : Int) : Bas (pushM m f) := h.set _
theorem Bas.pop {m : List Seg} (h : Bas m) : Bas (popM m) := h.set _
theorem Bas.open {m : List Seg} (h : Bas m) (t : Int) : Bas (openM m t) := h.app _
theorem Bas.close {m : List Seg} (h : Bas m) : Bas (closeM m).1 := by
  unfold closeM
  split
  · rename_i hc
    obtain ⟨s, r, rfl, e⟩ := h
    cases r with
    | nil => simp [canM] at hc
    | cons t r => exact ⟨s, (t :: r).dropLast, by simp only [List.dropLast_cons_of_ne_nil (List.cons_ne_nil t r)], e⟩
  · exact h
theorem cut_eq {k : Int} {r r1 rm : List Seg} {s : Seg} (h : cutR k r = some (r1, s, rm)) : r = r1 ++ s :: rm ∧ s.has = true := by
  induction r generalizing r1 with
  | nil => simp [cutR] at h
  | cons x r ih =>
    unfold cutR at h
    split at h
    · rename_i hh
      simp only [Option.some.injEq, Prod.mk.injEq] at h
      obtain ⟨rfl, rfl, rfl⟩ := h
      exact ⟨rfl, by unfold isHit at hh; simp only [Bool.and_eq_true] at hh; exact hh.1⟩
    · cases hc : cutR k r with
      | none => rw [hc] at h; simp at h
      | some p =>
        rw [hc] at h
        simp only [Option.map_some, Option.some.injEq, Prod.mk.injEq] at h
        obtain ⟨rfl, rfl, rfl⟩ := h
        obtain ⟨e, e2⟩ := ih (r1 := p.1) (by rw [hc])
        exact ⟨by rw [e]; rfl, e2⟩
theorem cut_or {P : Prop} (k : Int) (r : List Seg) (h0 : cutR k r = none → P) (h1 : ∀ r1 s rm, cutR k r = some (r1, s, rm) → P) : P := by
  cases h : cutR k r with
  | none => exact h0 h
  | some p => exact h1 p.1 p.2.1 p.2.2 h
theorem Bas.cut {m : List Seg} (h : Bas m) {k : Int} {r1 rm : List Seg} {s : Seg} (hc : cutR k m.reverse = some (r1, s, rm)) : Bas rm.reverse := by
  obtain ⟨e, e2⟩ := cut_eq hc
  have e3 := congrArg List.reverse e
  rw [List.reverse_reverse, List.reverse_append, List.reverse_cons] at e3
  obtain ⟨a, r, rfl, ea⟩ := h
  cases hm : rm.reverse with
  | nil => rw [hm] at e3; simp at e3; rw [e3.1] at ea; rw [ea] at e2; cases e2
  | cons b q => rw [hm] at e3; simp at e3; exact ⟨b, q, rfl, by rw [← e3.1]; exact ea⟩
/-! ### Sizes -/
def siz (m : List Seg) : Nat := tot m + m.length
theorem siz_set {m : List Seg} (h : m ≠ []) (l : List Int) : siz (setM m l) + (lastG m).l.length = siz m + l.length := by
  obtain ⟨a, s, rfl⟩ := snoc_of h
  obtain ⟨hs, tg, fs⟩ := s
  rw [setM_snoc, lastG_snoc]
  simp only [siz, tot_snoc, List.length_append, List.length_singleton]
  omega
theorem siz_push {m : List Seg} (h : m ≠ []) (f : Int) : siz (pushM m f) ≤ siz m + 1 := by
  have := siz_set h ((lastG m).l ++ [f]); simp only [List.length_append, List.length_singleton] at this; unfold pushM; omega
theorem siz_pop {m : List Seg} (h : m ≠ []) : siz (popM m) ≤ siz m := by
  have := siz_set h (lastG m).l.dropLast; simp only [List.length_dropLast] at this; unfold popM; omega
theorem siz_app (m x : List Seg) : siz (m ++ x) = siz m + siz x := by simp only [siz, tot_app, List.length_append]; omega
theorem siz_open (m : List Seg) (t : Int) : siz (openM m t) ≤ siz m + 1 := by unfold openM; rw [siz_app]; simp [siz, tot]
theorem siz_close (m : List Seg) : siz (closeM m).1 ≤ siz m := by
  unfold closeM
  split
  · by_cases h : m = []
    · subst h; exact Nat.le_refl _
    · obtain ⟨a, s, rfl⟩ := snoc_of h
      show siz (a ++ [s]).dropLast ≤ _
      rw [List.dropLast_concat, siz_app]; omega
  · exact Nat.le_refl _
theorem siz_rev (m : List Seg) : siz m.reverse = siz m := by unfold siz; rw [tot_rev, List.length_reverse]
theorem siz_cut {m : List Seg} {k : Int} {r1 rm : List Seg} {s : Seg} (deep : Bool) (hc : cutR k m.reverse = some (r1, s, rm)) : siz rm.reverse + siz (fixS deep s :: r1.reverse) = siz m := by
  obtain ⟨e, _⟩ := cut_eq hc
  have e2 := congrArg siz e
  rw [siz_rev, siz_app] at e2
  rw [siz_rev, e2, show fixS deep s :: r1.reverse = [fixS deep s] ++ r1.reverse from rfl, show s :: rm = [s] ++ rm from rfl, siz_app, siz_app, siz_rev]
  have : siz [fixS deep s] = siz [s] := by unfold siz tot; simp only [List.map_cons, List.map_nil, fix_len]; rfl
  omega
/-! ### Which tags are asked about -/
theorem tags_snd (m : List Seg) (j : Nat) : (tagsF j m).map (·.2) = (m.filter (·.has)).map (·.tag) := by
  induction m generalizing j with
  | nil => rfl
  | cons s m ih =>
    rw [tagsF, List.map_append, ih]
    cases hs : s.has <;> simp [hs]
theorem ask_pre (k : Int) (r : List Seg) : askR k r <+: (r.filter (·.has)).map (·.tag) := by
  induction r with
  | nil => exact List.prefix_refl _
  | cons s r ih =>
    unfold askR
    cases hs : s.has with
    | false => simpa [hs] using ih
    | true =>
      simp only [List.filter_cons, hs, if_true, List.map_cons]
      refine List.cons_prefix_cons.2 ⟨rfl, ?_⟩
      split
      · exact List.nil_prefix
      · exact ih
theorem ask_ahead (k : Int) (r : List Seg) {j : Nat} {f : Int} (h : (askR k r)[j]? = some f) (hj : j + 1 < (askR k r).length) : hitB k f = false := by
  induction r generalizing j with
  | nil => simp [askR] at h
  | cons s r ih =>
    unfold askR at h hj
    split at h
    · rename_i hs
      rw [if_pos hs] at hj
      split at h
      · rename_i hh
        rw [if_pos hh] at hj
        simp at hj
      · rename_i hh
        rw [if_neg hh] at hj
        cases j with
        | zero => simp at h; subst h; simpa using hh
        | succ j => exact ih (by simpa using h) (by simpa using hj)
    · rename_i hs
      rw [if_neg hs] at hj
      exact ih h hj
theorem ask_all (k : Int) (r : List Seg) (h : cutR k r = none) : askR k r = (r.filter (·.has)).map (·.tag) := by
  induction r with
  | nil => rfl
  | cons s r ih =>
    unfold cutR at h
    split at h
    · cases h
    · rename_i hn
      have h2 : cutR k r = none := by simpa using h
      have ih2 := ih h2
      clear ih h
      unfold isHit at hn
      unfold askR
      cases hs : s.has with
      | false => simpa [hs] using ih2
      | true => rw [hs] at hn; simp at hn; simp [hs, hn, ih2]
theorem ask_rev {k : Int} {m : List Seg} : askR k m.reverse <+: ((tagsF 0 m).map (·.2)).reverse := by
  rw [tags_snd, ← List.map_reverse, ← List.filter_reverse]; exact ask_pre _ _
theorem ask_le (k : Int) (m : List Seg) : (askR k m.reverse).length ≤ (tagsF 0 m).length := by
  have := (ask_rev (k := k) (m := m)).length_le; simpa using this
theorem ask_at {k : Int} {m : List Seg} {j : Nat} {f : Int} (h : (askR k m.reverse)[j]? = some f) : ∃ a, (tagsF 0 m)[(tagsF 0 m).length - 1 - j]? = some (a, f) := by
  obtain ⟨t, ht⟩ := ask_rev (k := k) (m := m)
  have hj := (List.getElem?_eq_some_iff.1 h).1
  have h2 : (((tagsF 0 m).map (·.2)).reverse)[j]? = some f := by rw [← ht, List.getElem?_append_left hj]; exact h
  have hl : j < (tagsF 0 m).length := Nat.lt_of_lt_of_le hj (ask_le k m)
  rw [List.getElem?_reverse (by simpa using hl), List.getElem?_map, List.length_map] at h2
  cases he : (tagsF 0 m)[(tagsF 0 m).length - 1 - j]? with
  | none => rw [he] at h2; cases h2
  | some p => rw [he] at h2; simp at h2; exact ⟨p.1, by rw [← h2]⟩
theorem ask_len {k : Int} {m : List Seg} (h : cutR k m.reverse = none) : (askR k m.reverse).length = (tagsF 0 m).length := by
  have e := congrArg List.length (tags_snd m 0)
  rw [List.length_map] at e
  rw [ask_all _ _ h, e, List.length_map, List.length_map, List.filter_reverse, List.length_reverse]
/-! ### What lies in memory -/
/-- A piece: the program's and the document's. -/
structure PP where
  b : Nat
  q : Option Addr
  A : Option Addr
  c : Nat
  hm : List HS
def rdI (S : Nat → Prop) (A : Option Addr) (c : Nat) (hm : List HS) : Sx.Item := .ro S (fun w => ∃ S' : Nat → Prop, (∀ x, S' x → S x) ∧ (srI S' A c hm).holds w)
theorem sr_loc {S S' : Nat → Prop} {A : Option Addr} {c : Nat} {hm : List HS} {w w' : World} (hs : w.heap.size ≤ w'.heap.size) (k : ∀ c, S c → w'.heap[c]? = w.heap[c]?) (h : ∀ x, S' x → S x) (e : (srI S' A c hm).holds w) : (srI S' A c hm).holds w' :=
  Item.keep e hs fun x hx => k x (h x hx)
theorem rdI_loc (S : Nat → Prop) (A : Option Addr) (c : Nat) (hm : List HS) : Sx.Loc S (fun w => ∃ S' : Nat → Prop, (∀ x, S' x → S x) ∧ (srI S' A c hm).holds w) := fun _ _ hs k ⟨S', h1, h2⟩ => ⟨S', h1, sr_loc hs k h1 h2⟩
theorem rd_sy {S : Nat → Prop} {A : Option Addr} {c : Nat} {hm : List HS} : Sy (rdI S A c hm) A hm := fun _ h => by obtain ⟨S', _, h2⟩ := h.1; exact sr_read h2
def PPs (S : Nat → Prop) (ps : List PP) (w : World) : Prop := ∀ x ∈ ps, S x.b ∧ Has w x.b (.cells #[.pointer x.q] 78) ∧ Sg S w x.q (segsOf x.hm) ∧ ∃ S' : Nat → Prop, (∀ y, S' y → S y) ∧ (srI S' x.A x.c x.hm).holds w
def ppI (S : Nat → Prop) (ps : List PP) : Sx.Item := .ro S (PPs S ps)
theorem pp_loc (S : Nat → Prop) (ps : List PP) : Sx.Loc S (PPs S ps) := fun _ _ hs k h x hx => by
  obtain ⟨h1, h2, h3, S', h4, h5⟩ := h x hx
  exact ⟨h1, (k _ h1).trans h2, h3.frame k, S', h4, sr_loc hs k h4 h5⟩
theorem PPs.mono {S T : Nat → Prop} {ps : List PP} {w : World} (h : PPs S ps w) (k : ∀ x, S x → T x) : PPs T ps w := fun x hx => by
  obtain ⟨h1, h2, h3, S', h4, h5⟩ := h x hx
  exact ⟨k _ h1, h2, h3.mono k, S', fun y hy => k y (h4 y hy), h5⟩
/-- What lay there at first: nothing of it is turned. -/
def entI (W : World) : Sx.Item := .ro (fun c => c < W.heap.size) (fun w => W.heap.size ≤ w.heap.size ∧ ∀ c, c < W.heap.size → w.heap[c]? = W.heap[c]?)
theorem ent_sp (W : World) : Sp W [entI W] := ⟨fun it hi => by
  rw [List.mem_singleton.1 hi]
  exact ⟨⟨Nat.le_refl _, fun _ _ => rfl⟩, fun _ h => h, fun _ _ hs k h => ⟨Nat.le_trans h.1 hs, fun c hc => (k c hc).trans (h.2 c hc)⟩⟩, List.pairwise_singleton _ _⟩
theorem ent_cells {W w : World} (h : (entI W).holds w) {a : Addr} {n : Nat} {cs : List Value} (e : W.cells? 0 a n = some cs) (hn : 0 < n) : w.cells? 0 a n = some cs := by
  have hb := World.cells?_block e hn
  have e2 : (fun i => w.cell? (a.add i)) = fun i => W.cell? (a.add i) := funext fun i => by
    unfold World.cell?
    rw [h.1.2 (a.add i).block (by show (a.add i).block < _; unfold Addr.add; split <;> exact hb)]
  unfold World.cells? at e ⊢
  rw [e2]
  exact e
section
variable {w0 w : World} {L0 L : List Sx.Item} {P : Prop}
theorem pp_nil (H : Hs w0 L0 w L) : Hs w0 L0 w (L ++ [ppI (fun _ => False) []]) := H.add (Gx.Ext.refl _) (it := ppI (fun _ => False) []) ⟨show PPs (fun _ => False) [] w from fun x (hx : x ∈ []) => absurd hx List.not_mem_nil, fun _ h => h.elim, pp_loc _ _⟩ (fun _ h => h.elim)
/-- A piece more. -/
theorem pp_add (H : Hs w0 L0 w L) (I : List Nat) (S : Nat → Prop) (ps : List PP) (b : Nat) (q : Option Addr) (Q : Nat → Prop) (S2 : Nat → Prop) (A : Option Addr) (c : Nat) (hm : List HS) (k : ∀ S', Hs w0 L0 w (ppI S' (ps ++ [⟨b, q, A, c, hm⟩]) :: rest I L) → P)
    (hp : picked I L = some [ppI S ps, .blk b (.cells #[.pointer q] 78), sgI Q q (segsOf hm), srI S2 A c hm] := by kernel_rfl) : P :=
  k _ (H.fz I hp (fun s x hx => by
    rcases List.mem_append.1 hx with h | h
    · exact ((s.all _ (.head _)).1.mono fun c hc => ⟨_, .head _, hc⟩) x h
    · rw [List.mem_singleton.1 h]
      exact ⟨⟨_, .tail _ (.head _), rfl⟩, s.all _ (.tail _ (.head _)), (s.all _ (.tail _ (.tail _ (.head _)))).1.mono fun c hc => ⟨_, .tail _ (.tail _ (.head _)), hc⟩, S2, fun y hy => ⟨_, .tail _ (.tail _ (.tail _ (.head _))), hy⟩, s.all _ (.tail _ (.tail _ (.tail _ (.head _))))⟩) (pp_loc _ _))
/-- One of the pieces. -/
theorem pp_at (H : Hs w0 L0 w L) (j : Nat) (S : Nat → Prop) (ps : List PP) (i : Nat) (x : PP) (hi : L[j]? = some (ppI S ps)) (hx : ps[i]? = some x)
    (k : Hs w0 L0 w (L ++ [rbI S x.b [.pointer x.q] 78] ++ [sgI S x.q (segsOf x.hm)] ++ [rdI S x.A x.c x.hm]) → P) : P := by
  obtain ⟨h1, h2, h3, h4⟩ := (H.at j hi).1 x (List.mem_of_getElem? hx)
  have hl := (List.getElem?_eq_some_iff.1 hi).1
  have H1 := H.ro j (S := S) (A := PPs S ps) (B := fun w => S x.b ∧ Has w x.b (.cells [.pointer x.q].toArray 78)) hi ⟨h1, h2⟩ (rbI_loc S x.b _ 78)
  have H2 := H1.ro j (S := S) (A := PPs S ps) (B := fun w => Sg S w x.q (segsOf x.hm)) (by rw [List.getElem?_append_left hl]; exact hi) h3 (sgI_loc _ _ _)
  exact k (H2.ro j (S := S) (A := PPs S ps) (B := fun w => ∃ S' : Nat → Prop, (∀ y, S' y → S y) ∧ (srI S' x.A x.c x.hm).holds w) (by rw [List.getElem?_append_left (by simp; omega), List.getElem?_append_left hl]; exact hi) h4 (rdI_loc _ _ _ _))
end
theorem ent_two {W w : World} (h : (entI W).holds w) {a : Addr} {x y : Value} (e : W.cells? 0 a 2 = some [x, y]) : w.cells? 0 (a.add 0) 1 = some [x] ∧ w.cells? 0 (a.add 1) 1 = some [y] := by
  obtain ⟨_, _, hg⟩ := World.cells?_some (ent_cells h e (by omega))
  exact ⟨one_cell (hg 0 (by decide)), one_cell (hg 1 (by decide))⟩
theorem prs_ld1 {P : Program} {t i : Nat} {a c : Int} {xs : List (Int × Int)} (h : xs[i]? = some (a, c)) (ht : P.underlying t = some (.int .i64) := by kernel_rfl) : loadX P t (prs xs) (i * 2 + 1) (.int .i64 c) := by
  unfold loadX; rw [ht]
  have h2 := congrArg (·[1]?) (prs_at h)
  simp only [List.getElem?_take, List.getElem?_drop] at h2
  simpa using h2
/-- The row of the two stacks: the one that is at hand, the other one. -/
def two (a x z : Nat) : List Value := [.pointer (some ⟨if a = 0 then x else z, 0, none⟩), .pointer (some ⟨if a = 0 then z else x, 0, none⟩)]
theorem two_ld {P : Program} {t a x z : Nat} (h : a ≤ 1) (ht : (match P.underlying t with | some (.pointer _) => true | _ => false) = true := by kernel_rfl) : loadX P t (two a x z) (a * 1) (.pointer (some ⟨x, 0, none⟩)) := by
  rw [show two a x z = ptrs [if a = 0 then x else z, if a = 0 then z else x] from rfl]
  refine ptrs_ld ?_ ht
  rcases (show a = 0 ∨ a = 1 by omega) with rfl | rfl <;> rfl
theorem two_swap {a x z : Nat} (h : a ≤ 1) : two a x z = two (1 - a) z x := by
  rcases (show a = 0 ∨ a = 1 by omega) with rfl | rfl <;> rfl
def bps (ps : List PP) : List Value := ps.map fun x => .pointer (some ⟨x.b, 0, none⟩)
def sls (ps : List PP) : List Value := ps.map fun x => .slice x.A x.hm.length x.c
theorem bps_ld {P : Program} {t i : Nat} {x : PP} {ps : List PP} (h : ps[i]? = some x) (ht : (match P.underlying t with | some (.pointer _) => true | _ => false) = true := by kernel_rfl) : loadX P t (bps ps) (i * 1) (.pointer (some ⟨x.b, 0, none⟩)) := by
  rw [show bps ps = ptrs (ps.map (·.b)) by simp [bps, ptrs]]
  exact ptrs_ld (by rw [List.getElem?_map, h]; rfl) ht
theorem sls_ld {P : Program} {t i : Nat} {x : PP} {ps : List PP} (h : ps[i]? = some x) (ht : (match P.underlying t with | some (.slice _) => true | _ => false) = true := by kernel_rfl) : loadX P t (sls ps) (i * 1) (.slice x.A x.hm.length x.c) := by
  unfold loadX
  split at ht <;> try contradiction
  rename_i hu
  rw [hu, Nat.mul_one]
  show (sls ps)[i]? = _
  simp [sls, h]
theorem bps_app (ps : List PP) (b : Nat) (q A : Option Addr) (c : Nat) (hm : List HS) : bps ps ++ [.pointer (some ⟨b, 0, none⟩)] = bps (ps ++ [⟨b, q, A, c, hm⟩]) := by simp [bps]
theorem sls_app (ps : List PP) (b : Nat) (q A : Option Addr) (c : Nat) (hm : List HS) : sls ps ++ [.slice A hm.length c] = sls (ps ++ [⟨b, q, A, c, hm⟩]) := by simp [sls]
end Go.Stk
