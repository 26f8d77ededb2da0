/- The document's stack in memory: a row of one's own of records, each with a row of its own. -/
import Derived.Test.YtokplpijjnkboaaStc
import Derived.Test.YtokplpijjnkboaaSx10
set_option linter.unusedVariables false
set_option linter.unusedSimpArgs false
namespace Go.Sx
open Go.RowKit Go.Gx
section
variable {w0 w w' : World} {L0 L R L1 : List Item}
/-- The things ahead are closed. -/
theorem Hs.clsP (H : Hs w0 L0 w (L1 ++ R)) {shape : List Item → Prop} (hs : shape L1) (hw' : ∀ it ∈ L1, it.wr = true) : Hs w0 L0 w (comp shape (fpA L1) :: R) := by
  have pw := List.pairwise_append.1 H.sp.dis
  refine ⟨H.kp, ⟨fun it hi => ?_, List.pairwise_cons.2 ⟨fun y hy => ?_, pw.2.1⟩⟩, fun it hi c hc hl => ?_, fun it hi hww c hc hl => ?_⟩
  · rcases List.mem_cons.1 hi with rfl | q
    · exact comp_holds ⟨fun it hi => H.sp.all it (List.mem_append_left _ hi), pw.1⟩ hs hw'
    · exact H.sp.all it (List.mem_append_right _ q)
  · rintro _ c ⟨x, hx, hc⟩ hcy
    exact pw.2.2 x hx y hy (by rw [hw' x hx]; rfl) c hc hcy
  · rcases List.mem_cons.1 hi with rfl | q
    · obtain ⟨x, hx, hc⟩ := hc; exact H.ofA x (List.mem_append_left _ hx) c hc hl
    · exact H.ofA it (List.mem_append_right _ q) c hc hl
  · rcases List.mem_cons.1 hi with rfl | q
    · obtain ⟨x, hx, hc⟩ := hc; exact H.ofW x (List.mem_append_left _ hx) (hw' x hx) c hc hl
    · exact H.ofW it (List.mem_append_right _ q) hww c hc hl
end
section
variable {P : Program} {fn : Func} {R : Ending → World → Prop} {b : Nat → Value} {n : Nat} {d : List Deferred} {w0 w : World} {x : St} {L0 L : List Sx.Item}
def faO (b : Nat → Value) (n : Nat) (z : Tz) : Option (List Value × List Nat) := match z.o.op with
  | .fieldAddr t s f => some ([ev b n z.l s], [t, f])
  | _ => none
/-- A field's address, in a drawn region. -/
theorem tvf (i : Nat) (C : List Nat) (a : Addr) (off : Nat) (hS : clrA x = true → Sp w (LJof x))
    (k : Goal P (bodyPost P fn R) b n d ((vX (via P b n 0 w x (tvR b n i C))).k (.pointer (some (a.add off)))) w)
    (h : vA (via P b n 0 w x (tvR b n i C)) = vB w (via P b n 0 w x (tvR b n i C)) := by kernel_rfl)
    (h2 : (faO b n (vX (via P b n 0 w x (tvR b n i C)))).map (·.1) = some [.pointer (some a)] := by kernel_rfl)
    (h3 : (match faO b n (vX (via P b n 0 w x (tvR b n i C))) with | some q => fldAt P (q.2.getD 0 0) (q.2.getD 1 0) off | none => false) = true := by kernel_rfl) : Goal P (bodyPost P fn R) b n d x w := by
  refine tv i C _ hS (fun w' hs => ?_) k h
  generalize vX (via P b n 0 w x (tvR b n i C)) = z at *
  unfold faO at h2 h3
  split at h2 <;> try contradiction
  rename_i t s f hop
  rw [hop] at h3
  simp only [Option.map_some, Option.some.injEq, List.cons.injEq, and_true] at h2
  exact run_fieldAddrO hop a h2 off h3
end
end Go.Sx
namespace Go.Stk
open Go.RowKit Go.Sx Go.Gx
/-- A segment, where its frames lie, how many there can be. -/
structure HS where
  s : Seg
  A : Option Addr
  c : Nat
def segsOf (hm : List HS) : List Seg := hm.map (·.s)
theorem segsOf_app (a b : List HS) : segsOf (a ++ b) = segsOf a ++ segsOf b := List.map_append
theorem segsOf_len (a : List HS) : (segsOf a).length = a.length := List.length_map _
def recC (h : HS) : List Value := [.bool h.s.has, .int .i64 h.s.tag, .slice h.A h.s.l.length h.c]
def recs (hm : List HS) : List Value := hm.flatMap recC
theorem recs_app (a b : List HS) : recs (a ++ b) = recs a ++ recs b := List.flatMap_append
theorem recs_len (a : List HS) : (recs a).length = a.length * 3 := by
  induction a with
  | nil => rfl
  | cons h a ih => simp only [recs, List.flatMap_cons, List.length_append] at ih ⊢; rw [ih]; simp [recC]; omega
theorem recs_at {hm : List HS} {k : Nat} {h : HS} (e : hm[k]? = some h) (j : Nat) (hj : j < 3) : (recs hm)[k * 3 + j]? = (recC h)[j]? := by
  obtain ⟨hi, rfl⟩ := List.getElem?_eq_some_iff.1 e
  have h1 : hm = hm.take k ++ (hm[k] :: hm.drop (k + 1)) := by rw [← List.drop_eq_getElem_cons hi, List.take_append_drop]
  have h2 := congrArg recs h1
  rw [recs_app] at h2
  rw [h2, List.getElem?_append_right (by rw [recs_len, List.length_take]; omega)]
  rw [recs_len, List.length_take, Nat.min_eq_left (by omega), Nat.add_sub_cancel_left]
  show (recC hm[k] ++ recs (hm.drop (k + 1)))[j]? = _
  rw [List.getElem?_append_left (by simp [recC]; omega)]
def rowL (h : HS) : Sx.Item := .own 3 1 h.A h.c h.s.l.length (ints h.s.l)
/-- The rows of some segments. -/
def rwI (S : Nat → Prop) (hm : List HS) : Sx.Item := comp (fun L => L = hm.map rowL) S
/-- A row of segments of one's own. -/
def srI (S : Nat → Prop) (A : Option Addr) (cap : Nat) (hm : List HS) : Sx.Item := comp (fun L => L = .own 69 3 A cap hm.length (recs hm) :: hm.map rowL) S
theorem rows_wr (hm : List HS) : ∀ it ∈ hm.map rowL, it.wr = true := by
  intro it hi
  obtain ⟨h, _, rfl⟩ := List.mem_map.1 hi
  rfl
section
variable {w0 w : World} {L0 L R : List Sx.Item} {P : Prop}
theorem sr_opn (H : Hs w0 L0 w L) (i : Nat) (S : Nat → Prop) (A : Option Addr) (cap : Nat) (hm : List HS) (hi : picked [i] L = some [srI S A cap hm]) (k : ∀ S1, Hs w0 L0 w (.own 69 3 A cap hm.length (recs hm) :: rwI S1 hm :: rest [i] L) → P) : P := by
  obtain ⟨_, rfl, H1⟩ := H.opn i hi
  have H2 := H1.perm (List.perm_middle (l₁ := hm.map rowL) (l₂ := rest [i] L)).symm
  have H3 := H2.clsP (shape := fun L => L = hm.map rowL) rfl (rows_wr hm)
  exact k _ (H3.perm (List.Perm.swap _ _ _))
theorem sr_cls (H : Hs w0 L0 w L) (I : List Nat) (S1 : Nat → Prop) (A : Option Addr) (cap n : Nat) (hm : List HS) (xs : List Value) (hn : n = hm.length) (hx : xs = recs hm) (hi : picked I L = some [.own 69 3 A cap n xs, rwI S1 hm]) (k : ∀ S', Hs w0 L0 w (srI S' A cap hm :: rest I L) → P) : P := by
  subst hn hx
  have H1 := H.perm (picked_perm hi)
  have H2 := H1.perm (List.Perm.swap _ _ _ : ([.own 69 3 A cap hm.length (recs hm), rwI S1 hm] ++ rest I L).Perm (rwI S1 hm :: .own 69 3 A cap hm.length (recs hm) :: rest I L))
  obtain ⟨_, rfl, H3⟩ := H2.opn 0 (S := S1) (shape := fun L => L = hm.map rowL) rfl
  have H4 := H3.perm (List.perm_middle (l₁ := hm.map rowL) (l₂ := rest I L))
  exact k _ (Hs.clsP (L1 := .own 69 3 A cap hm.length (recs hm) :: hm.map rowL) H4 (shape := fun L => L = .own 69 3 A cap hm.length (recs hm) :: hm.map rowL) rfl (fun it hi => by rcases List.mem_cons.1 hi with rfl | q; rfl; exact rows_wr hm it q))
theorem rw_app (H : Hs w0 L0 w L) (i : Nat) (S : Nat → Prop) (h1 h2 : List HS) (hi : picked [i] L = some [rwI S (h1 ++ h2)]) (k : ∀ S1 S2, Hs w0 L0 w (rwI S1 h1 :: rwI S2 h2 :: rest [i] L) → P) : P := by
  obtain ⟨_, rfl, H1⟩ := H.opn i hi
  rw [List.map_append, List.append_assoc] at H1
  have H2 := H1.clsP (shape := fun L => L = h1.map rowL) rfl (rows_wr h1)
  have H3 := H2.perm (List.perm_middle (l₁ := h2.map rowL) (l₂ := rest [i] L)).symm
  have H4 := H3.clsP (shape := fun L => L = h2.map rowL) rfl (rows_wr h2)
  exact k _ _ (H4.perm (List.Perm.swap _ _ _))
theorem rw_cat (H : Hs w0 L0 w L) (I : List Nat) (S1 S2 : Nat → Prop) (h1 h2 : List HS) (hi : picked I L = some [rwI S1 h1, rwI S2 h2]) (k : ∀ S', Hs w0 L0 w (rwI S' (h1 ++ h2) :: rest I L) → P) : P := by
  have H1 := H.perm (picked_perm hi)
  have H2 := H1.perm (List.Perm.swap _ _ _ : ([rwI S1 h1, rwI S2 h2] ++ rest I L).Perm (rwI S2 h2 :: rwI S1 h1 :: rest I L))
  obtain ⟨_, rfl, H3⟩ := H2.opn 0 (S := S2) (shape := fun L => L = h2.map rowL) rfl
  have H4 := H3.perm (List.perm_middle (l₁ := h2.map rowL) (l₂ := rest I L))
  obtain ⟨_, rfl, H5⟩ := H4.opn 0 (S := S1) (shape := fun L => L = h1.map rowL) rfl
  have e : h1.map rowL ++ (h2.map rowL ++ rest I L) = (h1 ++ h2).map rowL ++ rest I L := by rw [List.map_append, List.append_assoc]
  have H6 : Hs w0 L0 w ((h1 ++ h2).map rowL ++ rest I L) := e ▸ H5
  exact k _ (H6.clsP (shape := fun L => L = (h1 ++ h2).map rowL) rfl (rows_wr _))
theorem rw_out (H : Hs w0 L0 w L) (i : Nat) (S : Nat → Prop) (s : Seg) (B : Option Addr) (c : Nat) (hi : picked [i] L = some [rwI S [⟨s, B, c⟩]]) : Hs w0 L0 w (.own 3 1 B c s.l.length (ints s.l) :: rest [i] L) := by
  obtain ⟨_, rfl, H1⟩ := H.opn i hi
  exact H1
theorem rw_in (H : Hs w0 L0 w L) (I : List Nat) (s : Seg) (B : Option Addr) (c n : Nat) (xs : List Value) (hn : n = s.l.length) (hx : xs = ints s.l) (hi : picked I L = some [.own 3 1 B c n xs]) (k : ∀ S', Hs w0 L0 w (rwI S' [⟨s, B, c⟩] :: rest I L) → P) : P := by
  subst hn hx
  exact k _ (Hs.clsP (H.perm (picked_perm hi)) (shape := fun L => L = [HS.mk s B c].map rowL) rfl (rows_wr [HS.mk s B c]))
theorem rw_nil (H : Hs w0 L0 w L) : Hs w0 L0 w (L ++ [rwI (fpA []) []]) :=
  H.add (Gx.Ext.refl _) (comp_holds (L := []) ⟨fun _ h => (by cases h), .nil⟩ rfl (fun _ h => by cases h)) (fun c h => by obtain ⟨_, h, _⟩ := h; cases h)
/-- A record. -/
abbrev rec3 (hs : Bool) (tg : Int) (B : Option Addr) (m c : Nat) : List Value := [.bool hs, .int .i64 tg, .slice B m c]
/-- The last segment's own row. -/
theorem sr_last (H : Hs w0 L0 w L) (i : Nat) (S : Nat → Prop) (A : Option Addr) (cap : Nat) (h1 : List HS) (hs : Bool) (tg : Int) (l : List Int) (B : Option Addr) (c m : Nat) (hm : m = l.length) (hi : picked [i] L = some [srI S A cap (h1 ++ [⟨⟨hs, tg, l⟩, B, c⟩])])
    (k : ∀ g S1, A = some ⟨g, 0, none⟩ → Hs w0 L0 w (.own 69 3 (some ⟨g, 0, none⟩) cap (h1.length + 1) (recs h1 ++ rec3 hs tg B m c) :: .own 3 1 B c m (ints l) :: rwI S1 h1 :: rest [i] L) → P) : P := by
  subst hm
  refine sr_opn H i S A cap _ hi fun S1 H1 => ?_
  refine rw_app H1 1 S1 h1 [⟨⟨hs, tg, l⟩, B, c⟩] rfl fun S2 S3 H2 => ?_
  have H3 := rw_out H2 1 S3 ⟨hs, tg, l⟩ B c rfl
  have e1 : (h1 ++ [HS.mk ⟨hs, tg, l⟩ B c]).length = h1.length + 1 := by simp
  have e2 : recs (h1 ++ [HS.mk ⟨hs, tg, l⟩ B c]) = recs h1 ++ rec3 hs tg B l.length c := by rw [recs_app]; simp [recs, recC]
  have H4 := H3.perm (L' := .own 69 3 A cap (h1.length + 1) (recs h1 ++ rec3 hs tg B l.length c) :: .own 3 1 B c l.length (ints l) :: rwI S2 h1 :: rest [i] L) (by
    rw [← e1, ← e2]
    exact List.perm_middle (l₁ := [.own 3 1 B c l.length (ints l), rwI S2 h1]) (l₂ := rest [i] L))
  obtain ⟨g, rfl⟩ := H4.row 0 rfl (by omega)
  exact k g S2 rfl H4
theorem sr_join (H : Hs w0 L0 w L) (I : List Nat) (S1 : Nat → Prop) (A : Option Addr) (cap n : Nat) (h1 : List HS) (hs : Bool) (tg : Int) (l : List Int) (B : Option Addr) (c m : Nat) (hn : n = h1.length + 1) (hm : m = l.length)
    (hi : picked I L = some [.own 69 3 A cap n (recs h1 ++ rec3 hs tg B m c), .own 3 1 B c m (ints l), rwI S1 h1]) (k : ∀ S', Hs w0 L0 w (srI S' A cap (h1 ++ [⟨⟨hs, tg, l⟩, B, c⟩]) :: rest I L) → P) : P := by
  have H1 := H.perm (picked_perm hi)
  refine rw_in H1 [1] ⟨hs, tg, l⟩ B c m (ints l) hm rfl rfl fun S2 H2 => ?_
  refine rw_cat H2 [2, 0] S1 S2 h1 [⟨⟨hs, tg, l⟩, B, c⟩] rfl fun S3 H3 => ?_
  exact sr_cls H3 [1, 0] S3 A cap n _ _ (by rw [hn]; simp) (by rw [recs_app, hm]; simp [recs, recC]) rfl k
end
theorem pop_no {m : List Seg} (hne : m ≠ []) (h : (topM m).2 = false) : popM m = m := by
  obtain ⟨a, s, rfl⟩ : ∃ a s, m = a ++ [s] := ⟨m.dropLast, m.getLast hne, (List.dropLast_concat_getLast hne).symm⟩
  obtain ⟨hs, tg, l⟩ := s
  simp only [topM, lastG_snoc] at h
  have hl : l = [] := by cases l <;> simp_all
  subst hl
  simp [popM, lastG_snoc, setM_snoc]
theorem close_yes (h1 : List HS) (hs : Bool) (tg : Int) (fs : List Int) (B : Option Addr) (c : Nat) (h : h1.length ≠ 0 ∧ fs.length = 0) : closeM (segsOf (h1 ++ [⟨⟨hs, tg, fs⟩, B, c⟩])) = (segsOf h1, tg, hs, true) := by
  obtain ⟨h2, h3⟩ := h
  have hf : fs = [] := List.eq_nil_of_length_eq_zero h3
  subst hf
  have hc : canM (segsOf (h1 ++ [⟨⟨hs, tg, []⟩, B, c⟩])) = true := by simp [canM, segsOf, lastG]; omega
  rw [closeM, if_pos hc]
  simp [segsOf, lastG]
theorem close_no (h1 : List HS) (hs : Bool) (tg : Int) (fs : List Int) (B : Option Addr) (c : Nat) (h : h1.length = 0 ∨ 0 < fs.length) : closeM (segsOf (h1 ++ [⟨⟨hs, tg, fs⟩, B, c⟩])) = (segsOf (h1 ++ [⟨⟨hs, tg, fs⟩, B, c⟩]), 0, false, false) := by
  have hc : canM (segsOf (h1 ++ [⟨⟨hs, tg, fs⟩, B, c⟩])) = false := by
    rcases h with h | h
    · simp [canM, segsOf, h]
    · cases fs with
      | nil => simp at h
      | cons => simp [canM, segsOf, lastG]
  rw [closeM, hc]
  rfl
theorem snoc_of {α : Type} {l : List α} (h : l ≠ []) : ∃ a x, l = a ++ [x] := ⟨l.dropLast, l.getLast h, (List.dropLast_concat_getLast h).symm⟩
theorem snoc_or {α : Type} (l : List α) : l = [] ∨ ∃ a x, l = a ++ [x] := by
  by_cases h : l = []
  · exact .inl h
  · exact .inr (snoc_of h)
theorem last_ld {P : Program} {t off : Nat} {h1 : List HS} {r : List Value} {v : Value} (hv : r[off]? = some v) (ht : (match P.underlying t with | some (.struct _) | some (.array _ _) => false | some _ => true | none => false) = true := by kernel_rfl) : loadX P t (recs h1 ++ r) (h1.length * 3 + off) v := by
  unfold loadX
  split at ht <;> try contradiction
  rename_i dsc h1' h2' hu
  have : (recs h1 ++ r)[h1.length * 3 + off]? = some v := by rw [List.getElem?_append_right (by rw [recs_len]; omega), recs_len, Nat.add_sub_cancel_left]; exact hv
  cases dsc <;> simp_all
theorem last_set (h1 : List HS) (r : List Value) (off : Nat) (v : Value) : (recs h1 ++ r).set (h1.length * 3 + off) v = recs h1 ++ r.set off v := by
  rw [List.set_append_right _ _ (by rw [recs_len]; omega), recs_len, Nat.add_sub_cancel_left]
theorem last_lt (h1 : List HS) (r : List Value) (off : Nat) (h : off < r.length) : h1.length * 3 + off < (recs h1 ++ r).length := by rw [List.length_append, recs_len]; omega
theorem last_take (h1 : List HS) (r : List Value) : (recs h1 ++ r).take (h1.length * 3) = recs h1 := by rw [← recs_len, List.take_left]
theorem ints_take (l : List Int) (f : Int) : (ints (l ++ [f])).take (l.length * 1) = ints l := by simp [ints]
theorem ints_last {P : Program} {t : Nat} {l : List Int} {f : Int} (ht : P.underlying t = some (.int .i64) := by kernel_rfl) : loadX P t (ints (l ++ [f])) (l.length * 1) (.int .i64 f) := ints_ld (by simp) ht
/-! ### Reading -/
/-- What some segments at an address say. -/
def Sgs (w : World) (A : Option Addr) (hm : List HS) : Prop := ∀ k h, hm[k]? = some h → (∃ a, A = some a ∧ ∀ j v, (recC h)[j]? = some v → w.cell? ((a.add (k * 3)).add j) = some v) ∧
  ∀ j f, h.s.l[j]? = some f → ∃ b, h.A = some b ∧ w.cell? (b.add (j * 1)) = some (.int .i64 f)
theorem own_at {w : World} {e sz n cap : Nat} {A : Option Addr} {xs : List Value} (h : w.ownsRow 0 e sz (.slice A n cap) n xs) {j : Nat} {v : Value} (hj : xs[j]? = some v) : ∃ a, A = some a ∧ w.cell? (a.add j) = some v := by
  have hlen : 0 < n := by
    rcases Nat.eq_zero_or_pos n with rfl | q
    · have h1 := h.1; simp at h1; subst h1; simp at hj
    · exact q
  rcases h.2 with ⟨_, h0⟩ | ⟨g, cap', cur, hv, _, hg, hnc, hcm, hcs, ht⟩
  · omega
  · injection hv with h1
    refine ⟨_, h1, ?_⟩
    have e : (⟨g, 0, none⟩ : Addr).add j = ⟨g, j, none⟩ := by unfold Addr.add; split <;> simp_all
    rw [e, cell_of_row w g j cur _ (0, 0) hg]
    rw [← ht, List.getElem?_take] at hj
    split at hj
    · simpa using hj
    · cases hj
theorem sr_read {S : Nat → Prop} {A : Option Addr} {cap : Nat} {hm : List HS} {w : World} (h : (srI S A cap hm).holds w) : Sgs w A hm := by
  obtain ⟨⟨_, rfl, _, _, sp⟩, _, _⟩ := h
  intro k x hx
  have h0 : w.ownsRow 0 69 3 (.slice A hm.length cap) hm.length (recs hm) := sp.all _ (.head _)
  have hr : w.ownsRow 0 3 1 (.slice x.A x.s.l.length x.c) x.s.l.length (ints x.s.l) := sp.all (rowL x) (.tail _ (List.mem_map.2 ⟨x, List.mem_of_getElem? hx, rfl⟩))
  refine ⟨?_, fun j f hj => ?_⟩
  · obtain ⟨a, ha, _⟩ := own_at h0 (j := k * 3 + 0) (v := .bool x.s.has) (by rw [recs_at hx 0 (by omega)]; rfl)
    refine ⟨a, ha, fun j v hj => ?_⟩
    have hj3 : j < 3 := by have := (List.getElem?_eq_some_iff.1 hj).1; simpa [recC] using this
    obtain ⟨a', ha', hc⟩ := own_at h0 (j := k * 3 + j) (v := v) (by rw [recs_at hx j hj3]; exact hj)
    rw [ha] at ha'
    injection ha' with ha'
    subst ha'
    rw [add_add]
    exact hc
  · obtain ⟨b, hb, hc⟩ := own_at hr (j := j) (v := .int .i64 f) (by simp [ints, hj])
    exact ⟨b, hb, by rw [Nat.mul_one]; exact hc⟩
theorem Sgs.drop {w : World} {A C : Option Addr} {hm : List HS} (h : Sgs w A hm) (i : Nat) (hi : i ≤ hm.length) (h1 : C = none → A = none) (h2 : ∀ a, C = some a → ∃ a0, A = some a0 ∧ (i < hm.length → a = a0.add (i * 3))) : Sgs w C (hm.drop i) := by
  intro k x hx
  rw [List.getElem?_drop] at hx
  obtain ⟨⟨a, ha, q⟩, r⟩ := h _ _ hx
  refine ⟨?_, r⟩
  have hlt := (List.getElem?_eq_some_iff.1 hx).1
  cases C with
  | none => rw [h1 rfl] at ha; cases ha
  | some a1 =>
    obtain ⟨a0, ha0, he⟩ := h2 a1 rfl
    rw [ha] at ha0
    injection ha0 with ha0
    subst ha0
    refine ⟨a1, rfl, fun j v hj => ?_⟩
    have := q j v hj
    rw [he (by omega), add_add, add_add]
    rw [add_add] at this
    rw [show i * 3 + (k * 3 + j) = (i + k) * 3 + j by omega]
    exact this
theorem one_cell {w : World} {a : Addr} {v : Value} (h : w.cell? a = some v) : w.cells? 0 a 1 = some [v] := by
  unfold World.cells?
  rw [if_pos (Nat.zero_le _)]
  have e : a.add 0 = a := by simp [Addr.add]
  simp [List.range', e, h]
theorem sg_cell {w : World} {A : Option Addr} {a : Addr} {hm : List HS} {k : Nat} {x : HS} (h : Sgs w A hm) (hA : A = some a) (hx : hm[k]? = some x) (j : Nat) (v : Value) (hj : (recC x)[j]? = some v) : w.cells? 0 ((a.add (k * 3)).add j) 1 = some [v] := by
  obtain ⟨⟨a', ha, q⟩, _⟩ := h k x hx
  rw [hA] at ha
  injection ha with ha
  subst ha
  exact one_cell (q j v hj)
theorem row_cell {w : World} {A B : Option Addr} {b : Addr} {hm : List HS} {k c : Nat} {s : Seg} (h : Sgs w A hm) (hx : hm[k]? = some ⟨s, B, c⟩) (hB : B = some b) {j : Nat} {f : Int} (hj : s.l[j]? = some f) : w.cells? 0 (b.add (j * 1)) 1 = some [.int .i64 f] := by
  obtain ⟨b', hb, q⟩ := (h k _ hx).2 j f hj
  have hb : B = some b' := hb
  rw [hB] at hb
  injection hb with hb
  subst hb
  exact one_cell q
theorem sg_addr {w : World} {A : Option Addr} {hm : List HS} {k : Nat} {x : HS} (h : Sgs w A hm) (hx : hm[k]? = some x) : ∃ a, A = some a := by obtain ⟨⟨a, ha, _⟩, _⟩ := h k x hx; exact ⟨a, ha⟩
theorem row_addr {w : World} {A B : Option Addr} {hm : List HS} {k c : Nat} {s : Seg} (h : Sgs w A hm) (hx : hm[k]? = some ⟨s, B, c⟩) {j : Nat} (hj : j < s.l.length) : ∃ b, B = some b := by
  obtain ⟨b, hb, _⟩ := (h k _ hx).2 j _ (List.getElem?_eq_getElem hj); exact ⟨b, hb⟩
theorem row_none {w : World} {A B : Option Addr} {hm : List HS} {k c : Nat} {s : Seg} (h : Sgs w A hm) (hx : hm[k]? = some ⟨s, B, c⟩) (hB : B = none) : s.l.length = 0 := by
  rcases Nat.eq_zero_or_pos s.l.length with q | q
  · exact q
  · obtain ⟨b, hb⟩ := row_addr h hx q; rw [hB] at hb; cases hb
theorem row_all {w : World} {A B : Option Addr} {hm : List HS} {k c : Nat} {s : Seg} (h : Sgs w A hm) (hx : hm[k]? = some ⟨s, B, c⟩) (b : Addr) (hB : B = some b) (j : Nat) (u : Value) (hj : (ints s.l)[j]? = some u) : w.cell? (b.add j) = some u := by
  simp only [ints, List.getElem?_map, Option.map_eq_some_iff] at hj
  obtain ⟨f, hf, rfl⟩ := hj
  obtain ⟨b', hb, q⟩ := (h k _ hx).2 j f hf
  have hb : B = some b' := hb
  rw [hB] at hb
  injection hb with hb
  subst hb
  rwa [Nat.mul_one] at q
/-- A thing that says the segments at an address. -/
def Sy (it : Sx.Item) (A : Option Addr) (hm : List HS) : Prop := ∀ w, it.holds w → Sgs w A hm
theorem sy_sr {S : Nat → Prop} {A : Option Addr} {cap : Nat} {hm : List HS} : Sy (srI S A cap hm) A hm := fun _ h => sr_read h
end Go.Stk
