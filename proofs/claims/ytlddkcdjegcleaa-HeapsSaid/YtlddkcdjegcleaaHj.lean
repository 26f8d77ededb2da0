/- The law: a root is set, a field is set; what lay in memory at first. -/
import Derived.Test.YtlddkcdjegcleaaHi
set_option linter.unusedVariables false
set_option linter.unusedSimpArgs false
namespace Go.Hp
open Go.RowKit Go.Gx Go.Sx
/-- What lay there at first: nothing of it is turned. -/
def entI (W : World) : Sx.Item := .ro (fun c => c < W.heap.size) (fun w => W.heap.size ≤ w.heap.size ∧ ∀ c, c < W.heap.size → w.heap[c]? = W.heap[c]?)
theorem ent_sp (W : World) : Sp W [entI W] := ⟨fun it hi => by
  rw [List.mem_singleton.1 hi]
  exact ⟨⟨Nat.le_refl _, fun _ _ => rfl⟩, fun _ h => h, fun _ _ hs k h => ⟨Nat.le_trans h.1 hs, fun c hc => (k c hc).trans (h.2 c hc)⟩⟩, List.pairwise_singleton _ _⟩
theorem ent_cells {W w : World} (h : (entI W).holds w) {a : Addr} {n : Nat} {cs : List Value} (e : W.cells? 0 a n = some cs) (hn : 0 < n) : w.cells? 0 a n = some cs := by
  have hb := World.cells?_block e hn
  have e2 : (fun i => w.cell? (a.add i)) = fun i => W.cell? (a.add i) := funext fun i => by
    unfold World.cell?
    rw [h.1.2 (a.add i).block (by show (a.add i).block < _; unfold Addr.add; split <;> exact hb)]
  unfold World.cells? at e ⊢
  rw [e2]
  exact e
/-! ### A root is set -/
theorem Gd.root {N n : Nat} {M : List Th} {C R : Nat → Cl} (h : Gd N n M C R) (r : Nat) {c : Cl} (ok : Ok M c) : Gd N n M C (Hp.upd R r c) :=
  ⟨h.lays, h.hd, ⟨h.wf.fld, fun x hx => by
    obtain ⟨j, hj, rfl⟩ := List.mem_map.1 hx
    show Ok M (Hp.upd R r c j)
    unfold Hp.upd
    split
    · exact ok
    · exact h.wf.root _ (rts_mem (List.mem_range.1 hj)), h.wf.kd⟩, h.le⟩
theorem mkF_ok {N n : Nat} {M : List Th} {R : Nat → Cl} {kd tg z : Int} {o : Out} (ho : o = mkF N n M R kd tg z) (he : o.e = 0) : Ok o.M ⟨true, (o.x : Int)⟩ := by
  have key : ∀ (M : List Th) (t : Th), Ok (M ++ [t]) ⟨true, (tots M : Int)⟩ := fun M t _ => ⟨M.length, rfl, by simp, by rw [adr_app _ _ (Nat.le_refl _), adr_len]⟩
  unfold mkF at ho
  split at ho
  · subst ho; simp at he
  · split at ho
    · split at ho
      · subst ho; simp at he
      · subst ho; exact key _ _
    · subst ho; exact key _ _
/-! ### A field is set -/
def stT (t : Th) (j : Nat) (c : Cl) : Th := ⟨t.kd, t.tg, t.l.set j c⟩
def stM (M : List Th) (k j : Nat) (c : Cl) : List Th := M.set k (stT (thM M k) j c)
section
variable {M : List Th} {k j : Nat} {c : Cl}
theorem stM_len : (stM M k j c).length = M.length := by simp [stM]
theorem stM_at (h : k < M.length) : (stM M k j c)[k]? = some (stT (thM M k) j c) := by unfold stM; simp [h]
theorem stM_ne {i : Nat} (h : i ≠ k) : (stM M k j c)[i]? = M[i]? := by unfold stM; rw [List.getElem?_set_ne (Ne.symm h)]
theorem stM_cases {i : Nat} {t : Th} (h : (stM M k j c)[i]? = some t) : (i = k ∧ t = stT (thM M k) j c ∧ k < M.length) ∨ (i ≠ k ∧ M[i]? = some t) := by
  by_cases e : i = k
  · subst e
    have hl := (List.getElem?_eq_some_iff.1 h).1
    rw [stM_len] at hl
    rw [stM_at hl] at h
    exact .inl ⟨rfl, (Option.some.inj h).symm, hl⟩
  · rw [stM_ne e] at h; exact .inr ⟨e, h⟩
theorem stM_map (M : List Th) (k j : Nat) (c : Cl) : (stM M k j c).map sz = M.map sz := by
  apply List.ext_getElem?
  intro i
  rw [List.getElem?_map, List.getElem?_map]
  by_cases e : i = k
  · subst e
    by_cases hl : i < M.length
    · rw [stM_at hl, thM_get hl]; simp [sz, stT]
    · rw [List.getElem?_eq_none (by rw [stM_len]; omega), List.getElem?_eq_none (by omega)]
  · rw [stM_ne e]
theorem stM_tots (M : List Th) (k j : Nat) (c : Cl) : tots (stM M k j c) = tots M := by unfold tots; rw [stM_map]
theorem stM_adr (M : List Th) (k j : Nat) (c : Cl) (i : Nat) : adr (stM M k j c) i = adr M i := by
  unfold adr tots; rw [List.map_take, List.map_take, stM_map]
theorem stM_tgt {x : Cl} {i : Nat} : tgt (stM M k j c) x i ↔ tgt M x i := by unfold tgt; rw [stM_len, stM_adr]
theorem stM_Ok {x : Cl} (h : Ok M x) : Ok (stM M k j c) x := fun hp => by obtain ⟨i, hi⟩ := h hp; exact ⟨i, stM_tgt.2 hi⟩
theorem stM_mem {t : Th} (h : t ∈ stM M k j c) (hk : k < M.length) : ∃ u ∈ M, t.kd = u.kd ∧ t.tg = u.tg ∧ t.l.length = u.l.length ∧ ∀ x ∈ t.l, x = c ∨ x ∈ u.l := by
  obtain ⟨i, hi⟩ := List.getElem?_of_mem h
  rcases stM_cases hi with ⟨rfl, rfl, hl⟩ | ⟨_, hm⟩
  · exact ⟨_, thM_mem hl, rfl, rfl, by simp [stT], fun x hx => by
      rcases List.mem_or_eq_of_mem_set hx with q | q
      · exact .inr q
      · exact .inl q⟩
  · exact ⟨t, List.mem_of_getElem? hm, rfl, rfl, rfl, fun x hx => .inr hx⟩
theorem Gd.set {N n : Nat} {C R : Nat → Cl} (h : Gd N n M C R) (hk : k < M.length) (hj : j < (thM M k).l.length) (ok : Ok M c) : Gd N n (stM M k j c) (Hp.upd C (adr M k + 1 + j) c) R := by
  have hn := adr_next hk
  have oth : ∀ i x, i < M.length → i ≠ k → adr M i ≤ x → x < adr M (i + 1) → Hp.upd C (adr M k + 1 + j) c x = C x := fun i x hi hne h1 h2 => by
    unfold Hp.upd
    rw [if_neg fun e => by
      rcases Nat.lt_or_ge i k with q | q
      · have := adr_le (M := M) (show i + 1 ≤ k by omega) (by omega); omega
      · have := adr_le (M := M) (show k + 1 ≤ i by omega) (by omega); omega]
  refine ⟨⟨fun i t ht => ?_, fun i t p x ht hx => ?_⟩, fun t ht => ?_, ⟨fun t ht x hx => ?_, fun x hx => stM_Ok (h.wf.root x hx), fun t ht => ?_⟩, by rw [stM_tots]; exact h.le⟩
  · rw [stM_adr]
    rcases stM_cases ht with ⟨rfl, rfl, _⟩ | ⟨hne, hm⟩
    · unfold Hp.upd; rw [if_neg (by omega), h.lays.hd _ _ (thM_get hk)]; simp [hdv, stT]
    · have hi := (List.getElem?_eq_some_iff.1 hm).1
      have := adr_lt' (M := M) (show i < i + 1 by omega) hi
      rw [oth i _ hi hne (Nat.le_refl _) this, h.lays.hd i t hm]
  · rw [stM_adr]
    have hp := (List.getElem?_eq_some_iff.1 hx).1
    rcases stM_cases ht with ⟨rfl, rfl, _⟩ | ⟨hne, hm⟩
    · have hp2 : p < (thM M i).l.length := by simpa [stT] using hp
      unfold Hp.upd
      by_cases e : p = j
      · subst e
        rw [if_pos rfl]
        simp only [stT] at hx
        rw [List.getElem?_set_self hj] at hx
        exact Option.some.inj hx
      · rw [if_neg (by omega)]
        simp only [stT] at hx
        rw [List.getElem?_set_ne (Ne.symm e)] at hx
        exact h.lays.fl _ _ _ _ (thM_get hk) hx
    · have hi := (List.getElem?_eq_some_iff.1 hm).1
      have := adr_succ hm
      unfold sz at this
      rw [oth i _ hi hne (by omega) (by omega), h.lays.fl i t p x hm hx]
  · obtain ⟨u, hu, h1, h2, h3, _⟩ := stM_mem ht hk
    have := h.hd u hu
    exact ⟨by rw [h1]; exact this.kd, by rw [h2]; exact this.tg, by rw [h3]; exact this.ln⟩
  · obtain ⟨u, hu, _, _, _, h4⟩ := stM_mem ht hk
    rcases h4 x hx with rfl | q
    · exact stM_Ok ok
    · exact stM_Ok (h.wf.fld u hu x q)
  · obtain ⟨u, hu, h1, h2, _, _⟩ := stM_mem ht hk
    rw [h1, h2]; exact h.wf.kd u hu
theorem stM_th {i : Nat} : thM (stM M k j c) i = if i = k ∧ k < M.length then stT (thM M k) j c else thM M i := by
  by_cases e : i = k ∧ k < M.length
  · obtain ⟨rfl, hl⟩ := e
    rw [if_pos ⟨rfl, hl⟩]; exact thM_eq (stM_at hl)
  · rw [if_neg e]
    unfold thM
    by_cases q : i = k
    · subst q
      rw [List.getElem?_eq_none (by rw [stM_len]; omega), List.getElem?_eq_none (by omega)]
    · rw [stM_ne q]
theorem ths_st (G : Nat → Nat) : ths M.length (adr M) (thM M) G = ths (stM M k j c).length (adr (stM M k j c)) (thM (stM M k j c)) G := by
  rw [stM_len]
  refine ths_ext fun i hi => ?_
  rw [stM_adr, stM_th]
  split
  · rename_i e; obtain ⟨rfl, _⟩ := e; simp [encT, stT]
  · rfl
/-- The rows of the things, one field set. -/
def fldS (M : List Th) (k j : Nat) (c : Cl) : Nat → Nat → Cl := fun q => if q = k then Hp.upd (fld M k) j c else fld M q
theorem fldS_ne : ∀ p, p ≠ k → fldS M k j c p = fld M p := fun p hp => by unfold fldS; rw [if_neg hp]
theorem fldS_set {K : Nat} (h : j < K) : (cls K (fld M k)).take (j * 2) ++ [Value.bool c.p, .int .i64 c.n] ++ (cls K (fld M k)).drop (j * 2 + 2) = cls K (fldS M k j c k) := by
  have e := cls_put (fld M k) h c
  unfold fldS; rw [if_pos rfl, ← e]; rfl
theorem rw_st {w0 w : World} {L0 L : List Sx.Item} (H : Hs w0 L0 w L) (i : Nat) {G : Nat → Nat} (hk : k < M.length) (hj : j < (thM M k).l.length) (hi : L[i]? = some (rwsI M.length G (lnM M) (fldS M k j c))) : Hs w0 L0 w (L.set i (rwsI (stM M k j c).length G (lnM (stM M k j c)) (fld (stM M k j c)))) := by
  refine rw_as H i hi id (fun q hq => ?_) (fun _ _ _ _ e => e)
  rw [stM_len] at hq
  refine ⟨hq, rfl, ?_, fun p hp => ?_⟩
  · unfold lnM; rw [stM_th]; split
    · rename_i e; obtain ⟨rfl, _⟩ := e; simp [stT]
    · rfl
  · unfold fldS fld
    simp only [id]
    rw [stM_th]
    by_cases e : q = k
    · subst e
      rw [if_pos ⟨rfl, hk⟩, if_pos rfl]
      unfold Hp.upd
      simp only [stT]
      by_cases r : p = j
      · subst r; rw [if_pos rfl, List.getElem?_set_self hj]; try rfl
      · rw [if_neg r, List.getElem?_set_ne (Ne.symm r)]; try rfl
    · rw [if_neg (fun r => e r.1), if_neg e]
end
end Go.Hp
