/- The document's Collect: what its steps leave. -/
import Derived.Test.YtlddkcdjegcleaaHf
set_option linter.unusedVariables false
set_option linter.unusedSimpArgs false
namespace Go.Hp
open Go.RowKit Go.Gx Go.Sx
def aK (M : List Th) (f : Nat → Bool) (k : Nat) : Nat := nx M f (kt M f k)
def tK (M : List Th) (f : Nat → Bool) (k : Nat) : Th := thM M (kt M f k)
def gK (G : Nat → Nat) (M : List Th) (f : Nat → Bool) (k : Nat) : Nat := G (kt M f k)
def lnK (M : List Th) (f : Nat → Bool) (k : Nat) : Nat := lnM M (kt M f k)
def fldK (M : List Th) (f : Nat → Bool) (k : Nat) : Nat → Cl := fld M (kt M f k)
theorem ths_kt {M : List Th} {f : Nat → Bool} (G : Nat → Nat) {i : Nat} (h : i < M.length) (hf : f i = true) : ths (ks f i).length (aK M f) (tK M f) (gK G M f) ++ encT (nx M f i) (thM M i) (G i) = ths (ks f i).length (aK M f) (tK M f) (gK G M f) ++ encT (aK M f (ks f i).length) (tK M f (ks f i).length) (gK G M f (ks f i).length) := by
  unfold aK tK gK; rw [kt_at h hf]
theorem ths_kt' {M : List Th} {f : Nat → Bool} (G : Nat → Nat) {i : Nat} (h : i < M.length) (hf : f i = true) : ths (ks f i).length (aK M f) (tK M f) (gK G M f) ++ encT (nx M f i) (thM M i) (G i) = ths ((ks f i).length + 1) (aK M f) (tK M f) (gK G M f) := by
  rw [ths_kt G h hf, ths_snoc]
theorem kt_inj {M : List Th} {f : Nat → Bool} {p q : Nat} (hp : p < (ks f M.length).length) (hq : q < (ks f M.length).length) (e : kt M f p = kt M f q) : p = q := by
  rw [(kt_of hp).2.2, (kt_of hq).2.2, e]
section
variable {w0 w : World} {L0 L : List Sx.Item}
theorem rw_kept (H : Hs w0 L0 w L) (i : Nat) {M : List Th} (f : Nat → Bool) {G : Nat → Nat} (hi : L[i]? = some (rwsI M.length G (lnM M) (fld M))) : Hs w0 L0 w (L.set i (rwsI (ks f M.length).length (gK G M f) (lnK M f) (fldK M f))) :=
  rw_as H i hi (kt M f) (fun q hq => ⟨(kt_of hq).1, rfl, rfl, fun _ _ => rfl⟩) (fun p q hp hq e => kt_inj hp hq e)
/-- What has been turned. -/
def trF (M : List Th) (f : Nat → Bool) (i j : Nat) : Nat → Nat → Cl := fun q p => if q < i ∨ (q = i ∧ p < j) then tn M f (fldK M f q p) else fldK M f q p
theorem trF_zero (M : List Th) (f : Nat → Bool) : trF M f 0 0 = fldK M f := by funext q p; unfold trF; rw [if_neg (by omega)]
theorem trF_at (M : List Th) (f : Nat → Bool) (i j : Nat) : trF M f i j i j = fldK M f i j := by unfold trF; rw [if_neg (by omega)]
theorem trF_ne (M : List Th) (f : Nat → Bool) (i j : Nat) : ∀ p, p ≠ i → trF M f i (j + 1) p = trF M f i j p := fun p hp => by
  funext x; unfold trF
  by_cases q : p < i
  · rw [if_pos (.inl q), if_pos (.inl q)]
  · rw [if_neg (by omega), if_neg (by omega)]
theorem cls_set' {k j : Nat} (C : Nat → Cl) (h : j < k) (v : Int) : (cls k C).take (j * 2 + 1) ++ [Value.int .i64 v] ++ (cls k C).drop (j * 2 + 1 + 1) = cls k (upd C j ⟨(C j).p, v⟩) := by
  rw [← cls_set C h, List.set_eq_take_append_cons_drop, if_pos (by rw [cls_len]; omega)]
  simp
theorem trF_set {M : List Th} {f : Nat → Bool} {i j k kq : Nat} (h : j < k) (hk : tgt M (fldK M f i j) kq) : (cls k (trF M f i j i)).take (j * 2 + 1) ++ [Value.int .i64 ((nx M f kq : Nat) : Int)] ++ (cls k (trF M f i j i)).drop (j * 2 + 1 + 1) = cls k (trF M f i (j + 1) i) := by
  rw [cls_set' _ h]
  congr 1
  funext x
  unfold upd
  by_cases q : x = j
  · subst q
    rw [if_pos rfl, trF_at]
    unfold trF
    rw [if_pos (.inr ⟨rfl, by omega⟩), tn_yes hk]
  · rw [if_neg q]
    unfold trF
    by_cases r : x < j
    · rw [if_pos (.inr ⟨rfl, r⟩), if_pos (.inr ⟨rfl, by omega⟩)]
    · rw [if_neg (by omega), if_neg (by omega)]
theorem trF_no {M : List Th} {f : Nat → Bool} {i j : Nat} (h : (fldK M f i j).p = false) : trF M f i (j + 1) = trF M f i j := by
  funext q p
  unfold trF
  by_cases e : q = i ∧ p = j
  · obtain ⟨rfl, rfl⟩ := e
    rw [if_pos (.inr ⟨rfl, by omega⟩), if_neg (by omega), tn_no h]
  · by_cases r : q < i ∨ (q = i ∧ p < j)
    · rw [if_pos r, if_pos (by omega)]
    · rw [if_neg r, if_neg (by omega)]
theorem rw_row (H : Hs w0 L0 w L) (i : Nat) {M : List Th} {f : Nat → Bool} {K : Nat} {G : Nat → Nat} {r j : Nat} (hj : ¬ j < lnK M f r) (hi : L[i]? = some (rwsI K G (lnK M f) (trF M f r j))) : Hs w0 L0 w (L.set i (rwsI K G (lnK M f) (trF M f (r + 1) 0))) :=
  rw_as H i hi id (fun q hq => ⟨hq, rfl, rfl, fun p hp => by
    unfold trF
    simp only [id]
    by_cases e : q < r
    · rw [if_pos (by omega), if_pos (.inl e)]
    · by_cases e2 : q = r
      · subst e2; rw [if_pos (by omega), if_pos (.inr ⟨rfl, by omega⟩)]
      · rw [if_neg (by omega), if_neg (by omega)]⟩) (fun _ _ _ _ e => e)
theorem colM_at {M : List Th} {R : Nat → Cl} {n k : Nat} (h : k < (ks (rb M (rts R n)) M.length).length) : thM (colM M R n) k = tnT M (rb M (rts R n)) (tK M (rb M (rts R n)) k) := by
  obtain ⟨h1, h2, h3⟩ := kt_of (M := M) h
  have e := col_at h1 h2 (thM_get h1)
  rw [← h3] at e
  exact thM_eq e
theorem colM_len (M : List Th) (R : Nat → Cl) (n : Nat) : (colM M R n).length = (ks (rb M (rts R n)) M.length).length := col_len _ _ _
theorem colM_adr {M : List Th} {R : Nat → Cl} {n k : Nat} (h : k < (ks (rb M (rts R n)) M.length).length) : adr (colM M R n) k = aK M (rb M (rts R n)) k := by
  obtain ⟨h1, h2, h3⟩ := kt_of (M := M) h
  have e := col_adr (M := M) (f := rb M (rts R n)) (Nat.le_of_lt h1)
  rw [← h3] at e; exact e
theorem ths_col {M : List Th} {R : Nat → Cl} {n : Nat} {f : Nat → Bool} (hf : f = rb M (rts R n)) (G : Nat → Nat) : ths (ks f M.length).length (aK M f) (tK M f) G = ths (colM M R n).length (adr (colM M R n)) (thM (colM M R n)) G := by
  subst hf
  rw [colM_len]
  refine ths_ext fun i hi => ?_
  rw [colM_adr hi, colM_at hi]
  simp [encT, tnT]
theorem rw_done (H : Hs w0 L0 w L) (i : Nat) {M : List Th} {R : Nat → Cl} {n : Nat} {f : Nat → Bool} (hf : f = rb M (rts R n)) {G : Nat → Nat} (hi : L[i]? = some (rwsI (ks f M.length).length G (lnK M f) (trF M f (ks f M.length).length 0))) : Hs w0 L0 w (L.set i (rwsI (colM M R n).length G (lnM (colM M R n)) (fld (colM M R n)))) := by
  subst hf
  refine rw_as H i hi id (fun q hq => ?_) (fun _ _ _ _ e => e)
  rw [colM_len] at hq
  have hl : (thM (colM M R n) q).l.length = lnK M (rb M (rts R n)) q := by rw [colM_at hq]; simp [tnT, lnK, lnM, tK]
  refine ⟨hq, rfl, hl, fun j hj => ?_⟩
  have hj2 : j < (thM (colM M R n) q).l.length := hj
  unfold trF fld
  simp only [id]
  rw [if_pos (.inl hq), colM_at hq]
  rw [hl] at hj2
  have hj3 : j < (thM M (kt M (rb M (rts R n)) q)).l.length := hj2
  simp [tnT, tK, fldK, fld, hj3]
end
/-! ### The roots -/
def jsP (R : Nat → Cl) (i : Nat) : List Nat := (List.range i).filter fun j => (R j).p
theorem jsP_not (R : Nat → Cl) (i : Nat) : i ∉ jsP R i := by unfold jsP; simp
theorem jsP_yes {R : Nat → Cl} {i : Nat} (h : (R i).p = true) : jsP R i ++ [i] = jsP R (i + 1) := by unfold jsP; rw [List.range_succ, List.filter_append]; simp [h]
theorem jsP_no {R : Nat → Cl} {i : Nat} (h : (R i).p = false) : jsP R i = jsP R (i + 1) := by unfold jsP; rw [List.range_succ, List.filter_append]; simp [h]
theorem RK_no {M : List Th} {f : Nat → Bool} {R : Nat → Cl} {k : Nat} (h : (R k).p = false) : RK M f R k = RK M f R (k + 1) := by
  rw [← RK_step, RK_at]; exact (upd_no (by rw [RK_at, tn_no h])).symm
theorem RK_yes {M : List Th} {f : Nat → Bool} {R : Nat → Cl} {k kq : Nat} (h : tgt M (R k) kq) : Hp.upd (RK M f R k) k ⟨(RK M f R k k).p, ((nx M f kq : Nat) : Int)⟩ = RK M f R (k + 1) := by
  rw [← RK_step, RK_at, tn_yes h]
end Go.Hp
namespace Go.Sx
open Go.RowKit Go.Gx
section
variable [Rd] {P : Program} {B : Exit → Act → World → Prop} [Pn B] {b : Nat → Value} {n : Nat} {d : List Deferred} {w0 w : World} {x : St} {L0 L : List Sx.Item}
def faO (b : Nat → Value) (n : Nat) (z : Tz) : Option (List Value × List Nat) := match z.o.op with
  | .fieldAddr t s f => some ([ev b n z.l s], [t, f])
  | _ => none
/-- A field's address, in a drawn region. -/
theorem tvf (i : Nat) (C : List Nat) (a : Addr) (off : Nat) (hS : clrA x = true → Sp w (LJof x))
    (k : Goal P B b n d ((vX (via P b n 0 w x (tvR b n i C))).k (.pointer (some (a.add off)))) w)
    (h : vA (via P b n 0 w x (tvR b n i C)) = vB w (via P b n 0 w x (tvR b n i C)) := by kernel_rfl)
    (h2 : (faO b n (vX (via P b n 0 w x (tvR b n i C)))).map (·.1) = some [.pointer (some a)] := by kernel_rfl)
    (h3 : (match faO b n (vX (via P b n 0 w x (tvR b n i C))) with | some q => fldAt P (q.2.getD 0 0) (q.2.getD 1 0) off | none => false) = true := by kernel_rfl) : Goal P B b n d x w := by
  refine tv i C _ hS (fun w' hs => ?_) k h
  generalize vX (via P b n 0 w x (tvR b n i C)) = z at *
  unfold faO at h2 h3
  split at h2 <;> try contradiction
  rename_i t s f hop
  rw [hop] at h3
  simp only [Option.map_some, Option.some.injEq, List.cons.injEq, and_true] at h2
  exact run_fieldAddrO hop a h2 off h3
end
end Go.Sx
