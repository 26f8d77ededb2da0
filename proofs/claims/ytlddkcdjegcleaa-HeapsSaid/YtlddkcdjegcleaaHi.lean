/- The document's Make: one more thing. -/
import Derived.Test.YtlddkcdjegcleaaHg
set_option linter.unusedVariables false
set_option linter.unusedSimpArgs false
namespace Go.Hp
open Go.RowKit Go.Gx Go.Sx
def gAp (G : Nat → Nat) (m g : Nat) : Nat → Nat := fun q => if q = m then g else G q
theorem thM_app {M : List Th} {t : Th} {i : Nat} (h : i < M.length) : thM (M ++ [t]) i = thM M i := by unfold thM; rw [List.getElem?_append_left h]
theorem thM_new (M : List Th) (t : Th) : thM (M ++ [t]) M.length = t := by unfold thM; simp
theorem ths_app (M : List Th) (G : Nat → Nat) (t : Th) (g : Nat) : ths M.length (adr M) (thM M) G ++ encT (tots M) t g = ths (M.length + 1) (adr (M ++ [t])) (thM (M ++ [t])) (gAp G M.length g) := by
  rw [← ths_snoc, thM_new, adr_app _ _ (Nat.le_refl _), adr_len]
  congr 1
  · refine ths_ext fun i hi => ?_
    rw [adr_app _ _ (Nat.le_of_lt hi), thM_app hi]
    unfold gAp; rw [if_neg (by omega)]
  · unfold gAp; rw [if_pos rfl]
theorem rw_push {w0 w : World} {L0 L : List Sx.Item} (H : Hs w0 L0 w L) (I : List Nat) {M : List Th} {G : Nat → Nat} {g k : Nat} (kd tg : Int) (hp : picked I L = some [rwsI M.length G (lnM M) (fld M), .own 43 2 (some ⟨g, 0, none⟩) k k (cls k (fun _ => ⟨false, 0⟩))]) : Hs w0 L0 w (rwsI (M.length + 1) (gAp G M.length g) (lnM (M ++ [nw1 kd tg k])) (fld (M ++ [nw1 kd tg k])) :: rest I L) :=
  rw_app H I hp (fun q hq => ⟨by unfold gAp; rw [if_neg (by omega)], by unfold lnM; rw [thM_app hq], fun j _ => by unfold fld; rw [thM_app hq]⟩) ⟨by unfold gAp; rw [if_pos rfl], by unfold lnM; rw [thM_new]; simp [nw1], fun j hj => by unfold fld; rw [thM_new]; simp [nw1, hj]⟩
theorem colM_le (M : List Th) (R : Nat → Cl) (n : Nat) : tots (colM M R n) ≤ tots M := by
  rw [colM_tots]
  have := nx_le (M := M) (f := rb M (rts R n)) (Nat.le_refl _)
  rwa [adr_len] at this
theorem colM_wf {M : List Th} {R : Nat → Cl} {n : Nat} (h : Wf M (rts R n)) : Wf (colM M R n) (rts (colR M R n) n) := by rw [rts_col]; exact h.col
theorem encT_nw (a : Nat) (kd tg : Int) (k g : Nat) : encT a (nw1 kd tg k) g = [.int .i64 (a : Int), .int .i64 kd, .int .i64 tg, .slice (some ⟨g, 0, none⟩) k k] := by simp [encT, nw1]
end Go.Hp
namespace Go.Sx
open Go.RowKit Go.Gx
section
variable [Rd] {P : Program} {B : Exit → Act → World → Prop} [Pn B] {b : Nat → Value} {n : Nat} {d : List Deferred} {w0 w : World} {x : St} {L0 L : List Sx.Item}
def nqO (b : Nat → Value) (n : Nat) (z : Tz) : Option (List Value × List Nat) := match z.o.op with
  | .binOp op t y u _ => match op with
    | .neq => some ([ev b n z.l y, ev b n z.l u], [t])
    | _ => none
  | _ => none
/-- Two structs that are the same. -/
theorem tvn (i : Nat) (C : List Nat) (t : TypeId) (xs : Array Value) (he : ∀ w, (Op.equalIn 10000 t (.agg xs) (.agg xs)).run P w = .ok true w) (hq : P.eqGuardType P.depth t = false) (hS : clrA x = true → Sp w (LJof x))
    (k : Goal P B b n d ((vX (via P b n 0 w x (tvR b n i C))).k (.bool false)) w)
    (h : vA (via P b n 0 w x (tvR b n i C)) = vB w (via P b n 0 w x (tvR b n i C)) := by kernel_rfl)
    (h2 : nqO b n (vX (via P b n 0 w x (tvR b n i C))) = some ([.agg xs, .agg xs], [t]) := by kernel_rfl) : Goal P B b n d x w := by
  refine tv i C _ hS (fun w' hs => ?_) k h
  generalize vX (via P b n 0 w x (tvR b n i C)) = z at *
  unfold nqO at h2
  split at h2 <;> try contradiction
  rename_i op t' y u _ hop
  split at h2 <;> try contradiction
  simp only [Option.some.injEq, Prod.mk.injEq, List.cons.injEq, and_true] at h2
  obtain ⟨⟨h3, h4⟩, rfl⟩ := h2
  unfold execOp
  simp [hop, h3, h4, Sem.run_bind, run_eqGuard_agg w' _ _ _ _ _ _ hq, run_neq_struct, he, Result.andThen]
end
end Go.Sx
