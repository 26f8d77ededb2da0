/- The law's own: numbers modulo, pairs compared. -/
import Derived.Test.YtokplpijjnkboaaStf
import Derived.ChangeKeysEq
set_option linter.unusedVariables false
set_option linter.unusedSimpArgs false
namespace Go.Sx
open Go.RowKit Go.Gx
section
variable {P : Program} {fn : Func} {R : Ending → World → Prop} {b : Nat → Value} {n : Nat} {d : List Deferred} {w0 w : World} {x : St} {L0 L : List Sx.Item}
theorem run_arr2 (w : World) (dd : Nat) {t e : TypeId} {i : TypeInfo} (a c : Int) (hu : P.underlying t = some (.array 2 e)) (hi : P.info? e = some i) (he : P.underlying e = some (.int .i64)) (hc : P.cellsOf e = 1) :
    (Op.equalIn (dd + 2) t (.agg #[.int .i64 a, .int .i64 c]) (.agg #[.int .i64 a, .int .i64 c])).run P w = .ok true w := by
  rw [run_equalIn_array w (dd + 1) _ _ hu hi, hc]
  simp [List.range, List.range.loop, Op.eqItems, part, isAgg, run_underlying he, Op.equalIn, Sem.run_bind, go_sem]
def nqO (P : Program) (b : Nat → Value) (n : Nat) (z : Tz) : Option (List Value × List Nat) := match z.o.op with
  | .binOp op t y u _ => match op with
    | .neq => match P.underlying t with
      | some (.array k e) => match P.underlying e with
        | some (.int .i64) => match P.info? e, P.eqGuardType P.depth t with
          | some _, false => some ([ev b n z.l y, ev b n z.l u], [k, P.cellsOf e])
          | _, _ => none
        | _ => none
      | _ => none
    | _ => none
  | _ => none
/-- Two pairs that are the same. -/
theorem tvq (i : Nat) (C : List Nat) (a c : Int) (hS : clrA x = true → Sp w (LJof x))
    (k : Goal P (bodyPost P fn R) b n d ((vX (via P b n 0 w x (tvR b n i C))).k (.bool false)) w)
    (h : vA (via P b n 0 w x (tvR b n i C)) = vB w (via P b n 0 w x (tvR b n i C)) := by kernel_rfl)
    (h2 : nqO P b n (vX (via P b n 0 w x (tvR b n i C))) = some ([.agg #[.int .i64 a, .int .i64 c], .agg #[.int .i64 a, .int .i64 c]], [2, 1]) := by kernel_rfl) : Goal P (bodyPost P fn R) b n d x w := by
  refine tv i C _ hS (fun w' hs => ?_) k h
  generalize vX (via P b n 0 w x (tvR b n i C)) = z at *
  unfold nqO at h2
  split at h2 <;> try contradiction
  rename_i op t y u _ hop
  split at h2 <;> try contradiction
  split at h2 <;> try contradiction
  rename_i kk e hu
  split at h2 <;> try contradiction
  rename_i he
  split at h2 <;> try contradiction
  rename_i inf hi hq
  simp only [Option.some.injEq, Prod.mk.injEq, List.cons.injEq, and_true] at h2
  obtain ⟨⟨h3, h4⟩, rfl, hc⟩ := h2
  unfold execOp
  simp [hop, h3, h4, eqGuard, hq, Sem.run_bind, binOp, Op.equal, Op.maxDepth, run_arr2 w' 9998 a c hu hi he hc, go_sem]
end
end Go.Sx
namespace Go.Stk
open Go.RowKit Go.Sx Go.Gx
theorem tmod_emod (n m : Int) : Int.tmod n m % m = n % m := by
  have h := Int.tmod_add_mul_tdiv n m
  have h2 : (Int.tmod n m + m * Int.tdiv n m) % m = Int.tmod n m % m := Int.add_mul_emod_self_left ..
  rw [← h2, h]
theorem tmod_lt (n : Int) (m : Nat) (hm : 0 < m) : -(m : Int) < Int.tmod n m ∧ Int.tmod n m < (m : Int) :=
  ⟨Int.lt_tmod_of_pos n (by omega), Int.tmod_lt_of_pos n (by omega)⟩
theorem mod_neg (n : Int) (m : Nat) (hm : 0 < m) (h : Int.tmod n m < 0) : Int.tmod n m + m = n % m := by
  have := tmod_lt n m hm
  rw [← tmod_emod n m, ← Int.add_emod_right, Int.emod_eq_of_lt (by omega) (by omega)]
theorem mod_pos (n : Int) (m : Nat) (hm : 0 < m) (h : ¬ Int.tmod n m < 0) : Int.tmod n m = n % m := by
  have := tmod_lt n m hm
  rw [← tmod_emod n m, Int.emod_eq_of_lt (by omega) (by omega)]
theorem prs_len (xs : List (Int × Int)) : (prs xs).length = xs.length * 2 := by
  induction xs with
  | nil => rfl
  | cons x xs ih => simp only [prs, List.flatMap_cons, List.length_append, List.length_cons, List.length_nil] at ih ⊢; omega
theorem prs_at {xs : List (Int × Int)} {i : Nat} {a c : Int} (h : xs[i]? = some (a, c)) : ((prs xs).drop (i * 2)).take 2 = [.int .i64 a, .int .i64 c] := by
  obtain ⟨hi, e⟩ := List.getElem?_eq_some_iff.1 h
  have h1 : xs = xs.take i ++ ((a, c) :: xs.drop (i + 1)) := by rw [← e, ← List.drop_eq_getElem_cons hi, List.take_append_drop]
  have h2 : prs xs = prs (xs.take i) ++ prs ((a, c) :: xs.drop (i + 1)) := by conv => lhs; rw [h1]
                                                                              simp [prs]
  have h3 : (prs (xs.take i)).length = i * 2 := by rw [prs_len, List.length_take]; omega
  rw [h2, List.drop_left' h3]
  simp [prs]
theorem prs_ld {P : Program} {t i : Nat} {a c : Int} {xs : List (Int × Int)} (h : xs[i]? = some (a, c)) (ht : (match P.underlying t, P.info? t with | some (.array _ _), some inf => Nat.beq inf.size 2 | _, _ => false) = true := by kernel_rfl) : loadX P t (prs xs) (i * 2) (.agg #[.int .i64 a, .int .i64 c]) := by
  have hi := (List.getElem?_eq_some_iff.1 h).1
  unfold loadX
  split at ht <;> try contradiction
  rename_i k e inf hu hinf
  rw [hu]
  have hs : inf.size = 2 := Nat.eq_of_beq_eq_true ht
  exact ⟨inf, hinf, by rw [hs, prs_len]; omega, by rw [hs, prs_at h]⟩
end Go.Stk
