/- The beginning of a text. -/
import Derived.Test.YtlddkcdjegcleaaSx10
import Derived.Test.YtlddkcdjegcleaaGy
set_option linter.unusedVariables false
set_option linter.unusedSimpArgs false
namespace Go.Sx
open Go.RowKit Go.Gx
section
variable [Rd] {P : Program} {B : Exit → Act → World → Prop} {b : Nat → Value} {n : Nat} {d : List Deferred} {w : World} {x : St}
def ssA (P : Program) (b : Nat → Value) (n : Nat) (x : St) : Option Ask :=
  match hd b n x with
  | some q => match q.2.2.op with
    | .slice t s lo hi mx => match lo, hi, mx with
      | none, some k, none => match P.underlying t with
        | some .string => some ⟨[ev b n x.l s, ev b n x.l k], [], x, q⟩
        | _ => none
      | _, _, _ => none
    | _ => none
  | none => none
/-- s[:k] of a text. -/
theorem sls (m k : Nat) (s : ByteArray) (hk : k ≤ s.size) (g : Goal P B b n d (nx (vX (via P b n m w x (ask (ssA P b n)))).y (vX (via P b n m w x (ask (ssA P b n)))).q (.string (s.extract 0 k))) w)
    (h : vA (via P b n m w x (ask (ssA P b n))) = vB w (via P b n m w x (ask (ssA P b n))) := by kernel_rfl)
    (h2 : (vX (via P b n m w x (ask (ssA P b n)))).u = [.string s, .int .i64 (k : Int)] := by kernel_rfl) : Goal P B b n d x w := by
  obtain ⟨y, hr, hf⟩ := ask_ok h
  refine run_sound hr ?_
  generalize vX (via P b n m w x (ask (ssA P b n))) = z at *
  unfold ssA at hf
  split at hf <;> try contradiction
  rename_i q hq
  split at hf <;> try contradiction
  rename_i t s' lo hi' mx hop
  split at hf <;> try contradiction
  rename_i ko
  split at hf <;> try contradiction
  rename_i hu
  simp only [Option.some.injEq] at hf
  subst hf
  simp only [List.cons.injEq, and_true] at h2
  obtain ⟨h3, h4⟩ := h2
  refine hd_val hq (v := .string (s.extract 0 k)) ?_ g
  have h := run_slice_str (P := P) (w := w) hu none (some (.int .i64 (k : Int))) 0 k (.inl ⟨rfl, rfl⟩) (.inr ⟨_, rfl⟩) (Nat.zero_le _) hk
  have h' : (Instr.sliceAt t (.string s) none (some (.int .i64 (k : Int))) none).run P w = .ok (.string (s.extract 0 k)) w := by
    unfold Instr.sliceAt
    simp only [Sem.run_bind, run_underlying hu, Result.andThen_ok, h]
  unfold execOp
  simp [hop, h3, h4, Sem.run_bind, h']
def scA (P : Program) (b : Nat → Value) (n : Nat) (x : St) : Option Ask :=
  match hd b n x with
  | some q => match q.2.2.op with
    | .binOp op t y z t' => match op with
      | .add => some ⟨[ev b n x.l y, ev b n x.l z], [], x, q⟩
      | _ => none
    | _ => none
  | none => none
/-- Two texts side by side. -/
theorem scat (m : Nat) (s t : ByteArray) (hk : s.size + t.size ≤ 9223372036854775807) (g : Goal P B b n d (nx (vX (via P b n m w x (ask (scA P b n)))).y (vX (via P b n m w x (ask (scA P b n)))).q (.string (s ++ t))) w)
    (h : vA (via P b n m w x (ask (scA P b n))) = vB w (via P b n m w x (ask (scA P b n))) := by kernel_rfl)
    (h2 : (vX (via P b n m w x (ask (scA P b n)))).u = [.string s, .string t] := by kernel_rfl) : Goal P B b n d x w := by
  obtain ⟨y, hr, hf⟩ := ask_ok h
  refine run_sound hr ?_
  generalize vX (via P b n m w x (ask (scA P b n))) = z at *
  unfold scA at hf
  split at hf <;> try contradiction
  rename_i q hq
  split at hf <;> try contradiction
  rename_i op t' y1 z1 t2 hop
  split at hf <;> try contradiction
  simp only [Option.some.injEq] at hf
  subst hf
  simp only [List.cons.injEq, and_true] at h2
  obtain ⟨h3, h4⟩ := h2
  refine hd_val hq (v := .string (s ++ t)) ?_ g
  exact run_concat hop s t h3 h4 hk
end
end Go.Sx
