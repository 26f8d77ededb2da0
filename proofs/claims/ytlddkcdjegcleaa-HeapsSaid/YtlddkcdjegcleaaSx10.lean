/- The beginning of a row of one's own. -/
import Derived.Test.YtlddkcdjegcleaaSx8
set_option linter.unusedVariables false
set_option linter.unusedSimpArgs false
namespace Go.Sx
open Go.RowKit Go.Gx
theorem own_pre {w : World} {e sz n k : Nat} {v : Value} {xs : List Value} {A : Option Addr} {cap : Nat} (hv : v = .slice A n cap) (h : w.ownsRow 0 e sz v n xs) (hk : k ≤ n) : w.ownsRow 0 e sz (.slice A k cap) k (xs.take (k * sz)) := by
  subst hv
  refine ⟨?_, ?_⟩
  · rw [List.length_take, h.1]; exact Nat.min_eq_left (Nat.mul_le_mul_right _ hk)
  · rcases h.2 with ⟨h1, h2⟩ | ⟨g, cap', cur, h1, h2, h3, h4, h5, h6, h7⟩
    · injection h1 with e1 e2 e3
      subst e1 e3
      have : k = 0 := by omega
      subst this
      exact .inl ⟨rfl, rfl⟩
    · injection h1 with e1 e2 e3
      subst e1 e3
      refine .inr ⟨g, cap, cur, rfl, h2, h3, by omega, h5, h6, ?_⟩
      rw [← h7, List.take_take, Nat.min_eq_left (Nat.mul_le_mul_right _ hk)]
section
variable [Rd] {P : Program} {B : Exit → Act → World → Prop} {b : Nat → Value} {n : Nat} {d : List Deferred} {w0 w : World} {x : St} {L0 L : List Item}
def spA (P : Program) (b : Nat → Value) (n : Nat) (x : St) : Option Ask :=
  match hd b n x with
  | some q => match q.2.2.op with
    | .slice t s lo hi mx => match lo, hi, mx with
      | none, some k, none => match P.underlying t with
        | some (.slice e) => match P.info? e with
          | some inf => some ⟨[ev b n x.l s, ev b n x.l k], [inf.size], x, q⟩
          | none => none
        | _ => none
      | _, _, _ => none
    | _ => none
  | none => none
/-- s[:k] of a row of one's own. -/
theorem slp (m i k : Nat) (H : Hs w0 L0 w L) {e sz cap len : Nat} {A : Option Addr} {xs : List Value} (hi : L[i]? = some (.own e sz A cap len xs)) (hk : k ≤ len) {xs' : List Value} (hx : xs.take (k * sz) = xs')
    (g : Hs w0 L0 w (L.set i (.own e sz A cap k xs')) → Goal P B b n d (nx (vX (via P b n m w x (ask (spA P b n)))).y (vX (via P b n m w x (ask (spA P b n)))).q (.slice A k cap)) w)
    (h : vA (via P b n m w x (ask (spA P b n))) = vB w (via P b n m w x (ask (spA P b n))) := by kernel_rfl)
    (h2 : (vX (via P b n m w x (ask (spA P b n)))).u = [.slice A len cap, .int .i64 (k : Int)] := by kernel_rfl) : Goal P B b n d x w := by
  obtain ⟨y, hr, hf⟩ := ask_ok h
  refine run_sound hr ?_
  generalize vX (via P b n m w x (ask (spA P b n))) = z at *
  unfold spA at hf
  split at hf <;> try contradiction
  rename_i q hq
  split at hf <;> try contradiction
  rename_i t s lo hi' mx hop
  split at hf <;> try contradiction
  rename_i ko
  split at hf <;> try contradiction
  rename_i e' hu
  split at hf <;> try contradiction
  rename_i inf hinf
  simp only [Option.some.injEq] at hf
  subst hf
  simp only [List.cons.injEq, and_true] at h2
  obtain ⟨h3, h4⟩ := h2
  have hcap : len ≤ cap := own_cap (H.at i hi)
  have hA : (if cap = 0 then A else A.map (·.add (0 * inf.size))) = A := by
    split
    · rfl
    · cases A with
      | none => rfl
      | some a => simp [Addr.add]
  refine hd_val hq (v := .slice A k cap) ?_ (g (H.as i _ hi rfl (by have := own_pre rfl (H.at i hi) hk; rw [hx] at this; exact this) (fun c hc => ?_)))
  · unfold execOp
    have hl : ((k : Int) ≤ (cap : Int)) := by omega
    simp [hop, h3, h4, Instr.sliceAt, Instr.slice, run_underlying hu, Sem.run_bind, Instr.sliceBounds, Instr.sliceBound, asIntOf, go_sem, hl, sizeOf, typeInfo, hinf]
    intro hlt; omega
  · cases A with
    | none => simp [Item.fp, Value.ownBlock] at hc
    | some a => simpa [Item.fp, Value.ownBlock] using hc
end
/-! ### Where one stands, said anew -/
/-- A part of a function's text, by the way to it. -/
def cat : List Nat → Code → Code
  | [], c => c
  | i :: r, c => match c with
    | .seq a b => match i with
      | 0 => cat r a
      | _ + 1 => cat r b
    | .cond _ a b => match i with
      | 0 => cat r a
      | _ + 1 => cat r b
    | .block _ c => cat r c
    | .loop c => cat r c
    | .scope c => cat r c
    | c => c
section
variable [Rd] {P : Program} {B : Exit → Act → World → Prop} {b : Nat → Value} {n : Nat} {d : List Deferred} {w : World} {x : St}
theorem nz (m : Nat) (f' : Fo) (k' : List Kt) (l' : List (Nat × Value)) (k : ∀ b' : Nat → Value, Goal P B b' n d ⟨f', k', l'⟩ w)
    (h : vA (via P b n m w x fun y => some (0, 0, y)) = vB w (via P b n m w x fun y => some (0, 0, y)) := by kernel_rfl)
    (h1 : (vX (via P b n m w x fun y => some (0, 0, y))).f = f' := by kernel_rfl)
    (h3 : (vX (via P b n m w x fun y => some (0, 0, y))).k = k' := by kernel_rfl)
    (h2 : l'.map (fun p => get b (vX (via P b n m w x fun y => some (0, 0, y))).l p.1) = l'.map (fun p => p.2) := by kernel_rfl) : Goal P B b n d x w :=
  fg m l' (fun b' => by rw [h1, h3]; exact k b') h h2
end
end Go.Sx
