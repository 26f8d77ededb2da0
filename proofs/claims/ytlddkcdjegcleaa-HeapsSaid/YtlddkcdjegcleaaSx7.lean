/- Slices of slices; what is read behind a row; rows that are made. -/
import Derived.Test.YtlddkcdjegcleaaSx6
set_option linter.unusedVariables false
set_option linter.unusedSimpArgs false
namespace Go.Sx
open Go.RowKit Go.Gx Go.MapKept
section
variable [Rd] {P : Program} {B : Exit → Act → World → Prop} {b : Nat → Value} {n : Nat} {d : List Deferred} {w0 w : World} {x : St} {L0 L : List Item}
omit [Rd] in
theorem add_add (a : Addr) (i j : Nat) : (a.add i).add j = a.add (i + j) := by
  unfold Addr.add
  by_cases hi : i = 0
  · subst hi; simp
  · by_cases hj : j = 0
    · subst hj; simp [hi]
    · simp [hi, hj, Nat.add_assoc]
omit [Rd] in
theorem own_cap {w : World} {e sz cap c : Nat} {A : Option Addr} {xs : List Value} (h : (Item.own e sz A cap c xs).holds w) : c ≤ cap := by
  rcases h.2 with ⟨hv, h0⟩ | ⟨g, cap', cur, hv, _, _, hnc, _⟩
  · omega
  · injection hv with _ _ h3; omega
def sfA (P : Program) (b : Nat → Value) (n : Nat) (x : St) : Option Ask :=
  match hd b n x with
  | some q => match q.2.2.op with
    | .slice t s lo hi mx => match lo, hi, mx with
      | some k, none, none => match P.underlying t with
        | some (.slice e) => match P.info? e with
          | some inf => some ⟨[ev b n x.l s, ev b n x.l k], [inf.size], x, q⟩
          | none => none
        | _ => none
      | _, _, _ => none
    | _ => none
  | none => none
/-- s[k:] of a slice. -/
theorem sf (m : Nat) (A : Option Addr) (len cap k sz : Nat) (hk : k ≤ len) (hc : len ≤ cap)
    (g : ∀ C : Option Addr, (C = none → A = none) → (∀ a, C = some a → ∃ a0, A = some a0 ∧ (k < len → a = a0.add (k * sz))) → Goal P B b n d (nx (vX (via P b n m w x (ask (sfA P b n)))).y (vX (via P b n m w x (ask (sfA P b n)))).q (.slice C (len - k) (cap - k))) w)
    (h : vA (via P b n m w x (ask (sfA P b n))) = vB w (via P b n m w x (ask (sfA P b n))) := by kernel_rfl)
    (h2 : ((vX (via P b n m w x (ask (sfA P b n)))).u, (vX (via P b n m w x (ask (sfA P b n)))).t) = ([.slice A len cap, .int .i64 (k : Int)], [sz]) := by kernel_rfl) : Goal P B b n d x w := by
  obtain ⟨y, hr, hf⟩ := ask_ok h
  refine run_sound hr ?_
  generalize vX (via P b n m w x (ask (sfA P b n))) = z at *
  unfold sfA at hf
  split at hf <;> try contradiction
  rename_i q hq
  split at hf <;> try contradiction
  rename_i t s lo hi mx hop
  split at hf <;> try contradiction
  rename_i ko
  split at hf <;> try contradiction
  rename_i e hu
  split at hf <;> try contradiction
  rename_i inf hinf
  simp only [Option.some.injEq] at hf
  subst hf
  simp only [Prod.mk.injEq, List.cons.injEq, and_true] at h2
  obtain ⟨⟨h3, h4⟩, rfl⟩ := h2
  refine hd_val hq (v := .slice (if cap = k then A else A.map (·.add (k * inf.size))) (len - k) (cap - k)) ?_ (g _ ?_ ?_)
  · unfold execOp
    have hl : ((k : Int) ≤ (len : Int)) := by omega
    simp [hop, h3, h4, Instr.sliceAt, Instr.slice, run_underlying hu, Sem.run_bind, Instr.sliceBounds, Instr.sliceBound, asIntOf, go_sem, hl, hk, sizeOf, typeInfo, hinf]
  · intro h; split at h
    · exact h
    · cases A with
      | none => rfl
      | some a => simp at h
  · intro a ha
    split at ha
    · exact ⟨a, ha, fun hlt => by omega⟩
    · cases A with
      | none => simp at ha
      | some a0 => simp only [Option.map_some, Option.some.injEq] at ha; exact ⟨a0, rfl, fun _ => ha.symm⟩
/-- Cells that are read, behind the row that is thing i. -/
theorem aps (m i by_ k' e sz t c' : Nat) (C A : Option Addr) (cap c : Nat) (xs news : List Value) (H : Hs w0 L0 w L) (hC : C = none → k' = 0) (hcell : ∀ a, C = some a → ∀ j u, news[j]? = some u → w.cell? (a.add j) = some u)
    (hl : news.length = k' * sz) (h1 : ∀ u ∈ news, u.oneCell' = true)
    (hb : (c + k') * by_ ≤ 140737488355328) (hn : c + k' ≤ 9223372036854775807) (hcc : c ≤ cap) {xs' : List Value} (hx : xs ++ news = xs')
    (k : ∀ A' cap' w', Hs w0 L0 w' (L.set i (.own e sz A' cap' (c + k') xs')) → Goal P B b n d (nx (vX (via P b n m w x (ask (apA P b n)))).y (vX (via P b n m w x (ask (apA P b n)))).q (.slice A' (c + k') cap')) w')
    (h : vA (via P b n m w x (ask (apA P b n))) = vB w (via P b n m w x (ask (apA P b n))) := by kernel_rfl)
    (hi : L[i]? = some (.own e sz A cap c xs) := by kernel_rfl)
    (h2 : ((vX (via P b n m w x (ask (apA P b n)))).u, (vX (via P b n m w x (ask (apA P b n)))).t) = ([.slice A c cap, .slice C k' c'], [t, t, e, sz, by_, sz, 1]) := by kernel_rfl)
    (hz : Nat.blt 0 sz = true := by kernel_rfl) : Goal P B b n d x w := by
  subst hx
  obtain ⟨y, hr, hf⟩ := ask_ok h
  refine run_sound hr ?_
  generalize vX (via P b n m w x (ask (apA P b n))) = z at *
  unfold apA at hf
  split at hf <;> try contradiction
  rename_i q hq
  split at hf <;> try contradiction
  rename_i cl hop
  split at hf <;> try contradiction
  rename_i hcal
  split at hf <;> try contradiction
  rename_i s yv t1 t2 ha1 ha2
  split at hf <;> try contradiction
  rename_i e1 hu
  split at hf <;> try contradiction
  rename_i inf hinf
  simp only [Option.some.injEq] at hf
  subst hf
  simp only [Prod.mk.injEq, List.cons.injEq, and_true] at h2
  obtain ⟨⟨h3, h4⟩, rfl, rfl, rfl, rfl, rfl, h5, h6⟩ := h2
  have hz0 : inf.zero.map (·.cells.size) = some inf.size := by
    cases hzz : inf.zero with
    | none => simp [hzz] at h6
    | some zv => simp only [hzz, Option.map_some, Option.getD_some] at h5; simp [h5]
  have hcl : cl = { callee := .builtin .append, args := #[s, yv], argTypes := #[t2, t2] } := by
    obtain ⟨ce, ca, ct⟩ := cl
    simp only at hcal ha1 ha2
    subst hcal
    congr 1
    · exact Array.toList_inj.1 ha1
    · exact Array.toList_inj.1 ha2
  have hown := H.at i hi
  obtain ⟨zv, hzv, hzs⟩ := Option.map_eq_some_iff.1 hz0
  have key : ∃ v' w', (Builtin.append_ #[t2, t2] q.2.2.type #[.slice A c cap, .slice C k' c']).run P w = .ok v' w' ∧ w'.ownsRow 0 e1 inf.size v' (c + k') (xs ++ news) ∧ w.grownBy w' (Value.slice A c cap).ownBlock ∧ (v'.ownBlock = (Value.slice A c cap).ownBlock ∨ v'.ownBlock = some w.heap.size) := by
    cases C with
    | some a =>
      obtain ⟨v', w', r1, r2, r3, _, r4⟩ := run_append_own_at (P := P) w 0 t2 q.2.2.type e1 inf zv inf.size inf.bytes hu hinf hzv rfl rfl hzs (Nat.le_of_ble_eq_true hz) _ c xs hown a k' c' news hl (hcell a rfl) h1 (by unfold maxLen; omega) hb (Nat.zero_le _)
      exact ⟨v', w', r1, r2, r3, r4⟩
    | none =>
      obtain rfl := hC rfl
      have hnil : news = [] := List.eq_nil_of_length_eq_zero (by simpa using hl)
      subst hnil
      refine ⟨.slice A c cap, w, ?_, by rw [Nat.add_zero, List.append_nil]; exact hown, ⟨rfl, rfl, rfl, Nat.le_refl _, fun _ _ _ => rfl⟩, .inl rfl⟩
      cases A <;> simp [Builtin.append_, run_underlying hu, sizeOf, typeInfo, hinf, Builtin.lenOf, Builtin.firstCells, hcc, storeCells, Sem.run_bind, Result.andThen]
  obtain ⟨v', w', hrun, hown', hG, hblk⟩ := key
  refine hd_val hq ?_ ?_ (v := v') (w' := w')
  · unfold execOp
    rw [hop, hcl]
    simp [h3, h4, resolve, invoke, builtin, Sem.run_bind, hrun]
  · obtain ⟨A', cap', rfl⟩ := own_shape hown'
    refine k A' cap' w' (H.put i hi rfl (Kp.of_G hG) hown' (fun cc hc => ?_))
    rcases hblk with q | q
    · exact .inl (q.symm.trans hc)
    · exact .inr (Nat.le_of_eq (Option.some.inj (q.symm.trans hc)))
end
end Go.Sx
