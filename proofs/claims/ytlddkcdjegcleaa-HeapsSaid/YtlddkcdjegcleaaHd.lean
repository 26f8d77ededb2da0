/- Make: what it leaves; a made row of cells. -/
import Derived.Test.YtlddkcdjegcleaaHc
set_option linter.unusedVariables false
set_option linter.unusedSimpArgs false
namespace Go.Hp
structure Gd (N n : Nat) (M : List Th) (C R : Nat → Cl) : Prop where
  lays : Lays M C
  hd : ∀ t ∈ M, HdOk t
  wf : Wf M (rts R n)
  le : tots M ≤ N
noncomputable def colM (M : List Th) (R : Nat → Cl) (n : Nat) : List Th := col M (rb M (rts R n)) M.length
noncomputable def colR (M : List Th) (R : Nat → Cl) (n : Nat) : Nat → Cl := fun j => tn M (rb M (rts R n)) (R j)
def nw1 (kd tg : Int) (k : Nat) : Th := ⟨kd, tg, List.replicate k ⟨false, 0⟩⟩
theorem col_hd {M : List Th} {f : Nat → Bool} {m : Nat} (hm : m ≤ M.length) (h : ∀ t ∈ M, HdOk t) : ∀ t ∈ col M f m, HdOk t := fun t ht => by
  obtain ⟨i, hi, rfl⟩ := List.mem_map.1 ht
  simp only [ks, List.mem_filter, List.mem_range] at hi
  have hl : i < M.length := by omega
  have h0 := h _ (List.getElem_mem hl)
  rw [List.getElem?_eq_getElem hl]
  exact ⟨h0.kd, h0.tg, by simpa [tnT] using h0.ln⟩
theorem rts_col (M : List Th) (R : Nat → Cl) (n : Nat) : rts (colR M R n) n = (rts R n).map (tn M (rb M (rts R n))) := by simp [rts, colR]
theorem colM_tots (M : List Th) (R : Nat → Cl) (n : Nat) : tots (colM M R n) = nx M (rb M (rts R n)) M.length := col_tots _ _ _
theorem Gd.col {N n : Nat} {M : List Th} {C C' R : Nat → Cl} (h : Gd N n M C R) (hl : Lays (colM M R n) C') : Gd N n (colM M R n) C' (colR M R n) :=
  ⟨hl, col_hd (Nat.le_refl _) h.hd, by rw [rts_col]; exact h.wf.col, by
    rw [colM_tots]
    have := nx_le (M := M) (f := rb M (rts R n)) (Nat.le_refl _)
    rw [adr_len] at this
    exact Nat.le_trans this h.le⟩
theorem tgt_app {M : List Th} {c : Cl} {i : Nat} (t : Th) (h : tgt M c i) : tgt (M ++ [t]) c i := by
  obtain ⟨a, b, d⟩ := h
  exact ⟨a, by simp; omega, by rw [adr_app _ _ (by omega)]; exact d⟩
theorem Ok_app {M : List Th} {c : Cl} (t : Th) (h : Ok M c) : Ok (M ++ [t]) c := fun hp => by obtain ⟨i, hi⟩ := h hp; exact ⟨i, tgt_app t hi⟩
theorem Ok_no {M : List Th} {c : Cl} (h : c.p = false) : Ok M c := fun hp => by rw [h] at hp; cases hp
def putC (C : Nat → Cl) (a : Nat) (t : Th) : Nat → Cl := spl (upd C a ⟨false, hdv t⟩) (a + 1) t.l.length (fun _ => ⟨false, 0⟩)
theorem Gd.app {N n : Nat} {M : List Th} {C R : Nat → Cl} (h : Gd N n M C R) {kd tg : Int} {k : Nat} (hk : 0 ≤ kd ∧ kd ≤ 4) (hg : 0 ≤ tg ∧ tg ≤ 65535) (hz : k ≤ 1000000) (hN : tots M + k + 1 ≤ N) : Gd N n (M ++ [nw1 kd tg k]) (putC C (tots M) (nw1 kd tg k)) R := by
  have hln : (nw1 kd tg k).l.length = k := by simp [nw1]
  have old : ∀ x, x < tots M → putC C (tots M) (nw1 kd tg k) x = C x := fun x hx => by unfold putC spl upd; rw [if_neg (by omega), if_neg (by omega)]
  have el : ∀ i t, (M ++ [nw1 kd tg k])[i]? = some t → (i < M.length ∧ M[i]? = some t) ∨ (i = M.length ∧ t = nw1 kd tg k) := fun i t ht => by
    rcases Nat.lt_trichotomy i M.length with q | q | q
    · rw [List.getElem?_append_left q] at ht; exact .inl ⟨q, ht⟩
    · subst q; simp at ht; exact .inr ⟨rfl, ht.symm⟩
    · rw [List.getElem?_eq_none (by simp; omega)] at ht; cases ht
  refine ⟨⟨fun i t ht => ?_, fun i t j c ht hc => ?_⟩, fun t ht => ?_, ⟨fun t ht c hc => ?_, fun c hc => Ok_app _ (h.wf.root c hc), fun t ht => ?_⟩, ?_⟩
  · rcases el i t ht with ⟨q, r⟩ | ⟨rfl, rfl⟩
    · rw [adr_app _ _ (by omega), old _ (by have := adr_lt_tots r; omega), h.lays.hd i t r]
    · rw [adr_app _ _ (Nat.le_refl _), adr_len]; unfold putC spl upd; rw [if_neg (by omega), if_pos rfl]
  · rcases el i t ht with ⟨q, r⟩ | ⟨rfl, rfl⟩
    · have := adr_lt_tots r
      have hj := (List.getElem?_eq_some_iff.1 hc).1
      rw [adr_app _ _ (by omega), old _ (by omega), h.lays.fl i t j c r hc]
    · have hj := (List.getElem?_eq_some_iff.1 hc).1
      rw [adr_app _ _ (Nat.le_refl _), adr_len]; unfold putC spl; rw [if_pos (by omega)]
      have := List.getElem?_eq_some_iff.1 hc
      obtain ⟨_, e⟩ := this
      rw [← e]; simp [nw1]
  · rcases List.mem_append.1 ht with q | q
    · exact h.hd t q
    · rw [List.mem_singleton.1 q]; exact ⟨hk, hg, by rw [hln]; exact hz⟩
  · rcases List.mem_append.1 ht with q | q
    · exact Ok_app _ (h.wf.fld t q c hc)
    · rw [List.mem_singleton.1 q] at hc
      exact Ok_no (by rw [(List.mem_replicate.1 hc).2])
  · rcases List.mem_append.1 ht with q | q
    · exact h.wf.kd t q
    · rw [List.mem_singleton.1 q]; exact ⟨hk.1, hk.2, hg.1, hg.2⟩
  · rw [tots_app, tots_one]; unfold sz; rw [hln]; omega
/-- What Make leaves. -/
structure Out where
  M : List Th
  R : Nat → Cl
  x : Nat
  e : Int
noncomputable def mkF (N n : Nat) (M : List Th) (R : Nat → Cl) (kd tg z : Int) : Out :=
  if kd < 0 ∨ kd > 4 ∨ tg < 0 ∨ tg > 65535 ∨ z < 0 ∨ z > 1000000 then ⟨M, R, 0, 11⟩
  else if N < tots M + z.toNat + 1 then
    if N < tots (colM M R n) + z.toNat + 1 then ⟨colM M R n, colR M R n, 0, 18⟩ else ⟨colM M R n ++ [nw1 kd tg z.toNat], colR M R n, tots (colM M R n), 0⟩
  else ⟨M ++ [nw1 kd tg z.toNat], R, tots M, 0⟩
theorem mkF_bad {N n : Nat} {M : List Th} {R : Nat → Cl} {kd tg z : Int} (h : kd < 0 ∨ kd > 4 ∨ tg < 0 ∨ tg > 65535 ∨ z < 0 ∨ z > 1000000) : mkF N n M R kd tg z = ⟨M, R, 0, 11⟩ := by unfold mkF; rw [if_pos h]
theorem mkF_full {N n : Nat} {M : List Th} {R : Nat → Cl} {kd tg : Int} {k : Nat} (h : 0 ≤ kd ∧ kd ≤ 4 ∧ 0 ≤ tg ∧ tg ≤ 65535 ∧ k ≤ 1000000) (h1 : N < tots M + k + 1) (h2 : N < tots (colM M R n) + k + 1) : mkF N n M R kd tg (k : Int) = ⟨colM M R n, colR M R n, 0, 18⟩ := by
  unfold mkF; rw [if_neg (by omega), Int.toNat_natCast, if_pos h1, if_pos h2]
theorem mkF_col {N n : Nat} {M : List Th} {R : Nat → Cl} {kd tg : Int} {k : Nat} (h : 0 ≤ kd ∧ kd ≤ 4 ∧ 0 ≤ tg ∧ tg ≤ 65535 ∧ k ≤ 1000000) (h1 : N < tots M + k + 1) (h2 : ¬ N < tots (colM M R n) + k + 1) : mkF N n M R kd tg (k : Int) = ⟨colM M R n ++ [nw1 kd tg k], colR M R n, tots (colM M R n), 0⟩ := by
  unfold mkF; rw [if_neg (by omega), Int.toNat_natCast, if_pos h1, if_neg h2]
theorem mkF_app {N n : Nat} {M : List Th} {R : Nat → Cl} {kd tg : Int} {k : Nat} (h : 0 ≤ kd ∧ kd ≤ 4 ∧ 0 ≤ tg ∧ tg ≤ 65535 ∧ k ≤ 1000000) (h1 : ¬ N < tots M + k + 1) : mkF N n M R kd tg (k : Int) = ⟨M ++ [nw1 kd tg k], R, tots M, 0⟩ := by
  unfold mkF; rw [if_neg (by omega), Int.toNat_natCast, if_neg h1]
theorem tots_nw (M : List Th) (kd tg : Int) (k : Nat) : tots (M ++ [nw1 kd tg k]) = tots M + k + 1 := by rw [tots_app, tots_one]; simp [sz, nw1]; omega
theorem hd_nw {kd tg : Int} {k : Nat} (h : 0 ≤ kd ∧ kd ≤ 4 ∧ 0 ≤ tg ∧ tg ≤ 65535 ∧ k ≤ 1000000) : orI .i64 (orI .i64 (shlI .i64 (k : Int) 19) (shlI .i64 tg 3)) kd = hdv (nw1 kd tg k) := by
  rw [hd_make ⟨h.1, h.2.1⟩ ⟨h.2.2.1, h.2.2.2.1⟩ h.2.2.2.2]; simp [hdv, nw1]
theorem cls_clear {N a k : Nat} (C : Nat → Cl) (kd tg : Int) (h : a + 1 + k ≤ N) : (cls N (upd C a ⟨false, hdv (nw1 kd tg k)⟩)).take ((a + 1) * 2) ++ (List.replicate k [Value.bool false, .int .i64 0]).flatten ++ (cls N (upd C a ⟨false, hdv (nw1 kd tg k)⟩)).drop ((a + 1) * 2 + (List.replicate k [Value.bool false, .int .i64 0]).flatten.length) = cls N (putC C a (nw1 kd tg k)) := by
  rw [cls_rep, cls_spl _ _ h]
  unfold putC
  rw [show (nw1 kd tg k).l.length = k by simp [nw1]]
end Go.Hp
namespace Go.Sx
open Go.RowKit Go.Gx Go.Hp
section
variable [Rd] {P : Program} {B : Exit → Act → World → Prop} {b : Nat → Value} {n : Nat} {d : List Deferred} {w0 w : World} {x : St} {L0 L : List Item}
/-- A row of elements of some cells is made. -/
theorem mkC (m e sz by_ len : Nat) (z : Value) (zc : List Value) (H : Hs w0 L0 w L) (hb : by_ * len ≤ 281474976710656) (hn : len ≤ 9223372036854775807) {xs : List Value} (hxs : (List.replicate len zc).flatten = xs)
    (k : ∀ g w', Hs w0 L0 w' (L ++ [.own e sz (some ⟨g, 0, none⟩) len len xs]) → Goal P B b n d (nx (vX (via P b n m w x (ask (mkA P b n)))).y (vX (via P b n m w x (ask (mkA P b n)))).q (.slice (some ⟨g, 0, none⟩) len len)) w')
    (h : vA (via P b n m w x (ask (mkA P b n))) = vB w (via P b n m w x (ask (mkA P b n))) := by kernel_rfl)
    (h2 : ((vX (via P b n m w x (ask (mkA P b n)))).u, (vX (via P b n m w x (ask (mkA P b n)))).t) = ([.int .i64 (len : Int), .int .i64 (len : Int), z], [e, sz, by_]) := by kernel_rfl) (hz : z.cells.toList = zc := by kernel_rfl) (hs : z.cells.size = sz := by kernel_rfl) : Goal P B b n d x w := by
  subst hxs
  obtain ⟨y, hr, hf⟩ := ask_ok h
  refine run_sound hr ?_
  generalize vX (via P b n m w x (ask (mkA P b n))) = zz at *
  unfold mkA at hf
  split at hf <;> try contradiction
  rename_i q hq
  split at hf <;> try contradiction
  rename_i t l c hop
  split at hf <;> try contradiction
  rename_i e1 hu
  split at hf <;> try contradiction
  rename_i inf hinf
  split at hf <;> try contradiction
  rename_i zv hzv
  simp only [Option.some.injEq] at hf
  subst hf
  simp only [Prod.mk.injEq, List.cons.injEq, and_true] at h2
  obtain ⟨⟨h3, h4, rfl⟩, rfl, hsz, rfl⟩ := h2
  obtain ⟨w', hr, hown, hg'⟩ := run_make_full (P := P) w 0 t e1 inf zv sz hu hinf hzv hsz .i64 .i64 len hb (by unfold maxLen; omega) (Nat.zero_le _)
  have e0 : (madeCells zv.cells (len * sz)).toList = (List.replicate len zc).flatten := by rw [← hs, ← hz]; exact zero_flat zv.cells len
  rw [e0] at hown
  refine hd_val hq ?_ (k w.heap.size w' (H.add (it := .own e1 sz (some ⟨w.heap.size, 0, none⟩) len len (List.replicate len zc).flatten) hg' hown (fun c hc => ?_)))
  · unfold execOp
    simp [hop, h3, h4, Sem.run_bind, hr]
  · have : some w.heap.size = some c := hc
    exact Nat.le_of_eq (Option.some.inj this)
end
end Go.Sx
