/- Tokens side by side, and how a reader stands before them: plain laws. -/
import Derived.Test.YtinilkomfggjiaaDoorLexSplit
import Derived.Test.YtinilkomfggjiaaDoorSynPlain
set_option linter.unusedVariables false
set_option linter.unusedSimpArgs false
namespace Go.Ag
open Go.Gx (byteAt)
open Go.Lex Go.Syn
abbrev Tk := Nat × ByteArray × Nat
abbrev e0 : ByteArray := ⟨#[]⟩
abbrev tkE : Tk := (0, e0, 0)
def sayT (x : Tk) : ByteArray := if x.1 = 1 then Lex.digB x.2.2 ⟨#[]⟩ else x.2.1
structure GT (x : Tk) : Prop where
  kind : 1 ≤ x.1 ∧ x.1 ≤ 4
  quiet : ∀ k, k < (sayT x).size → (byteAt (sayT x) k).toNat ≠ 35
  toks : sigs (toks (sayT x) 0) = ([x, tkE], 0)
theorem GT.of {m : Nat} {x : Nx} (h : Lex.Good m x) : GT (sig x) := ⟨h.kind, h.quiet, h.toks⟩
def joinW : List Tk → ByteArray
  | [] => ⟨#[]⟩
  | [x] => sayT x
  | x :: y :: r => (sayT x ++ ⟨#[32]⟩) ++ joinW (y :: r)
theorem joinW_cons (x : Tk) {l : List Tk} (h : l ≠ []) : joinW (x :: l) = (sayT x ++ ⟨#[32]⟩) ++ joinW l := by
  cases l with
  | nil => exact absurd rfl h
  | cons y r => rfl
theorem joinW_app {l m : List Tk} (hl : l ≠ []) (hm : m ≠ []) : joinW (l ++ m) = (joinW l ++ ⟨#[32]⟩) ++ joinW m := by
  induction l with
  | nil => exact absurd rfl hl
  | cons x r ih =>
    cases r with
    | nil => exact joinW_cons x hm
    | cons y r =>
      rw [List.cons_append, joinW_cons x (by simp), joinW_cons x (by simp), ih (by simp)]
      simp only [append_assoc']
theorem toks_joinW {l : List Tk} (h : ∀ x ∈ l, GT x) : sigs (toks (joinW l) 0) = (l ++ [tkE], 0) := by
  induction l with
  | nil => rw [joinW, toks_nil0]; rfl
  | cons x r ih =>
    cases r with
    | nil => exact (h x List.mem_cons_self).toks
    | cons y r =>
      have g := h x List.mem_cons_self
      have h1 := ih (fun z hz => h z (List.mem_cons_of_mem _ hz))
      have t1 := g.toks
      have hc := cat_append (sayT x) (joinW (y :: r)) 32
      simp only [sigs, Prod.mk.injEq] at h1 t1
      have := (hc.toksL (by decide +kernel) (.inr g.quiet) 0 (Nat.zero_le _) t1.2 h1.2).1
      rw [joinW_cons x (by simp), this, List.map_append, List.map_dropLast, t1.1, h1.1]
      rfl
theorem gt_word {w : ByteArray} (h0 : 0 < w.size) (h20 : w.size ≤ 20) (hl : ∀ i, i < w.size → letterB (byteAt w i) = true) (hd : digitB (byteAt w 0) = false) (hw : wordB w = true) : GT (3, w, 0) := by
  have hs : stop (fun c => letterB c || digitB c) w 0 = w.size := stop_all 0 (Nat.zero_le _) (fun i hi => by rw [hl i hi]; rfl)
  have hx : w.extract 0 w.size = w := ByteArray.extract_zero_size
  have e : tokAt w 0 = ⟨3, 0, w, 0, w.size, 0, 0⟩ := by
    unfold tokAt
    rw [hd, if_neg (by decide), if_pos (hl 0 h0)]
    unfold nameAt
    rw [hs, if_neg (by omega), hx, if_pos hw]
  have g := GT.of (self_tok (s := w) (j := 0) h0 (by rw [e]))
  rw [e] at g
  exact g
theorem gt_sign {w : ByteArray} (h0 : 0 < w.size) (hd : digitB (byteAt w 0) = false) (hl : letterB (byteAt w 0) = false) (hg : signB (byteAt w 0) = true) (hn : signLen w 0 = w.size) : GT (4, w, 0) := by
  have hx : w.extract 0 w.size = w := ByteArray.extract_zero_size
  have e : tokAt w 0 = ⟨4, 0, w, 0, w.size, 0, 0⟩ := by
    unfold tokAt
    rw [hd, if_neg (by decide), hl, if_neg (by decide), if_pos hg, hn, Nat.zero_add, hx]
  have g := GT.of (self_tok (s := w) (j := 0) h0 (by rw [e]))
  rw [e] at g
  exact g
structure St (S : ByteArray) (q : Rs) (L : List Tk) : Prop where
  fk : q.fk = 0
  e : q.e ≤ S.size
  at_ : ∃ r, L = (q.k, q.t, q.n) :: r ∧ (q.k ≠ 0 → sigs (toks S q.e) = (r, 0))
theorem toks_of {S : ByteArray} {i : Nat} {L : List Tk} (hi : i ≤ S.size) (h : sigs (toks S i) = (L, 0)) :
    (next S i).fk = 0 ∧ ∃ r, L = sig (next S i) :: r ∧ ((next S i).kind ≠ 0 → (next S i).nx ≤ S.size ∧ sigs (toks S (next S i).nx) = (r, 0)) := by
  by_cases h1 : (next S i).fk = 0
  · refine ⟨h1, ?_⟩
    by_cases h2 : (next S i).kind = 0
    · rw [toks_end h1 h2] at h
      simp only [sigs, List.map_cons, List.map_nil, Prod.mk.injEq] at h
      exact ⟨[], h.1.symm, fun q => absurd h2 q⟩
    · have hp := next_prog hi h1 h2
      rw [toks_go hi h1 h2] at h
      unfold addTok at h
      split at h
      · rename_i h3
        simp only [sigs, List.map_cons, Prod.mk.injEq] at h
        exact ⟨_, h.1.symm, fun _ => ⟨hp.2, Prod.ext rfl h3⟩⟩
      · rename_i h3
        simp only [sigs, Prod.mk.injEq] at h
        exact absurd h.2 h3
  · rw [toks_fault h1] at h
    simp only [sigs, Prod.mk.injEq] at h
    exact absurd h.2 h1
theorem next_nx {S : ByteArray} {i : Nat} (h : (next S i).fk = 0) (hk : (next S i).kind = 0) (hi : i ≤ S.size) : (next S i).nx ≤ S.size := by
  have := next_end h hk
  unfold next
  rw [if_neg this]
  exact Nat.le_refl _
section
variable {S : ByteArray} {q : Rs} {L r : List Tk} {k n : Nat} {t : ByteArray}
theorem St.head (h : St S q ((k, t, n) :: r)) : q.k = k ∧ q.t = t ∧ q.n = n := by
  obtain ⟨r', e, _⟩ := h.at_
  simp only [List.cons.injEq, Prod.mk.injEq] at e
  exact ⟨e.1.1.symm, e.1.2.1.symm, e.1.2.2.symm⟩
theorem St.ok (h : St S q L) : okB q = true := (okB_iff q).2 h.fk
theorem St.next (h : St S q ((k, t, n) :: r)) (hk : k ≠ 0) : St S (nextR S q) r ∧ (nextR S q).x = q.x ∧ (nextR S q).y = q.y := by
  have hh := h.head
  obtain ⟨r', e, g⟩ := h.at_
  simp only [List.cons.injEq] at e
  obtain ⟨_, rfl⟩ := e
  have g := g (by omega)
  obtain ⟨h1, r2, e2, h2⟩ := toks_of h.e g
  unfold nextR
  rw [if_pos h.ok]
  refine ⟨⟨h1, ?_, r2, e2, fun q => (h2 q).2⟩, rfl, rfl⟩
  by_cases hk : (Lex.next S q.e).kind = 0
  · exact next_nx h1 hk h.e
  · exact (h2 hk).1
theorem St.is (h : St S q ((k, t, n) :: r)) (hk : k = 3 ∨ k = 4) : isB q t = true := by
  obtain ⟨h1, h2, h3⟩ := h.head
  unfold isB
  rw [h.ok, h1, h2]
  rcases hk with rfl | rfl <;> simp
theorem St.name (h : St S q ((2, t, n) :: r)) : isNameB q = true := by
  obtain ⟨h1, h2, h3⟩ := h.head
  unfold isNameB
  rw [h.ok, h1]
  rfl
theorem St.xy {q' : Rs} (h : St S q L) (hk : q'.k = q.k) (ht : q'.t = q.t) (hn : q'.n = q.n) (he : q'.e = q.e) (hf : q'.fk = q.fk) : St S q' L := by
  obtain ⟨f, e, r, e1, e2⟩ := h
  exact ⟨by rw [hf]; exact f, by rw [he]; exact e, r, by rw [hk, ht, hn]; exact e1, by rw [hk, he]; exact e2⟩
end
theorem St.first {S : ByteArray} {L : List Tk} (h : sigs (toks S 0) = (L, 0)) : St S (nextR S q00) L := by
  obtain ⟨h1, r2, e2, h2⟩ := toks_of (Nat.zero_le _) h
  unfold nextR
  rw [if_pos (by decide)]
  refine ⟨h1, ?_, r2, e2, fun q => (h2 q).2⟩
  by_cases hk : (Lex.next S 0).kind = 0
  · exact next_nx h1 hk (Nat.zero_le _)
  · exact (h2 hk).1
end Go.Ag
