/- Two stacks in memory: the program's linked frames and segments, which are never changed. -/
import Derived.Test.YtokplpijjnkboaaSx12
set_option linter.unusedVariables false
set_option linter.unusedSimpArgs false
namespace Go.Stk
open Go.RowKit Go.Sx Go.Gx
structure Seg where
  has : Bool
  tag : Int
  l : List Int
def tot (m : List Seg) : Nat := (m.map (·.l.length)).sum
theorem tot_snoc (m : List Seg) (s : Seg) : tot (m ++ [s]) = tot m + s.l.length := by simp [tot]
theorem tot_app (m k : List Seg) : tot (m ++ k) = tot m + tot k := by simp [tot]
theorem tot_at {m : List Seg} {i : Nat} {s : Seg} (h : m[i]? = some s) : tot (m.take i) + s.l.length ≤ tot m := by
  obtain ⟨hi, e⟩ := List.getElem?_eq_some_iff.1 h
  have h1 : m = m.take i ++ s :: m.drop (i + 1) := by rw [← e, ← List.drop_eq_getElem_cons hi, List.take_append_drop]
  have h2 := congrArg tot h1
  rw [tot_app] at h2
  have h3 : tot (s :: m.drop (i + 1)) = s.l.length + tot (m.drop (i + 1)) := by simp [tot]
  omega
/-- Frames that are linked. -/
inductive Fr (Q : Nat → Prop) (w : World) : Option Addr → List Int → Prop
  | nil : Fr Q w none []
  | snoc {p : Option Addr} {l : List Int} (b : Nat) (f : Int) (hq : Q b) (hb : Has w b (.cells #[.int .i64 f, .pointer p, .int .i64 ((l.length + 1 : Nat) : Int)] 73)) (h : Fr Q w p l) : Fr Q w (some ⟨b, 0, none⟩) (l ++ [f])
/-- Segments that are linked. -/
inductive Sg (Q : Nat → Prop) (w : World) : Option Addr → List Seg → Prop
  | nil : Sg Q w none []
  | snoc {p : Option Addr} {m : List Seg} (b : Nat) (s : Seg) (t : Option Addr) (hq : Q b)
      (hb : Has w b (.cells #[.bool s.has, .int .i64 s.tag, .pointer t, .pointer p, .int .i64 ((tot m + s.l.length : Nat) : Int), .int .i64 ((m.length + 1 : Nat) : Int)] 66)) (ht : Fr Q w t s.l) (h : Sg Q w p m) : Sg Q w (some ⟨b, 0, none⟩) (m ++ [s])
theorem Fr.frame {Q : Nat → Prop} {w w' : World} {p : Option Addr} {l : List Int} (h : Fr Q w p l) (k : ∀ c, Q c → w'.heap[c]? = w.heap[c]?) : Fr Q w' p l := by
  induction h with
  | nil => exact .nil
  | snoc b f hq hb _ ih => exact .snoc b f hq ((k b hq).trans hb) ih
theorem Fr.mono {Q Q' : Nat → Prop} {w : World} {p : Option Addr} {l : List Int} (h : Fr Q w p l) (k : ∀ c, Q c → Q' c) : Fr Q' w p l := by
  induction h with
  | nil => exact .nil
  | snoc b f hq hb _ ih => exact .snoc b f (k b hq) hb ih
theorem Sg.frame {Q : Nat → Prop} {w w' : World} {p : Option Addr} {m : List Seg} (h : Sg Q w p m) (k : ∀ c, Q c → w'.heap[c]? = w.heap[c]?) : Sg Q w' p m := by
  induction h with
  | nil => exact .nil
  | snoc b s t hq hb ht _ ih => exact .snoc b s t hq ((k b hq).trans hb) (ht.frame k) ih
theorem Sg.mono {Q Q' : Nat → Prop} {w : World} {p : Option Addr} {m : List Seg} (h : Sg Q w p m) (k : ∀ c, Q c → Q' c) : Sg Q' w p m := by
  induction h with
  | nil => exact .nil
  | snoc b s t hq hb ht _ ih => exact .snoc b s t (k b hq) hb (ht.mono k) ih
def frI (Q : Nat → Prop) (p : Option Addr) (l : List Int) : Sx.Item := .ro Q (fun w => Fr Q w p l)
def sgI (Q : Nat → Prop) (p : Option Addr) (m : List Seg) : Sx.Item := .ro Q (fun w => Sg Q w p m)
/-- A block that is only read. -/
def rbI (Q : Nat → Prop) (b : Nat) (cs : List Value) (e : Nat) : Sx.Item := .ro Q (fun w => Q b ∧ Has w b (.cells cs.toArray e))
theorem frI_loc (Q : Nat → Prop) (p : Option Addr) (l : List Int) : Sx.Loc Q (fun w => Fr Q w p l) := fun _ _ _ k h => h.frame k
theorem sgI_loc (Q : Nat → Prop) (p : Option Addr) (m : List Seg) : Sx.Loc Q (fun w => Sg Q w p m) := fun _ _ _ k h => h.frame k
theorem rbI_loc (Q : Nat → Prop) (b : Nat) (cs : List Value) (e : Nat) : Sx.Loc Q (fun w => Q b ∧ Has w b (.cells cs.toArray e)) := fun _ _ _ k h => ⟨h.1, (k b h.1).trans h.2⟩
/-- Cells of a block. -/
theorem has_cells {w : World} {b e off n : Nat} {cs : List Value} {xs : List Value} (h : Has w b (.cells cs.toArray e)) (hx : (cs.drop off).take n = xs) (hn : xs.length = n) : w.cells? 0 ⟨b, off, none⟩ n = some xs := by
  refine ChangeShapes.cells?_of (Nat.zero_le _) hn (fun j hj => ?_)
  rw [cell_of_row w b (off + j) cs.toArray e (0, 0) h, ← hx, List.getElem?_take, if_pos (by omega), List.getElem?_drop]
  simp
/-- What says a block's cells. -/
def Says (it : Sx.Item) (b : Nat) (cs : List Value) (e : Nat) : Prop := ∀ w, it.holds w → Has w b (.cells cs.toArray e)
theorem says_rb {Q : Nat → Prop} {b : Nat} {cs : List Value} {e : Nat} : Says (rbI Q b cs e) b cs e := fun _ h => h.1.2
theorem says_blk {b : Nat} {cs : List Value} {e : Nat} : Says (.blk b (.cells cs.toArray e)) b cs e := fun _ h => h
section
variable {w0 w : World} {L0 L : List Sx.Item}
theorem _root_.Go.Sx.Hs.pe {L1 : List Sx.Item} (H : Hs w0 L0 w L) (e : L0 = L1) (I : List Nat) {a : List Sx.Item} (h : picked I L = some a := by kernel_rfl) : Hs w0 L1 w a := e ▸ H.pick I h
theorem said {it : Sx.Item} (H : Hs w0 L0 w L) (j : Nat) {b e : Nat} {cs : List Value} (hs : Says it b cs e) (hi : L[j]? = some it) (off n : Nat) {xs : List Value} (hx : (cs.drop off).take n = xs := by kernel_rfl) (hn : xs.length = n := by kernel_rfl) : w.cells? 0 ⟨b, off, none⟩ n = some xs :=
  has_cells (hs w (H.at j hi)) hx hn
theorem said_sp {it : Sx.Item} {LJ : List Sx.Item} (H : Sp w LJ) (j : Nat) {b e : Nat} {cs : List Value} (hs : Says it b cs e) (hi : LJ[j]? = some it) (off n : Nat) {xs : List Value} (hx : (cs.drop off).take n = xs := by kernel_rfl) (hn : xs.length = n := by kernel_rfl) : w.cells? 0 ⟨b, off, none⟩ n = some xs :=
  has_cells (hs w (H.all _ (List.mem_of_getElem? hi))) hx hn
theorem fr_nil (H : Hs w0 L0 w L) : Hs w0 L0 w (L ++ [frI (fun _ => False) none []]) := H.add (Gx.Ext.refl _) (it := frI (fun _ => False) none []) ⟨.nil, fun _ h => h.elim, frI_loc _ _ _⟩ (fun _ h => h.elim)
theorem sg_nil (H : Hs w0 L0 w L) : Hs w0 L0 w (L ++ [sgI (fun _ => False) none []]) := H.add (Gx.Ext.refl _) (it := sgI (fun _ => False) none []) ⟨.nil, fun _ h => h.elim, sgI_loc _ _ _⟩ (fun _ h => h.elim)
variable {P : Prop}
abbrev frC (f : Int) (p : Option Addr) (l : List Int) : List Value := [.int .i64 f, .pointer p, .int .i64 ((l.length + 1 : Nat) : Int)]
/-- The last frame. -/
theorem fr_cases (H : Hs w0 L0 w L) (j : Nat) (Q : Nat → Prop) (p : Option Addr) (l : List Int) (hi : L[j]? = some (frI Q p l)) (h0 : p = none → l = [] → P)
    (h1 : ∀ b f l' p', p = some ⟨b, 0, none⟩ → l = l' ++ [f] → Hs w0 L0 w (L ++ [rbI Q b (frC f p' l') 73] ++ [frI Q p' l']) → P) : P := by
  have h := (H.at j hi).1
  cases h with
  | nil => exact h0 rfl rfl
  | @snoc p' l' b f hq hb h' =>
    refine h1 b f l' p' rfl rfl ?_
    have H1 := H.ro j (S := Q) (A := fun w => Fr Q w (some ⟨b, 0, none⟩) (l' ++ [f])) (B := fun w => Q b ∧ Has w b (.cells (frC f p' l').toArray 73)) hi ⟨hq, hb⟩ (rbI_loc Q b _ 73)
    exact H1.ro j (S := Q) (A := fun w => Fr Q w (some ⟨b, 0, none⟩) (l' ++ [f])) (B := fun w => Fr Q w p' l') (by rw [List.getElem?_append_left (List.getElem?_eq_some_iff.1 hi).1]; exact hi) h' (frI_loc _ _ _)
abbrev sgC (hs : Bool) (tg : Int) (fs : List Int) (t p : Option Addr) (m : List Seg) : List Value := [.bool hs, .int .i64 tg, .pointer t, .pointer p, .int .i64 ((tot m + fs.length : Nat) : Int), .int .i64 ((m.length + 1 : Nat) : Int)]
/-- The last segment. -/
theorem sg_cases (H : Hs w0 L0 w L) (j : Nat) (Q : Nat → Prop) (p : Option Addr) (m : List Seg) (hi : L[j]? = some (sgI Q p m)) (h0 : p = none → m = [] → P)
    (h1 : ∀ b hs tg fs m' p' t, p = some ⟨b, 0, none⟩ → m = m' ++ [⟨hs, tg, fs⟩] → Hs w0 L0 w (L ++ [rbI Q b (sgC hs tg fs t p' m') 66] ++ [frI Q t fs] ++ [sgI Q p' m']) → P) : P := by
  have h := (H.at j hi).1
  cases h with
  | nil => exact h0 rfl rfl
  | @snoc p' m' b s t hq hb ht h' =>
    obtain ⟨hs, tg, fs⟩ := s
    refine h1 b hs tg fs m' p' t rfl rfl ?_
    have hl := (List.getElem?_eq_some_iff.1 hi).1
    have H1 := H.ro j (S := Q) (A := fun w => Sg Q w (some ⟨b, 0, none⟩) (m' ++ [Seg.mk hs tg fs])) (B := fun w => Q b ∧ Has w b (.cells (sgC hs tg fs t p' m').toArray 66)) hi ⟨hq, hb⟩ (rbI_loc Q b _ 66)
    have H2 := H1.ro j (S := Q) (A := fun w => Sg Q w (some ⟨b, 0, none⟩) (m' ++ [Seg.mk hs tg fs])) (B := fun w => Fr Q w t fs) (by rw [List.getElem?_append_left hl]; exact hi) ht (frI_loc _ _ _)
    exact H2.ro j (S := Q) (A := fun w => Sg Q w (some ⟨b, 0, none⟩) (m' ++ [Seg.mk hs tg fs])) (B := fun w => Sg Q w p' m') (by rw [List.getElem?_append_left (by simp; omega), List.getElem?_append_left hl]; exact hi) h' (sgI_loc _ _ _)
/-- A frame is done. -/
theorem fr_make (H : Hs w0 L0 w L) (I : List Nat) (k : Nat) (f : Int) (Q : Nat → Prop) (p : Option Addr) (l : List Int) (c : ∀ Q', Hs w0 L0 w (frI Q' (some ⟨k, 0, none⟩) (l ++ [f]) :: rest I L) → P)
    (hp : picked I L = some [.blk k (.cells #[.int .i64 f, .pointer p, .int .i64 ((l.length + 1 : Nat) : Int)] 73), frI Q p l] := by kernel_rfl) : P :=
  c _ (H.fz I hp (fun s => .snoc k f ⟨_, .head _, rfl⟩ (s.all _ (.head _)) ((s.all _ (.tail _ (.head _))).1.mono fun c hc => ⟨_, .tail _ (.head _), hc⟩)) (frI_loc _ _ _))
/-- A segment is done. -/
theorem sg_make (H : Hs w0 L0 w L) (I : List Nat) (k : Nat) (hs : Bool) (tg : Int) (fs : List Int) (t p : Option Addr) (Q Q2 : Nat → Prop) (m : List Seg) (c : ∀ Q', Hs w0 L0 w (sgI Q' (some ⟨k, 0, none⟩) (m ++ [⟨hs, tg, fs⟩]) :: rest I L) → P)
    (hp : picked I L = some [.blk k (.cells (sgC hs tg fs t p m).toArray 66), frI Q t fs, sgI Q2 p m] := by kernel_rfl) : P :=
  c _ (H.fz I hp (fun s => .snoc k _ _ ⟨_, .head _, rfl⟩ (s.all _ (.head _)) ((s.all _ (.tail _ (.head _))).1.mono fun c hc => ⟨_, .tail _ (.head _), hc⟩) ((s.all _ (.tail _ (.tail _ (.head _)))).1.mono fun c hc => ⟨_, .tail _ (.tail _ (.head _)), hc⟩)) (sgI_loc _ _ _))
/-- The first segment is done. -/
theorem sg_make0 (H : Hs w0 L0 w L) (I : List Nat) (k : Nat) (hs : Bool) (tg : Int) (fs : List Int) (t : Option Addr) (Q : Nat → Prop) (c : ∀ Q', Hs w0 L0 w (sgI Q' (some ⟨k, 0, none⟩) ([] ++ [⟨hs, tg, fs⟩]) :: rest I L) → P)
    (hp : picked I L = some [.blk k (.cells #[.bool hs, .int .i64 tg, .pointer t, .pointer none, .int .i64 ((fs.length : Nat) : Int), .int .i64 1] 66), frI Q t fs] := by kernel_rfl) : P :=
  c _ (H.fz I hp (fun s => .snoc (m := []) k ⟨hs, tg, fs⟩ t ⟨_, .head _, rfl⟩ (by have h : Has w k _ := s.all _ (.head _); simpa [tot] using h) ((s.all _ (.tail _ (.head _))).1.mono fun c hc => ⟨_, .tail _ (.head _), hc⟩) .nil) (sgI_loc _ _ _))
end
/-! ### Segments in a row -/
/-- A segment at a block: its tag, its frames. -/
def One (Q : Nat → Prop) (w : World) (N : Nat) (b : Nat) (s : Seg) : Prop := ∃ (t u : Option Addr) (x : Int) (y : Nat), N < y ∧ Q b ∧ Has w b (.cells #[.bool s.has, .int .i64 s.tag, .pointer t, .pointer u, .int .i64 x, .int .i64 (y : Int)] 66) ∧ Fr Q w t s.l
inductive Ps (Q : Nat → Prop) (w : World) (N : Nat) : List Nat → List Seg → Prop
  | nil : Ps Q w N [] []
  | cons {b : Nat} {s : Seg} {bs : List Nat} {m : List Seg} (h : One Q w N b s) (k : Ps Q w N bs m) : Ps Q w N (b :: bs) (s :: m)
theorem One.frame {Q : Nat → Prop} {w w' : World} {N b : Nat} {s : Seg} (h : One Q w N b s) (k : ∀ c, Q c → w'.heap[c]? = w.heap[c]?) : One Q w' N b s := by
  obtain ⟨t, u, x, y, hN, hq, hb, hf⟩ := h
  exact ⟨t, u, x, y, hN, hq, (k b hq).trans hb, hf.frame k⟩
theorem One.less {Q : Nat → Prop} {w : World} {N M b : Nat} {s : Seg} (h : One Q w N b s) (k : M ≤ N) : One Q w M b s := by
  obtain ⟨t, u, x, y, hN, r⟩ := h
  exact ⟨t, u, x, y, by omega, r⟩
theorem Ps.less {Q : Nat → Prop} {w : World} {N M : Nat} {bs : List Nat} {m : List Seg} (h : Ps Q w N bs m) (k : M ≤ N) : Ps Q w M bs m := by
  induction h with
  | nil => exact .nil
  | cons h _ ih => exact .cons (h.less k) ih
theorem Ps.snoc {Q : Nat → Prop} {w : World} {N b : Nat} {s : Seg} {bs : List Nat} {m : List Seg} (h : Ps Q w N bs m) (k : One Q w N b s) : Ps Q w N (bs ++ [b]) (m ++ [s]) := by
  induction h with
  | nil => exact .cons k .nil
  | cons h _ ih => exact .cons h ih
theorem Ps.frame {Q : Nat → Prop} {w w' : World} {N : Nat} {bs : List Nat} {m : List Seg} (h : Ps Q w N bs m) (k : ∀ c, Q c → w'.heap[c]? = w.heap[c]?) : Ps Q w' N bs m := by
  induction h with
  | nil => exact .nil
  | cons h _ ih => exact .cons (h.frame k) ih
theorem Ps.len {Q : Nat → Prop} {w : World} {N : Nat} {bs : List Nat} {m : List Seg} (h : Ps Q w N bs m) : bs.length = m.length := by
  induction h with
  | nil => rfl
  | cons _ _ ih => simp [ih]
theorem Ps.at {Q : Nat → Prop} {w : World} {N : Nat} {bs : List Nat} {m : List Seg} (h : Ps Q w N bs m) {i : Nat} {s : Seg} (hi : m[i]? = some s) : ∃ b, bs[i]? = some b ∧ One Q w N b s := by
  induction h generalizing i with
  | nil => simp at hi
  | cons h _ ih =>
    cases i with
    | zero => simp at hi; subst hi; exact ⟨_, rfl, h⟩
    | succ i => obtain ⟨b, h1, h2⟩ := ih (by simpa using hi); exact ⟨b, by simpa using h1, h2⟩
def psI (Q : Nat → Prop) (N : Nat) (bs : List Nat) (m : List Seg) : Sx.Item := .ro Q (fun w => Ps Q w N bs m)
theorem psI_loc (Q : Nat → Prop) (N : Nat) (bs : List Nat) (m : List Seg) : Sx.Loc Q (fun w => Ps Q w N bs m) := fun _ _ _ k h => h.frame k
def ptrs (bs : List Nat) : List Value := bs.map fun b => .pointer (some ⟨b, 0, none⟩)
section
variable {w0 w : World} {L0 L : List Sx.Item}
theorem ps_nil (H : Hs w0 L0 w L) (j : Nat) (Q : Nat → Prop) (N : Nat) (p : Option Addr) (m : List Seg) (hi : L[j]? = some (sgI Q p m)) : Hs w0 L0 w (L ++ [psI Q N [] []]) :=
  H.ro j (S := Q) (A := fun w => Sg Q w p m) (B := fun w => Ps Q w N [] []) hi .nil (psI_loc _ _ _ _)
theorem ps_cons (H : Hs w0 L0 w L) (j r f : Nat) (Q : Nat → Prop) (bs : List Nat) (m : List Seg) (b : Nat) (hs : Bool) (tg : Int) (fs : List Int) (t u : Option Addr) (m1 : List Seg) (hi : L[j]? = some (psI Q 0 bs m)) (hr : L[r]? = some (rbI Q b (sgC hs tg fs t u m1) 66)) (hf : L[f]? = some (frI Q t fs)) :
    Hs w0 L0 w (L ++ [psI Q 0 (b :: bs) (⟨hs, tg, fs⟩ :: m)]) :=
  H.ro j (S := Q) (A := fun w => Ps Q w 0 bs m) (B := fun w => Ps Q w 0 (b :: bs) (⟨hs, tg, fs⟩ :: m)) hi (.cons ⟨t, u, _, m1.length + 1, by omega, (H.at r hr).1.1, (H.at r hr).1.2, (H.at f hf).1⟩ (H.at j hi).1) (psI_loc _ _ _ _)
theorem ps_snoc (H : Hs w0 L0 w L) (j r f : Nat) (Q : Nat → Prop) (N : Nat) (bs : List Nat) (m : List Seg) (b : Nat) (hs : Bool) (tg : Int) (fs : List Int) (t u : Option Addr) (m1 : List Seg) (hi : L[j]? = some (psI Q N bs m)) (hr : L[r]? = some (rbI Q b (sgC hs tg fs t u m1) 66)) (hf : L[f]? = some (frI Q t fs)) (hN : m1.length ≤ N) :
    Hs w0 L0 w (L ++ [psI Q m1.length (bs ++ [b]) (m ++ [⟨hs, tg, fs⟩])]) :=
  H.ro j (S := Q) (A := fun w => Ps Q w N bs m) (B := fun w => Ps Q w m1.length (bs ++ [b]) (m ++ [⟨hs, tg, fs⟩])) hi (((H.at j hi).1.less hN).snoc ⟨t, u, _, m1.length + 1, by omega, (H.at r hr).1.1, (H.at r hr).1.2, (H.at f hf).1⟩) (psI_loc _ _ _ _)
/-- A segment ahead lies elsewhere. -/
theorem ps_apart (H : Hs w0 L0 w L) (j r : Nat) (Q : Nat → Prop) (N : Nat) (bs : List Nat) (m : List Seg) (b : Nat) (hs : Bool) (tg : Int) (fs : List Int) (t u : Option Addr) (m1 : List Seg) (hi : L[j]? = some (psI Q N bs m)) (hr : L[r]? = some (rbI Q b (sgC hs tg fs t u m1) 66)) (hN : m1.length + 1 ≤ N) : ∀ b' ∈ bs, b' ≠ b := by
  have h := (H.at j hi).1
  have hb : Has w b _ := (H.at r hr).1.2
  clear hi hr H
  intro b' hb' e
  subst e
  induction h with
  | nil => cases hb'
  | cons h _ ih =>
    rcases List.mem_cons.1 hb' with rfl | q
    · obtain ⟨t', u', x', y', hy, _, h2, _⟩ := h
      unfold Has at h2 hb
      rw [h2] at hb
      simp at hb
      omega
    · exact ih q
variable {P : Prop}
/-- One of them. -/
theorem ps_at (H : Hs w0 L0 w L) (j : Nat) (Q : Nat → Prop) (N : Nat) (bs : List Nat) (m : List Seg) (i : Nat) (hs : Bool) (tg : Int) (fs : List Int) (hi : L[j]? = some (psI Q N bs m)) (hm : m[i]? = some ⟨hs, tg, fs⟩)
    (k : ∀ b t u (x y : Int), bs[i]? = some b → Hs w0 L0 w (L ++ [rbI Q b [.bool hs, .int .i64 tg, .pointer t, .pointer u, .int .i64 x, .int .i64 y] 66] ++ [frI Q t fs]) → P) : P := by
  obtain ⟨b, hb, t, u, x, y, _, hq, hh, hf⟩ := (H.at j hi).1.at hm
  have hl := (List.getElem?_eq_some_iff.1 hi).1
  refine k b t u x (y : Int) hb ?_
  have H1 := H.ro j (S := Q) (A := fun w => Ps Q w N bs m) (B := fun w => Q b ∧ Has w b (.cells [.bool hs, .int .i64 tg, .pointer t, .pointer u, .int .i64 x, .int .i64 (y : Int)].toArray 66)) hi ⟨hq, hh⟩ (rbI_loc Q b _ 66)
  exact H1.ro j (S := Q) (A := fun w => Ps Q w N bs m) (B := fun w => Fr Q w t fs) (by rw [List.getElem?_append_left hl]; exact hi) hf (frI_loc _ _ _)
end
theorem ptrs_at {bs : List Nat} {i b : Nat} (h : bs[i]? = some b) : (ptrs bs)[i]? = some (.pointer (some ⟨b, 0, none⟩)) := by simp [ptrs, h]
theorem row_set (n b : Nat) (bs : List Nat) : (List.replicate (n + 1) (Value.pointer none) ++ ptrs bs).set n (.pointer (some ⟨b, 0, none⟩)) = List.replicate n (Value.pointer none) ++ ptrs (b :: bs) := by
  rw [List.replicate_succ', List.append_assoc, List.set_append_right _ _ (by simp)]; simp [ptrs]
theorem ptrs_ld {P : Program} {t i b : Nat} {bs : List Nat} (h : bs[i]? = some b) (ht : (match P.underlying t with | some (.pointer _) => true | _ => false) = true := by kernel_rfl) : loadX P t (ptrs bs) (i * 1) (.pointer (some ⟨b, 0, none⟩)) := by
  unfold loadX
  split at ht <;> try contradiction
  rename_i hu
  rw [hu, Nat.mul_one]
  exact ptrs_at h
theorem sg_dup {w0 w : World} {L0 L : List Sx.Item} (H : Hs w0 L0 w L) (j : Nat) (Q : Nat → Prop) (p : Option Addr) (m : List Seg) (hi : L[j]? = some (sgI Q p m)) : Hs w0 L0 w (L ++ [sgI Q p m]) :=
  H.ro j (S := Q) (A := fun w => Sg Q w p m) (B := fun w => Sg Q w p m) hi (H.at j hi).1 (sgI_loc _ _ _)
theorem row_nil {w0 w : World} {L0 L : List Sx.Item} (H : Hs w0 L0 w L) (i e sz cap n : Nat) (A : Option Addr) (xs : List Value) (hi : L[i]? = some (.own e sz A cap n xs)) : Hs w0 L0 w (L.set i (.own e sz A cap n (xs ++ ptrs []))) :=
  H.as i _ hi rfl (by have h := H.at i hi; rw [show xs ++ ptrs [] = xs by simp [ptrs]]; exact h) (fun _ h => h)
/-! ### What is ranged over -/
def tagsF : Nat → List Seg → List (Int × Int)
  | _, [] => []
  | i, s :: m => (if s.has = true then [((i : Int), s.tag)] else []) ++ tagsF (i + 1) m
def allF : Nat → List Seg → List (Int × Int)
  | _, [] => []
  | i, s :: m => s.l.map (fun f => ((i : Int), f)) ++ allF (i + 1) m
theorem tagsF_app (a b : List Seg) (j : Nat) : tagsF j (a ++ b) = tagsF j a ++ tagsF (j + a.length) b := by
  induction a generalizing j with
  | nil => simp [tagsF]
  | cons s a ih => simp only [List.cons_append, tagsF, ih, List.append_assoc, List.length_cons]; congr 3; omega
theorem allF_app (a b : List Seg) (j : Nat) : allF j (a ++ b) = allF j a ++ allF (j + a.length) b := by
  induction a generalizing j with
  | nil => simp [allF]
  | cons s a ih => simp only [List.cons_append, allF, ih, List.append_assoc, List.length_cons]; congr 3; omega
theorem take_split {m : List Seg} {i : Nat} {s : Seg} (h : m[i]? = some s) : m = m.take i ++ s :: m.drop (i + 1) ∧ (m.take i).length = i ∧ m.take (i + 1) = m.take i ++ [s] := by
  obtain ⟨hi, e⟩ := List.getElem?_eq_some_iff.1 h
  exact ⟨by rw [← e, ← List.drop_eq_getElem_cons hi, List.take_append_drop], by rw [List.length_take]; omega, by rw [List.take_add_one, h]; rfl⟩
theorem tags_at {m : List Seg} {i : Nat} {tg : Int} {fs : List Int} (h : m[i]? = some ⟨true, tg, fs⟩) : (tagsF 0 m)[(tagsF 0 (m.take i)).length]? = some ((i : Int), tg) := by
  obtain ⟨h1, h2, _⟩ := take_split h
  have h3 := congrArg (tagsF 0) h1
  rw [tagsF_app, h2] at h3
  rw [h3, List.getElem?_append_right (Nat.le_refl _)]
  simp [tagsF]
theorem tags_step {m : List Seg} {i : Nat} {s : Seg} (h : m[i]? = some s) : (tagsF 0 (m.take (i + 1))).length = (tagsF 0 (m.take i)).length + (if s.has = true then 1 else 0) := by
  obtain ⟨_, _, h3⟩ := take_split h
  rw [h3, tagsF_app, List.length_append]
  simp only [tagsF]
  split <;> simp
theorem all_at {m : List Seg} {i j : Nat} {f : Int} {s : Seg} (h : m[i]? = some s) (hj : s.l[j]? = some f) : (allF 0 m)[(allF 0 (m.take i)).length + j]? = some ((i : Int), f) := by
  obtain ⟨h1, h2, _⟩ := take_split h
  have h3 := congrArg (allF 0) h1
  rw [allF_app, h2] at h3
  have hl := (List.getElem?_eq_some_iff.1 hj).1
  rw [h3, List.getElem?_append_right (Nat.le_add_right _ _), Nat.add_sub_cancel_left, Nat.zero_add, allF, List.getElem?_append_left (by simpa using hl), List.getElem?_map, hj]
  rfl
theorem all_step {m : List Seg} {i : Nat} {s : Seg} (h : m[i]? = some s) : (allF 0 (m.take (i + 1))).length = (allF 0 (m.take i)).length + s.l.length := by
  obtain ⟨_, _, h3⟩ := take_split h
  rw [h3, allF_app, List.length_append]
  simp [allF]
/-- What yield does, of the pairs xs: acc S k: the caller's things when k have come. -/
def Yc (P : Program) (l : Nat) (acc : (Nat → Prop) → Nat → Sx.Item) (xs : List (Int × Int)) : Prop := ∀ (k : Nat) (a c : Int) (S : Nat → Prop) (W : World) (R : Ending → World → Prop), xs[k]? = some (a, c) → Sp W [acc S k] →
  (∀ S' W', Hs W [acc S k] W' [acc S' (k + 1)] → R (.returned (.bool true)) W') → YieldAt Fence.wide 0 P l #[.int .i64 a, .int .i64 c] W (fun e w' => ∃ v, e = .returned v ∧ R e w')
def ints (l : List Int) : List Value := l.map fun f => .int .i64 f
theorem ints_ld {P : Program} {t i : Nat} {f : Int} {l : List Int} (h : l[i]? = some f) (ht : P.underlying t = some (.int .i64) := by kernel_rfl) : loadX P t (ints l) (i * 1) (.int .i64 f) := by
  unfold loadX; rw [ht]; simp [ints, h]
theorem ints_set (n : Nat) (f : Int) (l : List Int) : (List.replicate (n + 1) (Value.int .i64 0) ++ ints l).set n (.int .i64 f) = List.replicate n (Value.int .i64 0) ++ ints (f :: l) := by
  rw [List.replicate_succ', List.append_assoc, List.set_append_right _ _ (by simp)]; simp [ints]
theorem ints_nil {w0 w : World} {L0 L : List Sx.Item} (H : Hs w0 L0 w L) (i e sz cap n : Nat) (A : Option Addr) (xs : List Value) (hi : L[i]? = some (.own e sz A cap n xs)) : Hs w0 L0 w (L.set i (.own e sz A cap n (xs ++ ints []))) :=
  H.as i _ hi rfl (by have h := H.at i hi; rw [show xs ++ ints [] = xs by simp [ints]]; exact h) (fun _ h => h)
/-! ### What is done with a stack -/
def lastG (m : List Seg) : Seg := m.getLast?.getD ⟨false, 0, []⟩
def setM (m : List Seg) (l : List Int) : List Seg := m.dropLast ++ [⟨(lastG m).has, (lastG m).tag, l⟩]
def topM (m : List Seg) : Int × Bool := ((lastG m).l.getLast?.getD 0, (lastG m).l.getLast?.isSome)
def pushM (m : List Seg) (f : Int) : List Seg := setM m ((lastG m).l ++ [f])
def popM (m : List Seg) : List Seg := setM m (lastG m).l.dropLast
def openM (m : List Seg) (t : Int) : List Seg := m ++ [⟨true, t, []⟩]
def canM (m : List Seg) : Bool := decide (1 < m.length) && (lastG m).l.isEmpty
def closeM (m : List Seg) : List Seg × Int × Bool × Bool := if canM m = true then (m.dropLast, (lastG m).tag, (lastG m).has, true) else (m, 0, false, false)
theorem lastG_snoc (m : List Seg) (s : Seg) : lastG (m ++ [s]) = s := by simp [lastG]
theorem setM_snoc (m : List Seg) (hs : Bool) (tg : Int) (l0 l : List Int) : setM (m ++ [Seg.mk hs tg l0]) l = m ++ [Seg.mk hs tg l] := by simp [setM, lastG]
/-! ### Cut -/
def hitB (k tag : Int) : Bool := Int.tmod tag 3 == k
def isHit (k : Int) (s : Seg) : Bool := s.has && hitB k s.tag
/-- The innermost ones first: those ahead of the hit, it, those behind. -/
def cutR (k : Int) : List Seg → Option (List Seg × Seg × List Seg)
  | [] => none
  | s :: r => if isHit k s = true then some ([], s, r) else (cutR k r).map fun p => (s :: p.1, p.2.1, p.2.2)
def askR (k : Int) : List Seg → List Int
  | [] => []
  | s :: r => if s.has = true then s.tag :: (if hitB k s.tag = true then [] else askR k r) else askR k r
def fixS (deep : Bool) (s : Seg) : Seg := if deep = true then s else ⟨false, 0, s.l⟩
theorem ints_app (l : List Int) (f : Int) : ints l ++ [.int .i64 f] = ints (l ++ [f]) := by simp [ints]
end Go.Stk
