/- Solve: what both are asked, and the pairs in memory. -/
import Derived.Test.YtfkkocjheeoobaaSw8
import Derived.Test.YtfkkocjheeoobaaSf
import Derived.Test.YtfkkocjheeoobaaSx4
import Derived.Maps.RangeRun
import Derived.Test.YtfkkocjheeoobaaCheck
import Derived.Test.YtfkkocjheeoobaaSw9
import Derived.Test.YtfkkocjheeoobaaProg
import Derived.Test.YtfkkocjheeoobaaShelf
import Derived.Test.YtfkkocjheeoobaaGx
set_option linter.unusedVariables false
set_option linter.unusedSimpArgs false
set_option linter.unusedVariables false
set_option linter.unusedSimpArgs false
namespace Go.Slv
open Go.RowKit Go.Sx Go.Inf Go.Gx
def O3 (t : Tr) : Prop := ∃ c, FN c t ∧ c ≤ 300
def POk (r : Tr × Tr) : Prop := O3 r.1 ∧ O3 r.2
abbrev Out := Fl ⊕ List Ty
def ConvL (rl : List (Tr × Tr)) (ls : List (Ty × Ty)) : Prop := ls.length = rl.length ∧ ∀ (i : Nat) (r : Tr × Tr) (l : Ty × Ty), rl[i]? = some r → ls[i]? = some l → Conv r.1 l.1 ∧ Conv r.2 l.2 ∧ FineP l
/-- What Solve answers. -/
structure SO (solve : Nat → List (Ty × Ty) → Option Out) (rl : List (Tr × Tr)) (R : Out) : Prop where
  big : 20 < rl.length → R = .inl (11, 20)
  bad : rl.length ≤ 20 → ∀ (i : Nat) (r : Tr × Tr), (∀ (j : Nat) (q : Tr × Tr), j < i → rl[j]? = some q → POk q) → rl[i]? = some r → ¬ POk r → R = .inl (11, i)
  ok : rl.length ≤ 20 → (∀ (j : Nat) (q : Tr × Tr), rl[j]? = some q → POk q) → ∃ ls k, ConvL rl ls ∧ solve k ls = some R
theorem POk.conv {r : Tr × Tr} (h : POk r) : ∃ l, Conv r.1 l.1 ∧ Conv r.2 l.2 ∧ FineP l := by
  obtain ⟨⟨c, h1, h2⟩, c', h3, h4⟩ := h
  obtain ⟨u, a, b⟩ := h1.fine (by omega)
  obtain ⟨u', a', b'⟩ := h3.fine (by omega)
  exact ⟨(u, u'), b, b', c, c', a, a', h2, h4⟩
theorem ConvL.fine {rl : List (Tr × Tr)} {ls : List (Ty × Ty)} (h : ConvL rl ls) : ∀ p ∈ ls, FineP p := fun p hp => by
  obtain ⟨i, hi, rfl⟩ := List.mem_iff_getElem.1 hp
  have : i < rl.length := by rw [← h.1]; exact hi
  exact (h.2 i _ _ (List.getElem?_eq_getElem this) (List.getElem?_eq_getElem hi)).2.2
theorem least {P : Nat → Prop} (h : ∃ i, P i) : ∃ i, P i ∧ ∀ j, j < i → ¬ P j := by
  obtain ⟨n, hn⟩ := h
  induction n using Nat.strongRecOn with
  | _ n ih =>
    by_cases k : ∃ j, j < n ∧ P j
    · obtain ⟨j, h1, h2⟩ := k; exact ih j h1 h2
    · exact ⟨n, hn, fun j h1 h2 => k ⟨j, h1, h2⟩⟩
/-! ### The pairs in memory -/
def PsIn (w : World) (S : Nat → Prop) (A : Option Addr) (rl : List (Tr × Tr)) : Prop := ∀ (i : Nat) (r : Tr × Tr), rl[i]? = some r → ∃ q1 q2 a, A = some a ∧ S a.block ∧ w.cells? 0 (a.add (i * 10)) 10 = some (trC r.1 q1 ++ trC r.2 q2) ∧
  w.cells? 0 (a.add (i * 10)) 5 = some (trC r.1 q1) ∧ w.cells? 0 ((a.add (i * 10)).add 5) 5 = some (trC r.2 q2) ∧ TrIn w S q1 r.1 ∧ TrIn w S q2 r.2
def psI (S : Nat → Prop) (A : Option Addr) (rl : List (Tr × Tr)) : Sx.Item := .ro S (fun w => PsIn w S A rl)
theorem psI_loc (S : Nat → Prop) (A : Option Addr) (rl : List (Tr × Tr)) : Sx.Loc S (fun w => PsIn w S A rl) := fun _ _ _ hk h i r hr => by
  obtain ⟨q1, q2, a, ha, hS, h1, h2, h3, h4, h5⟩ := h i r hr
  have k := hk _ hS
  exact ⟨q1, q2, a, ha, hS, cells_same h1 (by rw [add_block]; exact k), cells_same h2 (by rw [add_block]; exact k), cells_same h3 (by rw [add_block, add_block]; exact k), h4.keep hk, h5.keep hk⟩
def PyIn (w : World) (S : Nat → Prop) (A : Option Addr) (ls : List (Ty × Ty)) : Prop := ∀ (i : Nat) (l : Ty × Ty), ls[i]? = some l → ∃ q1 q2 a, A = some a ∧ S a.block ∧ w.cells? 0 (a.add (i * 10)) 10 = some (tvC l.1 q1 ++ tvC l.2 q2) ∧
  w.cells? 0 (a.add (i * 10)) 5 = some (tvC l.1 q1) ∧ w.cells? 0 ((a.add (i * 10)).add 5) 5 = some (tvC l.2 q2) ∧ TyIn w S q1 l.1 ∧ TyIn w S q2 l.2
def pyI (S : Nat → Prop) (A : Option Addr) (ls : List (Ty × Ty)) : Sx.Item := .ro S (fun w => PyIn w S A ls)
theorem pyI_loc (S : Nat → Prop) (A : Option Addr) (ls : List (Ty × Ty)) : Sx.Loc S (fun w => PyIn w S A ls) := fun _ _ _ hk h i r hr => by
  obtain ⟨q1, q2, a, ha, hS, h1, h2, h3, h4, h5⟩ := h i r hr
  have k := hk _ hS
  exact ⟨q1, q2, a, ha, hS, cells_same h1 (by rw [add_block]; exact k), cells_same h2 (by rw [add_block]; exact k), cells_same h3 (by rw [add_block, add_block]; exact k), h4.keep hk, h5.keep hk⟩
theorem ps_conv {w : World} {S : Nat → Prop} {A : Option Addr} {rl : List (Tr × Tr)} {ls : List (Ty × Ty)} (h : PsIn w S A rl) (k : ConvL rl ls) : PyIn w S A ls := fun i l hl => by
  have hi : i < rl.length := by rw [← k.1]; exact (List.getElem?_eq_some_iff.1 hl).1
  have hr := List.getElem?_eq_getElem hi
  obtain ⟨q1, q2, a, ha, hS, h1, h2, h3, h4, h5⟩ := h i _ hr
  obtain ⟨c1, c2, _⟩ := k.2 i _ _ hr hl
  exact ⟨q1, q2, a, ha, hS, by rw [h1, c1.val, c2.val], by rw [h2, c1.val], by rw [h3, c2.val], c1.mem _ _ _ h4, c2.mem _ _ _ h5⟩
section
variable {w0 w : World} {L0 L : List Sx.Item} {S : Nat → Prop} {A : Option Addr} {rl : List (Tr × Tr)} {ls : List (Ty × Ty)}
theorem ps_at (H : Hs w0 L0 w L) (j : Nat) (hi : L[j]? = some (psI S A rl)) : PsIn w S A rl := (H.at j hi).1
theorem py_at (H : Hs w0 L0 w L) (j : Nat) (hi : L[j]? = some (pyI S A ls)) : PyIn w S A ls := (H.at j hi).1
theorem Hs.py (H : Hs w0 L0 w L) (j : Nat) (hi : L[j]? = some (psI S A rl)) (k : ConvL rl ls) : Hs w0 L0 w (L ++ [pyI S A ls]) := H.ro j hi (ps_conv (ps_at H j hi) k) (pyI_loc _ _ _)
theorem Hs.tr1 {p : Tv} {t : Tr} (H : Hs w0 L0 w L) (j : Nat) (hi : L[j]? = some (psI S A rl)) (h : TrIn w S p t) : Hs w0 L0 w (L ++ [trI S p t]) := H.ro j hi h (trI_loc _ _ _)
theorem Hs.ty1 {p : Tv} {t : Ty} (H : Hs w0 L0 w L) (j : Nat) (hi : L[j]? = some (pyI S A ls)) (h : TyIn w S p t) : Hs w0 L0 w (L ++ [tyI S p t]) := H.ro j hi h (tyI_loc _ _ _)
end
/-- The answer as it is handed back. -/
def OutIs (R : Out) (kl : List Kd) (a b : Int) : Prop := match R with
  | .inl f => kl = [] ∧ a = (f.1 : Int) ∧ b = (f.2 : Int)
  | .inr ts => kl.map (·.2) = ts ∧ a = 0 ∧ b = 0
/-! ### The first graph -/
theorem bank_nil {w : World} {ty : Nat} {C : Nat → List Value} {hs : List Nat} : (bankI ty [] C hs).holds w := bank_holds (fun i b h => by simp at h) (fun i j b h => by simp at h)
theorem bank_none {w : World} {ty : Nat} {C : Nat → List Value} : (bankI ty [0] C [0]).holds w := by
  have no : ∀ {i b : Nat}, ([0] : List Nat)[i]? = some b → i ∉ [0] → False := fun {i b} h hn => by
    cases i with
    | zero => exact hn (.head _)
    | succ i => simp at h
  exact bank_holds (fun i b h hn => (no h hn).elim) (fun i j b h _ hn => (no h hn).elim)
theorem kids_nil {w : World} : (kidsI (fun _ => False) [] []).holds w := ⟨⟨rfl, fun r s l h => by simp at h⟩, fun _ h => h.elim, kidsI_loc _ _ _⟩
theorem rows_one {w : World} : (rowsI (fun _ => False) [(none, 0, 0)] [[]]).holds w := ⟨⟨rfl, fun r s l h h2 => by
  cases r with
  | zero => cases h; cases h2; exact ⟨rfl, fun i s h => by simp at h⟩
  | succ r => simp at h⟩, fun _ h => h.elim, rowsI_loc _ _ _⟩
abbrev pm0 : Pm := ⟨[], [], [(none, 0, 0)], fun _ => False, fun _ => False⟩
theorem PR.new : PR [] [0] G.new pm0 := ⟨rfl, rfl, rfl, rfl, rfl, rfl, rfl, fun x e h => absurd h.lt (Nat.not_lt_zero _), fun n h => absurd h (Nat.not_lt_zero _), fun n p h => (by rcases h with h | h <;> simp [G.new] at h), fun n h => (by simp [G.new] at h), fun r q h => (by
  cases r with
  | zero => simp [G.new] at h
  | succ r => simp [G.new] at h), Nat.zero_lt_one, rfl, fun n k h => (by simp [G.new] at h)⟩
abbrev Mid := Fl ⊕ G × List Nat
theorem drop_at {α : Type} {l : List α} {i : Nat} (hi : i < l.length) : ∃ x, l[i]? = some x ∧ l.drop i = x :: l.drop (i + 1) := ⟨l[i], List.getElem?_eq_getElem hi, List.drop_eq_getElem_cons hi⟩
theorem loopP_step {k i : Nat} {g : G} {l : List Nat} {ls : List (Ty × Ty)} {X : Mid} (h : loopP k (ls.drop i) i g l = some X) (hi : i < ls.length) :
    ∃ p q g1 a g2 b g3 ok fo fb, ls[i]? = some (p, q) ∧ ofX k g p = some (g1, a) ∧ ofX k g1 q = some (g2, b) ∧ sameX true k g2 a b = some (g3, ok) ∧ cntsX k g3 (l ++ [a]) ok false = some (fo, fb) ∧
      ((fo = false ∧ X = .inl (8, i)) ∨ (fo = true ∧ fb = true ∧ X = .inl (10, i)) ∨ (fo = true ∧ fb = false ∧ loopP k (ls.drop (i + 1)) (i + 1) g3 (l ++ [a]) = some X)) := by
  obtain ⟨⟨p, q⟩, h1, h2⟩ := drop_at hi
  rw [h2] at h
  unfold loopP at h
  split at h <;> try contradiction
  rename_i g1 a e1
  split at h <;> try contradiction
  rename_i g2 b e2
  split at h <;> try contradiction
  rename_i g3 ok e3
  split at h <;> try contradiction
  · rename_i fb e4; cases h; exact ⟨p, q, g1, a, g2, b, g3, ok, _, _, h1, e1, e2, e3, e4, .inl ⟨rfl, rfl⟩⟩
  · rename_i e4; cases h; exact ⟨p, q, g1, a, g2, b, g3, ok, _, _, h1, e1, e2, e3, e4, .inr (.inl ⟨rfl, rfl, rfl⟩)⟩
  · rename_i e4; exact ⟨p, q, g1, a, g2, b, g3, ok, _, _, h1, e1, e2, e3, e4, .inr (.inr ⟨rfl, rfl, h⟩)⟩
theorem loopP_end {k i : Nat} {g : G} {l : List Nat} {ls : List (Ty × Ty)} {X : Mid} (h : loopP k (ls.drop i) i g l = some X) (hi : ls.length ≤ i) : .inr (g, l) = X := by
  rw [List.drop_of_length_le hi] at h; cases h; rfl
/-- What comes behind the pairs. -/
def Fin (k : Nat) (X : Mid) (R : Out) : Prop := match X with
  | .inl f => R = .inl f
  | .inr (g, l) => ∃ ts, toldsX k g l ⟨[], []⟩ = some ts ∧ R = .inr ts
theorem solveP_fin {k : Nat} {ls : List (Ty × Ty)} {R : Out} (h : solveP k ls = some R) : ∃ X, loopP k (ls.drop 0) 0 G.new [] = some X ∧ Fin k X R := by
  unfold solveP at h
  split at h <;> try contradiction
  · rename_i f e; cases h; exact ⟨_, e, rfl⟩
  · rename_i g l e
    refine ⟨_, e, ?_⟩
    obtain ⟨ts, h1, h2⟩ := Option.map_eq_some_iff.1 h
    exact ⟨ts, h1, h2.symm⟩
theorem cnts_step {k j : Nat} {g : G} {l : List Nat} {b fo fb : Bool} (h : cntsX k g (l.drop j) true b = some (fo, fb)) (hj : j < l.length) : ∃ n c s fl, l[j]? = some n ∧ cnt k g n [] false = some (c, s, fl) ∧ cntsX k g (l.drop (j + 1)) (!fl) (b || decide (300 < c)) = some (fo, fb) := by
  obtain ⟨n, h1, h2⟩ := drop_at hj
  rw [h2] at h
  unfold cntsX at h
  rw [if_pos rfl] at h
  split at h <;> try contradiction
  rename_i c s fl e
  exact ⟨n, c, s, fl, h1, e, h⟩
theorem cnts_end {k j : Nat} {g : G} {l : List Nat} {ok b fo fb : Bool} (h : cntsX k g (l.drop j) ok b = some (fo, fb)) (hj : l.length ≤ j) : ok = fo ∧ b = fb := by
  rw [List.drop_of_length_le hj] at h; cases h; exact ⟨rfl, rfl⟩
theorem cnts_off {k j : Nat} {g : G} {l : List Nat} {b fo fb : Bool} (h : cntsX k g (l.drop j) false b = some (fo, fb)) : fo = false := by
  rw [cnts_false] at h; cases h; rfl
theorem tolds_step {k j : Nat} {g : G} {l : List Nat} {m : Nams} {ts : List Ty} (h : toldsX k g (l.drop j) m = some ts) (hj : j < l.length) : ∃ n t m' r, l[j]? = some n ∧ toldX k g n m = some (t, m') ∧ toldsX k g (l.drop (j + 1)) m' = some r ∧ t :: r = ts := by
  obtain ⟨n, h1, h2⟩ := drop_at hj
  rw [h2] at h
  unfold toldsX at h
  split at h <;> try contradiction
  rename_i t m' e
  obtain ⟨r, h3, h4⟩ := Option.map_eq_some_iff.1 h
  exact ⟨n, t, m', r, h1, e, h3, h4⟩
theorem tolds_end {k j : Nat} {g : G} {l : List Nat} {m : Nams} {ts : List Ty} (h : toldsX k g (l.drop j) m = some ts) (hj : l.length ≤ j) : [] = ts := by
  rw [List.drop_of_length_le hj] at h; cases h; rfl
theorem not_pok1 {r : Tr × Tr} (h : ∀ c, FN c r.1 → (300 : Int) < (c : Int)) : ¬ POk r := fun ⟨⟨c, h1, h2⟩, _⟩ => by have := h c h1; omega
theorem not_pok2 {r : Tr × Tr} (h : ∀ c, FN c r.2 → (300 : Int) < (c : Int)) : ¬ POk r := fun ⟨_, c, h1, h2⟩ => by have := h c h1; omega
theorem all_more {rl : List (Tr × Tr)} {i : Nat} {r : Tr × Tr} (h : ∀ (j : Nat) (q : Tr × Tr), j < i → rl[j]? = some q → POk q) (hr : rl[i]? = some r) (hp : POk r) : ∀ (j : Nat) (q : Tr × Tr), j < i + 1 → rl[j]? = some q → POk q := fun j q hj hq => by
  rcases Nat.lt_or_ge j i with k | k
  · exact h j q k hq
  · obtain rfl : j = i := by omega
    rw [hr] at hq; cases hq; exact hp
theorem said_o3 {t : Tr} {z : Int} (h : Said t 300 z true) : O3 t := by
  obtain ⟨c, _, h1, h2⟩ := h.y rfl
  exact ⟨c, h1, by omega⟩
end Go.Slv
set_option linter.unusedVariables false
set_option linter.unusedSimpArgs false
namespace Go.Sx
open Go.RowKit Go.Gx Go.MapKept
section
variable {α : Type}
def curOk (es : Array MapEntry) (seen : Array Nat) (enc : α → Value) : Option (α × Value) → Prop
  | none => True
  | some p => ∃ (e : MapEntry) (s : Array Nat), seen = s.push e.born ∧ e ∈ es.toList ∧ e.key = enc p.1 ∧ e.val = p.2
/-- A map and who goes over it: what is left, in whatever order, and what has been come to. -/
def ItOk (kd : TypeDesc) (enc : α → Value) (bt r : Nat) (mp left : List (α × Value)) (cur : Option (α × Value)) (w : World) : Prop :=
  ∃ es ck seen, Has w bt (.map es ck) ∧ MpOk kd enc es ck mp ∧ Has w r (.mapIter (some bt) ck seen ck) ∧ ((leftOf es seen).toList.map (fun e => (e.key, e.val))).Perm (left.map (fun p => (enc p.1, p.2))) ∧ curOk es seen enc cur
def itI (kd : TypeDesc) (enc : α → Value) (bt r : Nat) (mp left : List (α × Value)) (cur : Option (α × Value)) : Item := .abs (fun c => c = bt ∨ c = r) (ItOk kd enc bt r mp left cur)
theorem itI_loc (kd : TypeDesc) (enc : α → Value) (bt r : Nat) (mp left : List (α × Value)) (cur : Option (α × Value)) : Loc (fun c => c = bt ∨ c = r) (ItOk kd enc bt r mp left cur) := by
  rintro w w' _ hk ⟨es, ck, seen, h1, h2, h3, h4, h5⟩
  exact ⟨es, ck, seen, (hk _ (.inl rfl)).trans h1, h2, (hk _ (.inr rfl)).trans h3, h4, h5⟩
theorem itI_holds {kd : TypeDesc} {enc : α → Value} {bt r : Nat} {mp left : List (α × Value)} {cur : Option (α × Value)} {w : World} (h : ItOk kd enc bt r mp left cur w) : (itI kd enc bt r mp left cur).holds w := by
  refine ⟨h, fun c hc => ?_, itI_loc _ _ _ _ _ _ _⟩
  obtain ⟨es, ck, seen, h1, _, h3, _, _⟩ := h
  rcases hc with rfl | rfl
  · exact Has.lt h1
  · exact Has.lt h3
theorem has_drew {w w1 : World} {r : Nat} {o : Obj} (h : w1 = w ∨ w1 = w.drew) (k : Has w r o) : Has w1 r o := by rcases h with rfl | rfl <;> exact k
theorem left_push (es : Array MapEntry) (seen : Array Nat) (e : MapEntry) (hn : (es.toList.map (·.born)).Nodup) (he : e ∈ (leftOf es seen).toList) :
    (leftOf es seen).toList.Perm (e :: (leftOf es (seen.push e.born)).toList) := by
  unfold leftOf at *
  rw [Array.toList_filter] at he ⊢
  rw [Array.toList_filter]
  generalize es.toList = l at *
  induction l with
  | nil => simp at he
  | cons x l ih =>
    simp only [List.map_cons, List.nodup_cons] at hn
    have hsame : ∀ y : MapEntry, (!(seen.push e.born).contains y.born) = ((!seen.contains y.born) && (y.born != e.born)) := by
      intro y
      simp only [Array.contains_push]
      cases seen.contains y.born <;> simp [Bool.not_or, bne]
    by_cases hx : x = e
    · subst hx
      have hs : (!seen.contains x.born) = true := (List.mem_filter.1 he).2
      rw [List.filter_cons, if_pos hs, List.filter_cons, hsame]
      simp only [bne_self_eq_false, Bool.and_false, Bool.false_eq_true, if_false]
      refine List.Perm.cons _ ?_
      have : l.filter (fun y => !(seen.push x.born).contains y.born) = l.filter (fun y => !seen.contains y.born) := by
        refine List.filter_congr fun y hy => ?_
        rw [hsame]
        have : y.born ≠ x.born := fun q => hn.1 (q ▸ List.mem_map_of_mem hy)
        simp [this]
      rw [this]
    · have he' : e ∈ l.filter (fun y => !seen.contains y.born) := by
        rw [List.filter_cons] at he
        split at he
        · rcases List.mem_cons.1 he with q | q
          · exact absurd q.symm hx
          · exact q
        · exact he
      have hb : x.born ≠ e.born := fun q => hn.1 (q ▸ List.mem_map_of_mem (List.mem_filter.1 he').1)
      have k := ih hn.2 he'
      rw [List.filter_cons, List.filter_cons, hsame]
      have hb' : (x.born != e.born) = true := by simp [hb]
      rw [hb', Bool.and_true]
      split
      · exact (k.cons x).trans (List.Perm.swap _ _ _)
      · exact k
end
section
variable {α : Type}
variable [Rd] {P : Program} {B : Exit → Act → World → Prop} {b : Nat → Value} {n : Nat} {d : List Deferred} {w0 w : World} {x : St} {L0 L : List Item}
def ntA (b : Nat → Value) (n : Nat) (x : St) : Option Ask :=
  match hd b n x with
  | some q => match q.2.2.op with
    | .next it s => match s with
      | false => some ⟨[ev b n x.l it], [], x, q⟩
      | true => none
    | _ => none
  | none => none
/-- The next one, whichever. -/
theorem nt (m i : Nat) (H : Hs w0 L0 w L) {kd : TypeDesc} {enc : α → Value} {bt r : Nat} {mp left : List (α × Value)} {cur : Option (α × Value)} (hi : L[i]? = some (itI kd enc bt r mp left cur))
    (k0 : left = [] → Goal P B b n d (nx (vX (via P b n m w x (ask (ntA b n)))).y (vX (via P b n m w x (ask (ntA b n)))).q (.tuple #[.bool false])) w)
    (k1 : ∀ p left' w', left.Perm (p :: left') → Hs w0 L0 w' (L.set i (itI kd enc bt r mp left' (some p))) → Goal P B b n d (nx (vX (via P b n m w x (ask (ntA b n)))).y (vX (via P b n m w x (ask (ntA b n)))).q (.tuple #[.bool true, enc p.1, p.2])) w')
    (h : vA (via P b n m w x (ask (ntA b n))) = vB w (via P b n m w x (ask (ntA b n))) := by kernel_rfl)
    (h2 : (vX (via P b n m w x (ask (ntA b n)))).u = [.pointer (some ⟨r, 0, none⟩)] := by kernel_rfl) : Goal P B b n d x w := by
  obtain ⟨y, hr, hf⟩ := ask_ok h
  refine run_sound hr ?_
  generalize vX (via P b n m w x (ask (ntA b n))) = zz at *
  unfold ntA at hf
  split at hf <;> try contradiction
  rename_i q hq
  split at hf <;> try contradiction
  rename_i it s hop
  split at hf <;> try contradiction
  simp only [Option.some.injEq] at hf
  subst hf
  simp only [List.cons.injEq, and_true] at h2
  have hit := H.at i hi
  obtain ⟨⟨es, ck, seen, hb, hm, hri, hl, hc⟩, hlt, _⟩ := hit
  have hst := (stamped_iff es ck).1 hm.1
  have hx : ∀ v w', (Instr.next (.pointer (some ⟨r, 0, none⟩)) false q.2.2.type).run P w = .ok v w' → (execOp (ev b n y.l) q.2.2).run P w = .ok (.value v) w' := by
    intro v w' hv
    unfold execOp
    simp [hop, h2, hv, Sem.run_bind, Result.andThen]
  rcases run_next_at (P := P) w q.2.2.type r bt ck ck seen es ck hri hb hst.1 (Nat.le_refl _) with ⟨h0, hrun⟩ | ⟨e, he, w1, hw1, hrun⟩
  · have : left = [] := by
      have e0 : (leftOf es seen).toList = [] := by
        have := Array.eq_empty_of_size_eq_zero h0
        rw [this]
      rw [e0] at hl
      have := hl.length_eq
      cases left with
      | nil => rfl
      | cons _ _ => simp at this
    exact hd_val hq (hx _ _ hrun) (k0 this)
  · have hp := left_push es seen e hst.2.1 he
    have hees : e ∈ es.toList := by
      unfold leftOf at he; rw [Array.toList_filter] at he; exact (List.mem_filter.1 he).1
    obtain ⟨p, hpm, hpe⟩ : ∃ p ∈ left, (enc p.1, p.2) = (e.key, e.val) := by
      have : (e.key, e.val) ∈ (leftOf es seen).toList.map (fun e => (e.key, e.val)) := List.mem_map.2 ⟨e, he, rfl⟩
      rw [hl.mem_iff] at this
      exact List.mem_map.1 this
    simp only [Prod.mk.injEq] at hpe
    obtain ⟨s, t, rfl⟩ := List.append_of_mem hpm
    have hl' : ((leftOf es (seen.push e.born)).toList.map (fun e => (e.key, e.val))).Perm ((s ++ t).map (fun p => (enc p.1, p.2))) := by
      have h1 := (hp.map (fun e => (e.key, e.val))).symm.trans (hl.trans ((List.perm_middle (a := p) (l₁ := s) (l₂ := t)).map _))
      simp only [List.map_cons, hpe.1, hpe.2] at h1
      exact (List.perm_cons _).1 h1
    have hrb : r ≠ bt := by
      intro q; subst q
      have := hb.symm.trans hri; cases this
    refine hd_val hq (hx _ _ hrun) ?_
    have hb1 := has_drew hw1 hb
    have hr1 := has_drew hw1 hri
    have hE : Ext w w1 := by
      rcases hw1 with rfl | rfl
      · exact Ext.refl _
      · exact ⟨rfl, rfl, rfl, Nat.le_refl _, fun _ _ _ => rfl⟩
    have k' := k1 p (s ++ t) (ChangeMaps.setBlock w1 r (.mapIter (some bt) ck (seen.push e.born) ck)) List.perm_middle ?_
    · rw [hpe.1, hpe.2] at k'; exact k'
    have hG : G w1 (ChangeMaps.setBlock w1 r (.mapIter (some bt) ck (seen.push e.born) ck)) (some r) := G_setObj w1 r _
    refine H.put i hi rfl (Kp.trans (Kp.of_ext hE _) ((Kp.of_G hG).mono fun c hc => .inr (Option.some.inj hc).symm)) (itI_holds ⟨es, ck, seen.push e.born, ?_, hm, Has_setObj _ hr1, hl', e, seen, rfl, hees, hpe.1.symm, hpe.2.symm⟩) (fun c hc => .inl hc)
    exact (hG.block _ (Has.lt hb1) (by simp; exact fun q => hrb q.symm)).trans hb1
end
end Go.Sx
set_option linter.unusedVariables false
set_option linter.unusedSimpArgs false
namespace Go.Inf
open Go.RowKit Go.Sx Go.Gx Go.MapKept
def bms (l : List Nat) : List (Int × Value) := l.map fun n : Nat => ((n : Int), .bool true)
/-- These two lists have the same members. -/
def Mem2 (s t : List Nat) : Prop := ∀ n, n ∈ s ↔ n ∈ t
theorem Mem2.symm {s t : List Nat} (h : Mem2 s t) : Mem2 t s := fun n => (h n).symm
theorem Mem2.trans {s t u : List Nat} (h : Mem2 s t) (k : Mem2 t u) : Mem2 s u := fun n => (h n).trans (k n)
/-- This block is a map that is such a set. -/
def SetW (w : World) (b : Nat) (s : List Nat) : Prop := ∃ l, Mem2 l s ∧ ∃ es ck, Has w b (.map es ck) ∧ MpOk (.int .i64) encN es ck (bms l)
theorem SetW.keep {w w' : World} {b : Nat} {s : List Nat} (h : SetW w b s) (k : w'.heap[b]? = w.heap[b]?) : SetW w' b s := by
  obtain ⟨l, h1, es, ck, h2, h3⟩ := h
  exact ⟨l, h1, es, ck, k.trans h2, h3⟩
theorem SetW.as {w : World} {b : Nat} {s t : List Nat} (h : SetW w b s) (k : Mem2 s t) : SetW w b t := by
  obtain ⟨l, h1, h2⟩ := h
  exact ⟨l, h1.trans k, h2⟩
section
variable {w0 w : World} {L0 L : List Sx.Item}
end
section
variable {P : Program} {B : Exit → Act → World → Prop} {b : Nat → Value} {n : Nat} {d : List Deferred} {w0 w : World} {x : St} {L0 L : List Sx.Item}
/-- A map that is only read, or none. -/
def SetR (w : World) (S : Nat → Prop) (o : Option Nat) (s : List Nat) : Prop := match o with
  | none => s = []
  | some k => S k ∧ SetW w k s
theorem SetR.keep {w w' : World} {S : Nat → Prop} {o : Option Nat} {s : List Nat} (h : SetR w S o s) (k : ∀ c, S c → w'.heap[c]? = w.heap[c]?) : SetR w' S o s := by
  cases o with
  | none => exact h
  | some b => exact ⟨h.1, h.2.keep (k b h.1)⟩
theorem SetR.mono {w : World} {S S' : Nat → Prop} {o : Option Nat} {s : List Nat} (h : SetR w S o s) (k : ∀ c, S c → S' c) : SetR w S' o s := by
  cases o with
  | none => exact h
  | some b => exact ⟨k _ h.1, h.2⟩
end
end Go.Inf
set_option linter.unusedVariables false
set_option linter.unusedSimpArgs false
namespace Go.Inf
open Go.RowKit Go.Sx Go.Gx Go.Syn
end Go.Inf
namespace Go.Sx
open Go.RowKit Go.Gx
section
variable {P : Program} {fn : Func} {R : Ending → World → Prop} {b : Nat → Value} {n : Nat} {d : List Deferred} {w0 w : World} {x : St} {L0 L : List Sx.Item}
def faO (b : Nat → Value) (n : Nat) (z : Tz) : Option (List Value × List Nat) := match z.o.op with
  | .fieldAddr t s f => some ([ev b n z.l s], [t, f])
  | _ => none
/-- A field's address, in a drawn region. -/
theorem tvf (i : Nat) (C : List Nat) (a : Addr) (off : Nat) (hS : clrA x = true → Sp w (LJof x))
    (k : Goal P (bodyPost P fn R) b n d ((vX (via P b n 0 w x (tvR b n i C))).k (.pointer (some (a.add off)))) w)
    (h : vA (via P b n 0 w x (tvR b n i C)) = vB w (via P b n 0 w x (tvR b n i C)) := by kernel_rfl)
    (h2 : (faO b n (vX (via P b n 0 w x (tvR b n i C)))).map (·.1) = some [.pointer (some a)] := by kernel_rfl)
    (h3 : (match faO b n (vX (via P b n 0 w x (tvR b n i C))) with | some q => fldAt P (q.2.getD 0 0) (q.2.getD 1 0) off | none => false) = true := by kernel_rfl) : Goal P (bodyPost P fn R) b n d x w := by
  refine tv i C _ hS (fun w' hs => ?_) k h
  generalize vX (via P b n 0 w x (tvR b n i C)) = z at *
  unfold faO at h2 h3
  split at h2 <;> try contradiction
  rename_i t s f hop
  rw [hop] at h3
  simp only [Option.map_some, Option.some.injEq, List.cons.injEq, and_true] at h2
  exact run_fieldAddrO hop a h2 off h3
end
end Go.Sx
namespace Go.Inf
open Go.RowKit Go.Sx Go.Gx Go.Syn
section
variable {w0 w : World} {L0 L : List Sx.Item}
end
end Go.Inf
namespace Go.Inf
open Go.RowKit Go.Sx Go.Gx Go.Syn
end Go.Inf
set_option linter.unusedVariables false
set_option linter.unusedSimpArgs false
namespace Go.Inf
open Go.RowKit Go.Sx Go.Gx Go.Syn
/-! ### One behind the other -/
theorem bs {α β : Type} {x : Option α} {f : α → Option β} {r : β} (h : (x >>= f) = some r) : ∃ a, x = some a ∧ f a = some r := by
  cases x with
  | none => cases h
  | some a => exact ⟨a, rfl, h⟩
/-! ### Names in sight -/
abbrev Nv := Nam × Option Nat × Option Nat
def NamR (w : World) (S : Nat → Prop) (x : Nv) : Prop := SetR w S x.2.1 x.1.tv ∧ SetR w S x.2.2 x.1.rv
theorem NamR.keep {w w' : World} {S : Nat → Prop} {x : Nv} (h : NamR w S x) (k : ∀ c, S c → w'.heap[c]? = w.heap[c]?) : NamR w' S x := ⟨h.1.keep k, h.2.keep k⟩
theorem NamR.mono {w : World} {S S' : Nat → Prop} {x : Nv} (h : NamR w S x) (k : ∀ c, S c → S' c) : NamR w S' x := ⟨h.1.mono k, h.2.mono k⟩
theorem rec_at {α : Type} (f : α → List Value) (m : Nat) (hf : ∀ x, (f x).length = m) : ∀ (l : List α) (i : Nat) (x : α), l[i]? = some x → ((l.flatMap f).drop (i * m)).take m = f x
  | [], i, x, h => by simp at h
  | y :: l, 0, x, h => by
    simp at h; subst h
    rw [List.flatMap_cons, Nat.zero_mul, List.drop_zero, ← hf y, List.take_left' rfl]
  | y :: l, i + 1, x, h => by
    rw [List.flatMap_cons, show (i + 1) * m = (f y).length + i * m by rw [hf]; rw [Nat.add_mul]; omega, List.drop_append, List.drop_of_length_le (by omega), List.nil_append]
    rw [show (f y).length + i * m - (f y).length = i * m by omega]
    exact rec_at f m hf l i x (by simpa using h)
theorem rec_len {α : Type} (f : α → List Value) (m : Nat) (hf : ∀ x, (f x).length = m) (l : List α) : (l.flatMap f).length = l.length * m := by
  induction l with
  | nil => simp
  | cons y l ih => rw [List.flatMap_cons, List.length_append, hf, ih, List.length_cons, Nat.add_mul]; omega
theorem rec_field {α : Type} (f : α → List Value) (m : Nat) (hf : ∀ x, (f x).length = m) {l : List α} {i j : Nat} {x : α} (h : l[i]? = some x) (hj : j < m) : (l.flatMap f)[i * m + j]? = (f x)[j]? := by
  have e := rec_at f m hf l i x h
  rw [← e, List.getElem?_take, if_pos hj, List.getElem?_drop]
def structT (P : Program) (t : TypeId) (m : Nat) : Bool := match P.underlying t with
  | some (.struct _) => match P.info? t with
    | some inf => Nat.beq inf.size m
    | none => false
  | _ => false
def plainT (P : Program) (t : TypeId) : Bool := match P.underlying t with
  | some (.struct _) => false
  | some (.array _ _) => false
  | some _ => true
  | none => false
section
variable {α : Type} {f : α → List Value} {m : Nat} {P : Program} {t : TypeId} {l : List α} {i : Nat} {x : α}
/-- A record of a row of records. -/
theorem rec_load (hf : ∀ x, (f x).length = m) (h : l[i]? = some x) (hs : structT P t m = true := by kernel_rfl) : loadX P t (l.flatMap f) (i * m) (.agg (f x).toArray) := by
  unfold structT at hs
  split at hs <;> try contradiction
  rename_i fs hu
  split at hs <;> try contradiction
  rename_i inf hi
  have e := Nat.eq_of_beq_eq_true hs
  unfold loadX
  rw [hu]
  refine ⟨inf, hi, ?_, ?_⟩
  · rw [rec_len f m hf, e]
    have := (List.getElem?_eq_some_iff.1 h).1
    calc i * m + m = (i + 1) * m := by rw [Nat.add_mul]; omega
      _ ≤ l.length * m := Nat.mul_le_mul_right _ this
  · rw [e, rec_at f m hf l i x h]
/-- A cell of it. -/
theorem rec_cell (j : Nat) (hf : ∀ x, (f x).length = m) (h : l[i]? = some x) (hj : j < m) {v : Value} (hc : (f x)[j]? = some v) (hs : plainT P t = true := by kernel_rfl) : loadX P t (l.flatMap f) (i * m + j) v := by
  have e := (rec_field f m hf h hj).trans hc
  unfold plainT at hs
  unfold loadX
  split at hs <;> simp_all
end
/-! ### The operations -/
abbrev Ov := Opr × Tv × Tv
def OvR (w : World) (S : Nat → Prop) (x : Ov) : Prop := TyIn w S x.2.1 x.1.i ∧ TyIn w S x.2.2 x.1.o
def tysI (S : Nat → Prop) (l : List Ov) : Sx.Item := .ro S (fun w => ∀ x ∈ l, OvR w S x)
theorem tysI_loc (S : Nat → Prop) (l : List Ov) : Sx.Loc S (fun w => ∀ x ∈ l, OvR w S x) := fun _ _ _ hk h x hx => ⟨(h x hx).1.keep hk, (h x hx).2.keep hk⟩
/-! ### The names in rows -/
end Go.Inf
set_option linter.unusedVariables false
set_option linter.unusedSimpArgs false
namespace Go.Slv
open Go.RowKit Go.Sx Go.Inf Go.Gx
theorem bps_at {P : Program} {t j b : Nat} {l : List Nat} (h : l[j]? = some b) (hs : plainT P t = true := by kernel_rfl) : loadX P t (bps l) (j * 1) (bp b) := by
  have e : bps l = l.flatMap (fun b => [bp b]) := by
    clear h
    unfold bps
    induction l with
    | nil => rfl
    | cons x l ih => simp [ih]
  rw [e]
  exact rec_cell (m := 1) 0 (fun _ => rfl) h Nat.zero_lt_one rfl hs
theorem BL.at {T ms bs : List Nat} (h : BL T ms bs) {j n : Nat} (hn : ms[j]? = some n) : ∃ b, bs[j]? = some b ∧ T[n]? = some b := by
  have hl := h.2 n (List.mem_of_getElem? hn)
  refine ⟨T[n], ?_, List.getElem?_eq_getElem hl⟩
  rw [h.1, List.getElem?_map, hn]
  simp [hl]
theorem BL.len {T ms bs : List Nat} (h : BL T ms bs) : bs.length = ms.length := by rw [h.1, List.length_map]
/-- The names stay. -/
def Kt (g g' : G) : Prop := g'.tv = g.tv ∧ g'.rv = g.rv
theorem Kt.refl (g : G) : Kt g g := ⟨rfl, rfl⟩
theorem Kt.trans {g g1 g2 : G} (h : Kt g g1) (k : Kt g1 g2) : Kt g g2 := ⟨k.1.trans h.1, k.2.trans h.2⟩
theorem sameRow_kt {k r s : Nat} {g g' : G} {t : Bool} (h : sameRow k g r s = some (g', t)) : Kt g g' := by
  obtain ⟨a, v, b, u, _, _, h1, h2, h3, h4, h5⟩ := sameRow_cases h
  simp only [stands_set] at h3 h4 h5
  by_cases e1 : v = u
  · rw [(h1 e1).1]; exact .refl _
  · cases e2 : srB v u (less a b) (less b a) with
    | true => rw [(h2 e1 e2).1]; exact .refl _
    | false =>
      by_cases e3 : v = 0
      · rw [← (h3 e1 e2 e3).1]; exact ⟨rfl, rfl⟩
      · by_cases e4 : u = 0
        · rw [← (h4 e1 e2 e3 e4).1]; exact ⟨rfl, rfl⟩
        · obtain ⟨g1, x, ho, hg, _⟩ := h5 e1 e2 e3 e4
          obtain ⟨_, rfl, _⟩ := opn_op1 ho
          rw [← hg]; exact ⟨rfl, rfl⟩
theorem sameX_kt : ∀ {k m n : Nat} {g g' : G} {t : Bool}, sameX true k g m n = some (g', t) → Kt g g'
  | 0, _, _, _, _, _, h => by cases h
  | k + 1, m, n, g, g', t, h => by
    unfold sameX at h
    split at h <;> try contradiction
    split at h
    · cases h; exact .refl _
    split at h <;> try contradiction
    split at h
    · cases h; rw [lnk_eq]; exact ⟨rfl, rfl⟩
    split at h
    · cases h; rw [lnk_eq]; exact ⟨rfl, rfl⟩
    split at h
    · cases h; exact .refl _
    simp only [lkX_true] at h
    have hl : ∀ m n, Kt g (lnk0 g m n) := fun _ _ => ⟨rfl, rfl⟩
    have hA : ∀ {g0 g1 : G} {x y : Option (Option Nat)} {t1 : Bool}, argX (sameX true k) g0 x y = some (g1, t1) → Kt g0 g1 := fun {g0 g1 x y t1} h => by
      unfold argX at h
      split at h <;> try contradiction
      · cases h; exact .refl _
      · exact sameX_kt h
    split at h <;> try contradiction
    · rename_i h1; cases h; exact (hl _ _).trans (hA h1)
    · rename_i g1 h1
      split at h <;> try contradiction
      · rename_i h2; cases h; exact ((hl _ _).trans (hA h1)).trans (hA h2)
      · rename_i g2 h2
        refine ((hl _ _).trans (hA h1)).trans ((hA h2).trans ?_)
        rcases rwX_cases h with ⟨_, rfl, _⟩ | ⟨_, r, s, _, _, h3⟩
        · exact .refl _
        · exact sameRow_kt h3
theorem mp_tv {bt : Nat} {B : List Nat} {g g' : G} (h : Kt g g') : mpI bt B g.tv = mpI bt B g'.tv := by rw [h.1]
theorem mp_rv {br : Nat} {B B' : List Nat} {g g' : G} (h : Kt g g') (hr : RvOk B.length g.rv) (k : Pre B B') : mpI br B g.rv = mpI br B' g'.rv := by rw [h.2, mpI_ext hr.1 k]
theorem Kt.tvok {g g' : G} {n : Nat} (h : Kt g g') (k : TvOk n g.tv) : TvOk n g'.tv := by rw [h.1]; exact k
theorem Kt.rvok {g g' : G} {n n' : Nat} (h : Kt g g') (k : RvOk n g.rv) (hn : n ≤ n') : RvOk n' g'.rv := by rw [h.2]; exact k.mono hn
theorem loop_cs (j n : Nat) (ok bg : Bool) : (j < n ∧ ok = true) ∨ (j < n ∧ ok = false) ∨ (n ≤ j ∧ ok = false) ∨ (n ≤ j ∧ ok = true ∧ bg = true) ∨ (n ≤ j ∧ ok = true ∧ bg = false) := by
  rcases Nat.lt_or_ge j n with h | h <;> cases ok <;> cases bg <;> simp [h]
theorem dec300 (c : Nat) : decide (((c : Nat) : Int) > (300 : Int)) = decide (300 < c) := by
  by_cases h : 300 < c
  · rw [decide_eq_true h, decide_eq_true (by omega)]
  · rw [decide_eq_false h, decide_eq_false (by omega)]
section
variable {k i : Nat} {g : G} {l : List Nat} {ls : List (Ty × Ty)} {X : Mid} {fo fb : Bool}
  (h : (fo = false ∧ X = .inl (8, i)) ∨ (fo = true ∧ fb = true ∧ X = .inl (10, i)) ∨ (fo = true ∧ fb = false ∧ loopP k (ls.drop (i + 1)) (i + 1) g l = some X))
include h
theorem res_no (e : false = fo) : X = .inl (8, i) := by subst e; simpa using h
theorem res_big (e : true = fo) (e2 : true = fb) : X = .inl (10, i) := by subst e e2; simpa using h
theorem res_go (e : true = fo) (e2 : false = fb) : loopP k (ls.drop (i + 1)) (i + 1) g l = some X := by subst e e2; simpa using h
end
theorem out_inl {k : Nat} {X : Mid} {R : Out} {a b : Nat} (h : Fin k X R) (e : X = .inl (a, b)) : OutIs R [] (a : Int) (b : Int) := by
  subst e
  have e : R = .inl (a, b) := h
  subst e
  exact ⟨rfl, rfl, rfl⟩
theorem out_eq {R : Out} {a b : Nat} (e : R = .inl (a, b)) : OutIs R [] (a : Int) (b : Int) := by
  subst e; exact ⟨rfl, rfl, rfl⟩
theorem proper_said {t : Tr} {z : Int} {b : Bool} (h : SaidD t 0 z b) : ((b && decide (z ≤ (300 : Int))) = true → O3 t) ∧ ((b && decide (z ≤ (300 : Int))) = false → ¬ O3 t) := by
  cases b with
  | false => exact ⟨fun e => by simp at e, fun _ ⟨c, h1, h2⟩ => by have := h.n rfl c h1; omega⟩
  | true =>
    obtain ⟨c, rfl, h1, _⟩ := h.y rfl
    refine ⟨fun e => ⟨c, h1, ?_⟩, fun e ⟨c', h2, h3⟩ => ?_⟩
    · simp at e; omega
    · simp at e; have := h1.det h2; omega
/-- Cells that are only read. -/
def ceI (S : Nat → Prop) (a : Addr) (n : Nat) (cs : List Value) : Sx.Item := .ro S (fun w => S a.block ∧ w.cells? 0 a n = some cs)
theorem ceI_loc (S : Nat → Prop) (a : Addr) (n : Nat) (cs : List Value) : Sx.Loc S (fun w => S a.block ∧ w.cells? 0 a n = some cs) := fun _ _ _ hk h => ⟨h.1, cells_same h.2 (hk _ h.1)⟩
theorem ce_at {w : World} {L : List Sx.Item} {S : Nat → Prop} {a : Addr} {n : Nat} {cs : List Value} (H : Sp w L) (j : Nat) (hi : L[j]? = some (ceI S a n cs)) : w.cells? 0 a n = some cs := by
  have h : (S a.block ∧ w.cells? 0 a n = some cs) := (H.all _ (List.mem_of_getElem? hi)).1
  exact h.2
theorem TyIn.kid {w : World} {S : Nat → Prop} {p : Tv} {kd n row : Nat} {ops : List Nm} {args : List Ty} (h : TyIn w S p (.mk kd n row ops args)) {i : Nat} {t : Ty} (ht : args[i]? = some t) : ∃ (q : Tv) (a : Addr), p.B = some a ∧ (S (a.add (i * 5)).block ∧ w.cells? 0 (a.add (i * 5)) 5 = some (tvC t q)) ∧ TyIn w S q t := by
  cases h with
  | mk _ ps hs hn hc hb hl hm htt =>
    have hi : i < ps.length := by rw [hl]; exact (List.getElem?_eq_some_iff.1 ht).1
    obtain ⟨a, ha, hS, hcs⟩ := hm i _ t (List.getElem?_eq_getElem hi) ht
    exact ⟨_, a, ha, ⟨by rw [add_block]; exact hS, hcs⟩, htt i _ t (List.getElem?_eq_getElem hi) ht⟩
theorem ty_str {w : World} {L : List Sx.Item} {S : Nat → Prop} {p : Tv} {kd n row : Nat} {ops : List Nm} {args : List Ty} (H : Sp w L) (j : Nat) (hi : L[j]? = some (tyI S p (.mk kd n row ops args))) {a : Addr} (ha : p.A = some a) {i : Nat} {s : Nm} (h : ops[i]? = some s) : w.cells? 0 (a.add (i * 1)) 1 = some [.string s] := by
  have hT : TyIn w S p (.mk kd n row ops args) := (H.all _ (List.mem_of_getElem? hi)).1
  obtain ⟨a', ha', _, hc⟩ := hT.open.1 i s h
  rw [ha] at ha'; cases ha'; exact hc
/-- How deep a type goes. -/
inductive Dep : Nat → Ty → Prop
  | mk {k kd n row : Nat} {ops : List Nm} {args : List Ty} (h : ∀ (i : Nat) (t : Ty), args[i]? = some t → Dep k t) : Dep (k + 1) (.mk kd n row ops args)
theorem Dep.le {k : Nat} {t : Ty} (h : Dep k t) : ∀ {m : Nat}, k ≤ m → Dep m t := by
  induction h with
  | mk _ ih => intro m hm; cases m with
    | zero => omega
    | succ m => exact .mk fun i t ht => ih i t ht (by omega)
theorem TyIn.dep {w : World} {S : Nat → Prop} {p : Tv} {t : Ty} (h : TyIn w S p t) : ∃ k, Dep k t := by
  induction h with
  | @mk kd n row ops args p ps hs hn hc hb hl hm _ ih =>
    have : ∀ m, m ≤ args.length → ∃ k, ∀ (i : Nat) (t : Ty), i < m → args[i]? = some t → Dep k t := fun m => by
      induction m with
      | zero => exact fun _ => ⟨0, fun i t h => by omega⟩
      | succ m ihm =>
        intro hm2
        obtain ⟨k, hk⟩ := ihm (by omega)
        have hi : m < ps.length := by omega
        have hj : m < args.length := by omega
        obtain ⟨k', hk'⟩ := ih m ps[m] args[m] (List.getElem?_eq_getElem hi) (List.getElem?_eq_getElem hj)
        refine ⟨max k k', fun i t hi ht => ?_⟩
        rcases Nat.lt_or_ge i m with q | q
        · exact (hk i t q ht).le (by omega)
        · obtain rfl : i = m := by omega
          rw [List.getElem?_eq_getElem hj] at ht; cases ht
          exact hk'.le (by omega)
    obtain ⟨k, hk⟩ := this args.length (Nat.le_refl _)
    exact ⟨k + 1, .mk fun i t ht => hk i t (List.getElem?_eq_some_iff.1 ht).1 ht⟩
theorem nn_f (s : Nm) : Value.bool (!(s.toList == s.toList)) = .bool false := by simp
theorem add0 (a : Addr) : a.add 0 = a := if_pos rfl
theorem PsIn.at {w : World} {S : Nat → Prop} {A : Option Addr} {rl : List (Tr × Tr)} (h : PsIn w S A rl) {i : Nat} {r : Tr × Tr} (hr : rl[i]? = some r) : ∃ q1 q2 a, A = some a ∧ (S ((a.add (i * 10)).add 0).block ∧ w.cells? 0 ((a.add (i * 10)).add 0) 5 = some (trC r.1 q1)) ∧ (S ((a.add (i * 10)).add 5).block ∧ w.cells? 0 ((a.add (i * 10)).add 5) 5 = some (trC r.2 q2)) ∧ TrIn w S q1 r.1 ∧ TrIn w S q2 r.2 := by
  obtain ⟨q1, q2, a, ha, hS, h1, h2, h3, h4, h5⟩ := h i r hr
  exact ⟨q1, q2, a, ha, ⟨by rw [add_block, add_block]; exact hS, by rw [add0]; exact h2⟩, ⟨by rw [add_block, add_block]; exact hS, h3⟩, h4, h5⟩
theorem PyIn.at {w : World} {S : Nat → Prop} {A : Option Addr} {rl : List (Ty × Ty)} (h : PyIn w S A rl) {i : Nat} {r : Ty × Ty} (hr : rl[i]? = some r) : ∃ q1 q2 a, A = some a ∧ (S ((a.add (i * 10)).add 0).block ∧ w.cells? 0 ((a.add (i * 10)).add 0) 5 = some (tvC r.1 q1)) ∧ (S ((a.add (i * 10)).add 5).block ∧ w.cells? 0 ((a.add (i * 10)).add 5) 5 = some (tvC r.2 q2)) ∧ TyIn w S q1 r.1 ∧ TyIn w S q2 r.2 := by
  obtain ⟨q1, q2, a, ha, hS, h1, h2, h3, h4, h5⟩ := h i r hr
  exact ⟨q1, q2, a, ha, ⟨by rw [add_block, add_block]; exact hS, by rw [add0]; exact h2⟩, ⟨by rw [add_block, add_block]; exact hS, h3⟩, h4, h5⟩
section
variable {w0 w : World} {L0 L : List Sx.Item} {S : Nat → Prop} {A : Option Addr} {rl : List (Tr × Tr)} {ls : List (Ty × Ty)}
theorem Hs.ce1 {a : Addr} {n : Nat} {cs : List Value} (H : Hs w0 L0 w L) (j : Nat) (hi : L[j]? = some (psI S A rl)) (h : S a.block ∧ w.cells? 0 a n = some cs) : Hs w0 L0 w (L ++ [ceI S a n cs]) := H.ro j hi h (ceI_loc _ _ _ _)
end
section
variable {k i : Nat} {g : G} {l : List Nat} {ls : List (Ty × Ty)} {X : Mid}
end
end Go.Slv
set_option linter.unusedVariables false
set_option linter.unusedSimpArgs false
namespace Go.Proofs.Ytfkkocjheeoobaa
open Go.RowKit Go.Sx Go.Inf Go.Slv
attribute [local irreducible] Go.wpOps Go.Code.wp Go.wpOp Go.wpAnyH Go.Calls Go.Sx.Goal
set_option maxRecDepth 20000
set_option maxHeartbeats 16000000 in
theorem SameL_c_s (k : Nat) (ih : ∀ (Sa Sb : Nat → Prop) (kd u row : Nat) (ops : List Nm) (args : List Ty) (p q : Tv) (w : World) (K : Ending → World → Prop) (H0 : Sp w [tyI Sa p (Ty.mk kd u row ops args), tyI Sb q (Ty.mk kd u row ops args)]) (hd : Dep k (Ty.mk kd u row ops args)) (hK : ∀ w', Hs w [tyI Sa p (Ty.mk kd u row ops args), tyI Sb q (Ty.mk kd u row ops args)] w' [tyI Sa p (Ty.mk kd u row ops args), tyI Sb q (Ty.mk kd u row ops args)] → K (.returned (.bool true)) w'),
    Calls Try.prog 7 #[.agg #[.int .i64 ((kd : Nat) : Int), .int .i64 ((u : Nat) : Int), .int .i64 ((row : Nat) : Int), .slice p.A p.na p.ca, .slice p.B p.nb p.cb], .agg #[.int .i64 ((kd : Nat) : Int), .int .i64 ((u : Nat) : Int), .int .i64 ((row : Nat) : Int), .slice q.A q.na q.ca, .slice q.B q.nb q.cb]] w K) (Sa Sb : Nat → Prop) (kd u row : Nat) (ops : List Nm) (args : List Ty) (p q : Tv) (w : World) (K : Ending → World → Prop) (H0 : Sp w [tyI Sa p (Ty.mk kd u row ops args), tyI Sb q (Ty.mk kd u row ops args)]) (hd : Dep (k + 1) (Ty.mk kd u row ops args)) (hK : ∀ w', Hs w [tyI Sa p (Ty.mk kd u row ops args), tyI Sb q (Ty.mk kd u row ops args)] w' [tyI Sa p (Ty.mk kd u row ops args), tyI Sb q (Ty.mk kd u row ops args)] → K (.returned (.bool true)) w') :
    Calls Try.prog 7 #[.agg #[.int .i64 ((kd : Nat) : Int), .int .i64 ((u : Nat) : Int), .int .i64 ((row : Nat) : Int), .slice p.A p.na p.ca, .slice p.B p.nb p.cb], .agg #[.int .i64 ((kd : Nat) : Int), .int .i64 ((u : Nat) : Int), .int .i64 ((row : Nat) : Int), .slice q.A q.na q.ca, .slice q.B q.nb q.cb]] w K := by
  obtain ⟨L0, hL0, H⟩ : ∃ L0, L0 = [tyI Sa p (Ty.mk kd u row ops args), tyI Sb q (Ty.mk kd u row ops args)] ∧ Hs w L0 w [tyI Sa p (Ty.mk kd u row ops args), tyI Sb q (Ty.mk kd u row ops args)] := ⟨_, rfl, Hs.refl H0⟩
  refine Sx.en (vs := [.agg #[.int .i64 ((kd : Nat) : Int), .int .i64 ((u : Nat) : Int), .int .i64 ((row : Nat) : Int), .slice p.A p.na p.ca, .slice p.B p.nb p.cb], .agg #[.int .i64 ((kd : Nat) : Int), .int .i64 ((u : Nat) : Int), .int .i64 ((row : Nat) : Int), .slice q.A q.na q.ca, .slice q.B q.nb q.cb]]) 83 Try.func7 ?_
  have hopa := (ty_at (S := Sa) (p := p) (t := Ty.mk kd u row ops args) H 0 (by kernel_rfl)).open
  have hopb := (ty_at (S := Sb) (p := q) (t := Ty.mk kd u row ops args) H 1 (by kernel_rfl)).open
  obtain ⟨_, hna, hca, hnb, _⟩ := hopa
  obtain ⟨_, hnc, hcc, hnd, _⟩ := hopb
  have hdd : ∀ (i : Nat) (t : Ty), args[i]? = some t → Dep k t := by cases hd with | mk h => exact h
  refine Sx.nw 2 H fun k1 w1 H1 => ?_
  refine Sx.nw 0 H1 fun k2 w2 H2 => ?_
  refine Sx.l 7 2 H2 ?_
  refine Sx.l 1 3 H2 ?_
  refine Sx.v 0 (.bool (((kd : Nat) : Int) != ((kd : Nat) : Int))) (.bool false) (nF (by omega)) ?_
  refine Sx.l 2 2 H2 ?_
  refine Sx.l 1 3 H2 ?_
  refine Sx.v 0 (.bool (((u : Nat) : Int) != ((u : Nat) : Int))) (.bool false) (nF (by omega)) ?_
  refine Sx.l 3 2 H2 ?_
  refine Sx.l 1 3 H2 ?_
  refine Sx.v 0 (.bool (((row : Nat) : Int) != ((row : Nat) : Int))) (.bool false) (nF (by omega)) ?_
  refine Sx.l 3 2 H2 ?_
  refine Sx.l 2 3 H2 ?_
  refine Sx.v 1 (.bool (((p.na : Nat) : Int) != ((q.na : Nat) : Int))) (.bool false) (nF (by omega)) ?_
  refine Sx.l 3 2 H2 ?_
  refine Sx.l 2 3 H2 ?_
  refine Sx.v 1 (.bool (((p.nb : Nat) : Int) != ((q.nb : Nat) : Int))) (.bool false) (nF (by omega)) ?_
  have H3 := H2.pick (a := [tyI Sa p (Ty.mk kd u row ops args), tyI Sb q (Ty.mk kd u row ops args), .blk k1 (.cells #[.int .i64 ((kd : Nat) : Int), .int .i64 ((u : Nat) : Int), .int .i64 ((row : Nat) : Int), .slice p.A p.na p.ca, .slice p.B p.nb p.cb] 32), .blk k2 (.cells #[.int .i64 ((kd : Nat) : Int), .int .i64 ((u : Nat) : Int), .int .i64 ((row : Nat) : Int), .slice q.A q.na q.ca, .slice q.B q.nb q.cb] 32)]) [0, 0, 0, 0] (by kernel_rfl)
  refine Sx.lp 13 (fun z l' w' => ∃ (i : Nat), l' = [(2, .pointer (some ⟨k1, 0, none⟩)), (3, .pointer (some ⟨k2, 0, none⟩)), (5, .int .i64 ((i : Nat) : Int))] ∧ z = ops.length - i ∧ Hs w L0 w' [tyI Sa p (Ty.mk kd u row ops args), tyI Sb q (Ty.mk kd u row ops args), .blk k1 (.cells #[.int .i64 ((kd : Nat) : Int), .int .i64 ((u : Nat) : Int), .int .i64 ((row : Nat) : Int), .slice p.A p.na p.ca, .slice p.B p.nb p.cb] 32), .blk k2 (.cells #[.int .i64 ((kd : Nat) : Int), .int .i64 ((u : Nat) : Int), .int .i64 ((row : Nat) : Int), .slice q.A q.na q.ca, .slice q.B q.nb q.cb] 32)] ∧ (i ≤ ops.length)) _ [(2, .pointer (some ⟨k1, 0, none⟩)), (3, .pointer (some ⟨k2, 0, none⟩)), (5, .int .i64 ((0 : Nat) : Int))] ⟨0, rfl, rfl, H3, (Nat.zero_le _)⟩ (fun b1 z1 l1 w3 hI1 K1 hK1 => ?_)
  obtain ⟨i, rfl, rfl, H4, hil⟩ := hI1
  have hob_ := Nat.lt_or_ge i ops.length
  rcases hob_ with hx | hx
  · skip
    have hga := (ty_at (S := Sa) (p := p) (t := Ty.mk kd u row ops args) H4 0 (by kernel_rfl)).open.1
    have hgb := (ty_at (S := Sb) (p := q) (t := Ty.mk kd u row ops args) H4 1 (by kernel_rfl)).open.1
    have hob_ : ∃ s, ops[i]? = some s := ⟨_, List.getElem?_eq_getElem hx⟩
    obtain ⟨s, hs1⟩ := hob_
    have hob_ := hga i s hs1
    obtain ⟨ya, hya, _, hca1⟩ := hob_
    have hob_ := hgb i s hs1
    obtain ⟨yb, hyb, _, hcb1⟩ := hob_
    refine Sx.l 5 2 H4 ?_
    refine Sx.v 1 (.bool (decide (((i : Nat) : Int) < ((p.na : Nat) : Int)))) (.bool true) (dT (by omega)) ?_
    refine Sx.dr 8 H4 [2, 0, 3, 1] [] (LJ := [.blk k1 (.cells #[.int .i64 ((kd : Nat) : Int), .int .i64 ((u : Nat) : Int), .int .i64 ((row : Nat) : Int), .slice p.A p.na p.ca, .slice p.B p.nb p.cb] 32), tyI Sa p (Ty.mk kd u row ops args), .blk k2 (.cells #[.int .i64 ((kd : Nat) : Int), .int .i64 ((u : Nat) : Int), .int .i64 ((row : Nat) : Int), .slice q.A q.na q.ca, .slice q.B q.nb q.cb] 32), tyI Sb q (Ty.mk kd u row ops args)]) (by kernel_rfl) fun w4 H5 => ?_
    refine Sx.tk [(0, none), (1, some (0, [])), (2, none)] (fun _ => (H5.sub [2, 0, 1, 0] (by kernel_rfl))) ?_
    refine Sx.tvi 3 [] ya i 1 p.na p.ca hya (by omega) (fun _ => (H5.sub [2, 0, 1, 0] (by kernel_rfl))) ?_
    refine Sx.tvo (c := 1) (t := 9) 4 [] [.string s] (.string s) (fun w' hs => ty_str (S := Sa) (p := p) (kd := kd) (n := u) (row := row) (ops := ops) (args := args) hs 1 (by kernel_rfl) hya hs1) (fun _ => (H5.sub [2, 0, 1, 0] (by kernel_rfl))) ?_
    refine Sx.tk [(5, none), (6, some (2, [])), (7, none)] (fun _ => (H5.sub [2, 0, 1, 0] (by kernel_rfl))) ?_
    refine Sx.tvi 8 [] yb i 1 q.na q.ca hyb (by omega) (fun _ => (H5.sub [2, 0, 1, 0] (by kernel_rfl))) ?_
    refine Sx.tvo (c := 1) (t := 9) 9 [] [.string s] (.string s) (fun w' hs => ty_str (S := Sb) (p := q) (kd := kd) (n := u) (row := row) (ops := ops) (args := args) hs 3 (by kernel_rfl) hyb hs1) (fun _ => (H5.sub [2, 0, 1, 0] (by kernel_rfl))) ?_
    refine Sx.tva 10 [] (.bool (!(s.toList == s.toList))) (.bool false) (nn_f s) (fun _ => (H5.sub [2, 0, 1, 0] (by kernel_rfl))) ?_
    refine Sx.dn ?_
    refine Sx.v 7 (.int .i64 (IntKind.i64.wrap (((i : Nat) : Int) + (1 : Int)))) (.int .i64 ((i + 1 : Nat) : Int)) (congrArg (Value.int .i64) (Gx.i64n (by omega) (by omega))) ?_
    have H6 := H5.pick (a := [tyI Sa p (Ty.mk kd u row ops args), tyI Sb q (Ty.mk kd u row ops args), .blk k1 (.cells #[.int .i64 ((kd : Nat) : Int), .int .i64 ((u : Nat) : Int), .int .i64 ((row : Nat) : Int), .slice p.A p.na p.ca, .slice p.B p.nb p.cb] 32), .blk k2 (.cells #[.int .i64 ((kd : Nat) : Int), .int .i64 ((u : Nat) : Int), .int .i64 ((row : Nat) : Int), .slice q.A q.na q.ca, .slice q.B q.nb q.cb] 32)]) [0, 0, 0, 0] (by kernel_rfl)
    exact Sx.to 2 [(2, .pointer (some ⟨k1, 0, none⟩)), (3, .pointer (some ⟨k2, 0, none⟩)), (5, .int .i64 (((i + 1) : Nat) : Int))] (hK1 _ _ _ _ (by omega) ⟨(i + 1), rfl, rfl, H6, (by omega)⟩)
  refine Sx.l 5 2 H4 ?_
  refine Sx.v 1 (.bool (decide (((i : Nat) : Int) < ((p.na : Nat) : Int)))) (.bool false) (dF (by omega)) ?_
  have H7 := H4.pick (a := [tyI Sa p (Ty.mk kd u row ops args), tyI Sb q (Ty.mk kd u row ops args), .blk k1 (.cells #[.int .i64 ((kd : Nat) : Int), .int .i64 ((u : Nat) : Int), .int .i64 ((row : Nat) : Int), .slice p.A p.na p.ca, .slice p.B p.nb p.cb] 32), .blk k2 (.cells #[.int .i64 ((kd : Nat) : Int), .int .i64 ((u : Nat) : Int), .int .i64 ((row : Nat) : Int), .slice q.A q.na q.ca, .slice q.B q.nb q.cb] 32)]) [0, 0, 0, 0] (by kernel_rfl)
  refine Sx.lp 15 (fun z l' w' => ∃ (i : Nat), l' = [(2, .pointer (some ⟨k1, 0, none⟩)), (3, .pointer (some ⟨k2, 0, none⟩)), (6, .int .i64 ((i : Nat) : Int))] ∧ z = args.length - i ∧ Hs w L0 w' [tyI Sa p (Ty.mk kd u row ops args), tyI Sb q (Ty.mk kd u row ops args), .blk k1 (.cells #[.int .i64 ((kd : Nat) : Int), .int .i64 ((u : Nat) : Int), .int .i64 ((row : Nat) : Int), .slice p.A p.na p.ca, .slice p.B p.nb p.cb] 32), .blk k2 (.cells #[.int .i64 ((kd : Nat) : Int), .int .i64 ((u : Nat) : Int), .int .i64 ((row : Nat) : Int), .slice q.A q.na q.ca, .slice q.B q.nb q.cb] 32)] ∧ (i ≤ args.length)) _ [(2, .pointer (some ⟨k1, 0, none⟩)), (3, .pointer (some ⟨k2, 0, none⟩)), (6, .int .i64 ((0 : Nat) : Int))] ⟨0, rfl, rfl, H7, (Nat.zero_le _)⟩ (fun b2 z2 l2 w5 hI2 K2 hK2 => ?_)
  obtain ⟨i, rfl, rfl, H8, hil⟩ := hI2
  have hob_ := Nat.lt_or_ge i args.length
  rcases hob_ with hx | hx
  · skip
    have hob_ : ∃ t, args[i]? = some t := ⟨_, List.getElem?_eq_getElem hx⟩
    obtain ⟨⟨k0, u0, r0, o0, a0⟩, hti⟩ := hob_
    have hob_ := TyIn.kid (ty_at (S := Sa) (p := p) (t := Ty.mk kd u row ops args) H8 0 (by kernel_rfl)) hti
    obtain ⟨p0, za, hxa, hza, hka⟩ := hob_
    have H9 := H8.ro 0 (S := Sa) (A := fun w => TyIn w Sa p (Ty.mk kd u row ops args)) (B := fun w => TyIn w Sa p0 (Ty.mk k0 u0 r0 o0 a0)) (by kernel_rfl) hka (tyI_loc _ _ _)
    have H10 := H9.ro 0 (S := Sa) (A := fun w => TyIn w Sa p (Ty.mk kd u row ops args)) (B := fun w => Sa (Addr.add za (i * 5)).block ∧ w.cells? 0 (Addr.add za (i * 5)) 5 = some (tvC (Ty.mk k0 u0 r0 o0 a0) p0)) (by kernel_rfl) hza (ceI_loc _ _ _ _)
    have hob_ := TyIn.kid (ty_at (S := Sb) (p := q) (t := Ty.mk kd u row ops args) H10 1 (by kernel_rfl)) hti
    obtain ⟨q0, zb, hxb, hzb, hkb⟩ := hob_
    have H11 := H10.ro 1 (S := Sb) (A := fun w => TyIn w Sb q (Ty.mk kd u row ops args)) (B := fun w => TyIn w Sb q0 (Ty.mk k0 u0 r0 o0 a0)) (by kernel_rfl) hkb (tyI_loc _ _ _)
    have H12 := H11.ro 1 (S := Sb) (A := fun w => TyIn w Sb q (Ty.mk kd u row ops args)) (B := fun w => Sb (Addr.add zb (i * 5)).block ∧ w.cells? 0 (Addr.add zb (i * 5)) 5 = some (tvC (Ty.mk k0 u0 r0 o0 a0) q0)) (by kernel_rfl) hzb (ceI_loc _ _ _ _)
    refine Sx.l 5 2 H12 ?_
    refine Sx.v 1 (.bool (decide (((i : Nat) : Int) < ((p.nb : Nat) : Int)))) (.bool true) (dT (by omega)) ?_
    refine Sx.dr 8 H12 [2, 5, 3, 7] [] (LJ := [.blk k1 (.cells #[.int .i64 ((kd : Nat) : Int), .int .i64 ((u : Nat) : Int), .int .i64 ((row : Nat) : Int), .slice p.A p.na p.ca, .slice p.B p.nb p.cb] 32), ceI Sa (Addr.add za (i * 5)) 5 (tvC (Ty.mk k0 u0 r0 o0 a0) p0), .blk k2 (.cells #[.int .i64 ((kd : Nat) : Int), .int .i64 ((u : Nat) : Int), .int .i64 ((row : Nat) : Int), .slice q.A q.na q.ca, .slice q.B q.nb q.cb] 32), ceI Sb (Addr.add zb (i * 5)) 5 (tvC (Ty.mk k0 u0 r0 o0 a0) q0)]) (by kernel_rfl) fun w6 H13 => ?_
    refine Sx.tk [(0, none), (1, some (0, [])), (2, none)] (fun _ => (H13.sub [2, 4, 2, 4] (by kernel_rfl))) ?_
    refine Sx.tvi 3 [] za i 5 p.nb p.cb hxa (by omega) (fun _ => (H13.sub [2, 4, 2, 4] (by kernel_rfl))) ?_
    refine Sx.tvo (c := 5) (t := 32) 4 [] [.int .i64 ((k0 : Nat) : Int), .int .i64 ((u0 : Nat) : Int), .int .i64 ((r0 : Nat) : Int), .slice p0.A p0.na p0.ca, .slice p0.B p0.nb p0.cb] (.agg #[.int .i64 ((k0 : Nat) : Int), .int .i64 ((u0 : Nat) : Int), .int .i64 ((r0 : Nat) : Int), .slice p0.A p0.na p0.ca, .slice p0.B p0.nb p0.cb]) (fun w' hs => ce_at (S := Sa) (a := Addr.add za (i * 5)) (n := 5) (cs := tvC (Ty.mk k0 u0 r0 o0 a0) p0) hs 1 (by kernel_rfl)) (fun _ => (H13.sub [2, 4, 2, 4] (by kernel_rfl))) ?_
    refine Sx.tk [(5, none), (6, some (2, [])), (7, none)] (fun _ => (H13.sub [2, 4, 2, 4] (by kernel_rfl))) ?_
    refine Sx.tvi 8 [] zb i 5 q.nb q.cb hxb (by omega) (fun _ => (H13.sub [2, 4, 2, 4] (by kernel_rfl))) ?_
    refine Sx.tvo (c := 5) (t := 32) 9 [] [.int .i64 ((k0 : Nat) : Int), .int .i64 ((u0 : Nat) : Int), .int .i64 ((r0 : Nat) : Int), .slice q0.A q0.na q0.ca, .slice q0.B q0.nb q0.cb] (.agg #[.int .i64 ((k0 : Nat) : Int), .int .i64 ((u0 : Nat) : Int), .int .i64 ((r0 : Nat) : Int), .slice q0.A q0.na q0.ca, .slice q0.B q0.nb q0.cb]) (fun w' hs => ce_at (S := Sb) (a := Addr.add zb (i * 5)) (n := 5) (cs := tvC (Ty.mk k0 u0 r0 o0 a0) q0) hs 3 (by kernel_rfl)) (fun _ => (H13.sub [2, 4, 2, 4] (by kernel_rfl))) ?_
    refine Sx.nmx ?_
    intro zx1
    refine Sx.on 10 ?_
    refine Sx.c 0 [4, 5] H13 (fun Hp1 R1 hR1 => ih Sa Sb k0 u0 r0 o0 a0 p0 q0 w6 R1 Hp1 (hdd _ _ hti) (fun w7 G1 => hR1 _ _ _ G1 fun H14 => ?_))
    refine Sx.bk (x := zx1) 10 (fun _ => (H14.sub [4, 5, 4, 4] (by kernel_rfl))) ?_
    refine Sx.tk [(11, none)] (fun _ => (H14.sub [4, 5, 4, 4] (by kernel_rfl))) ?_
    refine Sx.dn ?_
    refine Sx.v 13 (.int .i64 (IntKind.i64.wrap (((i : Nat) : Int) + (1 : Int)))) (.int .i64 ((i + 1 : Nat) : Int)) (congrArg (Value.int .i64) (Gx.i64n (by omega) (by omega))) ?_
    have H15 := H14.pick (a := [tyI Sa p (Ty.mk kd u row ops args), tyI Sb q (Ty.mk kd u row ops args), .blk k1 (.cells #[.int .i64 ((kd : Nat) : Int), .int .i64 ((u : Nat) : Int), .int .i64 ((row : Nat) : Int), .slice p.A p.na p.ca, .slice p.B p.nb p.cb] 32), .blk k2 (.cells #[.int .i64 ((kd : Nat) : Int), .int .i64 ((u : Nat) : Int), .int .i64 ((row : Nat) : Int), .slice q.A q.na q.ca, .slice q.B q.nb q.cb] 32)]) [2, 2, 2, 2] (by kernel_rfl)
    exact Sx.to 2 [(2, .pointer (some ⟨k1, 0, none⟩)), (3, .pointer (some ⟨k2, 0, none⟩)), (6, .int .i64 (((i + 1) : Nat) : Int))] (hK2 _ _ _ _ (by omega) ⟨(i + 1), rfl, rfl, H15, (by omega)⟩)
  refine Sx.l 5 2 H8 ?_
  refine Sx.v 1 (.bool (decide (((i : Nat) : Int) < ((p.nb : Nat) : Int)))) (.bool false) (dF (by omega)) ?_
  refine Sx.rt 14 [] H8 (.bool true) ?_
  subst hL0
  exact hK _ (H8.pick (a := [tyI Sa p (Ty.mk kd u row ops args), tyI Sb q (Ty.mk kd u row ops args)]) [0, 0] (by kernel_rfl))
theorem SameL_c (k : Nat) : ∀ (Sa Sb : Nat → Prop) (kd u row : Nat) (ops : List Nm) (args : List Ty) (p q : Tv) (w : World) (K : Ending → World → Prop) (H0 : Sp w [tyI Sa p (Ty.mk kd u row ops args), tyI Sb q (Ty.mk kd u row ops args)]) (hd : Dep k (Ty.mk kd u row ops args)) (hK : ∀ w', Hs w [tyI Sa p (Ty.mk kd u row ops args), tyI Sb q (Ty.mk kd u row ops args)] w' [tyI Sa p (Ty.mk kd u row ops args), tyI Sb q (Ty.mk kd u row ops args)] → K (.returned (.bool true)) w'),
    Calls Try.prog 7 #[.agg #[.int .i64 ((kd : Nat) : Int), .int .i64 ((u : Nat) : Int), .int .i64 ((row : Nat) : Int), .slice p.A p.na p.ca, .slice p.B p.nb p.cb], .agg #[.int .i64 ((kd : Nat) : Int), .int .i64 ((u : Nat) : Int), .int .i64 ((row : Nat) : Int), .slice q.A q.na q.ca, .slice q.B q.nb q.cb]] w K := by
  induction k with
  | zero => intro Sa Sb kd u row ops args p q w K H0 hd; cases hd
  | succ k ih => exact SameL_c_s k ih
end Go.Proofs.Ytfkkocjheeoobaa
set_option linter.unusedVariables false
set_option linter.unusedSimpArgs false
namespace Go.Proofs.Ytfkkocjheeoobaa
open Go.RowKit Go.Sx Go.Inf
attribute [local irreducible] Go.wpOps Go.Code.wp Go.wpOp Go.wpAnyH Go.Calls Go.Sx.Goal
set_option maxRecDepth 20000
theorem insert_c (S2 : Nat → Prop) (A : Option Addr) (nn cap : Nat) (l : List Nm) (s : Nm) (w : World) (K : Ending → World → Prop) (H0 : Sp w [strI S2 A l]) (hnn : nn = l.length) (hcap : nn ≤ cap) (hz : l.length < 1000000000) (hK : ∀ (S'  : Nat → Prop) (A' : Option Addr) (n' : Nat) (cap' : Nat) w', Hs w [strI S2 A l] w' [strI S2 A l, strI S' A' (putN l s)] → (n' = (putN l s).length) → (n' ≤ cap') → K (.returned (.slice A' n' cap')) w') :
    Calls Try.prog 25 #[.slice A nn cap, .string s] w K := by
  obtain ⟨L0, hL0, H⟩ : ∃ L0, L0 = [strI S2 A l] ∧ Hs w L0 w [strI S2 A l] := ⟨_, rfl, Hs.refl H0⟩
  refine Sx.en (vs := [.slice A nn cap, .string s]) 37 Try.func25 ?_
  have H1 := H.add (Gx.Ext.refl _) (it := .own 9 1 none 0 0 []) (World.ownsRow_nil _ _ _ _) (fun _ h => by cases h)
  refine Sx.lp 17 (fun z l' w' => ∃ (i : Nat) (A5 : Option Addr) (c5 : Nat), l' = [(0, .slice A nn cap), (1, .string s), (5, .slice A5 i c5), (6, .int .i64 ((i : Nat) : Int))] ∧ z = l.length - i ∧ Hs w L0 w' [strI S2 A l, .own 9 1 A5 c5 i (strs (l.take i))] ∧ (i ≤ l.length) ∧ (∀ j, j < i → leN (gn l j) s = true)) _ [(0, .slice A nn cap), (1, .string s), (5, .slice none 0 0), (6, .int .i64 ((0 : Nat) : Int))] ⟨0, none, 0, rfl, rfl, H1, (Nat.zero_le _), (fun j hj => absurd hj (Nat.not_lt_zero j))⟩ (fun b1 z1 l1 w1 hI1 K1 hK1 => ?_)
  obtain ⟨i, A5, c5, rfl, rfl, H2, hi, hle⟩ := hI1
  refine Sx.cut 1 (fun l' w' => l' = [(0, .slice A nn cap), (1, .string s), (5, .slice A5 i c5), (6, .int .i64 ((i : Nat) : Int)), (18, .bool ((decide (((i : Nat) : Int) < ((nn : Nat) : Int))) && (Go.Op.bytesLess (gn l i).toList s.toList || ((gn l i).toList == s.toList))))] ∧ w1 = w') (fun K2 hK2 => ?_) (fun b2 l2 w2 hI2 => ?_)
  · skip
    refine Sx.sp 6 11 (decide (((i : Nat) : Int) < ((nn : Nat) : Int))) (fun h_g11 => ?_) (fun h_g11 => ?_)
    · skip
      have p_g11 := of_decide_eq_true h_g11
      obtain ⟨a1, ha1, _, hc1⟩ := (H2.at 0 (it := strI S2 A l) (by kernel_rfl)).1 i _ (gn_at (l := l) (by omega))
      refine Sx.ia 2 a1 i 1 nn cap ha1 (by omega) ?_
      refine Sx.lo (c := 1) (t := 9) 0 [.string (gn l i)] (.string (gn l i)) hc1 ?_
      exact Sx.to 4 [(0, .slice A nn cap), (1, .string s), (5, .slice A5 i c5), (6, .int .i64 ((i : Nat) : Int)), (18, .bool ((decide (((i : Nat) : Int) < ((nn : Nat) : Int))) && (Go.Op.bytesLess (gn l i).toList s.toList || ((gn l i).toList == s.toList))))] (hK2 _ _ _ ⟨rfl, rfl⟩) (h2 := (by rw [h_g11]; try kernel_rfl))
    exact Sx.to 8 [(0, .slice A nn cap), (1, .string s), (5, .slice A5 i c5), (6, .int .i64 ((i : Nat) : Int)), (18, .bool ((decide (((i : Nat) : Int) < ((nn : Nat) : Int))) && (Go.Op.bytesLess (gn l i).toList s.toList || ((gn l i).toList == s.toList))))] (hK2 _ _ _ ⟨rfl, rfl⟩) (h2 := (by rw [h_g11]; try kernel_rfl))
  obtain ⟨rfl, rfl⟩ := hI2
  refine Sx.br 0 ((decide (((i : Nat) : Int) < ((nn : Nat) : Int))) && (Go.Op.bytesLess (gn l i).toList s.toList || ((gn l i).toList == s.toList))) (fun h_c18 => ?_) (fun h_c18 => ?_)
  · skip
    obtain ⟨pa, pb⟩ := and2 h_c18
    have hlt := of_decide_eq_true pa
    rw [← leN_eq] at pb
    obtain ⟨a2, ha2, _, hc2⟩ := (H2.at 0 (it := strI S2 A l) (by kernel_rfl)).1 i _ (gn_at (l := l) (by omega))
    refine Sx.ia 8 a2 i 1 nn cap ha2 (by omega) ?_
    refine Sx.lo (c := 1) (t := 9) 0 [.string (gn l i)] (.string (gn l i)) hc2 ?_
    refine Sx.nw 0 H2 fun k1 w3 H3 => ?_
    refine Sx.ap 0 1 2 16 1 0 9 1 30 1 k1 A5 c5 i (strs (l.take i)) [.string (gn l i)] H3 (by omega) (by omega) (strs_take (by omega)) fun A1 cap1 w4 H4 => ?_
    refine Sx.v 5 (.int .i64 (IntKind.i64.wrap (((i : Nat) : Int) + (1 : Int)))) (.int .i64 ((i + 1 : Nat) : Int)) (congrArg (Value.int .i64) (Gx.i64n (by omega) (by omega))) ?_
    have H5 := H4.pick (a := [strI S2 A l, .own 9 1 A1 cap1 (i + 1) (strs (l.take (i + 1)))]) [0, 0] (by kernel_rfl)
    exact Sx.to 3 [(0, .slice A nn cap), (1, .string s), (5, .slice A1 (i + 1) cap1), (6, .int .i64 (((i + 1) : Nat) : Int))] (hK1 _ _ _ _ (by omega) ⟨(i + 1), A1, cap1, rfl, rfl, H5, (by omega), (fun j hj => by rcases Nat.lt_succ_iff_lt_or_eq.1 hj with q | q; exact hle j q; subst q; exact pb)⟩)
  have hx : i = l.length ∨ leN (gn l i) s = false := by
    rcases and0 h_c18 with q | q
    · exact .inl (by have := of_decide_eq_false q; omega)
    · exact .inr (by rw [leN_eq]; exact q)
  refine Sx.nw 9 H2 fun k2 w5 H6 => ?_
  refine Sx.ap 0 1 2 16 1 0 9 1 30 1 k2 A5 c5 i (strs (l.take i)) [.string s] H6 (by omega) (by omega) (strs_app _ _) fun A2 cap2 w6 H7 => ?_
  refine Sx.sf 8 A nn cap i 1 (by omega) hcap fun C1 hC1 hC2 => ?_
  have hst : Strs w6 S2 A l := (H7.at 0 (it := strI S2 A l) (by kernel_rfl)).1
  have hdr := hst.drop (k := i) (fun a ha => by have := hC2 a ha; rw [← hnn]; exact this) hC1
  have hcc : i + 1 ≤ cap2 := by have := own_cap (H7.at 1 (it := .own 9 1 A2 cap2 (i + 1) (strs (l.take i ++ [s]))) (by kernel_rfl)); exact this
  refine Sx.aps 0 1 16 (nn - i) 9 1 30 (cap - i) C1 A2 cap2 (i + 1) (strs (l.take i ++ [s])) (strs (l.drop i)) H7 (fun h => by have := hC1 h; subst this; have := hst.nil; subst this; simp at hnn; omega) (fun a ha => hdr.cell ha) (by rw [strs, List.length_map, List.length_drop]; omega) (strs_one _) (by omega) (by omega) hcc (strs_cat _ _) fun A3 cap3 w7 H8 => ?_
  refine Sx.rt 4 [] H8 (.slice A3 (i + 1 + (nn - i)) cap3) ?_
  have hp : l.take i ++ [s] ++ l.drop i = putN l s := by rw [putN_at hi hle hx, List.append_assoc]; rfl
  rw [hp] at H8
  have hlen : i + 1 + (nn - i) = (putN l s).length := by rw [putN_len]; omega
  have hcp := own_cap (H8.at 1 (it := .own 9 1 A3 cap3 (i + 1 + (nn - i)) (strs (putN l s))) (by kernel_rfl))
  have H9 := Hs.toStr H8 1 (e := 9) (n := i + 1 + (nn - i)) (cap := cap3) (A := A3) (l := putN l s) (by kernel_rfl)
  subst hL0
  exact hK (fun c => (Value.slice A3 (i + 1 + (nn - i)) cap3).ownBlock = some c) A3 _ cap3 _ (H9.pick (a := [strI S2 A l, strI (fun c => (Value.slice A3 (i + 1 + (nn - i)) cap3).ownBlock = some c) A3 (putN l s)]) [0, 0] (by kernel_rfl)) hlen hcp
end Go.Proofs.Ytfkkocjheeoobaa
set_option linter.unusedVariables false
set_option linter.unusedSimpArgs false
namespace Go.Sx
open Go.RowKit Go.Gx
section
variable [Rd] {P : Program} {B : Exit → Act → World → Prop} {b : Nat → Value} {n : Nat} {d : List Deferred} {w : World} {x : St}
end
end Go.Sx
set_option linter.unusedVariables false
set_option linter.unusedSimpArgs false
namespace Go.Sx
open Go.RowKit Go.Gx
section
variable [Rd] {P : Program} {B : Exit → Act → World → Prop} {b : Nat → Value} {n : Nat} {d : List Deferred} {w : World} {x : St}
end
end Go.Sx
namespace Go.Slv
open Go.RowKit Go.Sx Go.Inf Go.Gx
theorem kC_at {P : Program} {i : Nat} {kl : List Kd} {p : Tv} {t : Ty} (h : kl[i]? = some (p, t)) (hs : structT P 32 5 = true := by kernel_rfl) : loadX P 32 (kC kl) (i * 5) (.agg (tvC t p).toArray) :=
  @rec_load Kd (fun k : Kd => tvC k.2 k.1) 5 P 32 kl i (p, t) (fun x => by obtain ⟨p, t⟩ := x; cases t; rfl) h hs
end Go.Slv
