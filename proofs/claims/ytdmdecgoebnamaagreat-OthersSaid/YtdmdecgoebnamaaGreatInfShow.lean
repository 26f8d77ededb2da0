/- A part of the proof. -/
import Derived.Test.YtdmdecgoebnamaaGreatOk
import Derived.Test.YtdmdecgoebnamaaGreatGraph
import Derived.Test.YtdmdecgoebnamaaGreatShw1
import Derived.Test.YtdmdecgoebnamaaGreatInfOps
import Derived.Test.YtdmdecgoebnamaaGreatRe4
import Derived.Test.YtdmdecgoebnamaaGreatSx4
set_option linter.unusedVariables false
set_option linter.unusedSimpArgs false
namespace Go.Inf
open Go.Show
def cv : Ty → TyP
  | .mk k n r o [] => .mk k n r o []
  | .mk k n r o [a] => .mk k n r o [cv a]
  | .mk k n r o (a :: b :: _) => .mk k n r o [cv a, cv b]
theorem shM_cases {f k n r : Nat} {o : List Nm} {a : List Ty} {m : Nat} (h : shM f (.mk k n r o a) = some m) :
    (k < 4611686018427387904 ∧ n < 4611686018427387904 ∧ r < 4611686018427387904 ∧ o.length ≤ 1048576 ∧ ∀ i, (o.getD i e0).size ≤ 1048576) ∧
    ((a = [] ∧ m = 30) ∨ (∃ x g q, a = [x] ∧ shM g x = some q ∧ m = q + 10) ∨ (∃ x y g q l, a = [x, y] ∧ shM g x = some q ∧ shM g y = some l ∧ m = q + l + (o.map fun s => s.size + 2).sum + 60)) := by
  match f with
  | 0 => simp [shM] at h
  | f + 1 =>
    unfold shM at h
    by_cases hq : k < 4611686018427387904 ∧ n < 4611686018427387904 ∧ r < 4611686018427387904 ∧ o.length ≤ 1048576 ∧ (o.all fun s => decide (s.size ≤ 1048576)) = true
    case neg => rw [if_neg hq] at h; contradiction
    rw [if_pos hq] at h
    obtain ⟨h1, h2, h3, h4, h5⟩ := hq
    refine ⟨⟨h1, h2, h3, h4, fun i => ?_⟩, ?_⟩
    · rw [List.getD_eq_getElem?_getD]
      cases e : o[i]? with
      | none => simp; decide
      | some s => simp only [Option.getD_some]; exact of_decide_eq_true (List.all_eq_true.1 h5 s (List.mem_of_getElem? e))
    · match a with
      | [] => left; cases h; exact ⟨rfl, rfl⟩
      | [x] =>
        right; left
        simp only at h
        cases e : shM f x with
        | none => rw [e] at h; contradiction
        | some q => rw [e] at h; cases h; exact ⟨x, f, q, rfl, e, rfl⟩
      | [x, y] =>
        right; right
        simp only at h
        cases e : shM f x with
        | none => rw [e] at h; contradiction
        | some q =>
          cases e2 : shM f y with
          | none => rw [e, e2] at h; contradiction
          | some l => rw [e, e2] at h; cases h; exact ⟨x, y, f, q, l, rfl, e, e2, rfl⟩
      | _ :: _ :: _ :: _ => contradiction
theorem varS_size {n : Nat} (h : n < 4611686018427387904) : (varS (n : Int)).size ≤ 30 := by
  unfold varS
  split
  · exact Nat.le_trans (Nat.le_of_eq rfl) (by decide : 1 ≤ 30)
  · rw [if_neg (by omega), ByteArray.size_append]
    have h1 : bA.size = 1 := rfl
    have h2 := dig_size (m := ((n : Int)).toNat) (by omega)
    omega
theorem rowB_size {j : ByteArray} {r : Nat} (h : r < 4611686018427387904) : (rowB j (r : Int)).size ≤ j.size + 30 := by
  have h1 : bS.size = 1 := rfl
  have h2 : bR.size = 3 := rfl
  have h3 := dig_size (m := ((r : Int)).toNat) (by omega)
  unfold rowB
  split
  · rw [ByteArray.size_append, ByteArray.size_append]
    split
    · rw [ByteArray.size_append]; omega
    · omega
  · omega
theorem arrB_size (r : ByteArray) : (arrB r).size ≤ r.size + 10 := by
  have h1 : bL.size = 3 := rfl
  have h2 : bE.size = 4 := rfl
  have h3 : bArr.size = 4 := rfl
  unfold arrB
  split
  · rw [ByteArray.size_append, ByteArray.size_append]; omega
  · omega
theorem e0_size : e0.size = 0 := rfl
theorem show_le : ∀ (t : Ty) (f m : Nat), shM f t = some m → (showP (cv t)).size ≤ m
  | .mk k n r o [], f, m, h => by
    obtain ⟨⟨_, h2, _, _, _⟩, ⟨_, rfl⟩ | ⟨x, g, q, e, _⟩ | ⟨x, y, g, q, l, e, _⟩⟩ := shM_cases h
    · have hv := varS_size h2
      rw [cv, showP]
      repeat' split
      · exact hv
      all_goals (first | decide | skip)
    · contradiction
    · contradiction
  | .mk k n r o [a], f, m, h => by
    obtain ⟨_, ⟨e, rfl⟩ | ⟨x, g, q, e, hx, rfl⟩ | ⟨x, y, g, q, l, e, _⟩⟩ := shM_cases h
    · contradiction
    · cases e
      have ih := show_le a g q hx
      have hp := (par_size 2 (cv a).kind (showP (cv a))).2
      rw [cv, showP]
      split
      · rw [ByteArray.size_append]; have : (⟨#[32, 108, 105, 115, 116]⟩ : ByteArray).size = 5 := rfl; omega
      · rw [e0_size]; omega
    · cases e
  | .mk k n r o [a, b], f, m, h => by
    obtain ⟨⟨_, _, h3, _, _⟩, ⟨e, rfl⟩ | ⟨x, g, q, e, hx, rfl⟩ | ⟨x, y, g, q, l, e, hx, hy, rfl⟩⟩ := shM_cases h
    · cases e
    · cases e
    · cases e
      have ih := show_le a g q hx
      have ih2 := show_le b g l hy
      have hp := (par_size 2 (cv a).kind (showP (cv a))).2
      have hp1 := (par_size 1 (cv a).kind (showP (cv a))).2
      have hq := (par_size 1 (cv b).kind (showP (cv b))).2
      have hq0 := (par_size 0 (cv b).kind (showP (cv b))).2
      have hj := join_size o
      generalize hJ : (List.map (fun s => ByteArray.size s + 2) o).sum = J at *
      have hj : (joinB o).size ≤ J := by rw [← hJ]; exact join_size o
      have hr := rowB_size (j := joinB o) h3
      have ha := arrB_size (rowB (joinB o) (r : Int))
      rw [cv, showP]
      split
      · rw [ByteArray.size_append, ByteArray.size_append]; have : (⟨#[32, 42, 32]⟩ : ByteArray).size = 3 := rfl; omega
      · split
        · rw [ByteArray.size_append, ByteArray.size_append]; omega
        · rw [e0_size]; omega
  | .mk k n r o (_ :: _ :: _ :: _), f, m, h => by
    obtain ⟨_, ⟨e, _⟩ | ⟨x, g, q, e, _⟩ | ⟨x, y, g, q, l, e, _⟩⟩ := shM_cases h <;> cases e
theorem Strs.rd {w : World} {S : Nat → Prop} {A : Option Addr} {l : List Nm} (h : Strs w S A l) : Gx.Rd w A l.length 1 (fun i => [.string (l.getD i e0)]) := fun i hi => by
  obtain ⟨a, ha, _, hc⟩ := h i l[i] (List.getElem?_eq_getElem hi)
  refine ⟨a, ha, ?_⟩
  rw [hc]; dsimp only; rw [List.getD_eq_getElem?_getD, List.getElem?_eq_getElem hi]; rfl
theorem cv_args {k n r : Nat} {o : List Nm} {a : List Ty} (h : a.length ≤ 2) : cv (.mk k n r o a) = .mk k n r o (a.map cv) := by
  match a with
  | [] => rfl
  | [_] => rfl
  | [_, _] => rfl
  | _ :: _ :: _ :: _ => simp at h
theorem shM_kid {f k n r : Nat} {o : List Nm} {a : List Ty} {m : Nat} (h : shM f (.mk k n r o a) = some m) {i : Nat} {t : Ty} (ht : a[i]? = some t) : ∃ g q, shM g t = some q := by
  obtain ⟨_, ⟨rfl, _⟩ | ⟨x, g, q, rfl, hx, _⟩ | ⟨x, y, g, q, l, rfl, hx, hy, _⟩⟩ := shM_cases h
  · simp at ht
  · match i with
    | 0 => simp at ht; subst ht; exact ⟨g, q, hx⟩
    | i + 1 => simp at ht
  · match i with
    | 0 => simp at ht; subst ht; exact ⟨g, q, hx⟩
    | 1 => simp at ht; subst ht; exact ⟨g, l, hy⟩
    | i + 2 => simp at ht
theorem TyIn.shown {w : World} {S : Nat → Prop} {p : Tv} {t : Ty} (h : TyIn w S p t) : ∀ f m, shM f t = some m → Show.TyIn w (cv t) (.agg (tvC t p).toArray) := by
  induction h with
  | @mk kd n row ops args p ps hs hn hc hb hl hm ht ih =>
    intro f m hf
    obtain ⟨⟨h1, h2, h3, h4, h5⟩, _⟩ := shM_cases hf
    rw [cv_args hc.2.2]
    unfold tvC
    rw [hn, hb, show args.length = (args.map cv).length by simp]
    have key : ∀ i, i < args.length → ∃ (q : Tv) (t : Ty) (a : Addr), args[i]? = some t ∧ ps[i]? = some q ∧ p.B = some a ∧ w.cells? 0 (a.add (i * 5)) 5 = some (tvC t q) := fun i hi => by
      obtain ⟨a, ha, _, hcs⟩ := hm i ps[i] args[i] (List.getElem?_eq_getElem (by omega)) (List.getElem?_eq_getElem hi)
      exact ⟨ps[i], args[i], a, List.getElem?_eq_getElem hi, List.getElem?_eq_getElem (by omega), ha, hcs⟩
    refine .mk (fun i => match args[i]?, ps[i]? with | some t, some q => tvC t q | _, _ => []) ⟨by omega, by omega⟩ ⟨by omega, by omega⟩ ⟨by omega, by omega⟩ (by omega) ⟨h4, by simp; omega⟩ h5 hs.rd ?_ ?_
    · intro i hi
      obtain ⟨q, t, a, e1, e2, ha, hcs⟩ := key i (by simpa using hi)
      exact ⟨a, ha, by rw [hcs]; dsimp only; rw [e1, e2]⟩
    · intro i hi
      obtain ⟨q, t, a, e1, e2, ha, hcs⟩ := key i (by simpa using hi)
      obtain ⟨g, z, hz⟩ := shM_kid hf e1
      have := ih i q t e2 e1 g z hz
      simp only [e1, e2]
      rw [List.getD_eq_getElem?_getD, List.getElem?_map, e1]
      exact this
end Go.Inf
namespace Go.Proofs.YtdmdecgoebnamaaGreat
open Go.Inf Go.Show
theorem Show_c (Sy : Nat → Prop) (t : Ty) (p : Tv) (w : World) (K : Ending → World → Prop) (H0 : Sx.Sp w [tyI Sy p t]) (k : Nat) (hf : okT k t = true) (hK : ∀ w', Sx.Hs w [tyI Sy p t] w' [tyI Sy p t] → K (.returned (.string (showP (cv t)))) w') :
    Calls Tryz.prog 63 #[.agg (tvC t p).toArray] w K := by
  unfold okT at hf
  cases e : shM k t with
  | none => rw [e] at hf; contradiction
  | some m =>
    rw [e] at hf
    have hm := of_decide_eq_true hf
    have ht : TyIn w Sy p t := (H0.all _ (List.mem_singleton.2 rfl)).1
    exact (show_in (ht.shown k m e) (Nat.le_trans (show_le t k m e) hm)).1 w K (Gx.Ext.refl _) (fun w' x => hK w' ((Sx.Hs.refl H0).ext x))
end Go.Proofs.YtdmdecgoebnamaaGreat
/- The types of a tree's names: the plain form that the walk goes beside. -/
namespace Go.Inf
open Go.Syn Go.Show
def tyZ : Ty := .mk 0 0 0 [] []
def defsG (k : Nat) (ks : List Nd) (na : Nat) : Nat → List Nd → Ck → List (Nm × Ty) → Option (Ck × List (Nm × Ty))
  | _, [], c, out => some (c, out)
  | i, d :: r, c, out =>
    if c.fk ≠ 0 then some (c, out) else
    match boundF (expr k) k (((ks.take i).drop na).foldl (twF d) c) d with
    | none => none
    | some (c2, t) => match c2.bigC k t d.a with
      | none => none
      | some c3 => if c3.fk ≠ 0 then some (c3, out) else
        match c3.general k d.nm t, told k c3.g t ⟨[], []⟩ with
        | some x, some (s, _) => if okT k s = true then defsG k ks na (i + 1) r ⟨c3.g, c3.env ++ [x], c3.ops, c3.fk, c3.fa⟩ (out ++ [(d.nm, s)]) else none
        | _, _ => none
def foundM (k na : Nat) (ks : List Nd) : Option (List (Nm × Ty) × Ty × Nat × Int) :=
  if ks.length < 100000000 ∧ na < ks.length ∧ k < 100000000 then
    match opsLoop k ((ks.take na).map fun d => d.nm) 0 (ks.take na) ⟨G.new, [], [], 0, 0⟩ with
    | none => none
    | some c1 => match defsG k ks na na ((ks.take (ks.length - 1)).drop na) c1 [] with
      | none => none
      | some (c2, out) => if c2.fk ≠ 0 then some ([], tyZ, c2.fk, c2.fa) else
        match ks[ks.length - 1]?, c2.g.putRow [] (some 0) with
        | some m, some (g3, nn) => match expr k ⟨g3, c2.env, c2.ops, c2.fk, c2.fa⟩ m nn with
          | none => none
          | some (c4, t) => match c4.bigC k t m.a with
            | none => none
            | some c5 => if c5.fk ≠ 0 then some ([], tyZ, c5.fk, c5.fa) else
              match told k c5.g t ⟨[], []⟩ with
              | none => none
              | some (s, _) => if okT k s = true then some (out ++ [(⟨#[109, 97, 105, 110]⟩, s)], s, 0, 0) else none
        | _, _ => none
  else none
theorem defs_nil {k na i : Nat} {ks r : List Nd} {c c' : Ck} {o o' : List (Nm × Ty)} (h : defsG k ks na i r c o = some (c', o')) (hr : r = []) : c = c' ∧ o = o' := by
  subst hr; unfold defsG at h; cases h; exact ⟨rfl, rfl⟩
theorem defs_step {k na i m : Nat} {ks : List Nd} {c c' : Ck} {o o' : List (Nm × Ty)} {d : Nd} (h : defsG k ks na i ((ks.take m).drop i) c o = some (c', o')) (hd : ks[i]? = some d) (hi : i < m) :
    (c.fk ≠ 0 → c = c' ∧ o = o') ∧ (c.fk = 0 → ∃ c2 t c3, boundF (expr k) k (((ks.take i).drop na).foldl (twF d) c) d = some (c2, t) ∧ c2.bigC k t d.a = some c3 ∧ (c3.fk ≠ 0 → c3 = c' ∧ o = o') ∧
      (c3.fk = 0 → ∃ x s l, c3.general k d.nm t = some x ∧ told k c3.g t ⟨[], []⟩ = some (s, l) ∧ okT k s = true ∧ defsG k ks na (i + 1) ((ks.take m).drop (i + 1)) ⟨c3.g, c3.env ++ [x], c3.ops, c3.fk, c3.fa⟩ (o ++ [(d.nm, s)]) = some (c', o'))) := by
  have e : (ks.take m)[i]? = some d := by rw [List.getElem?_take, if_pos hi]; exact hd
  obtain ⟨hl, e⟩ := List.getElem?_eq_some_iff.1 e
  rw [List.drop_eq_getElem_cons hl, e, defsG] at h
  refine ⟨fun q => by rw [if_pos q] at h; cases h; exact ⟨rfl, rfl⟩, fun q => ?_⟩
  rw [if_neg (by simpa using q)] at h
  cases e1 : boundF (expr k) k (((ks.take i).drop na).foldl (twF d) c) d with
  | none => rw [e1] at h; contradiction
  | some z =>
    obtain ⟨c2, t⟩ := z
    rw [e1] at h; dsimp only at h
    cases e2 : c2.bigC k t d.a with
    | none => rw [e2] at h; contradiction
    | some c3 =>
      rw [e2] at h; dsimp only at h
      refine ⟨c2, t, c3, rfl, e2, fun q => by rw [if_pos q] at h; cases h; exact ⟨rfl, rfl⟩, fun q => ?_⟩
      rw [if_neg (by simpa using q)] at h
      cases e3 : c3.general k d.nm t with
      | none => rw [e3] at h; contradiction
      | some x =>
        cases e4 : told k c3.g t ⟨[], []⟩ with
        | none => rw [e3, e4] at h; contradiction
        | some z =>
          obtain ⟨s, l⟩ := z
          rw [e3, e4] at h; dsimp only at h
          by_cases hk : okT k s = true
          · rw [if_pos hk] at h; exact ⟨x, s, l, rfl, rfl, hk, h⟩
          · rw [if_neg hk] at h; contradiction
theorem found_cases {k na : Nat} {ks : List Nd} {r : List (Nm × Ty) × Ty × Nat × Int} (h : foundM k na ks = some r) :
    (ks.length < 100000000 ∧ na < ks.length ∧ k < 100000000) ∧ ∃ c1 c2 out, opsLoop k ((ks.take na).map fun d => d.nm) 0 (ks.take na) ⟨G.new, [], [], 0, 0⟩ = some c1 ∧ defsG k ks na na ((ks.take (ks.length - 1)).drop na) c1 [] = some (c2, out) ∧
      (c2.fk ≠ 0 → r = ([], tyZ, c2.fk, c2.fa)) ∧ (c2.fk = 0 → ∃ m g3 nn c4 t c5, ks[ks.length - 1]? = some m ∧ c2.g.putRow [] (some 0) = some (g3, nn) ∧ expr k ⟨g3, c2.env, c2.ops, c2.fk, c2.fa⟩ m nn = some (c4, t) ∧ c4.bigC k t m.a = some c5 ∧
        (c5.fk ≠ 0 → r = ([], tyZ, c5.fk, c5.fa)) ∧ (c5.fk = 0 → ∃ s l, told k c5.g t ⟨[], []⟩ = some (s, l) ∧ okT k s = true ∧ r = (out ++ [(⟨#[109, 97, 105, 110]⟩, s)], s, 0, 0))) := by
  unfold foundM at h
  by_cases h0 : ks.length < 100000000 ∧ na < ks.length ∧ k < 100000000
  case neg => rw [if_neg h0] at h; contradiction
  rw [if_pos h0] at h
  refine ⟨h0, ?_⟩
  cases e1 : opsLoop k ((ks.take na).map fun d => d.nm) 0 (ks.take na) ⟨G.new, [], [], 0, 0⟩ with
  | none => rw [e1] at h; contradiction
  | some c1 =>
    rw [e1] at h; dsimp only at h
    cases e2 : defsG k ks na na ((ks.take (ks.length - 1)).drop na) c1 [] with
    | none => rw [e2] at h; contradiction
    | some z =>
      obtain ⟨c2, out⟩ := z
      rw [e2] at h; dsimp only at h
      refine ⟨c1, c2, out, rfl, e2, fun q => by rw [if_pos q] at h; cases h; rfl, fun q => ?_⟩
      rw [if_neg (by simpa using q)] at h
      cases e3 : ks[ks.length - 1]? with
      | none => rw [e3] at h; contradiction
      | some m =>
        cases e4 : c2.g.putRow [] (some 0) with
        | none => rw [e3, e4] at h; contradiction
        | some z =>
          obtain ⟨g3, nn⟩ := z
          rw [e3, e4] at h; dsimp only at h
          cases e5 : expr k ⟨g3, c2.env, c2.ops, c2.fk, c2.fa⟩ m nn with
          | none => rw [e5] at h; contradiction
          | some z =>
            obtain ⟨c4, t⟩ := z
            rw [e5] at h; dsimp only at h
            cases e6 : c4.bigC k t m.a with
            | none => rw [e6] at h; contradiction
            | some c5 =>
              rw [e6] at h; dsimp only at h
              refine ⟨m, g3, nn, c4, t, c5, rfl, rfl, e5, e6, fun q => by rw [if_pos q] at h; cases h; rfl, fun q => ?_⟩
              rw [if_neg (by simpa using q)] at h
              cases e7 : told k c5.g t ⟨[], []⟩ with
              | none => rw [e7] at h; contradiction
              | some z =>
                obtain ⟨s, l⟩ := z
                rw [e7] at h; dsimp only at h
                by_cases hk : okT k s = true
                · rw [if_pos hk] at h; cases h; exact ⟨s, l, rfl, hk, rfl⟩
                · rw [if_neg hk] at h; contradiction
theorem tw_keeps (d : Nd) : ∀ (l : List Nd) (c : Ck), (l.foldl (twF d) c).g = c.g ∧ (l.foldl (twF d) c).env = c.env ∧ (l.foldl (twF d) c).ops = c.ops
  | [], c => ⟨rfl, rfl, rfl⟩
  | e :: l, c => by
    rw [List.foldl_cons]
    obtain ⟨h1, h2, h3⟩ := tw_keeps d l (twF d c e)
    rw [h1, h2, h3]
    unfold twF Ck.no
    repeat' split
    all_goals exact ⟨rfl, rfl, rfl⟩
/-- A name and its type, written, as they lie in the memory. -/
def typC (x : Nm × Ty) : List Value := [.string x.1, .string (showP (cv x.2))]
def typsC (l : List (Nm × Ty)) : List Value := l.flatMap typC
theorem typC_len (x : Nm × Ty) : (typC x).length = 2 := rfl
theorem typs_app (l : List (Nm × Ty)) (n : Nm) (s : Ty) : typsC l ++ [.string n, .string (showP (cv s))] = typsC (l ++ [(n, s)]) := rec_app typC l (n, s)
end Go.Inf
namespace Go.Inf
theorem maps_nil {w : World} : (mapsI (fun _ => False) []).holds w := ⟨fun x hx => by simp at hx, fun _ h => h.elim, mapsI_loc _ _⟩
theorem ty_zero {w : World} : (tyI (fun _ => False) ⟨none, 0, 0, none, 0, 0⟩ tyZ).holds w :=
  ⟨.mk _ [] (fun i s h => by simp at h) rfl ⟨Nat.le_refl _, by simp, by simp⟩ rfl rfl (fun i q t h => by simp at h) (fun i q t h => by simp at h), fun _ h => h.elim, tyI_loc _ _ _⟩
end Go.Inf
namespace Go.Proofs.YtdmdecgoebnamaaGreat
open Go.RowKit Go.Sx Go.Inf Go.Syn Go.Show
attribute [local irreducible] Go.wpOps Go.Code.wp Go.wpOp Go.wpAnyH Go.Calls Go.Sx.Goal
set_option maxRecDepth 20000
set_option maxHeartbeats 8000000 in
theorem found_c (Q : Nat → Prop) (kd na : Nat) (nm : Nm) (nb : Nat) (ks : List Nd) (nA : Option Addr) (nc : Nat) (w : World) (K : Ending → World → Prop) (H0 : Sp w [kvI Q ks nA nc]) (k : Nat) (r : List (Nm × Ty) × Ty × Nat × Int) (hf : foundM k nb ks = some r) (hk0 : kd = 0) (hK : ∀ (A' : Option Addr) (n' : Nat) (c' : Nat) (Sy : Nat → Prop) (p : Tv) w', Hs w [kvI Q ks nA nc] w' [.own 59 2 A' c' n' (typsC r.1), tyI Sy p r.2.1, kvI Q ks nA nc] → K (.returned (.tuple #[.slice A' n' c', .agg (tvC r.2.1 p).toArray, .agg #[.int .i64 (r.2.2.1 : Int), .int .i64 r.2.2.2]])) w') :
    Calls Tryz.prog 37 #[.agg #[.n kd, .n na, .string nm, .n nb, .slice nA ks.length nc]] w K := by
  obtain ⟨L0, hL0, H⟩ := Sx.op0 H0
  refine Sx.en (vs := [.agg #[.n kd, .n na, .string nm, .n nb, .slice nA ks.length nc]]) 160 Tryz.func37 ?_
  obtain ⟨⟨hkz, hnk, hkk⟩, c1, c2, out, hops, hdefs, hr0, hr1⟩ := found_cases hf
  have hlz0 : (((ks.length : Nat) : Int) == (0 : Int)) = false := beq_eq_false_iff_ne.2 (by omega)
  refine Sx.nw 2 H fun k1 w1 H1 => Sx.nw 1 H1 fun k2 w2 H2 => Sx.nw 0 H2 fun k3 w3 H3 => ?_
  refine Sx.c 4 [] H3 (fun Hp R hZ => New_c w3 R Hp  (fun S0 bg w4 G1 => hZ _ _ _ G1 fun H4 => ?_))
  refine Sx.nw 1 H4 fun bc w5 H5 => ?_
  refine Sx.cut 4 (fun l' w' => l' = [(1, .p k1), (3, .p k2), (4, .p k3), (5, .p bc), (28, .bool ((((kd : Nat) : Int) != (0 : Int)) || (((ks.length : Nat) : Int) == (0 : Int))))] ∧ w5 = w') (fun K1 hK1 => ?_) (fun b1 l1 w6 hI1 => ?_)
  · refine Sx.l 2 2 H5 ?_
    refine Sx.sp 2 23 (((kd : Nat) : Int) != (0 : Int)) (fun h_g23 => ?_) (fun h_g23 => ?_)
    · exact Sx.to 6 _ (hK1 _ _ _ ⟨rfl, rfl⟩) (h2 := (by rw [h_g23]; try kernel_rfl))
    refine Sx.l 1 2 H5 ?_
    exact Sx.to 4 _ (hK1 _ _ _ ⟨rfl, rfl⟩) (h2 := (by rw [h_g23]; try kernel_rfl))
  obtain ⟨rfl, rfl⟩ := hI1
  refine Sx.br 0 ((((kd : Nat) : Int) != (0 : Int)) || (((ks.length : Nat) : Int) == (0 : Int))) (fun h_c28 => ?_) (fun h_c28 => ?_)
  · have p_c28 := h_c28; try simp [-List.getD_eq_getElem?_getD] at p_c28
    first | (rw [hlz0, hk0] at h_c28; exact absurd h_c28 (by decide)) | omega | simp_all
  refine Sx.nz 2 (.code (Sx.ct 15 Tryz.f37)) [] [(1, .p k1), (3, .p k2), (4, .p k3), (5, .p bc)] fun b2 => Sx.l 3 2 H5 ?_
  refine Sx.c 0 [5, 1] H5 (fun Hp R hZ => ops_c bc bg none 0 0 G.new [] Q kd na nm nb ks nA nc w5 R Hp k c1 hops hnk (by omega) (fun oA on oc ol So w7 G2 hol hon hg1 => hZ _ _ _ G2 fun H6 => ?_))
  rw [← hg1.1] at H6
  have H7 := H6.add (Gx.Ext.refl _) (it := .own 122 6 none 0 0 []) (World.ownsRow_nil _ _ _ _) (fun _ h => by cases h)
  have H8 := H7.add (Gx.Ext.refl _) (it := mapsI (fun _ => False) []) maps_nil (fun _ h => h.elim)
  refine Sx.cut 7 (fun l' w' => ∃ (S : Nat → Prop) (eA : Option Addr) (en : Nat) (ec : Nat) (el : List Nv) (Sm : Nat → Prop) (tA : Option Addr) (tn : Nat) (tc : Nat), l' = [(1, .p k1), (3, .p k2), (4, .p k3), (5, .p bc), (6, .slice tA tn tc)] ∧ Hs w L0 w' (Sx.cX bc bg eA en ec oA on oc c2.fk c2.fa S c2.g el Sm ol So Q ks nA nc ++ [.blk k1 (.cells #[.n kd, .n na, .string nm, .n nb, .slice nA ks.length nc] 62), .blk k2 (.cells #[.int .i64 0, .int .i64 0, .int .i64 0, .slice none 0 0, .slice none 0 0] 96), .blk k3 (.cells #[.int .i64 0, .int .i64 0] 35), .own 59 2 tA tc tn (typsC out)]) ∧ (el.map (·.1) = c2.env) ∧ (ol.map (·.1) = c2.ops) ∧ (en < 100000000) ∧ (tn < 100000000)) (fun K2 hK2 => ?_) (fun b3 l2 w8 hI2 => ?_)
  · refine Sx.l 3 5 H8 ?_
    have H9 := H8.add (Gx.Ext.refl _) (it := .own 59 2 none 0 0 []) (World.ownsRow_nil _ _ _ _) (fun _ h => by cases h)
    refine Sx.lp 4 (fun z l' w' => ∃ (i : Nat) (cc : Ck) (S : Nat → Prop) (eA : Option Addr) (en : Nat) (ec : Nat) (el : List Nv) (Sm : Nat → Prop) (tA : Option Addr) (tn : Nat) (tc : Nat) (ou : List (Nm × Ty)), l' = [(1, .p k1), (3, .p k2), (4, .p k3), (5, .p bc), (6, .slice tA tn tc), (7, .n i)] ∧ z = ks.length - i ∧ Hs w L0 w' (Sx.cX bc bg eA en ec oA on oc cc.fk cc.fa S cc.g el Sm ol So Q ks nA nc ++ [.blk k1 (.cells #[.n kd, .n na, .string nm, .n nb, .slice nA ks.length nc] 62), .blk k2 (.cells #[.int .i64 0, .int .i64 0, .int .i64 0, .slice none 0 0, .slice none 0 0] 96), .blk k3 (.cells #[.int .i64 0, .int .i64 0] 35), .own 59 2 tA tc tn (typsC ou)]) ∧ (nb ≤ i) ∧ (i ≤ ks.length - 1) ∧ (en ≤ i) ∧ (tn ≤ i) ∧ (defsG k ks nb i ((ks.take (ks.length - 1)).drop i) cc ou = some (c2, out)) ∧ (el.map (·.1) = cc.env) ∧ (ol.map (·.1) = cc.ops)) _ _ ⟨nb, c1, S0, none, 0, 0, [], (fun _ => False), none, 0, 0, [], rfl, rfl, H9.pk [0, 3, 6, 6, 0, 0, 0, 0, 0, 0, 0], (Nat.le_refl _), (by omega), (Nat.zero_le _), (Nat.zero_le _), hdefs, hg1.2.symm, hol⟩ (fun b4 z1 l3 w9 hI3 K3 hK3 => ?_)
    obtain ⟨i, cc, S, eA, en, ec, el, Sm, tA, tn, tc, ou, rfl, rfl, H11, hbi, him, hen, htn, hop, hel, hol⟩ := hI3
    have hlen := env_len (e := 122) (n := en) (cap := ec) (A := eA) (l := el) H11 2 (by kernel_rfl)
    refine Sx.l 5 7 H11 <| Sx.v 1 (.int .i64 (IntKind.i64.wrap (((ks.length : Nat) : Int) - (1 : Int)))) (.int .i64 (((ks.length : Nat) : Int) - (1 : Int))) (congrArg (Value.int .i64) (IntWalk.i64_in _ (by omega))) ?_
    refine Sx.sp 2 42 (decide (((i : Nat) : Int) < (((ks.length : Nat) : Int) - (1 : Int)))) (fun h_g42 => ?_) (fun h_g42 => ?_)
    · have p_g42 := of_decide_eq_true h_g42
      refine Sx.c 1 [0] H11 (fun Hp R hZ => ok_c bc bg eA en ec oA on oc cc.fk cc.fa w9 R Hp  (fun w10 G3 => hZ _ _ _ G3 fun H12 => ?_))
      refine Sx.nz 3 (.code (Sx.ct 4049 Tryz.f37)) [.code (Sx.ct 2025 Tryz.f37), .to K3, .blk 0, .to K2] [(1, .p k1), (3, .p k2), (4, .p k3), (5, .p bc), (6, .slice tA tn tc), (7, .n i), (45, .bool (cc.fk == 0))] fun b5 => ?_
      refine Sx.br 0 (cc.fk == 0) (fun h_c45 => ?_) (fun h_c45 => ?_)
      · have p_c45 := h_c45; try simp [-List.getD_eq_getElem?_getD] at p_c45
        obtain ⟨dZ, hdZ⟩ := some_at (l := ks) (i := i) (by omega)
        obtain ⟨hz1, hz2⟩ := defs_step hop hdZ (by omega)
        have h0 : cc.fk = 0 := by simpa using h_c45
        obtain ⟨d2, t2, c3, hbd, hbg, hx1, hx2⟩ := hz2 h0
        have hkp := tw_keeps dZ ((ks.take i).drop nb) cc
        obtain ⟨cz, htw0⟩ : ∃ z, ((ks.take i).drop nb).foldl (twF dZ) cc = z := ⟨_, rfl⟩
        rw [htw0] at hkp hbd
        obtain ⟨kddZ, nadZ, nmdZ, nndZ, ksdZ⟩ := dZ
        obtain ⟨B1, cb1, a1, ha1, H13⟩ := nd_kid (Q := Q) (ks := ks) (A := nA) (c := nc) (i := i) H12 6 (by kernel_rfl) hdZ
        refine Sx.l 7 7 H13 <| Sx.ia 1 a1 i 5 ks.length nc ha1 (at_lt hdZ) <| Sx.lo (c := 5) (t := 62) 0 (Sx.nC kddZ nadZ nmdZ nndZ B1 ksdZ cb1) (Sx.nA kddZ nadZ nmdZ nndZ B1 ksdZ cb1) (cel_at (Q := Q) (a := a1.add (i * 5)) (n := 5) (cs := (Sx.nC kddZ nadZ nmdZ nndZ B1 ksdZ cb1)) H13 11 (by kernel_rfl)) <| Sx.nw 0 H13 fun k4 w11 H14 => Sx.s 0 13 H14 fun w12 H15 => Sx.nz 2 (.code (Sx.ct 16201 Tryz.f37)) [.blk 1, .code (Sx.ct 4051 Tryz.f37), .to K3, .blk 0, .to K2] [(1, .p k1), (3, .p k2), (4, .p k3), (5, .p bc), (6, .slice tA tn tc), (7, .n i), (8, .p k4)] fun b6 => ?_
        refine Sx.l 4 7 H15 ?_
        refine Sx.lp 4 (fun z l' w' => ∃ (j : Nat) (cd : Ck), l' = [(1, .p k1), (3, .p k2), (4, .p k3), (5, .p bc), (6, .slice tA tn tc), (7, .n i), (8, .p k4), (9, .n j)] ∧ z = i - j ∧ Hs w L0 w' (Sx.cX bc bg eA en ec oA on oc cd.fk cd.fa S cc.g el Sm ol So Q ks nA nc ++ [.blk k1 (.cells #[.n kd, .n na, .string nm, .n nb, .slice nA ks.length nc] 62), .blk k2 (.cells #[.int .i64 0, .int .i64 0, .int .i64 0, .slice none 0 0, .slice none 0 0] 96), .blk k3 (.cells #[.int .i64 0, .int .i64 0] 35), .own 59 2 tA tc tn (typsC ou), celI Q (a1.add (i * 5)) 5 (Sx.nC kddZ nadZ nmdZ nndZ B1 ksdZ cb1), kvI Q ksdZ B1 cb1, .blk k4 (.cells #[.n kddZ, .n nadZ, .string nmdZ, .int .i64 nndZ, .slice B1 ksdZ.length cb1] 62)]) ∧ (nb ≤ j) ∧ (j ≤ i) ∧ (((ks.take i).drop j).foldl (twF (Nd.mk kddZ nadZ nmdZ nndZ ksdZ)) cd = cz)) _ _ ⟨nb, cc, rfl, rfl, H15.pk [0, 0, 0, 0, 0, 0, 0, 0, 0, 0, 0, 0, 0, 0], (Nat.le_refl _), hbi, htw0⟩ (fun b7 z2 l4 w13 hI4 K4 hK4 => ?_)
        obtain ⟨j, cd, rfl, rfl, H17, hjb, hji, htw⟩ := hI4
        refine Sx.br 8 (decide (((j : Nat) : Int) < ((i : Nat) : Int))) (fun h_c57 => ?_) (fun h_c57 => ?_)
        · have p_c57 := of_decide_eq_true h_c57
          obtain ⟨dV, hdV⟩ := some_at (l := ks) (i := j) (by omega)
          obtain ⟨kddV, nadV, nmdV, nndV, ksdV⟩ := dV
          obtain ⟨B2, cb2, a2, ha2, H18⟩ := nd_kid (Q := Q) (ks := ks) (A := nA) (c := nc) (i := j) H17 6 (by kernel_rfl) hdV
          have htw2 := tw_step htw (by omega) hdV
          refine Sx.dr 5 H18 [7, 14, 13] [] (LJ := [.blk k1 (.cells #[.n kd, .n na, .string nm, .n nb, .slice nA ks.length nc] 62), celI Q (a2.add (j * 5)) 5 (Sx.nC kddV nadV nmdV nndV B2 ksdV cb2), .blk k4 (.cells #[.n kddZ, .n nadZ, .string nmdZ, .int .i64 nndZ, .slice B1 ksdZ.length cb1] 62)]) (by kernel_rfl) fun w14 H19 => Sx.tk [(0, none), (1, some (0, [])), (2, none)] (H19.sb [7, 13, 12]) <| Sx.tvi 3 [] a2 j 5 ks.length nc ha2 (at_lt hdV) (H19.sb [7, 13, 12]) <| Sx.tvf 4 [] (a2.add (j * 5)) 2 (H19.sb [7, 13, 12]) <| Sx.tvo (c := 1) (t := 9) 5 [] [.string nmdV] (.string nmdV) (fun w' hs => (cells_sub (i := 2) (m := 1) (cel_sp (Q := Q) (a := a2.add (j * 5)) (n := 5) (cs := (Sx.nC kddV nadV nmdV nndV B2 ksdV cb2)) hs 1 (by kernel_rfl)) (by decide))) (H19.sb [7, 13, 12]) <| Sx.tk [(6, none), (7, some (2, [])), (8, none)] (H19.sb [7, 13, 12]) ?_
          refine Sx.dn <| Sx.nz 1 (.code (Sx.ct 4147529 Tryz.f37)) [.blk 3, .code (Sx.ct 1036883 Tryz.f37), .to K4, .blk 2, .code (Sx.ct 32403 Tryz.f37), .blk 1, .code (Sx.ct 4051 Tryz.f37), .to K3, .blk 0, .to K2] [(1, .p k1), (3, .p k2), (4, .p k3), (5, .p bc), (6, .slice tA tn tc), (7, .n i), (8, .p k4), (9, .n j), (68, .bool (nmdV.toList == nmdZ.toList))] fun b8 => ?_
          refine Sx.br 0 (nmdV.toList == nmdZ.toList) (fun h_c68 => ?_) (fun h_c68 => ?_)
          · have he : eqN nmdV (Nd.mk kddZ nadZ nmdZ nndZ ksdZ).nm = true := by rw [eqN_eq]; exact h_c68
            rw [if_pos he] at htw2
            refine Sx.l 3 13 H19 ?_
            refine Sx.c 0 [0] H19 (fun Hp R hZ => no_c bc bg eA en ec oA on oc cd.fk cd.fa 7 ((nadZ : Nat) : Int) w14 R Hp  (fun w15 G4 => hZ _ _ _ G4 fun H20 => ?_))
            rw [← (ck_no (c := cd) (kd := 7) (a := ((nadZ : Nat) : Int))).1, ← (ck_no (c := cd) (kd := 7) (a := ((nadZ : Nat) : Int))).2.1] at H20
            refine Sx.v 5 (.int .i64 (IntKind.i64.wrap (((j : Nat) : Int) + (1 : Int)))) (.int .i64 ((j + 1 : Nat) : Int)) (congrArg (Value.int .i64) (Gx.i64n (by omega) (by omega))) ?_
            exact Sx.to 2 _ (hK4 _ _ _ _ (by omega) ⟨(j + 1), (Ck.no cd 7 ((nadZ : Nat) : Int)), rfl, rfl, H20.pk [0, 0, 0, 0, 0, 0, 0, 0, 0, 0, 0, 0, 0, 0], (by omega), (by omega), htw2⟩)
          have he : eqN nmdV (Nd.mk kddZ nadZ nmdZ nndZ ksdZ).nm = false := by rw [eqN_eq]; exact h_c68
          rw [if_neg (by rw [he]; decide)] at htw2
          refine Sx.v 5 (.int .i64 (IntKind.i64.wrap (((j : Nat) : Int) + (1 : Int)))) (.int .i64 ((j + 1 : Nat) : Int)) (congrArg (Value.int .i64) (Gx.i64n (by omega) (by omega))) ?_
          exact Sx.to 2 _ (hK4 _ _ _ _ (by omega) ⟨(j + 1), cd, rfl, rfl, H19.pk [0, 0, 0, 0, 0, 0, 0, 0, 0, 0, 0, 0, 0, 0], (by omega), (by omega), htw2⟩)
        have p_c57 := of_decide_eq_false h_c57
        obtain rfl := tw_done htw (by omega)
        rw [← hkp.1] at H17
        refine Sx.nz 5 (.code (Sx.ct 32403 Tryz.f37)) [.blk 1, .code (Sx.ct 4051 Tryz.f37), .to K3, .blk 0, .to K2] [(1, .p k1), (3, .p k2), (4, .p k3), (5, .p bc), (6, .slice tA tn tc), (7, .n i), (8, .p k4)] fun b9 => Sx.l 3 13 H17 ?_
        refine Sx.c 0 [0, 0, 0, 0, 0, 0, 6] H17 (fun Hp R hZ => bound_c k (expr_c k) bc bg eA en ec oA on oc S (⟨cd.g, cd.env, cd.ops, cd.fk, cd.fa⟩ : Ck) el Sm ol So Q kddZ nadZ nmdZ nndZ ksdZ B1 cb1 w13 R Hp d2 t2 hbd (hel.trans hkp.2.1.symm) (hol.trans hkp.2.2.symm) (by omega) hon (fun S1 eA1 ec1 w16 G5 he1 ho1 => hZ _ _ _ G5 fun H23 => ?_))
        refine Sx.l 8 13 H23 ?_
        refine Sx.c 0 [0, 0] H23 (fun Hp R hZ => big_c bc bg eA1 en ec1 oA on oc t2 ((nadZ : Nat) : Int) S1 (⟨d2.g, d2.env, d2.ops, d2.fk, d2.fa⟩ : Ck) w16 R Hp _ c3 hbg (fun S2 w17 G6 => hZ _ _ _ G6 fun H24 => ?_))
        refine Sx.c 6 [0] H24 (fun Hp R hZ => ok_c bc bg eA1 en ec1 oA on oc c3.fk c3.fa w17 R Hp  (fun w18 G7 => hZ _ _ _ G7 fun H25 => ?_))
        refine Sx.br 3 (!(c3.fk == 0)) (fun h_c83 => ?_) (fun h_c83 => ?_)
        · obtain ⟨rfl, rfl⟩ := hx1 (by simpa using h_c83)
          exact Sx.to 6 _ (hK2 _ _ _ ⟨S2, eA1, en, ec1, el, Sm, tA, tn, tc, rfl, H25.pk [0, 0, 0, 0, 0, 0, 1, 1, 1, 1, 1], (he1.trans (big_keeps hbg).2.1.symm), (ho1.trans (big_keeps hbg).2.2.symm), (by omega), (by omega)⟩)
        have h3 : c3.fk = 0 := by simpa using h_c83
        obtain ⟨xx, sT, lT, hgen, htl, hokt, hop2⟩ := hx2 h3
        have hel3 := (he1.trans (big_keeps hbg).2.1.symm)
        have hol3 := (ho1.trans (big_keeps hbg).2.2.symm)
        refine Sx.nz 2 (.code (Sx.ct 259231 Tryz.f37)) [.blk 1, .code (Sx.ct 4051 Tryz.f37), .to K3, .blk 0, .to K2] [(1, .p k1), (3, .p k2), (4, .p k3), (5, .p bc), (6, .slice tA tn tc), (7, .n i), (8, .p k4), (10, .n t2)] fun b10 => Sx.l 4 13 H25 ?_
        refine Sx.c 1 [0, 0, 0, 0] H25 (fun Hp R hZ => general_c bc bg eA1 en ec1 oA on oc S2 (⟨c3.g, c3.env, c3.ops, c3.fk, c3.fa⟩ : Ck) el Sm nmdZ t2 w18 R Hp k xx hgen hel3 (by omega) (fun S3 S4 b11 b12 w19 G8 => hZ _ _ _ G8 fun H27 => ?_))
        refine Sx.nw 0 H27 fun k5 w20 H28 => Sx.s 0 15 H28 fun w21 H29 => Sx.l 5 15 H29 ?_
        refine Sx.c 0 [0, 1, 1, 1] H29 (fun Hp R hZ => with_c bc bg eA1 en ec1 oA on oc c3.fk c3.fa el Sm S4 (xx, some b11, some b12) w21 R Hp (by omega) (fun eA2 ec2 w22 G9 => hZ _ _ _ G9 fun H30 => ?_))
        refine Sx.dr 3 H30 [0] [] (LJ := [.blk bc (.cells #[.p bg, .slice eA2 (en + 1) ec2, .slice oA on oc, .n c3.fk, .int .i64 c3.fa] 115)]) (by kernel_rfl) fun w23 H31 => Sx.tk [(0, none), (1, none), (2, none), (3, some (0, [])), (4, none)] (H31.sb [0]) <| Sx.nmx ?_
        intro zx1
        refine Sx.on2 5 7 ?_ ?_
        · refine Sx.c 0 [] H31 (fun Hp R hZ => Fresh_c w23 R Hp  (fun bt1 br1 w24 G10 => hZ _ _ _ G10 fun H32 => ?_))
          refine Sx.bk (x := zx1) 5 (H32.sb [2]) <| Sx.nmx ?_
          intro zx2
          refine Sx.on2 6 7 ?_ ?_
          · obtain ⟨ksT, usT, rsT, osT, asT⟩ := sT
            refine Sx.c 0 [6, 0, 0] H32 (fun Hp R hZ => (Told_c _) S3 bg c3.g t2 bt1 br1 (⟨[], []⟩ : Nams) w24 R Hp _ lT htl (fun S5 S6 p1 w25 G11 => hZ _ _ _ G11 fun H33 => ?_))
            refine Sx.bk (x := zx2) 6 (H33.sb [4]) <| Sx.nmx ?_
            intro zx3
            refine Sx.on 7 <| Sx.nw 0 H33 fun k6 w26 H34 => Sx.bk (x := zx3) 7 (H34.sb [4]) <| Sx.nmx ?_
            intro zx4
            refine Sx.on 8 <| Sx.s 0 19 H34 fun w27 H35 => Sx.bk (x := zx4) 8 (H35.sb [4]) <| Sx.dn <| Sx.nz 1 (.code (Sx.ct 2073855 Tryz.f37)) [.blk 1, .code (Sx.ct 4051 Tryz.f37), .to K3, .blk 0, .to K2] [(1, .p k1), (3, .p k2), (4, .p k3), (5, .p bc), (6, .slice tA tn tc), (7, .n i), (8, .p k4), (12, .p k6)] fun b13 => Sx.dr 0 H35 [17, 19] [] (LJ := [.blk k4 (.cells #[.n kddZ, .n nadZ, .string nmdZ, .int .i64 nndZ, .slice B1 ksdZ.length cb1] 62), .blk k6 (.cells #[.n ksT, .n usT, .n rsT, .slice p1.A p1.na p1.ca, .slice p1.B p1.nb p1.cb] 96)]) (by kernel_rfl) fun w28 H36 => ?_
            refine Sx.tk [(0, none), (1, none), (2, some (0, [])), (3, some (1, []))] (H36.sb [17, 18]) <| Sx.nmx ?_
            intro zx5
            refine Sx.on 4 ?_
            refine Sx.c 0 [3] H36 (fun Hp R hZ => Show_c S6 (Ty.mk ksT usT rsT osT asT) p1 w28 R Hp k hokt (fun w29 G12 => hZ _ _ _ G12 fun H37 => ?_))
            refine Sx.bk (x := zx5) 4 (H37.sb [17, 18]) <| Sx.tk [(5, none)] (H37.sb [17, 18]) <| Sx.nmx ?_
            intro zx6
            refine Sx.on 6 <| Sx.nw 0 H37 fun k7 w30 H38 => Sx.bk (x := zx6) 6 (H38.sb [17, 18]) <| Sx.nmx ?_
            intro zx7
            refine Sx.on 7 <| Sx.ap 0 15 20 32 1 0 59 2 55 1 k7 tA tc tn (typsC ou) [.string nmdZ, .string (showP (cv (Ty.mk ksT usT rsT osT asT)))] H38 (by omega) (by omega) (typs_app _ _ _) fun A1 cap1 w31 H39 => Sx.bk (x := zx7) 7 (H39.sb [17, 18]) <| Sx.tk [(8, none)] (H39.sb [17, 18]) <| Sx.dn <| Sx.nz 2 (.code (Sx.ct 4051 Tryz.f37)) [.to K3, .blk 0, .to K2] [(1, .p k1), (3, .p k2), (4, .p k3), (5, .p bc), (6, .slice A1 (tn + 1) cap1), (7, .n i)] fun b14 => ?_
            refine Sx.v 2 (.int .i64 (IntKind.i64.wrap (((i : Nat) : Int) + (1 : Int)))) (.int .i64 ((i + 1 : Nat) : Int)) (congrArg (Value.int .i64) (Gx.i64n (by omega) (by omega))) ?_
            exact Sx.to 2 _ (hK3 _ _ _ _ (by omega) ⟨(i + 1), (⟨c3.g, (c3.env ++ [(xx, some b11, some b12).1]), c3.ops, c3.fk, c3.fa⟩ : Ck), S5, eA2, en + 1, ec2, (el ++ [(xx, some b11, some b12)]), (fun c => Sm c ∨ S4 c), A1, tn + 1, cap1, (ou ++ [(nmdZ, Ty.mk ksT usT rsT osT asT)]), rfl, rfl, H39.pk [4, 1, 3, 4, 4, 4, 5, 5, 5, 5, 5], (by omega), (by omega), (by omega), (by omega), hop2, (with_env hel3), hol3⟩)
          refine Sx.nw 0 H32 fun k8 w32 H41 => Sx.bk (x := zx2) 7 (H41.sb [2]) <| Sx.nmx ?_
          intro zx8
          refine Sx.on 6 ?_
          obtain ⟨ksT, usT, rsT, osT, asT⟩ := sT
          refine Sx.c 0 [6, 0, 0] H41 (fun Hp R hZ => (Told_c _) S3 bg c3.g t2 bt1 br1 (⟨[], []⟩ : Nams) w32 R Hp _ lT htl (fun S7 S8 p2 w33 G13 => hZ _ _ _ G13 fun H42 => ?_))
          refine Sx.bk (x := zx8) 6 (H42.sb [4]) <| Sx.nmx ?_
          intro zx9
          refine Sx.on 8 <| Sx.s 0 19 H42 fun w34 H43 => Sx.bk (x := zx9) 8 (H43.sb [4]) <| Sx.dn <| Sx.nz 1 (.code (Sx.ct 2073855 Tryz.f37)) [.blk 1, .code (Sx.ct 4051 Tryz.f37), .to K3, .blk 0, .to K2] [(1, .p k1), (3, .p k2), (4, .p k3), (5, .p bc), (6, .slice tA tn tc), (7, .n i), (8, .p k4), (12, .p k8)] fun b15 => Sx.dr 0 H43 [17, 19] [] (LJ := [.blk k4 (.cells #[.n kddZ, .n nadZ, .string nmdZ, .int .i64 nndZ, .slice B1 ksdZ.length cb1] 62), .blk k8 (.cells #[.n ksT, .n usT, .n rsT, .slice p2.A p2.na p2.ca, .slice p2.B p2.nb p2.cb] 96)]) (by kernel_rfl) fun w35 H44 => ?_
          refine Sx.tk [(0, none), (1, none), (2, some (0, [])), (3, some (1, []))] (H44.sb [17, 18]) <| Sx.nmx ?_
          intro zx10
          refine Sx.on 4 ?_
          refine Sx.c 0 [3] H44 (fun Hp R hZ => Show_c S8 (Ty.mk ksT usT rsT osT asT) p2 w35 R Hp k hokt (fun w36 G14 => hZ _ _ _ G14 fun H45 => ?_))
          refine Sx.bk (x := zx10) 4 (H45.sb [17, 18]) <| Sx.tk [(5, none)] (H45.sb [17, 18]) <| Sx.nmx ?_
          intro zx11
          refine Sx.on 6 <| Sx.nw 0 H45 fun k9 w37 H46 => Sx.bk (x := zx11) 6 (H46.sb [17, 18]) <| Sx.nmx ?_
          intro zx12
          refine Sx.on 7 <| Sx.ap 0 15 20 32 1 0 59 2 55 1 k9 tA tc tn (typsC ou) [.string nmdZ, .string (showP (cv (Ty.mk ksT usT rsT osT asT)))] H46 (by omega) (by omega) (typs_app _ _ _) fun A2 cap2 w38 H47 => Sx.bk (x := zx12) 7 (H47.sb [17, 18]) <| Sx.tk [(8, none)] (H47.sb [17, 18]) <| Sx.dn <| Sx.nz 2 (.code (Sx.ct 4051 Tryz.f37)) [.to K3, .blk 0, .to K2] [(1, .p k1), (3, .p k2), (4, .p k3), (5, .p bc), (6, .slice A2 (tn + 1) cap2), (7, .n i)] fun b16 => ?_
          refine Sx.v 2 (.int .i64 (IntKind.i64.wrap (((i : Nat) : Int) + (1 : Int)))) (.int .i64 ((i + 1 : Nat) : Int)) (congrArg (Value.int .i64) (Gx.i64n (by omega) (by omega))) ?_
          exact Sx.to 2 _ (hK3 _ _ _ _ (by omega) ⟨(i + 1), (⟨c3.g, (c3.env ++ [(xx, some b11, some b12).1]), c3.ops, c3.fk, c3.fa⟩ : Ck), S7, eA2, en + 1, ec2, (el ++ [(xx, some b11, some b12)]), (fun c => Sm c ∨ S4 c), A2, tn + 1, cap2, (ou ++ [(nmdZ, Ty.mk ksT usT rsT osT asT)]), rfl, rfl, H47.pk [4, 1, 3, 4, 4, 4, 5, 5, 5, 5, 5], (by omega), (by omega), (by omega), (by omega), hop2, (with_env hel3), hol3⟩)
        refine Sx.nw 0 H31 fun k10 w39 H49 => Sx.bk (x := zx1) 7 (H49.sb [0]) <| Sx.nmx ?_
        intro zx13
        refine Sx.on 5 ?_
        refine Sx.c 0 [] H49 (fun Hp R hZ => Fresh_c w39 R Hp  (fun bt2 br2 w40 G15 => hZ _ _ _ G15 fun H50 => ?_))
        refine Sx.bk (x := zx13) 5 (H50.sb [2]) <| Sx.nmx ?_
        intro zx14
        refine Sx.on 6 ?_
        obtain ⟨ksT, usT, rsT, osT, asT⟩ := sT
        refine Sx.c 0 [6, 0, 0] H50 (fun Hp R hZ => (Told_c _) S3 bg c3.g t2 bt2 br2 (⟨[], []⟩ : Nams) w40 R Hp _ lT htl (fun S9 S10 p3 w41 G16 => hZ _ _ _ G16 fun H51 => ?_))
        refine Sx.bk (x := zx14) 6 (H51.sb [4]) <| Sx.nmx ?_
        intro zx15
        refine Sx.on 8 <| Sx.s 0 19 H51 fun w42 H52 => Sx.bk (x := zx15) 8 (H52.sb [4]) <| Sx.dn <| Sx.nz 1 (.code (Sx.ct 2073855 Tryz.f37)) [.blk 1, .code (Sx.ct 4051 Tryz.f37), .to K3, .blk 0, .to K2] [(1, .p k1), (3, .p k2), (4, .p k3), (5, .p bc), (6, .slice tA tn tc), (7, .n i), (8, .p k4), (12, .p k10)] fun b17 => Sx.dr 0 H52 [17, 19] [] (LJ := [.blk k4 (.cells #[.n kddZ, .n nadZ, .string nmdZ, .int .i64 nndZ, .slice B1 ksdZ.length cb1] 62), .blk k10 (.cells #[.n ksT, .n usT, .n rsT, .slice p3.A p3.na p3.ca, .slice p3.B p3.nb p3.cb] 96)]) (by kernel_rfl) fun w43 H53 => ?_
        refine Sx.tk [(0, none), (1, none), (2, some (0, [])), (3, some (1, []))] (H53.sb [17, 18]) <| Sx.nmx ?_
        intro zx16
        refine Sx.on 4 ?_
        refine Sx.c 0 [3] H53 (fun Hp R hZ => Show_c S10 (Ty.mk ksT usT rsT osT asT) p3 w43 R Hp k hokt (fun w44 G17 => hZ _ _ _ G17 fun H54 => ?_))
        refine Sx.bk (x := zx16) 4 (H54.sb [17, 18]) <| Sx.tk [(5, none)] (H54.sb [17, 18]) <| Sx.nmx ?_
        intro zx17
        refine Sx.on 6 <| Sx.nw 0 H54 fun k11 w45 H55 => Sx.bk (x := zx17) 6 (H55.sb [17, 18]) <| Sx.nmx ?_
        intro zx18
        refine Sx.on 7 <| Sx.ap 0 15 20 32 1 0 59 2 55 1 k11 tA tc tn (typsC ou) [.string nmdZ, .string (showP (cv (Ty.mk ksT usT rsT osT asT)))] H55 (by omega) (by omega) (typs_app _ _ _) fun A3 cap3 w46 H56 => Sx.bk (x := zx18) 7 (H56.sb [17, 18]) <| Sx.tk [(8, none)] (H56.sb [17, 18]) <| Sx.dn <| Sx.nz 2 (.code (Sx.ct 4051 Tryz.f37)) [.to K3, .blk 0, .to K2] [(1, .p k1), (3, .p k2), (4, .p k3), (5, .p bc), (6, .slice A3 (tn + 1) cap3), (7, .n i)] fun b18 => ?_
        refine Sx.v 2 (.int .i64 (IntKind.i64.wrap (((i : Nat) : Int) + (1 : Int)))) (.int .i64 ((i + 1 : Nat) : Int)) (congrArg (Value.int .i64) (Gx.i64n (by omega) (by omega))) ?_
        exact Sx.to 2 _ (hK3 _ _ _ _ (by omega) ⟨(i + 1), (⟨c3.g, (c3.env ++ [(xx, some b11, some b12).1]), c3.ops, c3.fk, c3.fa⟩ : Ck), S9, eA2, en + 1, ec2, (el ++ [(xx, some b11, some b12)]), (fun c => Sm c ∨ S4 c), A3, tn + 1, cap3, (ou ++ [(nmdZ, Ty.mk ksT usT rsT osT asT)]), rfl, rfl, H56.pk [4, 1, 3, 4, 4, 4, 5, 5, 5, 5, 5], (by omega), (by omega), (by omega), (by omega), hop2, (with_env hel3), hol3⟩)
      have p_c45 := h_c45; try simp [-List.getD_eq_getElem?_getD] at p_c45
      obtain ⟨dZ, hdZ⟩ := some_at (l := ks) (i := i) (by omega)
      obtain ⟨hz1, hz2⟩ := defs_step hop hdZ (by omega)
      obtain ⟨rfl, rfl⟩ := hz1 (by simpa using h_c45)
      exact Sx.to 4 _ (hK2 _ _ _ ⟨S, eA, en, ec, el, Sm, tA, tn, tc, rfl, H12, hel, hol, (by omega), (by omega)⟩)
    have p_g42 := of_decide_eq_false h_g42
    obtain ⟨rfl, rfl⟩ := defs_nil hop (List.drop_of_length_le (by rw [List.length_take]; omega))
    refine Sx.nz 5 (.code (Sx.ct 4049 Tryz.f37)) [.code (Sx.ct 2025 Tryz.f37), .to K3, .blk 0, .to K2] [(1, .p k1), (3, .p k2), (4, .p k3), (5, .p bc), (6, .slice tA tn tc), (7, .n i), (45, .bool false)] fun b19 => ?_
    exact Sx.to 5 _ (hK2 _ _ _ ⟨S, eA, en, ec, el, Sm, tA, tn, tc, rfl, H11, hel, hol, (by omega), (by omega)⟩)
  obtain ⟨S, eA, en, ec, el, Sm, tA, tn, tc, rfl, H58, hel, hol2, hen, htn⟩ := hI2
  have hlen := env_len (e := 122) (n := en) (cap := ec) (A := eA) (l := el) H58 2 (by kernel_rfl)
  refine Sx.c 4 [0] H58 (fun Hp R hZ => ok_c bc bg eA en ec oA on oc c2.fk c2.fa w8 R Hp  (fun w47 G18 => hZ _ _ _ G18 fun H59 => ?_))
  refine Sx.nz 3 (.code (Sx.ct 509 Tryz.f37)) [.code (Sx.ct 255 Tryz.f37)] [(1, .p k1), (3, .p k2), (4, .p k3), (5, .p bc), (6, .slice tA tn tc), (109, .bool (!(c2.fk == 0)))] fun b20 => ?_
  refine Sx.br 0 (!(c2.fk == 0)) (fun h_c109 => ?_) (fun h_c109 => ?_)
  · obtain rfl := hr0 (by simpa using h_c109)
    refine Sx.dr 1 H59 [0] [] (LJ := [Sx.cB bc bg eA en ec oA on oc c2.fk c2.fa]) (by kernel_rfl) fun w48 H60 => Sx.tk [(0, none), (1, none), (2, none), (3, none), (4, some (0, [])), (5, none)] (H60.sb [0]) <| Sx.nmx ?_
    intro zx19
    refine Sx.on 6 <| Sx.s 0 8 H60 fun w49 H61 => Sx.bk (x := zx19) 6 (H61.sb [0]) <| Sx.nmx ?_
    intro zx20
    refine Sx.on 7 <| Sx.s 0 9 H61 fun w50 H62 => Sx.bk (x := zx20) 7 (H62.sb [0]) <| Sx.dn <| Sx.nz 1 (.code (Sx.ct 2037 Tryz.f37)) [.code (Sx.ct 255 Tryz.f37)] [(2, .slice none 0 0), (3, .p k2), (4, .p k3)] fun b21 => Sx.rt 2 [8, 9] H62 (.tuple #[.slice none 0 0, .agg #[.int .i64 0, .int .i64 0, .int .i64 0, .slice none 0 0, .slice none 0 0], .agg #[.n c2.fk, .int .i64 c2.fa]]) ?_
    have H63 := H62.add (Gx.Ext.refl _) (it := .own 59 2 none 0 0 []) (World.ownsRow_nil _ _ _ _) (fun _ h => by cases h)
    have H64 := H63.add (Gx.Ext.refl _) (it := tyI (fun _ => False) ⟨none, 0, 0, none, 0, 0⟩ tyZ) ty_zero (fun _ h => h.elim)
    subst hL0
    exact hK none 0 0 (fun _ => False) (⟨none, 0, 0, none, 0, 0⟩) _ (H64.pk [11, 11, 6])
  have h2 : c2.fk = 0 := by simpa using h_c109
  obtain ⟨dM, g3, nn3, c4, t4, c5, hdM, hpr, hex, hbg, hr2, hr3⟩ := hr1 h2
  obtain ⟨mM, hmM⟩ : ∃ q, q + 1 = ks.length := ⟨ks.length - 1, by omega⟩
  rw [show ks.length - 1 = mM by omega] at hdM
  obtain ⟨kddM, nadM, nmdM, nndM, ksdM⟩ := dM
  obtain ⟨B3, cb3, a3, ha3, H65⟩ := nd_kid (Q := Q) (ks := ks) (A := nA) (c := nc) (i := mM) H59 6 (by kernel_rfl) hdM
  refine Sx.nz 2 (.code (Sx.ct 255 Tryz.f37)) [] [(1, .p k1), (3, .p k2), (4, .p k3), (5, .p bc), (6, .slice tA tn tc)] fun b22 => Sx.l 3 7 H65 <| Sx.l 1 7 H65 <| Sx.v 1 (.int .i64 (IntKind.i64.wrap (((ks.length : Nat) : Int) - (1 : Int)))) (.n mM) (congrArg (Value.int .i64) ((by rw [show (((ks.length : Nat) : Int) - (1 : Int)) = ((mM : Nat) : Int) by omega]; exact IntWalk.i64_in _ (by omega)))) <| Sx.ia 0 a3 mM 5 ks.length nc ha3 (at_lt hdM) <| Sx.lo (c := 5) (t := 62) 0 (Sx.nC kddM nadM nmdM nndM B3 ksdM cb3) (Sx.nA kddM nadM nmdM nndM B3 ksdM cb3) (cel_at (Q := Q) (a := a3.add (mM * 5)) (n := 5) (cs := (Sx.nC kddM nadM nmdM nndM B3 ksdM cb3)) H65 11 (by kernel_rfl)) ?_
  refine Sx.nw 0 H65 fun k12 w51 H66 => Sx.s 0 13 H66 fun w52 H67 => Sx.l 7 0 H67 ?_
  have H68 := H67.add (Gx.Ext.refl _) (it := strI (fun _ => False) none []) strI_nil (fun _ h => h.elim)
  refine Sx.c 0 [1, 13] H68 (fun Hp R hZ => PutRow_c S bg c2.g (fun _ => False) none 0 0 ([]) 0 (some 0) w52 R Hp g3 nn3 rfl rfl hpr (fun S11 w53 G19 => hZ _ _ _ G19 fun H69 => ?_))
  refine Sx.l 6 13 H69 ?_
  refine Sx.c 1 [1, 0, 0, 0, 0, 0, 6] H69 (fun Hp R hZ => expr_c k bc bg eA en ec oA on oc S11 (⟨g3, c2.env, c2.ops, c2.fk, c2.fa⟩ : Ck) el Sm ol So Q kddM nadM nmdM nndM ksdM B3 cb3  nn3 w53 R Hp c4 t4 hex hel hol2 (by omega) hon (fun S12 eA3 ec3 w54 G20 he2 ho2 => hZ _ _ _ G20 fun H70 => ?_))
  refine Sx.l 8 13 H70 ?_
  refine Sx.c 0 [0, 0] H70 (fun Hp R hZ => big_c bc bg eA3 en ec3 oA on oc t4 ((nadM : Nat) : Int) S12 (⟨c4.g, c4.env, c4.ops, c4.fk, c4.fa⟩ : Ck) w54 R Hp _ c5 hbg (fun S13 w55 G21 => hZ _ _ _ G21 fun H71 => ?_))
  refine Sx.nz 2 (.code (Sx.ct 4095 Tryz.f37)) [] [(3, .p k2), (4, .p k3), (5, .p bc), (6, .slice tA tn tc), (15, .n t4)] fun b23 => ?_
  refine Sx.c 4 [0] H71 (fun Hp R hZ => ok_c bc bg eA3 en ec3 oA on oc c5.fk c5.fa w55 R Hp  (fun w56 G22 => hZ _ _ _ G22 fun H72 => ?_))
  refine Sx.br 3 (!(c5.fk == 0)) (fun h_c139 => ?_) (fun h_c139 => ?_)
  · obtain rfl := hr2 (by simpa using h_c139)
    refine Sx.dr 1 H72 [0] [] (LJ := [Sx.cB bc bg eA3 en ec3 oA on oc c5.fk c5.fa]) (by kernel_rfl) fun w57 H73 => Sx.tk [(0, none), (1, none), (2, none), (3, none), (4, some (0, [])), (5, none)] (H73.sb [0]) <| Sx.nmx ?_
    intro zx21
    refine Sx.on 6 <| Sx.s 0 9 H73 fun w58 H74 => Sx.bk (x := zx21) 6 (H74.sb [0]) <| Sx.nmx ?_
    intro zx22
    refine Sx.on 7 <| Sx.s 0 10 H74 fun w59 H75 => Sx.bk (x := zx22) 7 (H75.sb [0]) <| Sx.dn <| Sx.nz 1 (.code (Sx.ct 65525 Tryz.f37)) [.code (Sx.ct 8191 Tryz.f37)] [(2, .slice none 0 0), (3, .p k2), (4, .p k3)] fun b24 => Sx.rt 2 [9, 10] H75 (.tuple #[.slice none 0 0, .agg #[.int .i64 0, .int .i64 0, .int .i64 0, .slice none 0 0, .slice none 0 0], .agg #[.n c5.fk, .int .i64 c5.fa]]) ?_
    have H76 := H75.add (Gx.Ext.refl _) (it := .own 59 2 none 0 0 []) (World.ownsRow_nil _ _ _ _) (fun _ h => by cases h)
    have H77 := H76.add (Gx.Ext.refl _) (it := tyI (fun _ => False) ⟨none, 0, 0, none, 0, 0⟩ tyZ) ty_zero (fun _ h => h.elim)
    subst hL0
    exact hK none 0 0 (fun _ => False) (⟨none, 0, 0, none, 0, 0⟩) _ (H77.pk [14, 14, 7])
  obtain ⟨sT, lT, htl, hokt, rfl⟩ := hr3 (by simpa using h_c139)
  refine Sx.nz 2 (.code (Sx.ct 8191 Tryz.f37)) [] [(3, .p k2), (4, .p k3), (5, .p bc), (6, .slice tA tn tc), (15, .n t4)] fun b25 => Sx.dr 1 H72 [0] [] (LJ := [Sx.cB bc bg eA3 en ec3 oA on oc c5.fk c5.fa]) (by kernel_rfl) fun w60 H78 => Sx.tk [(0, none), (1, none), (2, none), (3, some (0, [])), (4, none)] (H78.sb [0]) <| Sx.nmx ?_
  intro zx23
  refine Sx.on2 5 7 ?_ ?_
  · refine Sx.c 0 [] H78 (fun Hp R hZ => Fresh_c w60 R Hp  (fun bt3 br3 w61 G23 => hZ _ _ _ G23 fun H79 => ?_))
    refine Sx.bk (x := zx23) 5 (H79.sb [2]) <| Sx.nmx ?_
    intro zx24
    refine Sx.on2 6 7 ?_ ?_
    · obtain ⟨ksT, usT, rsT, osT, asT⟩ := sT
      refine Sx.c 0 [3, 0, 0] H79 (fun Hp R hZ => (Told_c _) S13 bg c5.g t4 bt3 br3 (⟨[], []⟩ : Nams) w61 R Hp _ lT htl (fun S14 S15 p4 w62 G24 => hZ _ _ _ G24 fun H80 => ?_))
      refine Sx.bk (x := zx24) 6 (H80.sb [4]) <| Sx.nmx ?_
      intro zx25
      refine Sx.on 7 <| Sx.nw 0 H80 fun k13 w63 H81 => Sx.bk (x := zx25) 7 (H81.sb [4]) <| Sx.nmx ?_
      intro zx26
      refine Sx.on 8 <| Sx.s 0 17 H81 fun w64 H82 => Sx.bk (x := zx26) 8 (H82.sb [4]) <| Sx.dn <| Sx.nz 1 (.code (Sx.ct 16383 Tryz.f37)) [] [(3, .p k2), (4, .p k3), (6, .slice tA tn tc), (16, .p k13)] fun b26 => Sx.dr 1 H82 [17] [] (LJ := [.blk k13 (.cells #[.n ksT, .n usT, .n rsT, .slice p4.A p4.na p4.ca, .slice p4.B p4.nb p4.cb] 96)]) (by kernel_rfl) fun w65 H83 => ?_
      refine Sx.tk [(0, none), (1, some (0, [])), (6, some (0, [])), (7, none)] (H83.sb [17]) <| Sx.nmx ?_
      intro zx27
      refine Sx.on 2 ?_
      refine Sx.c 0 [3] H83 (fun Hp R hZ => Show_c S15 (Ty.mk ksT usT rsT osT asT) p4 w65 R Hp k hokt (fun w66 G25 => hZ _ _ _ G25 fun H84 => ?_))
      refine Sx.bk (x := zx27) 2 (H84.sb [17]) <| Sx.tk [(3, none)] (H84.sb [17]) <| Sx.nmx ?_
      intro zx28
      refine Sx.on 4 <| Sx.nw 0 H84 fun k14 w67 H85 => Sx.bk (x := zx28) 4 (H85.sb [17]) <| Sx.nmx ?_
      intro zx29
      refine Sx.on 5 <| Sx.ap 0 14 18 32 1 0 59 2 55 1 k14 tA tc tn (typsC out) [.string (⟨#[109, 97, 105, 110]⟩ : ByteArray), .string (showP (cv (Ty.mk ksT usT rsT osT asT)))] H85 (by omega) (by omega) (typs_app _ _ _) fun A4 cap4 w68 H86 => Sx.bk (x := zx29) 5 (H86.sb [17]) <| Sx.tk [(8, none)] (H86.sb [17]) <| Sx.nmx ?_
      intro zx30
      refine Sx.on 9 <| Sx.s 0 12 H86 fun w69 H87 => Sx.bk (x := zx30) 9 (H87.sb [17]) <| Sx.nmx ?_
      intro zx31
      refine Sx.on 10 <| Sx.s 0 13 H87 fun w70 H88 => Sx.bk (x := zx31) 10 (H88.sb [17]) <| Sx.dn <| Sx.nz 1 (.code (Sx.ct 32767 Tryz.f37)) [] [(2, .slice A4 (tn + 1) cap4), (3, .p k2), (4, .p k3)] fun b27 => Sx.rt 1 [12, 13] H88 (.tuple #[.slice A4 (tn + 1) cap4, .agg #[.n ksT, .n usT, .n rsT, .slice p4.A p4.na p4.ca, .slice p4.B p4.nb p4.cb], .agg #[.int .i64 0, .int .i64 0]]) ?_
      subst hL0
      exact hK A4 (tn + 1) cap4 S15 p4 _ (H88.pk [14, 0, 9])
    refine Sx.nw 0 H79 fun k15 w71 H89 => Sx.bk (x := zx24) 7 (H89.sb [2]) <| Sx.nmx ?_
    intro zx32
    refine Sx.on 6 ?_
    obtain ⟨ksT, usT, rsT, osT, asT⟩ := sT
    refine Sx.c 0 [3, 0, 0] H89 (fun Hp R hZ => (Told_c _) S13 bg c5.g t4 bt3 br3 (⟨[], []⟩ : Nams) w71 R Hp _ lT htl (fun S16 S17 p5 w72 G26 => hZ _ _ _ G26 fun H90 => ?_))
    refine Sx.bk (x := zx32) 6 (H90.sb [4]) <| Sx.nmx ?_
    intro zx33
    refine Sx.on 8 <| Sx.s 0 17 H90 fun w73 H91 => Sx.bk (x := zx33) 8 (H91.sb [4]) <| Sx.dn <| Sx.nz 1 (.code (Sx.ct 16383 Tryz.f37)) [] [(3, .p k2), (4, .p k3), (6, .slice tA tn tc), (16, .p k15)] fun b28 => Sx.dr 1 H91 [17] [] (LJ := [.blk k15 (.cells #[.n ksT, .n usT, .n rsT, .slice p5.A p5.na p5.ca, .slice p5.B p5.nb p5.cb] 96)]) (by kernel_rfl) fun w74 H92 => ?_
    refine Sx.tk [(0, none), (1, some (0, [])), (6, some (0, [])), (7, none)] (H92.sb [17]) <| Sx.nmx ?_
    intro zx34
    refine Sx.on 2 ?_
    refine Sx.c 0 [3] H92 (fun Hp R hZ => Show_c S17 (Ty.mk ksT usT rsT osT asT) p5 w74 R Hp k hokt (fun w75 G27 => hZ _ _ _ G27 fun H93 => ?_))
    refine Sx.bk (x := zx34) 2 (H93.sb [17]) <| Sx.tk [(3, none)] (H93.sb [17]) <| Sx.nmx ?_
    intro zx35
    refine Sx.on 4 <| Sx.nw 0 H93 fun k16 w76 H94 => Sx.bk (x := zx35) 4 (H94.sb [17]) <| Sx.nmx ?_
    intro zx36
    refine Sx.on 5 <| Sx.ap 0 14 18 32 1 0 59 2 55 1 k16 tA tc tn (typsC out) [.string (⟨#[109, 97, 105, 110]⟩ : ByteArray), .string (showP (cv (Ty.mk ksT usT rsT osT asT)))] H94 (by omega) (by omega) (typs_app _ _ _) fun A5 cap5 w77 H95 => Sx.bk (x := zx36) 5 (H95.sb [17]) <| Sx.tk [(8, none)] (H95.sb [17]) <| Sx.nmx ?_
    intro zx37
    refine Sx.on 9 <| Sx.s 0 12 H95 fun w78 H96 => Sx.bk (x := zx37) 9 (H96.sb [17]) <| Sx.nmx ?_
    intro zx38
    refine Sx.on 10 <| Sx.s 0 13 H96 fun w79 H97 => Sx.bk (x := zx38) 10 (H97.sb [17]) <| Sx.dn <| Sx.nz 1 (.code (Sx.ct 32767 Tryz.f37)) [] [(2, .slice A5 (tn + 1) cap5), (3, .p k2), (4, .p k3)] fun b29 => Sx.rt 1 [12, 13] H97 (.tuple #[.slice A5 (tn + 1) cap5, .agg #[.n ksT, .n usT, .n rsT, .slice p5.A p5.na p5.ca, .slice p5.B p5.nb p5.cb], .agg #[.int .i64 0, .int .i64 0]]) ?_
    subst hL0
    exact hK A5 (tn + 1) cap5 S17 p5 _ (H97.pk [14, 0, 9])
  refine Sx.nw 0 H78 fun k17 w80 H98 => Sx.bk (x := zx23) 7 (H98.sb [0]) <| Sx.nmx ?_
  intro zx39
  refine Sx.on 5 ?_
  refine Sx.c 0 [] H98 (fun Hp R hZ => Fresh_c w80 R Hp  (fun bt4 br4 w81 G28 => hZ _ _ _ G28 fun H99 => ?_))
  refine Sx.bk (x := zx39) 5 (H99.sb [2]) <| Sx.nmx ?_
  intro zx40
  refine Sx.on 6 ?_
  obtain ⟨ksT, usT, rsT, osT, asT⟩ := sT
  refine Sx.c 0 [3, 0, 0] H99 (fun Hp R hZ => (Told_c _) S13 bg c5.g t4 bt4 br4 (⟨[], []⟩ : Nams) w81 R Hp _ lT htl (fun S18 S19 p6 w82 G29 => hZ _ _ _ G29 fun H100 => ?_))
  refine Sx.bk (x := zx40) 6 (H100.sb [4]) <| Sx.nmx ?_
  intro zx41
  refine Sx.on 8 <| Sx.s 0 17 H100 fun w83 H101 => Sx.bk (x := zx41) 8 (H101.sb [4]) <| Sx.dn <| Sx.nz 1 (.code (Sx.ct 16383 Tryz.f37)) [] [(3, .p k2), (4, .p k3), (6, .slice tA tn tc), (16, .p k17)] fun b30 => Sx.dr 1 H101 [17] [] (LJ := [.blk k17 (.cells #[.n ksT, .n usT, .n rsT, .slice p6.A p6.na p6.ca, .slice p6.B p6.nb p6.cb] 96)]) (by kernel_rfl) fun w84 H102 => ?_
  refine Sx.tk [(0, none), (1, some (0, [])), (6, some (0, [])), (7, none)] (H102.sb [17]) <| Sx.nmx ?_
  intro zx42
  refine Sx.on 2 ?_
  refine Sx.c 0 [3] H102 (fun Hp R hZ => Show_c S19 (Ty.mk ksT usT rsT osT asT) p6 w84 R Hp k hokt (fun w85 G30 => hZ _ _ _ G30 fun H103 => ?_))
  refine Sx.bk (x := zx42) 2 (H103.sb [17]) <| Sx.tk [(3, none)] (H103.sb [17]) <| Sx.nmx ?_
  intro zx43
  refine Sx.on 4 <| Sx.nw 0 H103 fun k18 w86 H104 => Sx.bk (x := zx43) 4 (H104.sb [17]) <| Sx.nmx ?_
  intro zx44
  refine Sx.on 5 <| Sx.ap 0 14 18 32 1 0 59 2 55 1 k18 tA tc tn (typsC out) [.string (⟨#[109, 97, 105, 110]⟩ : ByteArray), .string (showP (cv (Ty.mk ksT usT rsT osT asT)))] H104 (by omega) (by omega) (typs_app _ _ _) fun A6 cap6 w87 H105 => Sx.bk (x := zx44) 5 (H105.sb [17]) <| Sx.tk [(8, none)] (H105.sb [17]) <| Sx.nmx ?_
  intro zx45
  refine Sx.on 9 <| Sx.s 0 12 H105 fun w88 H106 => Sx.bk (x := zx45) 9 (H106.sb [17]) <| Sx.nmx ?_
  intro zx46
  refine Sx.on 10 <| Sx.s 0 13 H106 fun w89 H107 => Sx.bk (x := zx46) 10 (H107.sb [17]) <| Sx.dn <| Sx.nz 1 (.code (Sx.ct 32767 Tryz.f37)) [] [(2, .slice A6 (tn + 1) cap6), (3, .p k2), (4, .p k3)] fun b31 => Sx.rt 1 [12, 13] H107 (.tuple #[.slice A6 (tn + 1) cap6, .agg #[.n ksT, .n usT, .n rsT, .slice p6.A p6.na p6.ca, .slice p6.B p6.nb p6.cb], .agg #[.int .i64 0, .int .i64 0]]) ?_
  subst hL0
  exact hK A6 (tn + 1) cap6 S19 p6 _ (H107.pk [14, 0, 9])
set_option maxHeartbeats 8000000 in
theorem Check_c (Q : Nat → Prop) (kd na : Nat) (nm : Nm) (nb : Nat) (ks : List Nd) (nA : Option Addr) (nc : Nat) (w : World) (K : Ending → World → Prop) (H0 : Sp w [kvI Q ks nA nc]) (k : Nat) (r : List (Nm × Ty) × Ty × Nat × Int) (hf : foundM k nb ks = some r) (hk0 : kd = 0) (hK : ∀ (A' : Option Addr) (n' : Nat) (c' : Nat) w', Hs w [kvI Q ks nA nc] w' [.own 59 2 A' c' n' (typsC r.1), kvI Q ks nA nc] → K (.returned (.tuple #[.slice A' n' c', .agg #[.int .i64 (r.2.2.1 : Int), .int .i64 r.2.2.2]])) w') :
    Calls Tryz.prog 26 #[.agg #[.n kd, .n na, .string nm, .n nb, .slice nA ks.length nc]] w K := by
  obtain ⟨L0, hL0, H⟩ := Sx.op0 H0
  refine Sx.en (vs := [.agg #[.n kd, .n na, .string nm, .n nb, .slice nA ks.length nc]]) 15 Tryz.func26 ?_
  obtain ⟨rl, ⟨kT, uT, rT, oT, aT⟩, rk, ra⟩ := r
  refine Sx.nw 2 H fun k1 w1 H1 => Sx.nw 1 H1 fun k2 w2 H2 => Sx.l 4 1 H2 ?_
  refine Sx.c 0 [0] H2 (fun Hp R hZ => found_c Q kd na nm nb ks nA nc w2 R Hp k (rl, Ty.mk kT uT rT oT aT, rk, ra) hf hk0 (fun fA1 fn1 fc1 S1 p1 w3 G1 => hZ _ _ _ G1 fun H3 => ?_))
  refine Sx.nw 4 H3 fun k3 w4 H4 => Sx.nw 0 H4 fun k4 w5 H5 => Sx.s 1 5 H5 fun w6 H6 => Sx.s 0 6 H6 fun w7 H7 => Sx.dr 3 H7 [6] [] (LJ := [.blk k4 (.cells #[.n rk, .int .i64 ra] 35)]) (by kernel_rfl) fun w8 H8 => Sx.tk [(0, none), (1, some (0, [])), (2, none)] (H8.sb [6]) ?_
  refine Sx.nmx ?_
  intro zx1
  refine Sx.on 3 <| Sx.s 0 4 H8 fun w9 H9 => Sx.bk (x := zx1) 3 (H9.sb [6]) <| Sx.dn <| Sx.nz 1 (.code (Sx.ct 15 Tryz.f26)) [] [(2, .slice fA1 fn1 fc1), (3, .p k2)] fun b1 => Sx.rt 1 [4] H9 (.tuple #[.slice fA1 fn1 fc1, .agg #[.n rk, .int .i64 ra]]) ?_
  subst hL0
  exact hK fA1 fn1 fc1 _ (H9.pk [0, 1])
end Go.Proofs.YtdmdecgoebnamaaGreat
namespace Go.Proofs.YtdmdecgoebnamaaGreat
open Go.RowKit Go.Sx Go.Inf Go.Syn
/-- The reader, beside the things of the other functions. -/
theorem Parse_s (s : ByteArray) (w : World) (K : Ending → World → Prop) (H0 : Sp w []) (kd na : Nat) (nm : Nm) (nb : Nat) (ks : List Nd) (fk fa : Nat) (hp : parseP s = (.mk kd na nm (nb : Int) ks, fk, fa))
    (hK : ∀ (Q : Nat → Prop) (A : Option Addr) (c : Nat) w', Hs w [] w' [kvI Q ks A c] → K (.returned (.tuple #[.agg #[.int .i64 ((kd : Nat) : Int), .int .i64 ((na : Nat) : Int), .string nm, .int .i64 ((nb : Nat) : Int), .slice A ks.length c], .agg #[.int .i64 ((fk : Nat) : Int), .int .i64 ((fa : Nat) : Int)]])) w') :
    Calls Tryz.prog 25 #[.string s] w K :=
  Rd.Parse_t s w K H0 fun Q t A c fk' fa' e w' H => by
    rw [hp] at e; cases e
    exact hK Q A c w' H
end Go.Proofs.YtdmdecgoebnamaaGreat
namespace Go.Proofs.YtdmdecgoebnamaaGreat
open Go.RowKit Go.Sx Go.Inf Go.Syn Go.Show
attribute [local irreducible] Go.wpOps Go.Code.wp Go.wpOp Go.wpAnyH Go.Calls Go.Sx.Goal
set_option maxRecDepth 20000
set_option maxHeartbeats 8000000 in
theorem Infer_c (s : ByteArray) (w : World) (K : Ending → World → Prop) (H0 : Sp w []) (kd na : Nat) (nm : Nm) (nb : Nat) (ks : List Nd) (fk fa : Nat) (hp : parseP s = (.mk kd na nm (nb : Int) ks, fk, fa)) (k : Nat) (r : List (Nm × Ty) × Ty × Nat × Int) (hf : foundM k nb ks = some r) (hk0 : kd = 0) (hfk : fk = 0) (hK : ∀ (A' : Option Addr) (n' : Nat) (c' : Nat) w', Hs w [] w' [.own 59 2 A' c' n' (typsC r.1)] → K (.returned (.tuple #[.slice A' n' c', .agg #[.int .i64 (r.2.2.1 : Int), .int .i64 r.2.2.2]])) w') :
    Calls Tryz.prog 24 #[.string s] w K := by
  obtain ⟨L0, hL0, H⟩ := Sx.op0 H0
  refine Sx.en (vs := [.string s]) 19 Tryz.func24 <| Sx.nw 3 H fun k1 w1 H1 => ?_
  refine Sx.c 5 [] H1 (fun Hp R hZ => Parse_s s w1 R Hp kd na nm nb ks fk fa hp (fun Q nA nc w2 G1 => hZ _ _ _ G1 fun H2 => ?_))
  refine Sx.nw 3 H2 fun k2 w3 H3 => Sx.nw 0 H3 fun k3 w4 H4 => Sx.s 0 2 H4 fun w5 H5 => Sx.s 0 3 H5 fun w6 H6 => Sx.l 6 3 H6 ?_
  refine Sx.br 3 (((fk : Nat) : Int) != (0 : Int)) (fun h_c13 => ?_) (fun h_c13 => ?_)
  · have p_c13 := h_c13; try simp [-List.getD_eq_getElem?_getD] at p_c13
    subst hfk; exact absurd h_c13 (by decide)
  refine Sx.l 4 2 H6 ?_
  have p_c13 := h_c13; try simp [-List.getD_eq_getElem?_getD] at p_c13
  refine Sx.c 0 [0] H6 (fun Hp R hZ => Check_c Q kd na nm nb ks nA nc w6 R Hp k r hf hk0 (fun fA1 fn1 fc1 w7 G2 => hZ _ _ _ G2 fun H7 => ?_))
  refine Sx.s 3 2 H7 fun w8 H8 => Sx.nz 2 (.code (Sx.ct 31 Tryz.f24)) [] [(2, .slice fA1 fn1 fc1), (3, .p k1)] fun b1 => Sx.rt 1 [2] H8 (.tuple #[.slice fA1 fn1 fc1, .agg #[.n r.2.2.1, .int .i64 r.2.2.2]]) ?_
  subst hL0
  exact hK fA1 fn1 fc1 _ (H8.pk [0])
end Go.Proofs.YtdmdecgoebnamaaGreat
/- What a text of the prelude defines: the plain form. -/
namespace Go.Inf
def bgM (a b : Nm) : List Nm → Nat → Bool
  | [], m => ((((m : Nat) : Int) == (2 : Int)) || ((((m : Nat) : Int) == (1 : Int)) && (a.toList == b.toList)))
  | x :: r, m =>
    if ((x.toList == a.toList) || (x.toList == b.toList)) = true then bgM a b r (m + 1) else
    if ((!(x.toList == (⟨#[109, 97, 105, 110]⟩ : ByteArray).toList)) && ((decide (((x.size : Nat) : Int) < (2 : Int))) || (!((x.extract 0 2).toList == (⟨#[112, 95]⟩ : ByteArray).toList)))) = true then false else bgM a b r m
theorem some_at' {α : Type} {l : List α} {i : Nat} (h : i < l.length) : ∃ x, l[i]? = some x := ⟨_, List.getElem?_eq_getElem h⟩
theorem typs_len {w0 w : World} {L0 L : List Sx.Item} (H : Sx.Hs w0 L0 w L) (j : Nat) {e n cap : Nat} {A : Option Addr} {l : List (Nm × Ty)} (hi : L[j]? = some (.own e 2 A cap n (typsC l))) : l.length = n := by
  have := (H.at j hi).1
  unfold typsC at this
  rw [rec_len typC 2 typC_len] at this
  omega
theorem bg_step {a b : Nm} {l : List (Nm × Ty)} {i m : Nat} {R : Bool} (h : bgM a b ((l.map (·.1)).drop i) m = R) {x : Nm × Ty} (hx : l[i]? = some x) :
    (((x.1.toList == a.toList) || (x.1.toList == b.toList)) = true → bgM a b ((l.map (·.1)).drop (i + 1)) (m + 1) = R) ∧
    (((x.1.toList == a.toList) || (x.1.toList == b.toList)) = false → ((!(x.1.toList == (⟨#[109, 97, 105, 110]⟩ : ByteArray).toList)) && ((decide (((x.1.size : Nat) : Int) < (2 : Int))) || (!((x.1.extract 0 2).toList == (⟨#[112, 95]⟩ : ByteArray).toList)))) = true → false = R) ∧
    (((x.1.toList == a.toList) || (x.1.toList == b.toList)) = false → ((!(x.1.toList == (⟨#[109, 97, 105, 110]⟩ : ByteArray).toList)) && ((decide (((x.1.size : Nat) : Int) < (2 : Int))) || (!((x.1.extract 0 2).toList == (⟨#[112, 95]⟩ : ByteArray).toList)))) = false → bgM a b ((l.map (·.1)).drop (i + 1)) m = R) := by
  have e : (l.map (·.1))[i]? = some x.1 := by rw [List.getElem?_map, hx]; rfl
  obtain ⟨hl, e⟩ := List.getElem?_eq_some_iff.1 e
  rw [List.drop_eq_getElem_cons hl, e, bgM] at h
  refine ⟨fun q => by rw [if_pos q] at h; exact h, fun q1 q2 => by rw [if_neg (by rw [q1]; decide), if_pos q2] at h; exact h, fun q1 q2 => by rw [if_neg (by rw [q1]; decide), if_neg (by rw [q2]; decide)] at h; exact h⟩
theorem bg_end {a b : Nm} {l : List Nm} {i m : Nat} (h : l.length ≤ i) : bgM a b (l.drop i) m = ((((m : Nat) : Int) == (2 : Int)) || ((((m : Nat) : Int) == (1 : Int)) && (a.toList == b.toList))) := by
  rw [List.drop_of_length_le h]; rfl
end Go.Inf
namespace Go.Proofs.YtdmdecgoebnamaaGreat
open Go.RowKit Go.Sx Go.Inf Go.Syn Go.Show
attribute [local irreducible] Go.wpOps Go.Code.wp Go.wpOp Go.wpAnyH Go.Calls Go.Sx.Goal
set_option maxRecDepth 20000
set_option maxHeartbeats 8000000 in
theorem begins_c (s a b : ByteArray) (w : World) (K : Ending → World → Prop) (H0 : Sp w []) (kd na : Nat) (nm : Nm) (nb : Nat) (ks : List Nd) (fk fa : Nat) (hp : parseP (s ++ ⟨#[32, 109, 97, 105, 110, 32, 61, 32, 49]⟩) = (.mk kd na nm (nb : Int) ks, fk, fa)) (k : Nat) (r : List (Nm × Ty) × Ty × Nat × Int) (hf : foundM k nb ks = some r) (hk0 : kd = 0) (hfk : fk = 0) (hrk : r.2.2.1 = 0) (hsz : s.size ≤ 1500) (hrl : r.1.length < 1000000000) (hK : ∀ w', Hs w [] w' [] → K (.returned (.bool (bgM a b (r.1.map (·.1)) 0))) w') :
    Calls Tryz.prog 11 #[.string s, .string a, .string b] w K := by
  obtain ⟨L0, hL0, H⟩ := Sx.op0 H0
  refine Sx.en (vs := [.string s, .string a, .string b]) 70 Tryz.func11 <| Sx.scat 8 s (⟨#[32, 109, 97, 105, 110, 32, 61, 32, 49]⟩ : ByteArray) (by have : (⟨#[32, 109, 97, 105, 110, 32, 61, 32, 49]⟩ : ByteArray).size = 9 := rfl; omega) ?_
  refine Sx.c 0 [] H (fun Hp R hZ => Infer_c (s ++ ⟨#[32, 109, 97, 105, 110, 32, 61, 32, 49]⟩) w R Hp kd na nm nb ks fk fa hp k r hf hk0 hfk (fun fA1 fn1 fc1 w1 G1 => hZ _ _ _ G1 fun H1 => ?_))
  refine Sx.nw 3 H1 fun k1 w2 H2 => Sx.s 1 1 H2 fun w3 H3 => ?_
  refine Sx.cut 3 (fun l' w' => l' = [(1, .string a), (2, .string b), (7, .slice fA1 fn1 fc1), (25, .bool ((((r.2.2.1 : Nat) : Int) != (0 : Int)) || (decide (((s.size : Nat) : Int) > (1500 : Int)))))] ∧ w3 = w') (fun K1 hK1 => ?_) (fun b1 l1 w4 hI1 => ?_)
  · refine Sx.l 2 1 H3 ?_
    refine Sx.sp 2 21 (((r.2.2.1 : Nat) : Int) != (0 : Int)) (fun h_g21 => ?_) (fun h_g21 => ?_)
    · exact Sx.to 5 _ (hK1 _ _ _ ⟨rfl, rfl⟩) (h2 := (by rw [h_g21]; try kernel_rfl))
    exact Sx.to 5 _ (hK1 _ _ _ ⟨rfl, rfl⟩) (h2 := (by rw [h_g21]; try kernel_rfl))
  obtain ⟨rfl, rfl⟩ := hI1
  refine Sx.br 0 ((((r.2.2.1 : Nat) : Int) != (0 : Int)) || (decide (((s.size : Nat) : Int) > (1500 : Int)))) (fun h_c25 => ?_) (fun h_c25 => ?_)
  · have p_c25 := h_c25; try simp [-List.getD_eq_getElem?_getD] at p_c25
    first | (simp [hrk] at h_c25; omega) | (rw [hrk] at h_c25; simp at h_c25; omega)
  refine Sx.nz 2 (.code (Sx.ct 15 Tryz.f11)) [] [(1, .string a), (2, .string b), (7, .slice fA1 fn1 fc1)] fun b2 => ?_
  have hlen := typs_len (e := 59) (n := fn1) (cap := fc1) (A := fA1) (l := r.1) H3 0 (by kernel_rfl)
  have H4 := H3.pick (a := [.own 59 2 fA1 fc1 fn1 (typsC r.1)]) [0] (by kernel_rfl)
  have p_c25 := h_c25; try simp [-List.getD_eq_getElem?_getD] at p_c25
  refine Sx.lp 12 (fun z l' w' => ∃ (i : Nat) (m : Nat), l' = [(1, .string a), (2, .string b), (7, .slice fA1 fn1 fc1), (9, .n m), (10, .n i)] ∧ z = fn1 - i ∧ Hs w L0 w' [.own 59 2 fA1 fc1 fn1 (typsC r.1)] ∧ (i ≤ fn1) ∧ (m ≤ i) ∧ (bgM a b ((r.1.map (·.1)).drop i) m = bgM a b (r.1.map (·.1)) 0)) _ _ ⟨0, 0, rfl, rfl, H4, (Nat.zero_le _), (Nat.le_refl _), rfl⟩ (fun b3 z1 l2 w5 hI2 K2 hK2 => ?_)
  obtain ⟨i, m, rfl, rfl, H5, hil, him, hbm⟩ := hI2
  refine Sx.br 9 (decide (((i : Nat) : Int) < ((fn1 : Nat) : Int))) (fun h_c29 => ?_) (fun h_c29 => ?_)
  · have p_c29 := of_decide_eq_true h_c29
    obtain ⟨x, hx⟩ := some_at' (l := r.1) (i := i) (by omega)
    obtain ⟨hb1, hb2, hb3⟩ := bg_step hbm hx
    obtain ⟨wo, rfl⟩ := H5.row 0 (A := fA1) (e := 59) (sz := 2) (cap := fc1) (n := fn1) (xs := typsC r.1) (by kernel_rfl) (by omega)
    refine Sx.ir 8 wo i 2 fn1 fc1 (by omega) <| Sx.lr 1 0 59 2 9 wo fc1 fn1 (i * 2) (typsC r.1) H5 (.string x.1) (rec_cell 0 typC_len hx (by decide) rfl) ?_
    refine Sx.cut 3 (fun l' w' => l' = [(1, .string a), (2, .string b), (7, .slice (some ⟨wo, 0, none⟩) fn1 fc1), (9, .n m), (10, .n i), (11, .string x.1), (44, .bool ((x.1.toList == a.toList) || (x.1.toList == b.toList)))] ∧ w5 = w') (fun K3 hK3 => ?_) (fun b4 l3 w6 hI3 => ?_)
    · refine Sx.sp 5 40 (x.1.toList == a.toList) (fun h_g40 => ?_) (fun h_g40 => ?_)
      · exact Sx.to 5 _ (hK3 _ _ _ ⟨rfl, rfl⟩) (h2 := (by rw [h_g40]; try kernel_rfl))
      exact Sx.to 5 _ (hK3 _ _ _ ⟨rfl, rfl⟩) (h2 := (by rw [h_g40]; try kernel_rfl))
    obtain ⟨rfl, rfl⟩ := hI3
    refine Sx.br 0 ((x.1.toList == a.toList) || (x.1.toList == b.toList)) (fun h_c44 => ?_) (fun h_c44 => ?_)
    · have hbm2 := hb1 h_c44
      refine Sx.v 2 (.int .i64 (IntKind.i64.wrap (((m : Nat) : Int) + (1 : Int)))) (.int .i64 ((m + 1 : Nat) : Int)) (congrArg (Value.int .i64) (Gx.i64n (by omega) (by omega))) <| Sx.nz 4 (.code (Sx.ct 2003 Tryz.f11)) [.to K2, .blk 0, .code (Sx.ct 63 Tryz.f11)] [(1, .string a), (2, .string b), (7, .slice (some ⟨wo, 0, none⟩) fn1 fc1), (9, .int .i64 ((m + 1 : Nat) : Int)), (10, .n i)] fun b5 => Sx.v 2 (.int .i64 (IntKind.i64.wrap (((i : Nat) : Int) + (1 : Int)))) (.int .i64 ((i + 1 : Nat) : Int)) (congrArg (Value.int .i64) (Gx.i64n (by omega) (by omega))) ?_
      exact Sx.to 2 _ (hK2 _ _ _ _ (by omega) ⟨(i + 1), (m + 1), rfl, rfl, H5.pk [0], (by omega), (by omega), hbm2⟩)
    refine Sx.cut 0 (fun l' w' => l' = [(1, .string a), (2, .string b), (7, .slice (some ⟨wo, 0, none⟩) fn1 fc1), (9, .n m), (10, .n i), (58, .bool ((!(x.1.toList == (⟨#[109, 97, 105, 110]⟩ : ByteArray).toList)) && ((decide (((x.1.size : Nat) : Int) < (2 : Int))) || (!((x.1.extract 0 2).toList == (⟨#[112, 95]⟩ : ByteArray).toList)))))] ∧ w5 = w') (fun K4 hK4 => ?_) (fun b6 l4 w7 hI4 => ?_)
    · refine Sx.sp 4 49 (!(x.1.toList == (⟨#[109, 97, 105, 110]⟩ : ByteArray).toList)) (fun h_g49 => ?_) (fun h_g49 => ?_)
      · refine Sx.sp 4 53 (decide (((x.1.size : Nat) : Int) < (2 : Int))) (fun h_g53 => ?_) (fun h_g53 => ?_)
        · exact Sx.to 6 _ (hK4 _ _ _ ⟨rfl, rfl⟩) (h2 := (by rw [h_g49, h_g53]; try kernel_rfl))
        have p_g53 := of_decide_eq_false h_g53
        refine Sx.sls 1 2 x.1 (by omega) ?_
        exact Sx.to 4 _ (hK4 _ _ _ ⟨rfl, rfl⟩) (h2 := (by rw [h_g49, h_g53]; try kernel_rfl))
      exact Sx.to 10 _ (hK4 _ _ _ ⟨rfl, rfl⟩) (h2 := (by rw [h_g49]; try kernel_rfl))
    obtain ⟨rfl, rfl⟩ := hI4
    refine Sx.br 0 ((!(x.1.toList == (⟨#[109, 97, 105, 110]⟩ : ByteArray).toList)) && ((decide (((x.1.size : Nat) : Int) < (2 : Int))) || (!((x.1.extract 0 2).toList == (⟨#[112, 95]⟩ : ByteArray).toList)))) (fun h_c58 => ?_) (fun h_c58 => ?_)
    · have hbz := hb2 h_c44 h_c58
      refine Sx.nz 5 (.code (Sx.ct 256317 Tryz.f11)) [.blk 1, .code (Sx.ct 2003 Tryz.f11), .to K2, .blk 0, .code (Sx.ct 63 Tryz.f11)] [(6, .bool false)] fun b7 => Sx.rt 6 [] H5 (.bool false) ?_
      subst hL0
      exact Gx.ret_as (v' := .bool (bgM a b (r.1.map (·.1)) 0)) (by rw [← hbz]) (hK _ (H5.pk []))
    have hbm2 := hb3 h_c44 h_c58
    refine Sx.nz 3 (.code (Sx.ct 2003 Tryz.f11)) [.to K2, .blk 0, .code (Sx.ct 63 Tryz.f11)] [(1, .string a), (2, .string b), (7, .slice (some ⟨wo, 0, none⟩) fn1 fc1), (9, .n m), (10, .n i)] fun b8 => Sx.v 2 (.int .i64 (IntKind.i64.wrap (((i : Nat) : Int) + (1 : Int)))) (.int .i64 ((i + 1 : Nat) : Int)) (congrArg (Value.int .i64) (Gx.i64n (by omega) (by omega))) ?_
    exact Sx.to 2 _ (hK2 _ _ _ _ (by omega) ⟨(i + 1), m, rfl, rfl, H5.pk [0], (by omega), (by omega), hbm2⟩)
  have p_c29 := of_decide_eq_false h_c29
  refine Sx.nz 5 (.code (Sx.ct 63 Tryz.f11)) [] [(1, .string a), (2, .string b), (9, .n m)] fun b9 => ?_
  refine Sx.cut 0 (fun l' w' => l' = [(6, .bool ((((m : Nat) : Int) == (2 : Int)) || ((((m : Nat) : Int) == (1 : Int)) && (a.toList == b.toList))))] ∧ w5 = w') (fun K5 hK5 => ?_) (fun b10 l5 w8 hI5 => ?_)
  · refine Sx.sp 4 61 (((m : Nat) : Int) == (2 : Int)) (fun h_g61 => ?_) (fun h_g61 => ?_)
    · exact Sx.to 10 _ (hK5 _ _ _ ⟨rfl, rfl⟩) (h2 := (by rw [h_g61]; try kernel_rfl))
    refine Sx.sp 3 64 (((m : Nat) : Int) == (1 : Int)) (fun h_g64 => ?_) (fun h_g64 => ?_)
    · exact Sx.to 7 _ (hK5 _ _ _ ⟨rfl, rfl⟩) (h2 := (by rw [h_g61, h_g64]; try kernel_rfl))
    exact Sx.to 7 _ (hK5 _ _ _ ⟨rfl, rfl⟩) (h2 := (by rw [h_g61, h_g64]; try kernel_rfl))
  obtain ⟨rfl, rfl⟩ := hI5
  refine Sx.rt 1 [] H5 (.bool ((((m : Nat) : Int) == (2 : Int)) || ((((m : Nat) : Int) == (1 : Int)) && (a.toList == b.toList)))) ?_
  subst hL0
  exact Gx.ret_as (v' := .bool (bgM a b (r.1.map (·.1)) 0)) (by rw [← hbm, bg_end (by rw [List.length_map]; omega)]) (hK _ (H5.pk []))
end Go.Proofs.YtdmdecgoebnamaaGreat
