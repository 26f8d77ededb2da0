/- A part of the proof (YtfkkocjheeoobaaSw11), printed by a program of ours. -/
import Derived.Test.YtfkkocjheeoobaaSw9
import Derived.Test.YtfkkocjheeoobaaPx
import Derived.Test.YtfkkocjheeoobaaQd
set_option linter.unusedVariables false
set_option linter.unusedSimpArgs false
set_option linter.unusedVariables false
set_option linter.unusedSimpArgs false
namespace Go.Proofs.Ytfkkocjheeoobaa
open Go.RowKit Go.Sx Go.Inf Go.Slv
attribute [local irreducible] Go.wpOps Go.Code.wp Go.wpOp Go.wpAnyH Go.Calls Go.Sx.Goal
set_option maxRecDepth 20000
theorem Proper_c (Sy : Nat → Prop) (kd u row : Int) (ops : List Nm) (args : List Tr) (p : Tv) (w : World) (K : Ending → World → Prop) (H0 : Sp w [trI Sy p (Tr.mk kd u row ops args)]) (hK : ∀ (b : Bool) w', Hs w [trI Sy p (Tr.mk kd u row ops args)] w' [trI Sy p (Tr.mk kd u row ops args)] → (b = true → O3 (Tr.mk kd u row ops args)) → (b = false → ¬ O3 (Tr.mk kd u row ops args)) → K (.returned (.bool b)) w') :
    Calls Try.prog 8 #[.agg #[.int .i64 kd, .int .i64 u, .int .i64 row, .slice p.A p.na p.ca, .slice p.B p.nb p.cb]] w K := by
  obtain ⟨L0, hL0, H⟩ : ∃ L0, L0 = [trI Sy p (Tr.mk kd u row ops args)] ∧ Hs w L0 w [trI Sy p (Tr.mk kd u row ops args)] := ⟨_, rfl, Hs.refl H0⟩
  refine Sx.en (vs := [.agg #[.int .i64 kd, .int .i64 u, .int .i64 row, .slice p.A p.na p.ca, .slice p.B p.nb p.cb]]) 15 Try.func8 ?_
  refine Sx.nw 2 H fun k1 w1 H1 => ?_
  refine Sx.l 5 1 H1 ?_
  refine Sx.c 0 [0] H1 (fun Hp1 R1 hR1 => (proper_c 302) Sy kd u row ops args p 0 w1 R1 Hp1 (by omega) (by omega) (fun z1 b1 w2 G1 hS1 => hR1 _ _ _ G1 fun H2 => ?_))
  refine Sx.cut 7 (fun l' w' => l' = [(2, .bool (b1 && (decide (z1 ≤ (300 : Int)))))] ∧ w2 = w') (fun K1 hK1 => ?_) (fun b2 l1 w3 hI1 => ?_)
  · skip
    refine Sx.sp 3 11 b1 (fun h_g11 => ?_) (fun h_g11 => ?_)
    · skip
      exact Sx.to 5 [(2, .bool (b1 && (decide (z1 ≤ (300 : Int)))))] (hK1 _ _ _ ⟨rfl, rfl⟩) (h2 := (by rw [h_g11]; try kernel_rfl))
    exact Sx.to 5 [(2, .bool (b1 && (decide (z1 ≤ (300 : Int)))))] (hK1 _ _ _ ⟨rfl, rfl⟩) (h2 := (by rw [h_g11]; try kernel_rfl))
  obtain ⟨rfl, rfl⟩ := hI1
  refine Sx.rt 1 [] H2 (.bool (b1 && (decide (z1 ≤ (300 : Int))))) ?_
  subst hL0
  exact hK _ _ (H2.pick (a := [trI Sy p (Tr.mk kd u row ops args)]) [0] (by kernel_rfl)) (proper_said hS1).1 (proper_said hS1).2
end Go.Proofs.Ytfkkocjheeoobaa
set_option linter.unusedVariables false
set_option linter.unusedSimpArgs false
namespace Go.Slv
open Go.RowKit Go.Sx Go.Inf Go.Gx
theorem o3_nat {k u r : Int} {o : List Nm} {a : List Tr} (h : O3 (.mk k u r o a)) : ∃ kn un rn : Nat, k = (kn : Int) ∧ u = (un : Int) ∧ r = (rn : Int) := by
  obtain ⟨c, hc, _⟩ := h
  obtain ⟨h1, h2, h3, h4, h5, h6⟩ := hc.head.1
  have hk : 0 ≤ k := by
    rcases Int.lt_or_le k 0 with q | q
    · have : ar k = -1 := by unfold ar; rw [if_neg (by omega), if_neg (by omega), if_neg (by omega)]
      omega
    · exact q
  have hu : 0 ≤ u := by
    by_cases q : k = 0
    · have := h2 q; omega
    · have := h3 q; omega
  exact ⟨k.toNat, u.toNat, r.toNat, by omega, by omega, by omega⟩
theorem o3_conv {t : Tr} (h : O3 t) : Conv t (toTy t) := by
  obtain ⟨c, hc, hle⟩ := h
  exact (hc.fineT (by omega)).2
theorem o3_fine {t : Tr} (h : O3 t) : ∃ c, Fine c (toTy t) ∧ c ≤ 300 := by
  obtain ⟨c, hc, hle⟩ := h
  exact ⟨c, (hc.fineT (by omega)).1, hle⟩
theorem o3_sz {t : Tr} (h : O3 t) : sz (toTy t) ≤ 300 := by
  obtain ⟨c, hc, hle⟩ := o3_fine h
  rw [hc.sz]; exact hle
/-- A pair that is as the law asks. -/
def GOk (gs : List Gv) (r : Tr × Tr) : Prop := POk r ∧ byP gs (toTy r.1) = byP gs (toTy r.2) ∧ O3 (byP gs (toTy r.1))
def sideT (gs : List Gv) (r : Tr × Tr) : Ty := toTy (byP gs (toTy r.1))
theorem gok_more {gs : List Gv} {rl : List (Tr × Tr)} {i : Nat} {r : Tr × Tr} (h : ∀ (j : Nat) (q : Tr × Tr), j < i → rl[j]? = some q → GOk gs q) (hr : rl[i]? = some r) (k : GOk gs r) : ∀ (j : Nat) (q : Tr × Tr), j < i + 1 → rl[j]? = some q → GOk gs q := fun j q hj hq => by
  rcases Nat.lt_or_ge j i with c | c
  · exact h j q c hq
  · obtain rfl : j = i := by omega
    rw [hr] at hq; cases hq; exact k
theorem FitsL.len {m : Fm} {ts us : List Ty} (h : FitsL m ts us) : ts.length = us.length := by
  induction h with
  | nil => rfl
  | cons _ _ _ ih => simp [ih]
theorem FitsL.step {m : Fm} {ts us : List Ty} {i : Nat} (h : FitsL m (ts.drop i) (us.drop i)) (hi : i < ts.length) : ∃ t u m1, ts[i]? = some t ∧ us[i]? = some u ∧ Fits m t u m1 ∧ O3 (trT t) ∧ FitsL m1 (ts.drop (i + 1)) (us.drop (i + 1)) := by
  rw [dropE (List.getElem?_eq_getElem hi)] at h
  generalize hd : us.drop i = ad at h
  cases h with
  | @cons _ m1 _ u _ us' h hf k =>
    have hj : i < us.length := by
      rcases Nat.lt_or_ge i us.length with q | q
      · exact q
      · rw [List.drop_eq_nil_of_le q] at hd; cases hd
    rw [dropE (List.getElem?_eq_getElem hj)] at hd
    cases hd
    exact ⟨_, _, m1, List.getElem?_eq_getElem hi, List.getElem?_eq_getElem hj, h, hf, k⟩
theorem gen_so {gs : List Gv} {rl : List (Tr × Tr)} (hn : rl.length ≤ 20) (h : ∀ (j : Nat) (q : Tr × Tr), rl[j]? = some q → GOk gs q) : ∃ ts, SO solveP rl (.inr ts) ∧ FitsL fm0 ts (rl.map (sideT gs)) := by
  have mem : ∀ r ∈ rl, GOk gs r := fun r hr => by
    obtain ⟨j, hj, rfl⟩ := List.mem_iff_getElem.1 hr
    exact h j _ (List.getElem?_eq_getElem hj)
  obtain ⟨ts, ⟨k, hk⟩, hf⟩ := general (gs := gs) (ls := rl.map fun r => (toTy r.1, toTy r.2)) (by simpa using hn) (fun p hp => by
    obtain ⟨r, hr, rfl⟩ := List.mem_map.1 hp
    obtain ⟨⟨o1, o2⟩, _, _⟩ := mem r hr
    obtain ⟨c, f, hc⟩ := o3_fine o1
    obtain ⟨c', f', hc'⟩ := o3_fine o2
    exact ⟨c, c', f, f', hc, hc'⟩) (fun p hp => by
    obtain ⟨r, hr, rfl⟩ := List.mem_map.1 hp
    exact (mem r hr).2)
  rw [List.map_map] at hf
  refine ⟨ts, ⟨fun q => by omega, fun _ i r _ hr hno => absurd (h i r hr).1 hno, fun _ _ => ⟨_, k, ⟨by simp, fun i r l hr hl => ?_⟩, hk k (Nat.le_refl _)⟩⟩, hf⟩
  rw [List.getElem?_map, hr] at hl
  obtain rfl : (toTy r.1, toTy r.2) = l := by simpa using hl
  obtain ⟨⟨o1, o2⟩, _, _⟩ := h i r hr
  obtain ⟨c, f, hc⟩ := o3_fine o1
  obtain ⟨c', f', hc'⟩ := o3_fine o2
  exact ⟨o3_conv o1, o3_conv o2, c, c', f, f', hc, hc'⟩
/-! ### The first question -/
abbrev viL : List (Tr × Tr) := [(.mk 0 7 0 [] [], .mk 1 0 0 [] [])]
theorem o3_v : O3 (.mk 0 7 0 [] []) := ⟨1, fn0 (ops := []) ⟨by rfl, fun _ => by decide, fun q => absurd rfl q, fun _ => ⟨rfl, rfl⟩, ⟨by decide, by decide⟩, opsok_nil⟩, by decide⟩
theorem o3_i : O3 (.mk 1 0 0 [] []) := ⟨1, fn0 (ops := []) ⟨by rfl, fun q => absurd q (by decide), fun _ => rfl, fun _ => ⟨rfl, rfl⟩, ⟨by decide, by decide⟩, opsok_nil⟩, by decide⟩
theorem so_vi : SO solveP viL (.inr [.mk 1 0 0 [] []]) := by
  have ok : ∀ (i : Nat) (r : Tr × Tr), viL[i]? = some r → POk r := fun i r hr => by
    cases i with
    | zero => cases hr; exact ⟨o3_v, o3_i⟩
    | succ i => simp at hr
  refine ⟨fun q => absurd q (by decide), fun _ i r _ hr hno => absurd (ok i r hr) hno, fun _ _ => ⟨[(.mk 0 7 0 [] [], .mk 1 0 0 [] [])], 9, ⟨rfl, fun i r l hr hl => ?_⟩, solve_vi⟩⟩
  cases i with
  | zero =>
    cases hr; cases hl
    exact ⟨o3_conv o3_v, o3_conv o3_i, 1, 1, .v 7 (by decide), .c 1 (.inl rfl), by decide, by decide⟩
  | succ i => simp at hr
theorem kl_one {kl : List Kd} (h : kl.map (·.2) = [.mk 1 0 0 [] []]) : ∃ p, kl = [(p, .mk 1 0 0 [] [])] := by
  cases kl with
  | nil => simp at h
  | cons k kl =>
    cases kl with
    | nil => obtain ⟨p, t⟩ := k; simp at h; exact ⟨p, by rw [h]⟩
    | cons k' kl => simp at h
theorem tr_leaf {w : World} {S : Nat → Prop} (kd n : Int) : TrIn w S ⟨none, 0, 0, none, 0, 0⟩ (.mk kd n 0 [] []) :=
  .mk _ [] (fun i s h => by simp at h) rfl ⟨Nat.le_refl _, by decide, by decide⟩ rfl rfl (fun i q t h _ => by simp at h) (fun i q t h _ => by simp at h)
theorem ps_one {w0 w : World} {L0 L : List Sx.Item} {k ty : Nat} (H : Hs w0 L0 w L) (I : List Nat)
    (hp : picked I L = some [.blk k (.cells #[.int .i64 0, .int .i64 7, .int .i64 0, .slice none 0 0, .slice none 0 0, .int .i64 1, .int .i64 0, .int .i64 0, .slice none 0 0, .slice none 0 0] ty)]) :
    ∃ S, Hs w0 L0 w (psI S (some ⟨k, 0, none⟩) viL :: rest I L) := by
  refine ⟨_, H.fz I hp (fun s => ?_) (psI_loc _ _ _)⟩
  have h0 : Has w k _ := s.all _ (.head _)
  have cell : ∀ j, w.cell? ⟨k, j, none⟩ = [Value.int .i64 0, .int .i64 7, .int .i64 0, .slice none 0 0, .slice none 0 0, .int .i64 1, .int .i64 0, .int .i64 0, .slice none 0 0, .slice none 0 0][j]? := fun j => by
    rw [cell_of_row w k j _ ty (0, 0) h0]; simp
  have ea : ∀ j, (⟨k, 0, none⟩ : Addr).add j = ⟨k, j, none⟩ := fun j => by unfold Addr.add; split <;> simp_all
  intro i r hr
  cases i with
  | succ i => simp at hr
  | zero =>
    cases hr
    refine ⟨⟨none, 0, 0, none, 0, 0⟩, ⟨none, 0, 0, none, 0, 0⟩, ⟨k, 0, none⟩, rfl, ⟨_, .head _, rfl⟩, ?_, ?_, ?_, tr_leaf _ _, tr_leaf _ _⟩
    · rw [Nat.zero_mul, ea]
      exact ChangeShapes.cells?_of (Nat.zero_le _) rfl (fun j hj => by rw [cell]; simp [trC])
    · rw [Nat.zero_mul, ea]
      exact ChangeShapes.cells?_of (Nat.zero_le _) rfl (fun j hj => by
        rw [cell]
        match j, hj with
        | 0, _ => rfl
        | 1, _ => rfl
        | 2, _ => rfl
        | 3, _ => rfl
        | 4, _ => rfl)
    · rw [Nat.zero_mul, ea, ea]
      exact ChangeShapes.cells?_of (Nat.zero_le _) rfl (fun j hj => by
        rw [cell]
        match j, hj with
        | 0, _ => rfl
        | 1, _ => rfl
        | 2, _ => rfl
        | 3, _ => rfl
        | 4, _ => rfl)
section
variable {w0 w : World} {L0 L : List Sx.Item}
theorem Hs.cvt {S : Nat → Prop} {p : Tv} {t : Tr} (H : Hs w0 L0 w L) (j : Nat) (hi : L[j]? = some (trI S p t)) (h : O3 t) : Hs w0 L0 w (L ++ [tyI S p (toTy t)]) := H.ro j hi ((o3_conv h).mem _ _ _ (tr_at H j hi)) (tyI_loc _ _ _)
end
theorem kd_at {P : Program} {p : Tv} (ht : P.underlying 3 = some (.int .i64)) : loadX P 3 (kC [(p, .mk 1 0 0 [] [])]) (0 * 5) (.int .i64 1) := by
  unfold loadX; rw [ht]; rfl
theorem side_take {gs : List Gv} {rl : List (Tr × Tr)} {i : Nat} {r : Tr × Tr} {kl : List Kd} {p : Tv} {u : Ty} (h : kl.map (·.2) = (rl.take i).map (sideT gs)) (hr : rl[i]? = some r) (hu : u = sideT gs r) : (kl ++ [(p, u)]).map (·.2) = (rl.take (i + 1)).map (sideT gs) := by
  rw [List.map_append, h, List.take_add_one, hr, List.map_append, hu]; rfl
theorem map2 {kl : List Kd} {ts : List Ty} (h : kl.map (·.2) = ts) {i : Nat} {t : Ty} (ht : ts[i]? = some t) : ∃ p, kl[i]? = some (p, t) := by
  subst h
  rw [List.getElem?_map] at ht
  cases hk : kl[i]? with
  | none => rw [hk] at ht; simp at ht
  | some k => rw [hk] at ht; obtain ⟨p, t'⟩ := k; simp at ht; subst ht; exact ⟨p, rfl⟩
end Go.Slv
set_option linter.unusedVariables false
set_option linter.unusedSimpArgs false
namespace Go.Proofs.Ytfkkocjheeoobaa
open Go.RowKit Go.Sx Go.Inf Go.Slv
attribute [local irreducible] Go.wpOps Go.Code.wp Go.wpOp Go.wpAnyH Go.Calls Go.Sx.Goal
set_option maxRecDepth 20000
set_option maxHeartbeats 16000000 in
theorem General_c (Sq : Nat → Prop) (A : Option Addr) (na0 ca0 : Nat) (rl : List (Tr × Tr)) (Sg : Nat → Prop) (Ag : Option Addr) (ng cg : Nat) (gs : List Gv) (w : World) (K : Ending → World → Prop) (H0 : Sp w [psI Sq A rl, gvI Sg Ag gs]) (hna : na0 = rl.length ∧ na0 ≤ ca0 ∧ na0 < 9223372036854775808) (hng : ng = gs.length ∧ ng ≤ 2000000 ∧ ∀ g ∈ gs, g.ops.length ≤ 2000000) (hK : ∀ w', Hs w [psI Sq A rl, gvI Sg Ag gs] w' [psI Sq A rl, gvI Sg Ag gs] → K (.returned (.bool true)) w') :
    Calls Try.prog 4 #[.slice A na0 ca0, .slice Ag ng cg] w K := by
  obtain ⟨L0, hL0, H⟩ : ∃ L0, L0 = [psI Sq A rl, gvI Sg Ag gs] ∧ Hs w L0 w [psI Sq A rl, gvI Sg Ag gs] := ⟨_, rfl, Hs.refl H0⟩
  refine Sx.en (vs := [.slice A na0 ca0, .slice Ag ng cg]) 142 Try.func4 ?_
  refine Sx.nw 8 H fun k1 w1 H1 => ?_
  refine Sx.s 0 2 H1 fun w2 H2 => ?_
  refine Sx.l 4 2 H2 ?_
  refine Sx.nw 2 H2 fun k2 w3 H3 => ?_
  have hob_ := ps_one (k := k2) (ty := 36) H3 [3] (by kernel_rfl)
  obtain ⟨Sv1, H4⟩ := hob_
  refine Sx.c 0 [0] H4 (fun Hp1 R1 hR1 => Solve_p Sv1 (some ⟨k2, 0, none⟩) 1 1 viL w3 R1 Hp1 (.inr [.mk 1 0 0 [] []]) ⟨rfl, Nat.le_refl _, by decide⟩ so_vi (fun Ao1 co1 no1 ko1 So1 fa1 fb1 w4 G1 hno1 ho1 => hR1 _ _ _ G1 fun H5 => ?_))
  obtain ⟨hno1, hn201⟩ := hno1
  obtain ⟨hks1, hfa1, hfb1⟩ := ho1
  subst hfa1 hfb1
  have hob_ := kl_one hks1
  obtain ⟨px1, hk1⟩ := hob_
  subst hk1
  obtain rfl : no1 = 1 := hno1
  have hrow := Hs.row H5 1 (e := 32) (sz := 5) (cap := co1) (n := 1) (A := Ao1) (xs := (kC [(px1, .mk 1 0 0 [] [])])) (by kernel_rfl) (by omega)
  obtain ⟨go1, hgk⟩ := hrow
  subst hgk
  refine Sx.nw 3 H5 fun k3 w5 H6 => ?_
  refine Sx.s 1 6 H6 fun w6 H7 => ?_
  refine Sx.nz 2 (.code (Sx.cat [1, 1, 1] (Sx.bodyOf Try.f4))) [] [(0, .slice A na0 ca0), (1, .slice Ag ng cg), (6, .slice (some ⟨go1, 0, none⟩) 1 co1), (7, .pointer (some ⟨k3, 0, none⟩))] fun b1 => ?_
  refine Sx.l 4 6 H7 ?_
  refine Sx.ir 8 go1 0 5 1 co1 (by omega) ?_
  refine Sx.lr 1 1 32 5 3 go1 co1 1 (0 * 5) (kC [(px1, .mk 1 0 0 [] [])]) H7 (.int .i64 1) (kd_at (by kernel_rfl)) ?_
  refine Sx.br 15 (decide (((na0 : Nat) : Int) > (20 : Int))) (fun h_c45 => ?_) (fun h_c45 => ?_)
  · skip
    refine Sx.rt 7 [] H7 (.bool true) ?_
    subst hL0
    exact hK _ (H7.pick (a := [psI Sq A rl, gvI Sg Ag gs]) [3, 3] (by kernel_rfl))
  have H8 := H7.add (Gx.Ext.refl _) (it := .own 32 5 none 0 0 []) (World.ownsRow_nil _ _ _ _) (fun _ h => by cases h)
  have H9 := H8.add (Gx.Ext.refl _) (it := Slv.tysI (fun _ => False) []) Slv.tysI_nil (fun _ h => h.elim)
  have p_c45 := of_decide_eq_false h_c45
  have h20 : rl.length ≤ 20 := by omega
  have H10 := H9.pick (a := [psI Sq A rl, gvI Sg Ag gs, .blk k3 (.cells #[.int .i64 0, .int .i64 0] 26), .own 32 5 none 0 0 (kC []), Slv.tysI (fun _ => False) ([])]) [3, 3, 4, 4, 4] (by kernel_rfl)
  refine Sx.lp 14 (fun z l' w' => ∃ (i : Nat) (As : Option Addr) (cs : Nat) (ns : Nat) (kl : List Kd) (Sk : Nat → Prop), l' = [(0, .slice A na0 ca0), (1, .slice Ag ng cg), (7, .pointer (some ⟨k3, 0, none⟩)), (8, .slice As ns cs), (9, .int .i64 ((i : Nat) : Int))] ∧ z = rl.length - i ∧ Hs w L0 w' [psI Sq A rl, gvI Sg Ag gs, .blk k3 (.cells #[.int .i64 0, .int .i64 0] 26), .own 32 5 As cs ns (kC kl), Slv.tysI Sk kl] ∧ (∀ (j : Nat) (q : Tr × Tr), j < i → rl[j]? = some q → GOk gs q) ∧ (kl.map (·.2) = (rl.take i).map (sideT gs)) ∧ (ns = kl.length) ∧ (kl.length = i) ∧ (i ≤ rl.length)) _ [(0, .slice A na0 ca0), (1, .slice Ag ng cg), (7, .pointer (some ⟨k3, 0, none⟩)), (8, .slice none 0 0), (9, .int .i64 ((0 : Nat) : Int))] ⟨0, none, 0, 0, [], (fun _ => False), rfl, rfl, H10, (fun j q h => by omega), rfl, rfl, rfl, (Nat.zero_le _)⟩ (fun b2 z1 l1 w7 hI1 K1 hK1 => ?_)
  obtain ⟨i, As, cs, ns, kl, Sk, rfl, rfl, H11, hall, hsd, hns, hkl, hil⟩ := hI1
  have hob_ := Nat.lt_or_ge i rl.length
  rcases hob_ with hx | hx
  · skip
    have hob_ : ∃ r, rl[i]? = some r := ⟨_, List.getElem?_eq_getElem hx⟩
    obtain ⟨⟨⟨kq1, u1, r1, o1, a1⟩, ⟨kq2, u2, r2, o2, a2⟩⟩, hri⟩ := hob_
    have hob_ := PsIn.at (ps_at (S := Sq) (A := A) (rl := rl) H11 0 (by kernel_rfl)) hri
    obtain ⟨q1, q2, aq, haq, hc0, hc5, hq1, hq2⟩ := hob_
    have H12 := Hs.ce1 (S := Sq) (A := A) (rl := rl) (a := Addr.add (Addr.add aq (i * 10)) 0) (n := 5) (cs := trC (Tr.mk kq1 u1 r1 o1 a1) q1) H11 0 (by kernel_rfl) hc0
    have H13 := Hs.tr1 (S := Sq) (A := A) (rl := rl) (p := q1) (t := Tr.mk kq1 u1 r1 o1 a1) H12 0 (by kernel_rfl) hq1
    have H14 := Hs.ce1 (S := Sq) (A := A) (rl := rl) (a := Addr.add (Addr.add aq (i * 10)) 5) (n := 5) (cs := trC (Tr.mk kq2 u2 r2 o2 a2) q2) H13 0 (by kernel_rfl) hc5
    have H15 := Hs.tr1 (S := Sq) (A := A) (rl := rl) (p := q2) (t := Tr.mk kq2 u2 r2 o2 a2) H14 0 (by kernel_rfl) hq2
    refine Sx.v 6 (.bool (decide (((i : Nat) : Int) < ((na0 : Nat) : Int)))) (.bool true) (dT (by omega)) ?_
    refine Sx.nz 2 (.code (Sx.cat [1, 1, 1, 1, 1, 1, 0, 1, 0, 0, 0, 1] (Sx.bodyOf Try.f4))) [.code (Sx.cat [1, 1, 1, 1, 1, 1, 0, 1, 0, 0, 1] (Sx.bodyOf Try.f4)), .to K1, .blk 0, .code (Sx.cat [1, 1, 1, 1, 1, 1, 1] (Sx.bodyOf Try.f4))] [(0, .slice A na0 ca0), (1, .slice Ag ng cg), (7, .pointer (some ⟨k3, 0, none⟩)), (8, .slice As ns cs), (9, .int .i64 ((i : Nat) : Int)), (49, .bool true)] fun b3 => ?_
    refine Sx.ia 9 aq i 10 na0 ca0 haq (by omega) ?_
    refine Sx.fa 0 (Addr.add aq (i * 10)) 0 ?_
    refine Sx.lo (c := 5) (t := 32) 0 [.int .i64 kq1, .int .i64 u1, .int .i64 r1, .slice q1.A q1.na q1.ca, .slice q1.B q1.nb q1.cb] (.agg #[.int .i64 kq1, .int .i64 u1, .int .i64 r1, .slice q1.A q1.na q1.ca, .slice q1.B q1.nb q1.cb]) (ce_at (S := Sq) (a := Addr.add (Addr.add aq (i * 10)) 0) (n := 5) (cs := trC (Tr.mk kq1 u1 r1 o1 a1) q1) H15.sp 5 (by kernel_rfl)) ?_
    refine Sx.c 0 [6] H15 (fun Hp2 R2 hR2 => Proper_c Sq kq1 u1 r1 o1 a1 q1 w7 R2 Hp2  (fun b4 w8 G2 ht1 hf1 => hR2 _ _ _ G2 fun H16 => ?_))
    refine Sx.ia 7 aq i 10 na0 ca0 haq (by omega) ?_
    refine Sx.fa 0 (Addr.add aq (i * 10)) 5 ?_
    refine Sx.lo (c := 5) (t := 32) 0 [.int .i64 kq2, .int .i64 u2, .int .i64 r2, .slice q2.A q2.na q2.ca, .slice q2.B q2.nb q2.cb] (.agg #[.int .i64 kq2, .int .i64 u2, .int .i64 r2, .slice q2.A q2.na q2.ca, .slice q2.B q2.nb q2.cb]) (ce_at (S := Sq) (a := Addr.add (Addr.add aq (i * 10)) 5) (n := 5) (cs := trC (Tr.mk kq2 u2 r2 o2 a2) q2) H16.sp 7 (by kernel_rfl)) ?_
    refine Sx.c 0 [8] H16 (fun Hp3 R3 hR3 => Proper_c Sq kq2 u2 r2 o2 a2 q2 w8 R3 Hp3  (fun b5 w9 G3 ht2 hf2 => hR3 _ _ _ G3 fun H17 => ?_))
    refine Sx.cut 4 (fun l' w' => l' = [(0, .slice A na0 ca0), (1, .slice Ag ng cg), (7, .pointer (some ⟨k3, 0, none⟩)), (8, .slice As ns cs), (9, .int .i64 ((i : Nat) : Int)), (69, .bool ((!b4) || (!b5)))] ∧ w9 = w') (fun K2 hK2 => ?_) (fun b6 l2 w10 hI2 => ?_)
    · skip
      refine Sx.sp 4 66 (!b4) (fun h_g66 => ?_) (fun h_g66 => ?_)
      · skip
        exact Sx.to 4 [(0, .slice A na0 ca0), (1, .slice Ag ng cg), (7, .pointer (some ⟨k3, 0, none⟩)), (8, .slice As ns cs), (9, .int .i64 ((i : Nat) : Int)), (69, .bool ((!b4) || (!b5)))] (hK2 _ _ _ ⟨rfl, rfl⟩) (h2 := (by rw [h_g66]; try kernel_rfl))
      exact Sx.to 4 [(0, .slice A na0 ca0), (1, .slice Ag ng cg), (7, .pointer (some ⟨k3, 0, none⟩)), (8, .slice As ns cs), (9, .int .i64 ((i : Nat) : Int)), (69, .bool ((!b4) || (!b5)))] (hK2 _ _ _ ⟨rfl, rfl⟩) (h2 := (by rw [h_g66]; try kernel_rfl))
    obtain ⟨rfl, rfl⟩ := hI2
    refine Sx.br 0 ((!b4) || (!b5)) (fun h_c69 => ?_) (fun h_c69 => ?_)
    · skip
      refine Sx.nz 5 (.code (Sx.cat [1, 1, 1, 1, 1, 1, 0, 1, 0, 0, 1, 0, 0, 1, 1, 0, 1, 0, 1] (Sx.bodyOf Try.f4))) [.code (Sx.cat [1, 1, 1, 1, 1, 1, 0, 1, 0, 0, 1, 0, 0, 1, 1, 1] (Sx.bodyOf Try.f4)), .blk 1, .code (Sx.cat [1, 1, 1, 1, 1, 1, 0, 1, 0, 0, 1, 1] (Sx.bodyOf Try.f4)), .to K1, .blk 0, .code (Sx.cat [1, 1, 1, 1, 1, 1, 1] (Sx.bodyOf Try.f4))] [(4, .bool true)] fun b7 => ?_
      refine Sx.rt 7 [] H17 (.bool true) ?_
      subst hL0
      exact hK _ (H17.pick (a := [psI Sq A rl, gvI Sg Ag gs]) [2, 2] (by kernel_rfl))
    have hbb : b4 = true ∧ b5 = true := by cases b4 <;> cases b5 <;> simp at h_c69 ⊢
    have hO1 := ht1 hbb.1
    have hO2 := ht2 hbb.2
    have hob_ := o3_nat hO1
    obtain ⟨kn1, un1, rn1, en1, em1, eo1⟩ := hob_
    subst en1 em1 eo1
    have H18 : Hs w L0 w9 (_ ++ [tyI Sq q1 (Ty.mk kn1 un1 rn1 o1 (toTys a1))]) := Hs.cvt (S := Sq) (p := q1) (t := Tr.mk ((kn1 : Nat) : Int) ((un1 : Nat) : Int) ((rn1 : Nat) : Int) o1 a1) H17 1 (by kernel_rfl) hO1
    have hsz1 : sz (Ty.mk kn1 un1 rn1 o1 (toTys a1)) ≤ 300 := o3_sz hO1
    have hob_ := o3_nat hO2
    obtain ⟨kn2, un2, rn2, en2, em2, eo2⟩ := hob_
    subst en2 em2 eo2
    have H19 : Hs w L0 w9 (_ ++ [tyI Sq q2 (Ty.mk kn2 un2 rn2 o2 (toTys a2))]) := Hs.cvt (S := Sq) (p := q2) (t := Tr.mk ((kn2 : Nat) : Int) ((un2 : Nat) : Int) ((rn2 : Nat) : Int) o2 a2) H18 0 (by kernel_rfl) hO2
    have hsz2 : sz (Ty.mk kn2 un2 rn2 o2 (toTys a2)) ≤ 300 := o3_sz hO2
    refine Sx.nz 2 (.code (Sx.cat [1, 1, 1, 1, 1, 1, 0, 1, 0, 0, 1, 0, 0, 1, 1, 1] (Sx.bodyOf Try.f4))) [.blk 1, .code (Sx.cat [1, 1, 1, 1, 1, 1, 0, 1, 0, 0, 1, 1] (Sx.bodyOf Try.f4)), .to K1, .blk 0, .code (Sx.cat [1, 1, 1, 1, 1, 1, 1] (Sx.bodyOf Try.f4))] [(0, .slice A na0 ca0), (1, .slice Ag ng cg), (7, .pointer (some ⟨k3, 0, none⟩)), (8, .slice As ns cs), (9, .int .i64 ((i : Nat) : Int))] fun b8 => ?_
    refine Sx.ia 4 aq i 10 na0 ca0 haq (by omega) ?_
    refine Sx.fa 0 (Addr.add aq (i * 10)) 0 ?_
    refine Sx.lo (c := 5) (t := 32) 0 [.int .i64 ((kn1 : Nat) : Int), .int .i64 ((un1 : Nat) : Int), .int .i64 ((rn1 : Nat) : Int), .slice q1.A q1.na q1.ca, .slice q1.B q1.nb q1.cb] (.agg #[.int .i64 ((kn1 : Nat) : Int), .int .i64 ((un1 : Nat) : Int), .int .i64 ((rn1 : Nat) : Int), .slice q1.A q1.na q1.ca, .slice q1.B q1.nb q1.cb]) (ce_at (S := Sq) (a := Addr.add (Addr.add aq (i * 10)) 0) (n := 5) (cs := trC (Tr.mk ((kn1 : Nat) : Int) ((un1 : Nat) : Int) ((rn1 : Nat) : Int) o1 a1) q1) H19.sp 7 (by kernel_rfl)) ?_
    refine Sx.c 1 [9, 3] H19 (fun Hp4 R4 hR4 => (by_c 300) Sq kn1 un1 rn1 o1 (toTys a1) q1 Sg Ag ng cg gs w9 R4 Hp4 ⟨hsz1, Nat.le_refl _⟩ hng (fun S1 bp1 bk1 bu1 br1 bo1 ba1 w11 G4 hby1 => hR4 _ _ _ G4 fun H20 => ?_))
    refine Sx.nw 0 H20 fun k4 w12 H21 => ?_
    refine Sx.s 0 12 H21 fun w13 H22 => ?_
    refine Sx.ia 6 aq i 10 na0 ca0 haq (by omega) ?_
    refine Sx.fa 0 (Addr.add aq (i * 10)) 5 ?_
    refine Sx.lo (c := 5) (t := 32) 0 [.int .i64 ((kn2 : Nat) : Int), .int .i64 ((un2 : Nat) : Int), .int .i64 ((rn2 : Nat) : Int), .slice q2.A q2.na q2.ca, .slice q2.B q2.nb q2.cb] (.agg #[.int .i64 ((kn2 : Nat) : Int), .int .i64 ((un2 : Nat) : Int), .int .i64 ((rn2 : Nat) : Int), .slice q2.A q2.na q2.ca, .slice q2.B q2.nb q2.cb]) (ce_at (S := Sq) (a := Addr.add (Addr.add aq (i * 10)) 5) (n := 5) (cs := trC (Tr.mk ((kn2 : Nat) : Int) ((un2 : Nat) : Int) ((rn2 : Nat) : Int) o2 a2) q2) H22.sp 10 (by kernel_rfl)) ?_
    refine Sx.c 1 [11, 1] H22 (fun Hp5 R5 hR5 => (by_c 300) Sq kn2 un2 rn2 o2 (toTys a2) q2 Sg Ag ng cg gs w13 R5 Hp5 ⟨hsz2, Nat.le_refl _⟩ hng (fun S2 bp2 bk2 bu2 br2 bo2 ba2 w14 G5 hby2 => hR5 _ _ _ G5 fun H23 => ?_))
    refine Sx.nw 0 H23 fun k5 w15 H24 => ?_
    refine Sx.s 0 14 H24 fun w16 H25 => ?_
    refine Sx.l 4 13 H25 ?_
    refine Sx.c 0 [4] H25 (fun Hp6 R6 hR6 => Proper_c S1 bk1 bu1 br1 bo1 ba1 bp1 w16 R6 Hp6  (fun b9 w17 G6 ht3 hf3 => hR6 _ _ _ G6 fun H26 => ?_))
    refine Sx.nz 3 (.code (Sx.cat [1, 1, 1, 1, 1, 1, 0, 1, 0, 0, 1, 0, 0, 1, 1, 1, 1, 1, 1] (Sx.bodyOf Try.f4))) [.blk 1, .code (Sx.cat [1, 1, 1, 1, 1, 1, 0, 1, 0, 0, 1, 1] (Sx.bodyOf Try.f4)), .to K1, .blk 0, .code (Sx.cat [1, 1, 1, 1, 1, 1, 1] (Sx.bodyOf Try.f4))] [(0, .slice A na0 ca0), (1, .slice Ag ng cg), (7, .pointer (some ⟨k3, 0, none⟩)), (8, .slice As ns cs), (9, .int .i64 ((i : Nat) : Int)), (10, .bool b9), (12, .pointer (some ⟨k4, 0, none⟩)), (13, .pointer (some ⟨k5, 0, none⟩))] fun b10 => ?_
    refine Sx.l 2 13 H26 ?_
    refine Sx.l 0 14 H26 ?_
    have hob_ := TrIn.dep (tr_at (S := S1) (p := bp1) (t := Tr.mk bk1 bu1 br1 bo1 ba1) H26 0 (by kernel_rfl))
    obtain ⟨dk, hdk⟩ := hob_
    refine Sx.c 0 [0, 2] H26 (fun Hp7 R7 hR7 => (SameR_c _) S1 S2 bk1 bu1 br1 bo1 ba1 bp1 bk2 bu2 br2 bo2 ba2 bp2 w17 R7 Hp7 hdk (fun b11 w18 G7 hs1 => hR7 _ _ _ G7 fun H27 => ?_))
    refine Sx.cut 4 (fun l' w' => l' = [(0, .slice A na0 ca0), (1, .slice Ag ng cg), (7, .pointer (some ⟨k3, 0, none⟩)), (8, .slice As ns cs), (9, .int .i64 ((i : Nat) : Int)), (12, .pointer (some ⟨k4, 0, none⟩)), (94, .bool ((!b9) || (!b11)))] ∧ w18 = w') (fun K3 hK3 => ?_) (fun b12 l3 w19 hI3 => ?_)
    · skip
      refine Sx.sp 4 91 (!b9) (fun h_g91 => ?_) (fun h_g91 => ?_)
      · skip
        exact Sx.to 4 [(0, .slice A na0 ca0), (1, .slice Ag ng cg), (7, .pointer (some ⟨k3, 0, none⟩)), (8, .slice As ns cs), (9, .int .i64 ((i : Nat) : Int)), (12, .pointer (some ⟨k4, 0, none⟩)), (94, .bool ((!b9) || (!b11)))] (hK3 _ _ _ ⟨rfl, rfl⟩) (h2 := (by rw [h_g91]; try kernel_rfl))
      exact Sx.to 4 [(0, .slice A na0 ca0), (1, .slice Ag ng cg), (7, .pointer (some ⟨k3, 0, none⟩)), (8, .slice As ns cs), (9, .int .i64 ((i : Nat) : Int)), (12, .pointer (some ⟨k4, 0, none⟩)), (94, .bool ((!b9) || (!b11)))] (hK3 _ _ _ ⟨rfl, rfl⟩) (h2 := (by rw [h_g91]; try kernel_rfl))
    obtain ⟨rfl, rfl⟩ := hI3
    refine Sx.br 0 ((!b9) || (!b11)) (fun h_c94 => ?_) (fun h_c94 => ?_)
    · skip
      refine Sx.rt 12 [] H27 (.bool true) ?_
      subst hL0
      exact hK _ (H27.pick (a := [psI Sq A rl, gvI Sg Ag gs]) [7, 3] (by kernel_rfl))
    have hbc : b9 = true ∧ b11 = true := by cases b9 <;> cases b11 <;> simp at h_c94 ⊢
    have hO3 := ht3 hbc.1
    have hsm := hs1 hbc.2
    have hgk : GOk gs (Tr.mk ((kn1 : Nat) : Int) ((un1 : Nat) : Int) ((rn1 : Nat) : Int) o1 a1, Tr.mk ((kn2 : Nat) : Int) ((un2 : Nat) : Int) ((rn2 : Nat) : Int) o2 a2) := ⟨⟨hO1, hO2⟩, (show byP gs (Ty.mk kn1 un1 rn1 o1 (toTys a1)) = byP gs (Ty.mk kn2 un2 rn2 o2 (toTys a2)) from hby1.symm.trans (hsm.trans hby2)), (show O3 (byP gs (Ty.mk kn1 un1 rn1 o1 (toTys a1))) from hby1 ▸ hO3)⟩
    have hside : toTy (Tr.mk bk1 bu1 br1 bo1 ba1) = toTy (byP gs (Ty.mk kn1 un1 rn1 o1 (toTys a1))) := congrArg toTy hby1
    have hob_ := o3_nat hO3
    obtain ⟨kn3, un3, rn3, en3, em3, eo3⟩ := hob_
    subst en3 em3 eo3
    have H28 : Hs w L0 w18 (_ ++ [tyI S1 bp1 (Ty.mk kn3 un3 rn3 bo1 (toTys ba1))]) := Hs.cvt (S := S1) (p := bp1) (t := Tr.mk ((kn3 : Nat) : Int) ((un3 : Nat) : Int) ((rn3 : Nat) : Int) bo1 ba1) H27 0 (by kernel_rfl) hO3
    refine Sx.nz 2 (.code (Sx.cat [1, 1, 1, 1, 1, 1, 0, 1, 0, 0, 1, 0, 0, 1, 1, 1, 1, 1, 1, 1, 1] (Sx.bodyOf Try.f4))) [.blk 1, .code (Sx.cat [1, 1, 1, 1, 1, 1, 0, 1, 0, 0, 1, 1] (Sx.bodyOf Try.f4)), .to K1, .blk 0, .code (Sx.cat [1, 1, 1, 1, 1, 1, 1] (Sx.bodyOf Try.f4))] [(0, .slice A na0 ca0), (1, .slice Ag ng cg), (7, .pointer (some ⟨k3, 0, none⟩)), (8, .slice As ns cs), (9, .int .i64 ((i : Nat) : Int)), (12, .pointer (some ⟨k4, 0, none⟩))] fun b13 => ?_
    refine Sx.l 2 13 H28 ?_
    refine Sx.nw 0 H28 fun k6 w20 H29 => ?_
    refine Sx.ap 0 9 16 72 1 0 32 5 23 1 k6 As cs ns (kC kl) [.int .i64 ((kn3 : Nat) : Int), .int .i64 ((un3 : Nat) : Int), .int .i64 ((rn3 : Nat) : Int), .slice bp1.A bp1.na bp1.ca, .slice bp1.B bp1.nb bp1.cb] H29 (by omega) (by omega) (kC_app kl bp1 (Ty.mk kn3 un3 rn3 bo1 (toTys ba1))) fun A1 cap1 w21 H30 => ?_
    refine Sx.v 6 (.int .i64 (IntKind.i64.wrap (((i : Nat) : Int) + (1 : Int)))) (.int .i64 ((i + 1 : Nat) : Int)) (congrArg (Value.int .i64) (Gx.i64n (by omega) (by omega))) ?_
    have hob_ := Slv.tys_add H30 [10, 14] (S := Sk) (S2 := S1) (l := kl) (p := bp1) (t := Ty.mk kn3 un3 rn3 bo1 (toTys ba1)) (by kernel_rfl)
    obtain ⟨S3, H31⟩ := hob_
    have H32 := H31.pick (a := [psI Sq A rl, gvI Sg Ag gs, .blk k3 (.cells #[.int .i64 0, .int .i64 0] 26), .own 32 5 A1 cap1 (ns + 1) (kC (kl ++ [(bp1, Ty.mk kn3 un3 rn3 bo1 (toTys ba1))])), Slv.tysI S3 (kl ++ [(bp1, Ty.mk kn3 un3 rn3 bo1 (toTys ba1))])]) [8, 4, 7, 7, 0] (by kernel_rfl)
    exact Sx.to 2 [(0, .slice A na0 ca0), (1, .slice Ag ng cg), (7, .pointer (some ⟨k3, 0, none⟩)), (8, .slice A1 (ns + 1) cap1), (9, .int .i64 (((i + 1) : Nat) : Int))] (hK1 _ _ _ _ (by omega) ⟨(i + 1), A1, cap1, ns + 1, (kl ++ [(bp1, Ty.mk kn3 un3 rn3 bo1 (toTys ba1))]), S3, rfl, rfl, H32, (gok_more hall hri hgk), (side_take hsd hri (by simp only [sideT]; exact hside)), (by rw [List.length_append, hns]; rfl), (by rw [List.length_append, hkl]; rfl), (by omega)⟩)
  have hia : rl.take i = rl := List.take_of_length_le hx
  rw [hia] at hsd
  have hob_ := gen_so (gs := gs) h20 (fun j q hq => hall j q (by have := (List.getElem?_eq_some_iff.1 hq).1; omega) hq)
  obtain ⟨ts, hso, hfl⟩ := hob_
  refine Sx.v 6 (.bool (decide (((i : Nat) : Int) < ((na0 : Nat) : Int)))) (.bool false) (dF (by omega)) ?_
  refine Sx.nz 2 (.code (Sx.cat [1, 1, 1, 1, 1, 1, 0, 1, 0, 0, 0, 1] (Sx.bodyOf Try.f4))) [.code (Sx.cat [1, 1, 1, 1, 1, 1, 0, 1, 0, 0, 1] (Sx.bodyOf Try.f4)), .to K1, .blk 0, .code (Sx.cat [1, 1, 1, 1, 1, 1, 1] (Sx.bodyOf Try.f4))] [(0, .slice A na0 ca0), (1, .slice Ag ng cg), (7, .pointer (some ⟨k3, 0, none⟩)), (8, .slice As ns cs), (9, .int .i64 ((i : Nat) : Int)), (49, .bool false)] fun b14 => ?_
  refine Sx.c 9 [0] H11 (fun Hp8 R8 hR8 => Solve_p Sq A na0 ca0 rl w7 R8 Hp8 (.inr ts) hna hso (fun Ao2 co2 no2 ko2 So2 fa2 fb2 w22 G8 hno2 ho2 => hR8 _ _ _ G8 fun H33 => ?_))
  obtain ⟨hno2, hn202⟩ := hno2
  obtain ⟨hks2, hfa2, hfb2⟩ := ho2
  subst hfa2 hfb2
  have hll : no2 = rl.length := by have e1 := congrArg List.length hks2; have e2 := hfl.len; simp only [List.length_map] at e1 e2; omega
  have hlt2 : ts.length = no2 := by rw [← hks2, List.length_map]; omega
  refine Sx.s 4 4 H33 fun w23 H34 => ?_
  refine Sx.l 6 4 H34 ?_
  refine Sx.v 6 (.bool (((no2 : Nat) : Int) != ((na0 : Nat) : Int))) (.bool false) (nF (by omega)) ?_
  refine Sx.nw 8 H34 fun k7 w24 H35 => ?_
  have H36 := mapI_new (.int .i64) encN (bt := k7) (i := 7) H35 (by kernel_rfl)
  refine Sx.nw 0 H36 fun k8 w25 H37 => ?_
  have H38 := mapI_new (.int .i64) encN (bt := k8) (i := 8) H37 (by kernel_rfl)
  refine Sx.nw 1 H38 fun k9 w26 H39 => ?_
  refine Sx.s 0 9 H39 fun w27 H40 => ?_
  refine Sx.nz 2 (.code (Sx.cat [1, 1, 1, 1, 1, 1, 1, 1, 1, 1] (Sx.bodyOf Try.f4))) [] [(6, .slice Ao2 no2 co2), (8, .slice As ns cs), (15, .pointer (some ⟨k9, 0, none⟩))] fun b15 => ?_
  have H41 := H40.add (Gx.Ext.refl _) (it := Slv.tysI (fun _ => False) []) Slv.tysI_nil (fun _ h => h.elim)
  have H42 := H41.add (Gx.Ext.refl _) (it := rnI (fun _ => False) []) rnI_nil (fun _ h => h.elim)
  have H43 := H42.pick (a := [psI Sq A rl, gvI Sg Ag gs, .own 32 5 Ao2 co2 no2 (kC ko2), Slv.tysI So2 ko2, .own 32 5 As cs ns (kC kl), Slv.tysI Sk kl, .blk k9 (.cells #[.map (some k7), .map (some k8)] 42), mapI (.int .i64) encN k7 ([]), mapI (.int .i64) encN k8 ([]), Slv.tysI (fun _ => False) ([]), rnI (fun _ => False) ([])]) [0, 2, 0, 0, 1, 1, 3, 1, 1, 1, 1] (by kernel_rfl)
  refine Sx.lp 7 (fun z l' w' => ∃ (i : Nat) (mi : Fm) (MTi : List (Int × Value)) (MRi : List (Int × Value)) (STi : Nat → Prop) (SRi : Nat → Prop) (KTi : List Kd) (KRi : List (Option Addr × List Nm)), l' = [(6, .slice Ao2 no2 co2), (8, .slice As ns cs), (15, .pointer (some ⟨k9, 0, none⟩)), (16, .int .i64 ((i : Nat) : Int))] ∧ z = ts.length - i ∧ Hs w L0 w' [psI Sq A rl, gvI Sg Ag gs, .own 32 5 Ao2 co2 no2 (kC ko2), Slv.tysI So2 ko2, .own 32 5 As cs ns (kC kl), Slv.tysI Sk kl, .blk k9 (.cells #[.map (some k7), .map (some k8)] 42), mapI (.int .i64) encN k7 MTi, mapI (.int .i64) encN k8 MRi, Slv.tysI STi KTi, rnI SRi KRi] ∧ (FitsL mi (ts.drop i) ((rl.map (sideT gs)).drop i)) ∧ (MapT MTi mi.T KTi) ∧ (MapR MRi mi.R KRi) ∧ (i ≤ ts.length)) _ [(6, .slice Ao2 no2 co2), (8, .slice As ns cs), (15, .pointer (some ⟨k9, 0, none⟩)), (16, .int .i64 ((0 : Nat) : Int))] ⟨0, fm0, [], [], (fun _ => False), (fun _ => False), [], [], rfl, rfl, H43, hfl, MapT.nil, MapR.nil, (Nat.zero_le _)⟩ (fun b16 z2 l4 w28 hI4 K4 hK4 => ?_)
  obtain ⟨i, mi, MTi, MRi, STi, SRi, KTi, KRi, rfl, rfl, H44, hfi, hTi, hRi, hil⟩ := hI4
  have hob_ := Nat.lt_or_ge i ts.length
  rcases hob_ with hx | hx
  · skip
    have hob_ := hfi.step hx
    obtain ⟨⟨k0, u0, r0, o0, a0⟩, ⟨ek1, eu1, er1, eo1, ea1⟩, m1, hti, htj, hft, hO4, hfl2⟩ := hob_
    have hob_ := map2 hks2 hti
    obtain ⟨p0, hk0⟩ := hob_
    have hob_ := map2 hsd htj
    obtain ⟨q0, hk1⟩ := hob_
    have H45 := Hs.ts1 (S := So2) (l := ko2) (p := p0) (u := Ty.mk k0 u0 r0 o0 a0) H44 3 (by kernel_rfl) (List.mem_of_getElem? hk0)
    have H46 := Hs.ts1 (S := Sk) (l := kl) (p := q0) (u := Ty.mk ek1 eu1 er1 eo1 ea1) H45 5 (by kernel_rfl) (List.mem_of_getElem? hk1)
    have H47 := Hs.tytr (S := So2) (p := p0) (t := Ty.mk k0 u0 r0 o0 a0) H46 11 (by kernel_rfl)
    have hi1 := (List.getElem?_eq_some_iff.1 hk0).1
    have hi2 := (List.getElem?_eq_some_iff.1 hk1).1
    have hob_ := TyIn.dep (ty_at (S := So2) (p := p0) (t := Ty.mk k0 u0 r0 o0 a0) H47 11 (by kernel_rfl))
    obtain ⟨dk, hdk⟩ := hob_
    have hrow := Hs.row H47 2 (e := 32) (sz := 5) (cap := co2) (n := no2) (A := Ao2) (xs := (kC ko2)) (by kernel_rfl) (by omega)
    obtain ⟨go2, hgk⟩ := hrow
    subst hgk
    have hrow := Hs.row H47 4 (e := 32) (sz := 5) (cap := cs) (n := ns) (A := As) (xs := (kC kl)) (by kernel_rfl) (by omega)
    obtain ⟨gs2, hgk⟩ := hrow
    subst hgk
    refine Sx.v 6 (.bool (decide (((i : Nat) : Int) < ((no2 : Nat) : Int)))) (.bool true) (dT (by omega)) ?_
    refine Sx.nz 2 (.code (Sx.cat [1, 1, 1, 1, 1, 1, 1, 1, 1, 1, 0, 1, 0, 0, 0, 1] (Sx.bodyOf Try.f4))) [.code (Sx.cat [1, 1, 1, 1, 1, 1, 1, 1, 1, 1, 0, 1, 0, 0, 1] (Sx.bodyOf Try.f4)), .to K4, .blk 2, .code (Sx.cat [1, 1, 1, 1, 1, 1, 1, 1, 1, 1, 1] (Sx.bodyOf Try.f4))] [(6, .slice (some ⟨go2, 0, none⟩) no2 co2), (8, .slice (some ⟨gs2, 0, none⟩) ns cs), (15, .pointer (some ⟨k9, 0, none⟩)), (16, .int .i64 ((i : Nat) : Int)), (120, .bool true)] fun b17 => ?_
    refine Sx.ir 9 go2 i 5 no2 co2 (by omega) ?_
    refine Sx.lr 0 2 32 5 32 go2 co2 no2 (i * 5) (kC ko2) H47 (.agg #[.int .i64 ((k0 : Nat) : Int), .int .i64 ((u0 : Nat) : Int), .int .i64 ((r0 : Nat) : Int), .slice p0.A p0.na p0.ca, .slice p0.B p0.nb p0.cb]) (kC_at hk0) ?_
    refine Sx.c 0 [13] H47 (fun Hp9 R9 hR9 => Proper_c So2 k0 u0 r0 o0 (trTs a0) p0 w28 R9 Hp9  (fun b18 w29 G9 ht4 hf4 => hR9 _ _ _ G9 fun H48 => ?_))
    have hob_ : b18 = true := by cases b18 with | true => rfl | false => exact absurd hO4 (hf4 rfl)
    obtain rfl := hob_
    refine Sx.dr 14 H48 [7, 3, 5] [] (LJ := [.blk k9 (.cells #[.map (some k7), .map (some k8)] 42), .own 32 5 (some ⟨go2, 0, none⟩) co2 no2 (kC ko2), .own 32 5 (some ⟨gs2, 0, none⟩) cs ns (kC kl)]) (by kernel_rfl) fun w30 H49 => ?_
    refine Sx.tk [(0, some (0, [])), (1, none), (2, none)] (fun _ => (H49.sub [7, 3, 4] (by kernel_rfl))) ?_
    refine Sx.tvg 3 [] go2 i 5 no2 co2 (by omega) (fun _ => (H49.sub [7, 3, 4] (by kernel_rfl))) ?_
    refine Sx.tvl 4 [] 1 32 5 32 go2 co2 no2 (i * 5) (kC ko2) (.agg #[.int .i64 ((k0 : Nat) : Int), .int .i64 ((u0 : Nat) : Int), .int .i64 ((r0 : Nat) : Int), .slice p0.A p0.na p0.ca, .slice p0.B p0.nb p0.cb]) (kC_at hk0) (fun _ => (H49.sub [7, 3, 4] (by kernel_rfl))) ?_
    refine Sx.tk [(5, none), (6, none)] (fun _ => (H49.sub [7, 3, 4] (by kernel_rfl))) ?_
    refine Sx.tvg 7 [] gs2 i 5 ns cs (by omega) (fun _ => (H49.sub [7, 3, 4] (by kernel_rfl))) ?_
    refine Sx.tvl 8 [] 2 32 5 32 gs2 cs ns (i * 5) (kC kl) (.agg #[.int .i64 ((ek1 : Nat) : Int), .int .i64 ((eu1 : Nat) : Int), .int .i64 ((er1 : Nat) : Int), .slice q0.A q0.na q0.ca, .slice q0.B q0.nb q0.cb]) (kC_at hk1) (fun _ => (H49.sub [7, 3, 4] (by kernel_rfl))) ?_
    refine Sx.nmx ?_
    intro zx1
    refine Sx.on 9 ?_
    refine Sx.c 0 [8, 8, 8, 8, 8, 8] H49 (fun Hp10 R10 hR11 => (fits_c _) k7 k8 MTi MRi STi SRi KTi KRi mi m1 So2 k0 u0 r0 o0 a0 p0 Sk ek1 eu1 er1 eo1 ea1 q0 w30 R10 Hp10 hdk hTi hRi hft (fun mt1 mr1 kt1 kr1 st1 sr1 w31 G10 hT1 hR10 => hR11 _ _ _ G10 fun H50 => ?_))
    refine Sx.bk (x := zx1) 9 (fun _ => (H50.sub [13, 9, 10] (by kernel_rfl))) ?_
    refine Sx.tk [(10, none)] (fun _ => (H50.sub [13, 9, 10] (by kernel_rfl))) ?_
    refine Sx.dn ?_
    refine Sx.nz 1 (.code (Sx.cat [1, 1, 1, 1, 1, 1, 1, 1, 1, 1, 0, 1, 0, 0, 1, 0, 0, 1, 1, 1] (Sx.bodyOf Try.f4))) [.blk 3, .code (Sx.cat [1, 1, 1, 1, 1, 1, 1, 1, 1, 1, 0, 1, 0, 0, 1, 1] (Sx.bodyOf Try.f4)), .to K4, .blk 2, .code (Sx.cat [1, 1, 1, 1, 1, 1, 1, 1, 1, 1, 1] (Sx.bodyOf Try.f4))] [(6, .slice (some ⟨go2, 0, none⟩) no2 co2), (8, .slice (some ⟨gs2, 0, none⟩) ns cs), (15, .pointer (some ⟨k9, 0, none⟩)), (16, .int .i64 ((i : Nat) : Int)), (18, .bool true)] fun b19 => ?_
    refine Sx.v 12 (.int .i64 (IntKind.i64.wrap (((i : Nat) : Int) + (1 : Int)))) (.int .i64 ((i + 1 : Nat) : Int)) (congrArg (Value.int .i64) (Gx.i64n (by omega) (by omega))) ?_
    have H51 := H50.pick (a := [psI Sq A rl, gvI Sg Ag gs, .own 32 5 (some ⟨go2, 0, none⟩) co2 no2 (kC ko2), Slv.tysI So2 ko2, .own 32 5 (some ⟨gs2, 0, none⟩) cs ns (kC kl), Slv.tysI Sk kl, .blk k9 (.cells #[.map (some k7), .map (some k8)] 42), mapI (.int .i64) encN k7 mt1, mapI (.int .i64) encN k8 mr1, Slv.tysI st1 kt1, rnI sr1 kr1]) [7, 7, 7, 7, 7, 7, 7, 0, 0, 0, 0] (by kernel_rfl)
    exact Sx.to 2 [(6, .slice (some ⟨go2, 0, none⟩) no2 co2), (8, .slice (some ⟨gs2, 0, none⟩) ns cs), (15, .pointer (some ⟨k9, 0, none⟩)), (16, .int .i64 (((i + 1) : Nat) : Int))] (hK4 _ _ _ _ (by omega) ⟨(i + 1), m1, mt1, mr1, st1, sr1, kt1, kr1, rfl, rfl, H51, hfl2, hT1, hR10, (by omega)⟩)
  refine Sx.v 6 (.bool (decide (((i : Nat) : Int) < ((no2 : Nat) : Int)))) (.bool false) (dF (by omega)) ?_
  refine Sx.nz 2 (.code (Sx.cat [1, 1, 1, 1, 1, 1, 1, 1, 1, 1, 0, 1, 0, 0, 0, 1] (Sx.bodyOf Try.f4))) [.code (Sx.cat [1, 1, 1, 1, 1, 1, 1, 1, 1, 1, 0, 1, 0, 0, 1] (Sx.bodyOf Try.f4)), .to K4, .blk 2, .code (Sx.cat [1, 1, 1, 1, 1, 1, 1, 1, 1, 1, 1] (Sx.bodyOf Try.f4))] [(6, .slice Ao2 no2 co2), (8, .slice As ns cs), (15, .pointer (some ⟨k9, 0, none⟩)), (16, .int .i64 ((i : Nat) : Int)), (120, .bool false)] fun b20 => ?_
  refine Sx.rt 12 [] H44 (.bool true) ?_
  subst hL0
  exact hK _ (H44.pick (a := [psI Sq A rl, gvI Sg Ag gs]) [0, 0] (by kernel_rfl))
end Go.Proofs.Ytfkkocjheeoobaa
