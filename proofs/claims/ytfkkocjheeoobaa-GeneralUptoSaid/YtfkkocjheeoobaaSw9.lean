/- A part of the proof (YtfkkocjheeoobaaSw9), printed by a program of ours. -/
import Derived.Test.YtfkkocjheeoobaaSw8
set_option linter.unusedVariables false
set_option linter.unusedSimpArgs false
set_option linter.unusedVariables false
set_option linter.unusedSimpArgs false
namespace Go.Proofs.Ytfkkocjheeoobaa
open Go.RowKit Go.Sx Go.Inf Go.Slv
attribute [local irreducible] Go.wpOps Go.Code.wp Go.wpOp Go.wpAnyH Go.Calls Go.Sx.Goal
set_option maxRecDepth 20000
theorem arity_p (kd : Int) (w : World) (K : Ending → World → Prop) (H0 : Sp w []) (hK : ∀ w', Hs w [] w' [] → K (.returned (.int .i64 (ar kd))) w') :
    Calls Try.prog 27 #[.int .i64 kd] w K := by
  obtain ⟨L0, hL0, H⟩ : ∃ L0, L0 = [] ∧ Hs w L0 w [] := ⟨_, rfl, Hs.refl H0⟩
  refine Sx.en (vs := [.int .i64 kd]) 14 Try.func27 ?_
  refine Sx.br 19 (kd == (0 : Int)) (fun h_c4 => ?_) (fun h_c4 => ?_)
  · skip
    refine Sx.sl 0 4 (.bool (kd == (0 : Int))) (.bool true) (congrArg Value.bool h_c4) ?_
    refine Sx.rt 11 [] H (.int .i64 0) ?_
    have p_c4 := Gx.k1 h_c4
    have e_ : ar kd = (0 : Int) := by
      unfold ar; repeat' split
      all_goals omega
    simp only [e_] at hK; subst hL0
    exact hK _ (H.pick [] (by kernel_rfl))
  refine Sx.sl 0 4 (.bool (kd == (0 : Int))) (.bool false) (congrArg Value.bool h_c4) ?_
  refine Sx.br 6 (kd == (1 : Int)) (fun h_c4_1 => ?_) (fun h_c4_1 => ?_)
  · skip
    refine Sx.sl 0 4 (.bool (kd == (1 : Int))) (.bool true) (congrArg Value.bool h_c4_1) ?_
    refine Sx.rt 11 [] H (.int .i64 0) ?_
    have p_c4 := Gx.k0 h_c4
    have p_c4_1 := Gx.k1 h_c4_1
    have e_ : ar kd = (0 : Int) := by
      unfold ar; repeat' split
      all_goals omega
    simp only [e_] at hK; subst hL0
    exact hK _ (H.pick [] (by kernel_rfl))
  refine Sx.sl 0 4 (.bool (kd == (1 : Int))) (.bool false) (congrArg Value.bool h_c4_1) ?_
  refine Sx.br 6 (kd == (2 : Int)) (fun h_c4_2 => ?_) (fun h_c4_2 => ?_)
  · skip
    refine Sx.sl 0 4 (.bool (kd == (2 : Int))) (.bool true) (congrArg Value.bool h_c4_2) ?_
    refine Sx.rt 11 [] H (.int .i64 0) ?_
    have p_c4 := Gx.k0 h_c4
    have p_c4_1 := Gx.k0 h_c4_1
    have p_c4_2 := Gx.k1 h_c4_2
    have e_ : ar kd = (0 : Int) := by
      unfold ar; repeat' split
      all_goals omega
    simp only [e_] at hK; subst hL0
    exact hK _ (H.pick [] (by kernel_rfl))
  refine Sx.sl 0 4 (.bool (kd == (2 : Int))) (.bool false) (congrArg Value.bool h_c4_2) ?_
  refine Sx.br 5 (kd == (3 : Int)) (fun h_c4_3 => ?_) (fun h_c4_3 => ?_)
  · skip
    refine Sx.rt 8 [] H (.int .i64 0) ?_
    have p_c4 := Gx.k0 h_c4
    have p_c4_1 := Gx.k0 h_c4_1
    have p_c4_2 := Gx.k0 h_c4_2
    have p_c4_3 := Gx.k1 h_c4_3
    have e_ : ar kd = (0 : Int) := by
      unfold ar; repeat' split
      all_goals omega
    simp only [e_] at hK; subst hL0
    exact hK _ (H.pick [] (by kernel_rfl))
  refine Sx.br 6 (kd == (4 : Int)) (fun h_c9 => ?_) (fun h_c9 => ?_)
  · skip
    refine Sx.rt 8 [] H (.int .i64 1) ?_
    have p_c4 := Gx.k0 h_c4
    have p_c4_1 := Gx.k0 h_c4_1
    have p_c4_2 := Gx.k0 h_c4_2
    have p_c4_3 := Gx.k0 h_c4_3
    have p_c9 := Gx.k1 h_c9
    have e_ : ar kd = (1 : Int) := by
      unfold ar; repeat' split
      all_goals omega
    simp only [e_] at hK; subst hL0
    exact hK _ (H.pick [] (by kernel_rfl))
  refine Sx.br 7 (kd == (5 : Int)) (fun h_c11 => ?_) (fun h_c11 => ?_)
  · skip
    refine Sx.sl 0 11 (.bool (kd == (5 : Int))) (.bool true) (congrArg Value.bool h_c11) ?_
    refine Sx.rt 11 [] H (.int .i64 2) ?_
    have p_c4 := Gx.k0 h_c4
    have p_c4_1 := Gx.k0 h_c4_1
    have p_c4_2 := Gx.k0 h_c4_2
    have p_c4_3 := Gx.k0 h_c4_3
    have p_c9 := Gx.k0 h_c9
    have p_c11 := Gx.k1 h_c11
    have e_ : ar kd = (2 : Int) := by
      unfold ar; repeat' split
      all_goals omega
    simp only [e_] at hK; subst hL0
    exact hK _ (H.pick [] (by kernel_rfl))
  refine Sx.sl 0 11 (.bool (kd == (5 : Int))) (.bool false) (congrArg Value.bool h_c11) ?_
  refine Sx.br 5 (kd == (6 : Int)) (fun h_c11_1 => ?_) (fun h_c11_1 => ?_)
  · skip
    refine Sx.rt 8 [] H (.int .i64 2) ?_
    have p_c4 := Gx.k0 h_c4
    have p_c4_1 := Gx.k0 h_c4_1
    have p_c4_2 := Gx.k0 h_c4_2
    have p_c4_3 := Gx.k0 h_c4_3
    have p_c9 := Gx.k0 h_c9
    have p_c11 := Gx.k0 h_c11
    have p_c11_1 := Gx.k1 h_c11_1
    have e_ : ar kd = (2 : Int) := by
      unfold ar; repeat' split
      all_goals omega
    simp only [e_] at hK; subst hL0
    exact hK _ (H.pick [] (by kernel_rfl))
  refine Sx.rt 9 [] H (.int .i64 (-1)) ?_
  have p_c4 := Gx.k0 h_c4
  have p_c4_1 := Gx.k0 h_c4_1
  have p_c4_2 := Gx.k0 h_c4_2
  have p_c4_3 := Gx.k0 h_c4_3
  have p_c9 := Gx.k0 h_c9
  have p_c11 := Gx.k0 h_c11
  have p_c11_1 := Gx.k0 h_c11_1
  have e_ : ar kd = (-1 : Int) := by
    unfold ar; repeat' split
    all_goals omega
  simp only [e_] at hK; subst hL0
  exact hK _ (H.pick [] (by kernel_rfl))
theorem args_c (kd : Int) (w : World) (K : Ending → World → Prop) (H0 : Sp w []) (hK : ∀ w', Hs w [] w' [] → K (.returned (.int .i64 (ar kd))) w') :
    Calls Try.prog 46 #[.int .i64 kd] w K := by
  obtain ⟨L0, hL0, H⟩ : ∃ L0, L0 = [] ∧ Hs w L0 w [] := ⟨_, rfl, Hs.refl H0⟩
  refine Sx.en (vs := [.int .i64 kd]) 14 Try.func46 ?_
  refine Sx.br 19 (kd == (0 : Int)) (fun h_c4 => ?_) (fun h_c4 => ?_)
  · skip
    refine Sx.sl 0 4 (.bool (kd == (0 : Int))) (.bool true) (congrArg Value.bool h_c4) ?_
    refine Sx.rt 11 [] H (.int .i64 0) ?_
    have p_c4 := Gx.k1 h_c4
    have e_ : ar kd = (0 : Int) := by
      unfold ar; repeat' split
      all_goals omega
    simp only [e_] at hK; subst hL0
    exact hK _ (H.pick [] (by kernel_rfl))
  refine Sx.sl 0 4 (.bool (kd == (0 : Int))) (.bool false) (congrArg Value.bool h_c4) ?_
  refine Sx.br 6 (kd == (1 : Int)) (fun h_c4_1 => ?_) (fun h_c4_1 => ?_)
  · skip
    refine Sx.sl 0 4 (.bool (kd == (1 : Int))) (.bool true) (congrArg Value.bool h_c4_1) ?_
    refine Sx.rt 11 [] H (.int .i64 0) ?_
    have p_c4 := Gx.k0 h_c4
    have p_c4_1 := Gx.k1 h_c4_1
    have e_ : ar kd = (0 : Int) := by
      unfold ar; repeat' split
      all_goals omega
    simp only [e_] at hK; subst hL0
    exact hK _ (H.pick [] (by kernel_rfl))
  refine Sx.sl 0 4 (.bool (kd == (1 : Int))) (.bool false) (congrArg Value.bool h_c4_1) ?_
  refine Sx.br 6 (kd == (2 : Int)) (fun h_c4_2 => ?_) (fun h_c4_2 => ?_)
  · skip
    refine Sx.sl 0 4 (.bool (kd == (2 : Int))) (.bool true) (congrArg Value.bool h_c4_2) ?_
    refine Sx.rt 11 [] H (.int .i64 0) ?_
    have p_c4 := Gx.k0 h_c4
    have p_c4_1 := Gx.k0 h_c4_1
    have p_c4_2 := Gx.k1 h_c4_2
    have e_ : ar kd = (0 : Int) := by
      unfold ar; repeat' split
      all_goals omega
    simp only [e_] at hK; subst hL0
    exact hK _ (H.pick [] (by kernel_rfl))
  refine Sx.sl 0 4 (.bool (kd == (2 : Int))) (.bool false) (congrArg Value.bool h_c4_2) ?_
  refine Sx.br 5 (kd == (3 : Int)) (fun h_c4_3 => ?_) (fun h_c4_3 => ?_)
  · skip
    refine Sx.rt 8 [] H (.int .i64 0) ?_
    have p_c4 := Gx.k0 h_c4
    have p_c4_1 := Gx.k0 h_c4_1
    have p_c4_2 := Gx.k0 h_c4_2
    have p_c4_3 := Gx.k1 h_c4_3
    have e_ : ar kd = (0 : Int) := by
      unfold ar; repeat' split
      all_goals omega
    simp only [e_] at hK; subst hL0
    exact hK _ (H.pick [] (by kernel_rfl))
  refine Sx.br 6 (kd == (4 : Int)) (fun h_c9 => ?_) (fun h_c9 => ?_)
  · skip
    refine Sx.rt 8 [] H (.int .i64 1) ?_
    have p_c4 := Gx.k0 h_c4
    have p_c4_1 := Gx.k0 h_c4_1
    have p_c4_2 := Gx.k0 h_c4_2
    have p_c4_3 := Gx.k0 h_c4_3
    have p_c9 := Gx.k1 h_c9
    have e_ : ar kd = (1 : Int) := by
      unfold ar; repeat' split
      all_goals omega
    simp only [e_] at hK; subst hL0
    exact hK _ (H.pick [] (by kernel_rfl))
  refine Sx.br 7 (kd == (5 : Int)) (fun h_c11 => ?_) (fun h_c11 => ?_)
  · skip
    refine Sx.sl 0 11 (.bool (kd == (5 : Int))) (.bool true) (congrArg Value.bool h_c11) ?_
    refine Sx.rt 11 [] H (.int .i64 2) ?_
    have p_c4 := Gx.k0 h_c4
    have p_c4_1 := Gx.k0 h_c4_1
    have p_c4_2 := Gx.k0 h_c4_2
    have p_c4_3 := Gx.k0 h_c4_3
    have p_c9 := Gx.k0 h_c9
    have p_c11 := Gx.k1 h_c11
    have e_ : ar kd = (2 : Int) := by
      unfold ar; repeat' split
      all_goals omega
    simp only [e_] at hK; subst hL0
    exact hK _ (H.pick [] (by kernel_rfl))
  refine Sx.sl 0 11 (.bool (kd == (5 : Int))) (.bool false) (congrArg Value.bool h_c11) ?_
  refine Sx.br 5 (kd == (6 : Int)) (fun h_c11_1 => ?_) (fun h_c11_1 => ?_)
  · skip
    refine Sx.rt 8 [] H (.int .i64 2) ?_
    have p_c4 := Gx.k0 h_c4
    have p_c4_1 := Gx.k0 h_c4_1
    have p_c4_2 := Gx.k0 h_c4_2
    have p_c4_3 := Gx.k0 h_c4_3
    have p_c9 := Gx.k0 h_c9
    have p_c11 := Gx.k0 h_c11
    have p_c11_1 := Gx.k1 h_c11_1
    have e_ : ar kd = (2 : Int) := by
      unfold ar; repeat' split
      all_goals omega
    simp only [e_] at hK; subst hL0
    exact hK _ (H.pick [] (by kernel_rfl))
  refine Sx.rt 9 [] H (.int .i64 (-1)) ?_
  have p_c4 := Gx.k0 h_c4
  have p_c4_1 := Gx.k0 h_c4_1
  have p_c4_2 := Gx.k0 h_c4_2
  have p_c4_3 := Gx.k0 h_c4_3
  have p_c9 := Gx.k0 h_c9
  have p_c11 := Gx.k0 h_c11
  have p_c11_1 := Gx.k0 h_c11_1
  have e_ : ar kd = (-1 : Int) := by
    unfold ar; repeat' split
    all_goals omega
  simp only [e_] at hK; subst hL0
  exact hK _ (H.pick [] (by kernel_rfl))
set_option maxHeartbeats 16000000 in
theorem proper_p_s (k : Nat) (ih : ∀ (Sy : Nat → Prop) (kd u row : Int) (ops : List Nm) (args : List Tr) (p : Tv) (left : Int) (w : World) (K : Ending → World → Prop) (H0 : Sp w [trI Sy p (Tr.mk kd u row ops args)]) (hk : left < ((k : Nat) : Int) ∧ 0 < k) (hl : -9223372036854775808 ≤ left ∧ left ≤ 300) (hK : ∀ (z : Int) (b : Bool) w', Hs w [trI Sy p (Tr.mk kd u row ops args)] w' [trI Sy p (Tr.mk kd u row ops args)] → (Said (Tr.mk kd u row ops args) left z b) → K (.returned (.tuple #[.int .i64 z, .bool b])) w'),
    Calls Try.prog 11 #[.agg #[.int .i64 kd, .int .i64 u, .int .i64 row, .slice p.A p.na p.ca, .slice p.B p.nb p.cb], .int .i64 left] w K) (Sy : Nat → Prop) (kd u row : Int) (ops : List Nm) (args : List Tr) (p : Tv) (left : Int) (w : World) (K : Ending → World → Prop) (H0 : Sp w [trI Sy p (Tr.mk kd u row ops args)]) (hk : left < (((k + 1) : Nat) : Int) ∧ 0 < (k + 1)) (hl : -9223372036854775808 ≤ left ∧ left ≤ 300) (hK : ∀ (z : Int) (b : Bool) w', Hs w [trI Sy p (Tr.mk kd u row ops args)] w' [trI Sy p (Tr.mk kd u row ops args)] → (Said (Tr.mk kd u row ops args) left z b) → K (.returned (.tuple #[.int .i64 z, .bool b])) w') :
    Calls Try.prog 11 #[.agg #[.int .i64 kd, .int .i64 u, .int .i64 row, .slice p.A p.na p.ca, .slice p.B p.nb p.cb], .int .i64 left] w K := by
  obtain ⟨L0, hL0, H⟩ : ∃ L0, L0 = [trI Sy p (Tr.mk kd u row ops args)] ∧ Hs w L0 w [trI Sy p (Tr.mk kd u row ops args)] := ⟨_, rfl, Hs.refl H0⟩
  refine Sx.en (vs := [.agg #[.int .i64 kd, .int .i64 u, .int .i64 row, .slice p.A p.na p.ca, .slice p.B p.nb p.cb], .int .i64 left]) 129 Try.func11 ?_
  obtain ⟨hst, hna, hca, hnb, hkid⟩ := (tr_at (S := Sy) (p := p) (t := (Tr.mk kd u row ops args)) H 0 (by kernel_rfl)).open
  have har := ar_cs kd
  have hv0 : kd = 0 → ar kd = 0 := fun e => by rw [e]; rfl
  rcases (by omega : left < 1 ∨ (1 ≤ left ∧ ¬ (args.length : Int) = ar kd) ∨ (1 ≤ left ∧ (args.length : Int) = ar kd ∧ kd = 0 ∧ ¬ 1 ≤ u) ∨ (1 ≤ left ∧ (args.length : Int) = ar kd ∧ kd = 0 ∧ 1 ≤ u ∧ ¬ u ≤ 1000000000) ∨ (1 ≤ left ∧ (args.length : Int) = ar kd ∧ kd = 0 ∧ (1 ≤ u ∧ u ≤ 1000000000) ∧ ¬ ops.length = 0) ∨ (1 ≤ left ∧ (args.length : Int) = ar kd ∧ kd = 0 ∧ (1 ≤ u ∧ u ≤ 1000000000) ∧ ops.length = 0) ∨ (1 ≤ left ∧ (args.length : Int) = ar kd ∧ ¬ kd = 0)) with hA | ⟨hA, hB⟩ | ⟨hA, hB, hC, hD⟩ | ⟨hA, hB, hC, hD, hE⟩ | ⟨hA, hB, hC, hD, hE⟩ | ⟨hA, hB, hC, hD, hE⟩ | ⟨hA, hB, hC⟩
  · skip
    refine Sx.nw 2 H fun k1 w1 H1 => ?_
    refine Sx.dr 6 H1 [] [] (LJ := []) (by kernel_rfl) fun w2 H2 => ?_
    refine Sx.tk [(0, none)] (fun _ => (Sx.spN (by kernel_rfl))) ?_
    refine Sx.tva 1 [] (.bool (decide (left < (1 : Int)))) (.bool true) (dT (by omega)) (fun _ => (Sx.spN (by kernel_rfl))) ?_
    refine Sx.tk [(2, none), (3, none), (4, none), (5, none), (6, none), (7, none), (8, none), (9, none), (10, none)] (fun _ => (Sx.spN (by kernel_rfl))) ?_
    refine Sx.dn ?_
    refine Sx.rt 10 [] H2 (.tuple #[.int .i64 0, .bool false]) ?_
    subst hL0
    exact hK _ _ _ (H2.pick (a := [trI Sy p (Tr.mk kd u row ops args)]) [0] (by kernel_rfl)) (said_no fun c k => by have := k.pos; omega)
  · skip
    refine Sx.nw 2 H fun k2 w3 H3 => ?_
    refine Sx.dr 6 H3 [1] [] (LJ := [.blk k2 (.cells #[.int .i64 kd, .int .i64 u, .int .i64 row, .slice p.A p.na p.ca, .slice p.B p.nb p.cb] 32)]) (by kernel_rfl) fun w4 H4 => ?_
    refine Sx.tk [(0, none)] (fun _ => (H4.sub [1] (by kernel_rfl))) ?_
    refine Sx.tva 1 [] (.bool (decide (left < (1 : Int)))) (.bool false) (dF (by omega)) (fun _ => (H4.sub [1] (by kernel_rfl))) ?_
    refine Sx.tk [(2, none), (3, none), (4, some (0, [])), (5, none), (6, none), (7, some (0, []))] (fun _ => (H4.sub [1] (by kernel_rfl))) ?_
    refine Sx.nmx ?_
    intro zx1
    refine Sx.on 8 ?_
    refine Sx.c 0 [] H4 (fun Hp1 R1 hR1 => arity_p kd w4 R1 Hp1  (fun w5 G1 => hR1 _ _ _ G1 fun H5 => ?_))
    refine Sx.bk (x := zx1) 8 (fun _ => (H5.sub [1] (by kernel_rfl))) ?_
    refine Sx.tva 9 [] (.bool (((p.nb : Nat) : Int) != (ar kd))) (.bool true) (nT (by omega)) (fun _ => (H5.sub [1] (by kernel_rfl))) ?_
    refine Sx.tk [(10, none)] (fun _ => (H5.sub [1] (by kernel_rfl))) ?_
    refine Sx.dn ?_
    refine Sx.rt 10 [] H5 (.tuple #[.int .i64 0, .bool false]) ?_
    subst hL0
    exact hK _ _ _ (H5.pick (a := [trI Sy p (Tr.mk kd u row ops args)]) [0] (by kernel_rfl)) (said_no fun c k => absurd k.head.1.len hB)
  · skip
    refine Sx.nw 2 H fun k3 w6 H6 => ?_
    refine Sx.dr 6 H6 [1] [] (LJ := [.blk k3 (.cells #[.int .i64 kd, .int .i64 u, .int .i64 row, .slice p.A p.na p.ca, .slice p.B p.nb p.cb] 32)]) (by kernel_rfl) fun w7 H7 => ?_
    refine Sx.tk [(0, none)] (fun _ => (H7.sub [1] (by kernel_rfl))) ?_
    refine Sx.tva 1 [] (.bool (decide (left < (1 : Int)))) (.bool false) (dF (by omega)) (fun _ => (H7.sub [1] (by kernel_rfl))) ?_
    refine Sx.tk [(2, none), (3, none), (4, some (0, [])), (5, none), (6, none), (7, some (0, []))] (fun _ => (H7.sub [1] (by kernel_rfl))) ?_
    refine Sx.nmx ?_
    intro zx2
    refine Sx.on 8 ?_
    refine Sx.c 0 [] H7 (fun Hp2 R2 hR2 => arity_p kd w7 R2 Hp2  (fun w8 G2 => hR2 _ _ _ G2 fun H8 => ?_))
    refine Sx.bk (x := zx2) 8 (fun _ => (H8.sub [1] (by kernel_rfl))) ?_
    refine Sx.tva 9 [] (.bool (((p.nb : Nat) : Int) != (ar kd))) (.bool false) (nF (by omega)) (fun _ => (H8.sub [1] (by kernel_rfl))) ?_
    refine Sx.tk [(10, none)] (fun _ => (H8.sub [1] (by kernel_rfl))) ?_
    refine Sx.dn ?_
    refine Sx.l 8 1 H8 ?_
    refine Sx.v 0 (.bool (kd == (0 : Int))) (.bool true) (eT (by omega)) ?_
    refine Sx.dr 4 H8 [1] [] (LJ := [.blk k3 (.cells #[.int .i64 kd, .int .i64 u, .int .i64 row, .slice p.A p.na p.ca, .slice p.B p.nb p.cb] 32)]) (by kernel_rfl) fun w9 H9 => ?_
    refine Sx.tk [(0, none), (1, some (0, []))] (fun _ => (H9.sub [1] (by kernel_rfl))) ?_
    refine Sx.tva 2 [] (.bool (decide (u ≥ (1 : Int)))) (.bool false) (dF (by omega)) (fun _ => (H9.sub [1] (by kernel_rfl))) ?_
    refine Sx.tk [(3, none), (4, none), (5, none), (6, none), (7, none), (8, none), (9, none), (10, none), (11, none), (12, none), (13, none), (14, none), (15, none), (16, none), (17, none), (18, none), (19, none), (20, none)] (fun _ => (H9.sub [1] (by kernel_rfl))) ?_
    refine Sx.dn ?_
    refine Sx.rt 3 [] H9 (.tuple #[.int .i64 1, .bool false]) ?_
    subst hL0
    exact hK _ _ _ (H9.pick (a := [trI Sy p (Tr.mk kd u row ops args)]) [0] (by kernel_rfl)) (said_no fun c k => by have := k.head.1.lin; omega)
  · skip
    refine Sx.nw 2 H fun k4 w10 H10 => ?_
    refine Sx.dr 6 H10 [1] [] (LJ := [.blk k4 (.cells #[.int .i64 kd, .int .i64 u, .int .i64 row, .slice p.A p.na p.ca, .slice p.B p.nb p.cb] 32)]) (by kernel_rfl) fun w11 H11 => ?_
    refine Sx.tk [(0, none)] (fun _ => (H11.sub [1] (by kernel_rfl))) ?_
    refine Sx.tva 1 [] (.bool (decide (left < (1 : Int)))) (.bool false) (dF (by omega)) (fun _ => (H11.sub [1] (by kernel_rfl))) ?_
    refine Sx.tk [(2, none), (3, none), (4, some (0, [])), (5, none), (6, none), (7, some (0, []))] (fun _ => (H11.sub [1] (by kernel_rfl))) ?_
    refine Sx.nmx ?_
    intro zx3
    refine Sx.on 8 ?_
    refine Sx.c 0 [] H11 (fun Hp3 R3 hR3 => arity_p kd w11 R3 Hp3  (fun w12 G3 => hR3 _ _ _ G3 fun H12 => ?_))
    refine Sx.bk (x := zx3) 8 (fun _ => (H12.sub [1] (by kernel_rfl))) ?_
    refine Sx.tva 9 [] (.bool (((p.nb : Nat) : Int) != (ar kd))) (.bool false) (nF (by omega)) (fun _ => (H12.sub [1] (by kernel_rfl))) ?_
    refine Sx.tk [(10, none)] (fun _ => (H12.sub [1] (by kernel_rfl))) ?_
    refine Sx.dn ?_
    refine Sx.l 8 1 H12 ?_
    refine Sx.v 0 (.bool (kd == (0 : Int))) (.bool true) (eT (by omega)) ?_
    refine Sx.dr 4 H12 [1] [] (LJ := [.blk k4 (.cells #[.int .i64 kd, .int .i64 u, .int .i64 row, .slice p.A p.na p.ca, .slice p.B p.nb p.cb] 32)]) (by kernel_rfl) fun w13 H13 => ?_
    refine Sx.tk [(0, none), (1, some (0, []))] (fun _ => (H13.sub [1] (by kernel_rfl))) ?_
    refine Sx.tva 2 [] (.bool (decide (u ≥ (1 : Int)))) (.bool true) (dT (by omega)) (fun _ => (H13.sub [1] (by kernel_rfl))) ?_
    refine Sx.tk [(3, none), (4, none), (5, some (0, []))] (fun _ => (H13.sub [1] (by kernel_rfl))) ?_
    refine Sx.tva 6 [] (.bool (decide (u ≤ (1000000000 : Int)))) (.bool false) (dF (by omega)) (fun _ => (H13.sub [1] (by kernel_rfl))) ?_
    refine Sx.tk [(7, none), (8, none), (9, none), (10, none), (11, none), (12, none), (13, none), (14, none), (15, none), (16, none), (17, none), (18, none), (19, none), (20, none)] (fun _ => (H13.sub [1] (by kernel_rfl))) ?_
    refine Sx.dn ?_
    refine Sx.rt 3 [] H13 (.tuple #[.int .i64 1, .bool false]) ?_
    subst hL0
    exact hK _ _ _ (H13.pick (a := [trI Sy p (Tr.mk kd u row ops args)]) [0] (by kernel_rfl)) (said_no fun c k => by have := k.head.1.lin; omega)
  · skip
    refine Sx.nw 2 H fun k5 w14 H14 => ?_
    refine Sx.dr 6 H14 [1] [] (LJ := [.blk k5 (.cells #[.int .i64 kd, .int .i64 u, .int .i64 row, .slice p.A p.na p.ca, .slice p.B p.nb p.cb] 32)]) (by kernel_rfl) fun w15 H15 => ?_
    refine Sx.tk [(0, none)] (fun _ => (H15.sub [1] (by kernel_rfl))) ?_
    refine Sx.tva 1 [] (.bool (decide (left < (1 : Int)))) (.bool false) (dF (by omega)) (fun _ => (H15.sub [1] (by kernel_rfl))) ?_
    refine Sx.tk [(2, none), (3, none), (4, some (0, [])), (5, none), (6, none), (7, some (0, []))] (fun _ => (H15.sub [1] (by kernel_rfl))) ?_
    refine Sx.nmx ?_
    intro zx4
    refine Sx.on 8 ?_
    refine Sx.c 0 [] H15 (fun Hp4 R4 hR4 => arity_p kd w15 R4 Hp4  (fun w16 G4 => hR4 _ _ _ G4 fun H16 => ?_))
    refine Sx.bk (x := zx4) 8 (fun _ => (H16.sub [1] (by kernel_rfl))) ?_
    refine Sx.tva 9 [] (.bool (((p.nb : Nat) : Int) != (ar kd))) (.bool false) (nF (by omega)) (fun _ => (H16.sub [1] (by kernel_rfl))) ?_
    refine Sx.tk [(10, none)] (fun _ => (H16.sub [1] (by kernel_rfl))) ?_
    refine Sx.dn ?_
    refine Sx.l 8 1 H16 ?_
    refine Sx.v 0 (.bool (kd == (0 : Int))) (.bool true) (eT (by omega)) ?_
    refine Sx.dr 4 H16 [1] [] (LJ := [.blk k5 (.cells #[.int .i64 kd, .int .i64 u, .int .i64 row, .slice p.A p.na p.ca, .slice p.B p.nb p.cb] 32)]) (by kernel_rfl) fun w17 H17 => ?_
    refine Sx.tk [(0, none), (1, some (0, []))] (fun _ => (H17.sub [1] (by kernel_rfl))) ?_
    refine Sx.tva 2 [] (.bool (decide (u ≥ (1 : Int)))) (.bool true) (dT (by omega)) (fun _ => (H17.sub [1] (by kernel_rfl))) ?_
    refine Sx.tk [(3, none), (4, none), (5, some (0, []))] (fun _ => (H17.sub [1] (by kernel_rfl))) ?_
    refine Sx.tva 6 [] (.bool (decide (u ≤ (1000000000 : Int)))) (.bool true) (dT (by omega)) (fun _ => (H17.sub [1] (by kernel_rfl))) ?_
    refine Sx.tk [(7, none), (8, none), (9, none), (10, some (0, [])), (11, none)] (fun _ => (H17.sub [1] (by kernel_rfl))) ?_
    refine Sx.tva 12 [] (.bool (((p.na : Nat) : Int) == (0 : Int))) (.bool false) (eF (by omega)) (fun _ => (H17.sub [1] (by kernel_rfl))) ?_
    refine Sx.tk [(13, none), (14, none), (15, none), (16, none), (17, none), (18, none), (19, none), (20, none)] (fun _ => (H17.sub [1] (by kernel_rfl))) ?_
    refine Sx.dn ?_
    refine Sx.rt 3 [] H17 (.tuple #[.int .i64 1, .bool false]) ?_
    subst hL0
    exact hK _ _ _ (H17.pick (a := [trI Sy p (Tr.mk kd u row ops args)]) [0] (by kernel_rfl)) (said_no fun c k => by have := k.head.1.lin; omega)
  · skip
    refine Sx.nw 2 H fun k6 w18 H18 => ?_
    refine Sx.dr 6 H18 [1] [] (LJ := [.blk k6 (.cells #[.int .i64 kd, .int .i64 u, .int .i64 row, .slice p.A p.na p.ca, .slice p.B p.nb p.cb] 32)]) (by kernel_rfl) fun w19 H19 => ?_
    refine Sx.tk [(0, none)] (fun _ => (H19.sub [1] (by kernel_rfl))) ?_
    refine Sx.tva 1 [] (.bool (decide (left < (1 : Int)))) (.bool false) (dF (by omega)) (fun _ => (H19.sub [1] (by kernel_rfl))) ?_
    refine Sx.tk [(2, none), (3, none), (4, some (0, [])), (5, none), (6, none), (7, some (0, []))] (fun _ => (H19.sub [1] (by kernel_rfl))) ?_
    refine Sx.nmx ?_
    intro zx5
    refine Sx.on 8 ?_
    refine Sx.c 0 [] H19 (fun Hp5 R5 hR5 => arity_p kd w19 R5 Hp5  (fun w20 G5 => hR5 _ _ _ G5 fun H20 => ?_))
    refine Sx.bk (x := zx5) 8 (fun _ => (H20.sub [1] (by kernel_rfl))) ?_
    refine Sx.tva 9 [] (.bool (((p.nb : Nat) : Int) != (ar kd))) (.bool false) (nF (by omega)) (fun _ => (H20.sub [1] (by kernel_rfl))) ?_
    refine Sx.tk [(10, none)] (fun _ => (H20.sub [1] (by kernel_rfl))) ?_
    refine Sx.dn ?_
    refine Sx.l 8 1 H20 ?_
    refine Sx.v 0 (.bool (kd == (0 : Int))) (.bool true) (eT (by omega)) ?_
    refine Sx.dr 4 H20 [1] [] (LJ := [.blk k6 (.cells #[.int .i64 kd, .int .i64 u, .int .i64 row, .slice p.A p.na p.ca, .slice p.B p.nb p.cb] 32)]) (by kernel_rfl) fun w21 H21 => ?_
    refine Sx.tk [(0, none), (1, some (0, []))] (fun _ => (H21.sub [1] (by kernel_rfl))) ?_
    refine Sx.tva 2 [] (.bool (decide (u ≥ (1 : Int)))) (.bool true) (dT (by omega)) (fun _ => (H21.sub [1] (by kernel_rfl))) ?_
    refine Sx.tk [(3, none), (4, none), (5, some (0, []))] (fun _ => (H21.sub [1] (by kernel_rfl))) ?_
    refine Sx.tva 6 [] (.bool (decide (u ≤ (1000000000 : Int)))) (.bool true) (dT (by omega)) (fun _ => (H21.sub [1] (by kernel_rfl))) ?_
    refine Sx.tk [(7, none), (8, none), (9, none), (10, some (0, [])), (11, none)] (fun _ => (H21.sub [1] (by kernel_rfl))) ?_
    refine Sx.tva 12 [] (.bool (((p.na : Nat) : Int) == (0 : Int))) (.bool true) (eT (by omega)) (fun _ => (H21.sub [1] (by kernel_rfl))) ?_
    refine Sx.tk [(13, none), (14, none), (15, none), (16, some (0, [])), (17, none), (18, none), (19, none), (20, none)] (fun _ => (H21.sub [1] (by kernel_rfl))) ?_
    refine Sx.dn ?_
    refine Sx.rt 3 [] H21 (.tuple #[.int .i64 1, .bool (row == (0 : Int))]) ?_
    subst hL0
    refine hK _ _ _ (H21.pick (a := [trI Sy p (Tr.mk kd u row ops args)]) [0] (by kernel_rfl)) ?_
    cases hq : (row == (0 : Int)) with
    | true =>
      have hq2 : row = 0 := by simpa using hq
      exact said_yes (c := 1) (fn_leaf (.of hB (by omega) (ops_nil hE)) (by have := hv0 hC; omega) hE) (by omega)
    | false =>
      have hq2 : ¬ row = 0 := by simpa using hq
      exact said_no fun c k => by have := k.head.1.lin; omega
  refine Sx.nw 2 H fun k7 w22 H22 => ?_
  refine Sx.dr 6 H22 [1] [] (LJ := [.blk k7 (.cells #[.int .i64 kd, .int .i64 u, .int .i64 row, .slice p.A p.na p.ca, .slice p.B p.nb p.cb] 32)]) (by kernel_rfl) fun w23 H23 => ?_
  refine Sx.tk [(0, none)] (fun _ => (H23.sub [1] (by kernel_rfl))) ?_
  refine Sx.tva 1 [] (.bool (decide (left < (1 : Int)))) (.bool false) (dF (by omega)) (fun _ => (H23.sub [1] (by kernel_rfl))) ?_
  refine Sx.tk [(2, none), (3, none), (4, some (0, [])), (5, none), (6, none), (7, some (0, []))] (fun _ => (H23.sub [1] (by kernel_rfl))) ?_
  refine Sx.nmx ?_
  intro zx6
  refine Sx.on 8 ?_
  refine Sx.c 0 [] H23 (fun Hp6 R6 hR6 => arity_p kd w23 R6 Hp6  (fun w24 G6 => hR6 _ _ _ G6 fun H24 => ?_))
  refine Sx.bk (x := zx6) 8 (fun _ => (H24.sub [1] (by kernel_rfl))) ?_
  refine Sx.tva 9 [] (.bool (((p.nb : Nat) : Int) != (ar kd))) (.bool false) (nF (by omega)) (fun _ => (H24.sub [1] (by kernel_rfl))) ?_
  refine Sx.tk [(10, none)] (fun _ => (H24.sub [1] (by kernel_rfl))) ?_
  refine Sx.dn ?_
  refine Sx.l 8 1 H24 ?_
  refine Sx.v 0 (.bool (kd == (0 : Int))) (.bool false) (eF (by omega)) ?_
  refine Sx.cut 6 (fun l' w' => l' = [(1, .int .i64 left), (2, .pointer (some ⟨k7, 0, none⟩)), (74, .bool ((((u != (0 : Int)) || ((kd != (6 : Int)) && ((decide (((p.na : Nat) : Int) > (0 : Int))) || (row != (0 : Int))))) || (decide (row < (0 : Int)))) || (decide (row > (1000000000 : Int)))))] ∧ w24 = w') (fun K1 hK1 => ?_) (fun b1 l1 w25 hI1 => ?_)
  · skip
    refine Sx.l 2 1 H24 ?_
    refine Sx.sp 2 49 (u != (0 : Int)) (fun h_g49 => ?_) (fun h_g49 => ?_)
    · skip
      exact Sx.to 26 [(1, .int .i64 left), (2, .pointer (some ⟨k7, 0, none⟩)), (74, .bool ((((u != (0 : Int)) || ((kd != (6 : Int)) && ((decide (((p.na : Nat) : Int) > (0 : Int))) || (row != (0 : Int))))) || (decide (row < (0 : Int)))) || (decide (row > (1000000000 : Int)))))] (hK1 _ _ _ ⟨rfl, rfl⟩) (h2 := (by rw [h_g49]; try kernel_rfl))
    refine Sx.l 1 1 H24 ?_
    refine Sx.sp 2 53 (kd != (6 : Int)) (fun h_g53 => ?_) (fun h_g53 => ?_)
    · skip
      refine Sx.l 1 1 H24 ?_
      refine Sx.sp 3 58 (decide (((p.na : Nat) : Int) > (0 : Int))) (fun h_g58 => ?_) (fun h_g58 => ?_)
      · skip
        exact Sx.to 17 [(1, .int .i64 left), (2, .pointer (some ⟨k7, 0, none⟩)), (74, .bool ((((u != (0 : Int)) || ((kd != (6 : Int)) && ((decide (((p.na : Nat) : Int) > (0 : Int))) || (row != (0 : Int))))) || (decide (row < (0 : Int)))) || (decide (row > (1000000000 : Int)))))] (hK1 _ _ _ ⟨rfl, rfl⟩) (h2 := (by rw [h_g49, h_g53, h_g58]; try kernel_rfl))
      refine Sx.l 1 1 H24 ?_
      refine Sx.sp 5 65 (row != (0 : Int)) (fun h_g65 => ?_) (fun h_g65 => ?_)
      · skip
        exact Sx.to 10 [(1, .int .i64 left), (2, .pointer (some ⟨k7, 0, none⟩)), (74, .bool ((((u != (0 : Int)) || ((kd != (6 : Int)) && ((decide (((p.na : Nat) : Int) > (0 : Int))) || (row != (0 : Int))))) || (decide (row < (0 : Int)))) || (decide (row > (1000000000 : Int)))))] (hK1 _ _ _ ⟨rfl, rfl⟩) (h2 := (by rw [h_g49, h_g53, h_g58, h_g65]; try kernel_rfl))
      refine Sx.l 1 1 H24 ?_
      refine Sx.sp 3 70 (decide (row < (0 : Int))) (fun h_g70 => ?_) (fun h_g70 => ?_)
      · skip
        exact Sx.to 5 [(1, .int .i64 left), (2, .pointer (some ⟨k7, 0, none⟩)), (74, .bool ((((u != (0 : Int)) || ((kd != (6 : Int)) && ((decide (((p.na : Nat) : Int) > (0 : Int))) || (row != (0 : Int))))) || (decide (row < (0 : Int)))) || (decide (row > (1000000000 : Int)))))] (hK1 _ _ _ ⟨rfl, rfl⟩) (h2 := (by rw [h_g49, h_g53, h_g58, h_g65, h_g70]; try kernel_rfl))
      refine Sx.l 1 1 H24 ?_
      exact Sx.to 3 [(1, .int .i64 left), (2, .pointer (some ⟨k7, 0, none⟩)), (74, .bool ((((u != (0 : Int)) || ((kd != (6 : Int)) && ((decide (((p.na : Nat) : Int) > (0 : Int))) || (row != (0 : Int))))) || (decide (row < (0 : Int)))) || (decide (row > (1000000000 : Int)))))] (hK1 _ _ _ ⟨rfl, rfl⟩) (h2 := (by rw [h_g49, h_g53, h_g58, h_g65, h_g70]; try kernel_rfl))
    refine Sx.l 13 1 H24 ?_
    refine Sx.sp 3 70 (decide (row < (0 : Int))) (fun h_g70 => ?_) (fun h_g70 => ?_)
    · skip
      exact Sx.to 5 [(1, .int .i64 left), (2, .pointer (some ⟨k7, 0, none⟩)), (74, .bool ((((u != (0 : Int)) || ((kd != (6 : Int)) && ((decide (((p.na : Nat) : Int) > (0 : Int))) || (row != (0 : Int))))) || (decide (row < (0 : Int)))) || (decide (row > (1000000000 : Int)))))] (hK1 _ _ _ ⟨rfl, rfl⟩) (h2 := (by rw [h_g49, h_g53, h_g70]; try kernel_rfl))
    refine Sx.l 1 1 H24 ?_
    exact Sx.to 3 [(1, .int .i64 left), (2, .pointer (some ⟨k7, 0, none⟩)), (74, .bool ((((u != (0 : Int)) || ((kd != (6 : Int)) && ((decide (((p.na : Nat) : Int) > (0 : Int))) || (row != (0 : Int))))) || (decide (row < (0 : Int)))) || (decide (row > (1000000000 : Int)))))] (hK1 _ _ _ ⟨rfl, rfl⟩) (h2 := (by rw [h_g49, h_g53, h_g70]; try kernel_rfl))
  obtain ⟨rfl, rfl⟩ := hI1
  refine Sx.br 0 ((((u != (0 : Int)) || ((kd != (6 : Int)) && ((decide (((p.na : Nat) : Int) > (0 : Int))) || (row != (0 : Int))))) || (decide (row < (0 : Int)))) || (decide (row > (1000000000 : Int)))) (fun h_c74 => ?_) (fun h_c74 => ?_)
  · skip
    refine Sx.rt 8 [] H24 (.tuple #[.int .i64 0, .bool false]) ?_
    have p_c74 := h_c74; try simp [-List.getD_eq_getElem?_getD] at p_c74
    subst hL0
    exact hK _ _ _ (H24.pick (a := [trI Sy p (Tr.mk kd u row ops args)]) [0] (by kernel_rfl)) (said_no fun c k => by have := k.head.1.lin; omega)
  have p_c74 := h_c74; try simp [-List.getD_eq_getElem?_getD] at p_c74
  have hHd : (kd = 0 → 1 ≤ u ∧ u ≤ 1000000000) ∧ (kd ≠ 0 → u = 0) ∧ (kd ≠ 6 → ops.length = 0 ∧ row = 0) ∧ 0 ≤ row ∧ row ≤ 1000000000 := by omega
  refine Sx.l 6 1 H24 ?_
  have H25 := H24.pick (a := [trI Sy p (Tr.mk kd u row ops args), .blk k7 (.cells #[.int .i64 kd, .int .i64 u, .int .i64 row, .slice p.A p.na p.ca, .slice p.B p.nb p.cb] 32)]) [0, 0] (by kernel_rfl)
  refine Sx.lp 5 (fun z l' w' => ∃ (i : Nat), l' = [(1, .int .i64 left), (2, .pointer (some ⟨k7, 0, none⟩)), (76, .slice p.A p.na p.ca), (77, .int .i64 ((p.na : Nat) : Int)), (78, .int .i64 ((i : Nat) : Int))] ∧ z = ops.length - i ∧ Hs w L0 w' [trI Sy p (Tr.mk kd u row ops args), .blk k7 (.cells #[.int .i64 kd, .int .i64 u, .int .i64 row, .slice p.A p.na p.ca, .slice p.B p.nb p.cb] 32)] ∧ (OpsTo ops i) ∧ (i ≤ ops.length)) _ [(1, .int .i64 left), (2, .pointer (some ⟨k7, 0, none⟩)), (76, .slice p.A p.na p.ca), (77, .int .i64 ((p.na : Nat) : Int)), (78, .int .i64 ((0 : Nat) : Int))] ⟨0, rfl, rfl, H25, (OpsTo.nil ops), (Nat.zero_le _)⟩ (fun b2 z1 l2 w26 hI2 K2 hK2 => ?_)
  obtain ⟨i, rfl, rfl, H26, hOT, hil⟩ := hI2
  rcases ops_cs hil with hx | ⟨hi0, s, hs1, hse⟩ | ⟨hi0, s, hs1, hse⟩ | ⟨j, r, s, hi0, hr1, hs1, hse⟩ | ⟨j, r, s, hi0, hr1, hs1, hse, hsl⟩ | ⟨j, r, s, hi0, hr1, hs1, hse, hsl⟩
  · skip
    refine Sx.v 2 (.bool (decide (((i : Nat) : Int) < ((p.na : Nat) : Int)))) (.bool false) (dF (by omega)) ?_
    refine Sx.l 12 1 H26 ?_
    refine Sx.v 1 (.int .i64 (IntKind.i64.wrap ((1 : Int) + ((p.na : Nat) : Int)))) (.int .i64 (nw p.na 0)) (congrArg (Value.int .i64) (nw_0 _)) ?_
    refine Sx.l 7 1 H26 ?_
    have hOK := hOT.done hx
    have H27 := H26.pick (a := [trI Sy p (Tr.mk kd u row ops args)]) [0] (by kernel_rfl)
    refine Sx.lp 5 (fun z l' w' => ∃ (i : Nat) (s : Nat), l' = [(1, .int .i64 left), (8, .int .i64 (nw p.na s)), (105, .slice p.B p.nb p.cb), (106, .int .i64 ((p.nb : Nat) : Int)), (107, .int .i64 ((i : Nat) : Int))] ∧ z = args.length - i ∧ Hs w L0 w' [trI Sy p (Tr.mk kd u row ops args)] ∧ (FNs args i s) ∧ (i ≤ args.length) ∧ ((i = 0 ∧ s = 0) ∨ ((1 + p.na + s : Nat) : Int) ≤ left)) _ [(1, .int .i64 left), (8, .int .i64 (nw p.na 0)), (105, .slice p.B p.nb p.cb), (106, .int .i64 ((p.nb : Nat) : Int)), (107, .int .i64 ((0 : Nat) : Int))] ⟨0, 0, rfl, rfl, H27, (FNs.nil args), (Nat.zero_le _), (.inl ⟨rfl, rfl⟩)⟩ (fun b3 z2 l3 w27 hI3 K3 hK3 => ?_)
    obtain ⟨i, s, rfl, rfl, H28, hFs, hil, hsb⟩ := hI3
    rcases Nat.lt_or_ge i args.length with hx2 | hx2
    · skip
      obtain ⟨lw, hlw, hl63, hlc⟩ := nw_sub (na := p.na) (s := s) (left := left) (by omega) (by omega) (by omega) (by omega)
      obtain ⟨⟨k0, u0, r0, o0, a0⟩, hti⟩ : ∃ t, args[i]? = some t := ⟨_, List.getElem?_eq_getElem hx2⟩
      obtain ⟨q, aq, haq, hcq, hq⟩ := hkid i _ hti
      obtain ⟨q, aq, haq, hcq, hq⟩ := (tr_at (S := Sy) (p := p) (t := (Tr.mk kd u row ops args)) H28 0 (by kernel_rfl)).open.2.2.2.2 i _ hti
      have H29 := H28.ro 0 (S := Sy) (A := fun w => TrIn w Sy p (Tr.mk kd u row ops args)) (B := fun w => TrIn w Sy q (Tr.mk k0 u0 r0 o0 a0)) (by kernel_rfl) hq (trI_loc _ _ _)
      refine Sx.v 2 (.bool (decide (((i : Nat) : Int) < ((p.nb : Nat) : Int)))) (.bool true) (dT (by omega)) ?_
      refine Sx.ia 10 aq i 5 p.nb p.cb haq (by omega) ?_
      refine Sx.lo (c := 5) (t := 32) 0 [.int .i64 k0, .int .i64 u0, .int .i64 r0, .slice q.A q.na q.ca, .slice q.B q.nb q.cb] (.agg #[.int .i64 k0, .int .i64 u0, .int .i64 r0, .slice q.A q.na q.ca, .slice q.B q.nb q.cb]) hcq ?_
      refine Sx.nw 0 H29 fun k8 w28 H30 => ?_
      refine Sx.s 0 2 H30 fun w29 H31 => ?_
      refine Sx.l 4 2 H31 ?_
      refine Sx.v 2 (.int .i64 (IntKind.i64.wrap (left - (nw p.na s)))) (.int .i64 lw) (congrArg (Value.int .i64) (hlw)) ?_
      refine Sx.c 0 [1] H31 (fun Hp7 R7 hR7 => ih Sy k0 u0 r0 o0 a0 q lw w29 R7 Hp7 (by omega) (by omega) (fun z3 b4 w30 G7 hS1 => hR7 _ _ _ G7 fun H32 => ?_))
      refine Sx.br 14 (!b4) (fun h_c120 => ?_) (fun h_c120 => ?_)
      · skip
        have hb0 : b4 = false := by cases b4 with
          | false => rfl
          | true => cases h_c120
        refine Sx.rt 13 [] H32 (.tuple #[.int .i64 0, .bool false]) ?_
        subst hL0
        exact hK _ _ _ (H32.pick (a := [trI Sy p (Tr.mk kd u row ops args)]) [1] (by kernel_rfl)) (said_no fun c k => by obtain ⟨c1, h1, h2⟩ := (hFs.ge hil k).2 _ hti; have := (hFs.ge hil k).1; have := h1.pos; have := hS1.n hb0 c1 h1; omega)
      have hb1 : b4 = true := by cases b4 with
        | true => rfl
        | false => cases h_c120
      obtain ⟨c1, hz1, hfn, hcl⟩ := hS1.y hb1
      subst hz1
      have had := nw_add (na := p.na) (s := s) (left := left) (by omega) (by omega) hlc hcl hfn.pos
      refine Sx.v 5 (.int .i64 (IntKind.i64.wrap ((nw p.na s) + ((c1 : Nat) : Int)))) (.int .i64 (nw p.na (s + c1))) (congrArg (Value.int .i64) (had.2.2)) ?_
      refine Sx.v 5 (.int .i64 (IntKind.i64.wrap (((i : Nat) : Int) + (1 : Int)))) (.int .i64 ((i + 1 : Nat) : Int)) (congrArg (Value.int .i64) (Gx.i64n (by omega) (by omega))) ?_
      have H33 := H32.pick (a := [trI Sy p (Tr.mk kd u row ops args)]) [1] (by kernel_rfl)
      exact Sx.to 2 [(1, .int .i64 left), (8, .int .i64 (nw p.na (s + c1))), (105, .slice p.B p.nb p.cb), (106, .int .i64 ((p.nb : Nat) : Int)), (107, .int .i64 (((i + 1) : Nat) : Int))] (hK3 _ _ _ _ (by omega) ⟨(i + 1), (s + c1), rfl, rfl, H33, (hFs.snoc hti hfn), (by omega), (.inr had.2.1)⟩)
    have hie : i = args.length := by omega
    refine Sx.v 2 (.bool (decide (((i : Nat) : Int) < ((p.nb : Nat) : Int)))) (.bool false) (dF (by omega)) ?_
    refine Sx.rt 20 [] H28 (.tuple #[.int .i64 (nw p.na s), .bool (decide ((nw p.na s) ≤ left))]) ?_
    subst hL0
    have ar6 : kd = 6 → ar kd = 2 := fun e => by rw [e]; rfl
    have hnw : nw p.na s = ((1 + ops.length + s : Nat) : Int) := by rcases nw_cs s (na := p.na) (by omega) with ⟨q, e⟩ | ⟨q, e⟩ <;> omega
    have hfn := (hie ▸ hFs : FNs args args.length s).done (.of hB hHd hOK)
    refine hK _ _ _ (H28.pick (a := [trI Sy p (Tr.mk kd u row ops args)]) [0] (by kernel_rfl)) ⟨fun h => ⟨1 + ops.length + s, hnw, hfn, ?_⟩, fun h c k => ?_⟩
    · have := of_decide_eq_true h; omega
    · have := of_decide_eq_false h; have := hfn.det k; omega
  · skip
    have hst1 := (tr_at (S := Sy) (p := p) (t := (Tr.mk kd u row ops args)) H26 0 (by kernel_rfl)).open.1
    obtain ⟨ys, hys, _, hcs⟩ := hst1 _ _ hs1
    have hlen := (List.getElem?_eq_some_iff.1 hs1).1
    subst hi0
    refine Sx.v 2 (.bool (decide ((0 : Int) < ((p.na : Nat) : Int)))) (.bool true) (dT (by omega)) ?_
    refine Sx.ia 11 ys 0 1 p.na p.ca hys (by omega) ?_
    refine Sx.lo (c := 1) (t := 9) 0 [.string s] (.string s) hcs ?_
    refine Sx.v 7 (.bool (s.toList == (⟨#[]⟩ : ByteArray).toList)) (.bool true) (em_t hse) ?_
    refine Sx.rt 29 [] H26 (.tuple #[.int .i64 0, .bool false]) ?_
    subst hL0
    exact hK _ _ _ (H26.pick (a := [trI Sy p (Tr.mk kd u row ops args)]) [0] (by kernel_rfl)) (said_no fun c k => absurd hse (k.head.1.ops.at hs1))
  · skip
    have hst1 := (tr_at (S := Sy) (p := p) (t := (Tr.mk kd u row ops args)) H26 0 (by kernel_rfl)).open.1
    obtain ⟨ys, hys, _, hcs⟩ := hst1 _ _ hs1
    have hlen := (List.getElem?_eq_some_iff.1 hs1).1
    subst hi0
    refine Sx.v 2 (.bool (decide ((0 : Int) < ((p.na : Nat) : Int)))) (.bool true) (dT (by omega)) ?_
    refine Sx.ia 11 ys 0 1 p.na p.ca hys (by omega) ?_
    refine Sx.lo (c := 1) (t := 9) 0 [.string s] (.string s) hcs ?_
    refine Sx.v 7 (.bool (s.toList == (⟨#[]⟩ : ByteArray).toList)) (.bool false) (em_f hse) ?_
    refine Sx.v 2 (.bool (decide ((0 : Int) > (0 : Int)))) (.bool false) (dF (by omega)) ?_
    have H34 := H26.pick (a := [trI Sy p (Tr.mk kd u row ops args), .blk k7 (.cells #[.int .i64 kd, .int .i64 u, .int .i64 row, .slice p.A p.na p.ca, .slice p.B p.nb p.cb] 32)]) [0, 0] (by kernel_rfl)
    exact Sx.to 21 [(1, .int .i64 left), (2, .pointer (some ⟨k7, 0, none⟩)), (76, .slice p.A p.na p.ca), (77, .int .i64 ((p.na : Nat) : Int)), (78, .int .i64 (((0 + 1) : Nat) : Int))] (hK2 _ _ _ _ (by omega) ⟨(0 + 1), rfl, rfl, H34, (OpsTo.one hs1 hse), hlen⟩)
  · skip
    have hst1 := (tr_at (S := Sy) (p := p) (t := (Tr.mk kd u row ops args)) H26 0 (by kernel_rfl)).open.1
    obtain ⟨ys, hys, _, hcs⟩ := hst1 _ _ hs1
    have hlen := (List.getElem?_eq_some_iff.1 hs1).1
    obtain ⟨yr, hyr, _, hcr⟩ := hst1 _ _ hr1
    subst hi0
    refine Sx.v 2 (.bool (decide (((j + 1 : Nat) : Int) < ((p.na : Nat) : Int)))) (.bool true) (dT (by omega)) ?_
    refine Sx.ia 11 ys (j + 1) 1 p.na p.ca hys (by omega) ?_
    refine Sx.lo (c := 1) (t := 9) 0 [.string s] (.string s) hcs ?_
    refine Sx.v 7 (.bool (s.toList == (⟨#[]⟩ : ByteArray).toList)) (.bool true) (em_t hse) ?_
    refine Sx.rt 29 [] H26 (.tuple #[.int .i64 0, .bool false]) ?_
    subst hL0
    exact hK _ _ _ (H26.pick (a := [trI Sy p (Tr.mk kd u row ops args)]) [0] (by kernel_rfl)) (said_no fun c k => absurd hse (k.head.1.ops.at hs1))
  · skip
    have hst1 := (tr_at (S := Sy) (p := p) (t := (Tr.mk kd u row ops args)) H26 0 (by kernel_rfl)).open.1
    obtain ⟨ys, hys, _, hcs⟩ := hst1 _ _ hs1
    have hlen := (List.getElem?_eq_some_iff.1 hs1).1
    obtain ⟨yr, hyr, _, hcr⟩ := hst1 _ _ hr1
    subst hi0
    refine Sx.v 2 (.bool (decide (((j + 1 : Nat) : Int) < ((p.na : Nat) : Int)))) (.bool true) (dT (by omega)) ?_
    refine Sx.ia 11 ys (j + 1) 1 p.na p.ca hys (by omega) ?_
    refine Sx.lo (c := 1) (t := 9) 0 [.string s] (.string s) hcs ?_
    refine Sx.v 7 (.bool (s.toList == (⟨#[]⟩ : ByteArray).toList)) (.bool false) (em_f hse) ?_
    refine Sx.v 2 (.bool (decide (((j + 1 : Nat) : Int) > (0 : Int)))) (.bool true) (dT (by omega)) ?_
    refine Sx.l 3 1 H26 ?_
    refine Sx.v 1 (.int .i64 (IntKind.i64.wrap (((j + 1 : Nat) : Int) - (1 : Int)))) (.int .i64 ((j : Nat) : Int)) (congrArg (Value.int .i64) (Gx.i64n (by omega) (by omega))) ?_
    refine Sx.ia 0 yr j 1 p.na p.ca hyr (by omega) ?_
    refine Sx.lo (c := 1) (t := 9) 0 [.string r] (.string r) hcr ?_
    refine Sx.v 0 (.bool (Go.Op.bytesLess s.toList r.toList)) (.bool true) (ltT hsl) ?_
    refine Sx.rt 17 [] H26 (.tuple #[.int .i64 0, .bool false]) ?_
    subst hL0
    exact hK _ _ _ (H26.pick (a := [trI Sy p (Tr.mk kd u row ops args)]) [0] (by kernel_rfl)) (said_no fun c k => absurd (k.head.1.ops.2 _ _ _ hr1 hs1) (by rw [hsl]; decide))
  have hst1 := (tr_at (S := Sy) (p := p) (t := (Tr.mk kd u row ops args)) H26 0 (by kernel_rfl)).open.1
  obtain ⟨ys, hys, _, hcs⟩ := hst1 _ _ hs1
  have hlen := (List.getElem?_eq_some_iff.1 hs1).1
  obtain ⟨yr, hyr, _, hcr⟩ := hst1 _ _ hr1
  subst hi0
  refine Sx.v 2 (.bool (decide (((j + 1 : Nat) : Int) < ((p.na : Nat) : Int)))) (.bool true) (dT (by omega)) ?_
  refine Sx.ia 11 ys (j + 1) 1 p.na p.ca hys (by omega) ?_
  refine Sx.lo (c := 1) (t := 9) 0 [.string s] (.string s) hcs ?_
  refine Sx.v 7 (.bool (s.toList == (⟨#[]⟩ : ByteArray).toList)) (.bool false) (em_f hse) ?_
  refine Sx.v 2 (.bool (decide (((j + 1 : Nat) : Int) > (0 : Int)))) (.bool true) (dT (by omega)) ?_
  refine Sx.l 3 1 H26 ?_
  refine Sx.v 1 (.int .i64 (IntKind.i64.wrap (((j + 1 : Nat) : Int) - (1 : Int)))) (.int .i64 ((j : Nat) : Int)) (congrArg (Value.int .i64) (Gx.i64n (by omega) (by omega))) ?_
  refine Sx.ia 0 yr j 1 p.na p.ca hyr (by omega) ?_
  refine Sx.lo (c := 1) (t := 9) 0 [.string r] (.string r) hcr ?_
  refine Sx.v 0 (.bool (Go.Op.bytesLess s.toList r.toList)) (.bool false) (ltF hsl) ?_
  refine Sx.v 9 (.int .i64 (IntKind.i64.wrap (((j + 1 : Nat) : Int) + (1 : Int)))) (.int .i64 (((j + 1) + 1 : Nat) : Int)) (congrArg (Value.int .i64) (Gx.i64n (by omega) (by omega))) ?_
  have H35 := H26.pick (a := [trI Sy p (Tr.mk kd u row ops args), .blk k7 (.cells #[.int .i64 kd, .int .i64 u, .int .i64 row, .slice p.A p.na p.ca, .slice p.B p.nb p.cb] 32)]) [0, 0] (by kernel_rfl)
  exact Sx.to 2 [(1, .int .i64 left), (2, .pointer (some ⟨k7, 0, none⟩)), (76, .slice p.A p.na p.ca), (77, .int .i64 ((p.na : Nat) : Int)), (78, .int .i64 (((j + 1 + 1) : Nat) : Int))] (hK2 _ _ _ _ (by omega) ⟨(j + 1 + 1), rfl, rfl, H35, (hOT.more hr1 hs1 hse hsl), hlen⟩)
theorem proper_p (k : Nat) : ∀ (Sy : Nat → Prop) (kd u row : Int) (ops : List Nm) (args : List Tr) (p : Tv) (left : Int) (w : World) (K : Ending → World → Prop) (H0 : Sp w [trI Sy p (Tr.mk kd u row ops args)]) (hk : left < ((k : Nat) : Int) ∧ 0 < k) (hl : -9223372036854775808 ≤ left ∧ left ≤ 300) (hK : ∀ (z : Int) (b : Bool) w', Hs w [trI Sy p (Tr.mk kd u row ops args)] w' [trI Sy p (Tr.mk kd u row ops args)] → (Said (Tr.mk kd u row ops args) left z b) → K (.returned (.tuple #[.int .i64 z, .bool b])) w'),
    Calls Try.prog 11 #[.agg #[.int .i64 kd, .int .i64 u, .int .i64 row, .slice p.A p.na p.ca, .slice p.B p.nb p.cb], .int .i64 left] w K := by
  induction k with
  | zero => intro Sy kd u row ops args p left w K H0 hk; exact absurd hk.2 (by omega)
  | succ k ih => exact proper_p_s k ih
set_option maxHeartbeats 16000000 in
theorem proper_c_s (k : Nat) (ih : ∀ (Sy : Nat → Prop) (kd u row : Int) (ops : List Nm) (args : List Tr) (p : Tv) (deep : Nat) (w : World) (K : Ending → World → Prop) (H0 : Sp w [trI Sy p (Tr.mk kd u row ops args)]) (hk : 302 ≤ deep + k) (hl : deep ≤ 301) (hK : ∀ (z : Int) (b : Bool) w', Hs w [trI Sy p (Tr.mk kd u row ops args)] w' [trI Sy p (Tr.mk kd u row ops args)] → (SaidD (Tr.mk kd u row ops args) deep z b) → K (.returned (.tuple #[.int .i64 z, .bool b])) w'),
    Calls Try.prog 24 #[.agg #[.int .i64 kd, .int .i64 u, .int .i64 row, .slice p.A p.na p.ca, .slice p.B p.nb p.cb], .int .i64 ((deep : Nat) : Int)] w K) (Sy : Nat → Prop) (kd u row : Int) (ops : List Nm) (args : List Tr) (p : Tv) (deep : Nat) (w : World) (K : Ending → World → Prop) (H0 : Sp w [trI Sy p (Tr.mk kd u row ops args)]) (hk : 302 ≤ deep + (k + 1)) (hl : deep ≤ 301) (hK : ∀ (z : Int) (b : Bool) w', Hs w [trI Sy p (Tr.mk kd u row ops args)] w' [trI Sy p (Tr.mk kd u row ops args)] → (SaidD (Tr.mk kd u row ops args) deep z b) → K (.returned (.tuple #[.int .i64 z, .bool b])) w') :
    Calls Try.prog 24 #[.agg #[.int .i64 kd, .int .i64 u, .int .i64 row, .slice p.A p.na p.ca, .slice p.B p.nb p.cb], .int .i64 ((deep : Nat) : Int)] w K := by
  obtain ⟨L0, hL0, H⟩ : ∃ L0, L0 = [trI Sy p (Tr.mk kd u row ops args)] ∧ Hs w L0 w [trI Sy p (Tr.mk kd u row ops args)] := ⟨_, rfl, Hs.refl H0⟩
  refine Sx.en (vs := [.agg #[.int .i64 kd, .int .i64 u, .int .i64 row, .slice p.A p.na p.ca, .slice p.B p.nb p.cb], .int .i64 ((deep : Nat) : Int)]) 145 Try.func24 ?_
  obtain ⟨hst, hna, hca, hnb, hkid⟩ := (tr_at (S := Sy) (p := p) (t := (Tr.mk kd u row ops args)) H 0 (by kernel_rfl)).open
  have har := ar_cs kd
  rcases (by omega : 300 < deep ∨ (deep ≤ 300 ∧ ¬ (args.length : Int) = ar kd) ∨ (deep ≤ 300 ∧ (args.length : Int) = ar kd ∧ 300 < ops.length) ∨ (deep ≤ 300 ∧ (args.length : Int) = ar kd ∧ ops.length ≤ 300 ∧ kd = 0) ∨ (deep ≤ 300 ∧ (args.length : Int) = ar kd ∧ ops.length ≤ 300 ∧ kd = 6) ∨ (deep ≤ 300 ∧ (args.length : Int) = ar kd ∧ ops.length ≤ 300 ∧ ¬ kd = 0 ∧ ¬ kd = 6)) with hA | ⟨hA, hB⟩ | ⟨hA, hB, hC⟩ | ⟨hA, hB, hC, hD⟩ | ⟨hA, hB, hC, hD⟩ | ⟨hA, hB, hC, hD, hE⟩
  · skip
    refine Sx.nw 2 H fun k1 w1 H1 => ?_
    refine Sx.dr 6 H1 [] [] (LJ := []) (by kernel_rfl) fun w2 H2 => ?_
    refine Sx.tk [(0, none)] (fun _ => (Sx.spN (by kernel_rfl))) ?_
    refine Sx.tva 1 [] (.bool (decide (((deep : Nat) : Int) > (300 : Int)))) (.bool true) (dT (by omega)) (fun _ => (Sx.spN (by kernel_rfl))) ?_
    refine Sx.tk [(2, none), (3, none), (4, none), (5, none), (6, none), (7, none), (8, none), (9, none), (10, none), (11, none), (12, none), (13, none), (14, none), (15, none), (16, none)] (fun _ => (Sx.spN (by kernel_rfl))) ?_
    refine Sx.dn ?_
    refine Sx.rt 10 [] H2 (.tuple #[.int .i64 0, .bool false]) ?_
    subst hL0
    exact hK _ _ _ (H2.pick (a := [trI Sy p (Tr.mk kd u row ops args)]) [0] (by kernel_rfl)) (saidD_no (fun c k => by have := k.pos; omega) ⟨by omega, by omega⟩)
  · skip
    refine Sx.nw 2 H fun k2 w3 H3 => ?_
    refine Sx.dr 6 H3 [1] [] (LJ := [.blk k2 (.cells #[.int .i64 kd, .int .i64 u, .int .i64 row, .slice p.A p.na p.ca, .slice p.B p.nb p.cb] 32)]) (by kernel_rfl) fun w4 H4 => ?_
    refine Sx.tk [(0, none)] (fun _ => (H4.sub [1] (by kernel_rfl))) ?_
    refine Sx.tva 1 [] (.bool (decide (((deep : Nat) : Int) > (300 : Int)))) (.bool false) (dF (by omega)) (fun _ => (H4.sub [1] (by kernel_rfl))) ?_
    refine Sx.tk [(2, none), (3, none), (4, some (0, [])), (5, none), (6, none), (7, some (0, []))] (fun _ => (H4.sub [1] (by kernel_rfl))) ?_
    refine Sx.nmx ?_
    intro zx1
    refine Sx.on 8 ?_
    refine Sx.c 0 [] H4 (fun Hp1 R1 hR1 => args_c kd w4 R1 Hp1  (fun w5 G1 => hR1 _ _ _ G1 fun H5 => ?_))
    refine Sx.bk (x := zx1) 8 (fun _ => (H5.sub [1] (by kernel_rfl))) ?_
    refine Sx.tva 9 [] (.bool (((p.nb : Nat) : Int) != (ar kd))) (.bool true) (nT (by omega)) (fun _ => (H5.sub [1] (by kernel_rfl))) ?_
    refine Sx.tk [(10, none), (11, none), (12, none), (13, none), (14, none), (15, none), (16, none)] (fun _ => (H5.sub [1] (by kernel_rfl))) ?_
    refine Sx.dn ?_
    refine Sx.rt 10 [] H5 (.tuple #[.int .i64 0, .bool false]) ?_
    subst hL0
    exact hK _ _ _ (H5.pick (a := [trI Sy p (Tr.mk kd u row ops args)]) [0] (by kernel_rfl)) (saidD_no (fun c k => absurd k.head.1.len hB) ⟨by omega, by omega⟩)
  · skip
    refine Sx.nw 2 H fun k3 w6 H6 => ?_
    refine Sx.dr 6 H6 [1] [] (LJ := [.blk k3 (.cells #[.int .i64 kd, .int .i64 u, .int .i64 row, .slice p.A p.na p.ca, .slice p.B p.nb p.cb] 32)]) (by kernel_rfl) fun w7 H7 => ?_
    refine Sx.tk [(0, none)] (fun _ => (H7.sub [1] (by kernel_rfl))) ?_
    refine Sx.tva 1 [] (.bool (decide (((deep : Nat) : Int) > (300 : Int)))) (.bool false) (dF (by omega)) (fun _ => (H7.sub [1] (by kernel_rfl))) ?_
    refine Sx.tk [(2, none), (3, none), (4, some (0, [])), (5, none), (6, none), (7, some (0, []))] (fun _ => (H7.sub [1] (by kernel_rfl))) ?_
    refine Sx.nmx ?_
    intro zx2
    refine Sx.on 8 ?_
    refine Sx.c 0 [] H7 (fun Hp2 R2 hR2 => args_c kd w7 R2 Hp2  (fun w8 G2 => hR2 _ _ _ G2 fun H8 => ?_))
    refine Sx.bk (x := zx2) 8 (fun _ => (H8.sub [1] (by kernel_rfl))) ?_
    refine Sx.tva 9 [] (.bool (((p.nb : Nat) : Int) != (ar kd))) (.bool false) (nF (by omega)) (fun _ => (H8.sub [1] (by kernel_rfl))) ?_
    refine Sx.tk [(10, none), (11, none), (12, none), (13, some (0, [])), (14, none)] (fun _ => (H8.sub [1] (by kernel_rfl))) ?_
    refine Sx.tva 15 [] (.bool (decide (((p.na : Nat) : Int) > (300 : Int)))) (.bool true) (dT (by omega)) (fun _ => (H8.sub [1] (by kernel_rfl))) ?_
    refine Sx.tk [(16, none)] (fun _ => (H8.sub [1] (by kernel_rfl))) ?_
    refine Sx.dn ?_
    refine Sx.rt 10 [] H8 (.tuple #[.int .i64 0, .bool false]) ?_
    subst hL0
    exact hK _ _ _ (H8.pick (a := [trI Sy p (Tr.mk kd u row ops args)]) [0] (by kernel_rfl)) (saidD_no (fun c k => by have := k.head.2; omega) ⟨by omega, by omega⟩)
  · skip
    refine Sx.nw 2 H fun k4 w9 H9 => ?_
    refine Sx.dr 6 H9 [1] [] (LJ := [.blk k4 (.cells #[.int .i64 kd, .int .i64 u, .int .i64 row, .slice p.A p.na p.ca, .slice p.B p.nb p.cb] 32)]) (by kernel_rfl) fun w10 H10 => ?_
    refine Sx.tk [(0, none)] (fun _ => (H10.sub [1] (by kernel_rfl))) ?_
    refine Sx.tva 1 [] (.bool (decide (((deep : Nat) : Int) > (300 : Int)))) (.bool false) (dF (by omega)) (fun _ => (H10.sub [1] (by kernel_rfl))) ?_
    refine Sx.tk [(2, none), (3, none), (4, some (0, [])), (5, none), (6, none), (7, some (0, []))] (fun _ => (H10.sub [1] (by kernel_rfl))) ?_
    refine Sx.nmx ?_
    intro zx3
    refine Sx.on 8 ?_
    refine Sx.c 0 [] H10 (fun Hp3 R3 hR3 => args_c kd w10 R3 Hp3  (fun w11 G3 => hR3 _ _ _ G3 fun H11 => ?_))
    refine Sx.bk (x := zx3) 8 (fun _ => (H11.sub [1] (by kernel_rfl))) ?_
    refine Sx.tva 9 [] (.bool (((p.nb : Nat) : Int) != (ar kd))) (.bool false) (nF (by omega)) (fun _ => (H11.sub [1] (by kernel_rfl))) ?_
    refine Sx.tk [(10, none), (11, none), (12, none), (13, some (0, [])), (14, none)] (fun _ => (H11.sub [1] (by kernel_rfl))) ?_
    refine Sx.tva 15 [] (.bool (decide (((p.na : Nat) : Int) > (300 : Int)))) (.bool false) (dF (by omega)) (fun _ => (H11.sub [1] (by kernel_rfl))) ?_
    refine Sx.tk [(16, none)] (fun _ => (H11.sub [1] (by kernel_rfl))) ?_
    refine Sx.dn ?_
    refine Sx.l 7 1 H11 ?_
    refine Sx.v 0 (.bool (kd == (0 : Int))) (.bool true) (eT (by omega)) ?_
    refine Sx.l 6 1 H11 ?_
    refine Sx.v 0 (.bool (kd == (6 : Int))) (.bool false) (eF (by omega)) ?_
    refine Sx.cut 4 (fun l' w' => l' = [(1, .int .i64 ((deep : Nat) : Int)), (2, .pointer (some ⟨k4, 0, none⟩)), (80, .bool ((((((decide (u < (1 : Int))) || (decide (u > (1000000000 : Int)))) || false) || ((decide (((p.na : Nat) : Int) > (0 : Int))) || (row != (0 : Int)))) || (decide (row < (0 : Int)))) || (decide (row > (1000000000 : Int)))))] ∧ w11 = w') (fun K1 hK1 => ?_) (fun b1 l1 w12 hI1 => ?_)
    · skip
      refine Sx.l 4 1 H11 ?_
      refine Sx.sp 2 41 (decide (u < (1 : Int))) (fun h_g41 => ?_) (fun h_g41 => ?_)
      · skip
        exact Sx.to 40 [(1, .int .i64 ((deep : Nat) : Int)), (2, .pointer (some ⟨k4, 0, none⟩)), (80, .bool ((((((decide (u < (1 : Int))) || (decide (u > (1000000000 : Int)))) || false) || ((decide (((p.na : Nat) : Int) > (0 : Int))) || (row != (0 : Int)))) || (decide (row < (0 : Int)))) || (decide (row > (1000000000 : Int)))))] (hK1 _ _ _ ⟨rfl, rfl⟩) (h2 := (by rw [h_g41]; try kernel_rfl))
      refine Sx.l 1 1 H11 ?_
      refine Sx.sp 4 47 (decide (u > (1000000000 : Int))) (fun h_g47 => ?_) (fun h_g47 => ?_)
      · skip
        exact Sx.to 34 [(1, .int .i64 ((deep : Nat) : Int)), (2, .pointer (some ⟨k4, 0, none⟩)), (80, .bool ((((((decide (u < (1 : Int))) || (decide (u > (1000000000 : Int)))) || false) || ((decide (((p.na : Nat) : Int) > (0 : Int))) || (row != (0 : Int)))) || (decide (row < (0 : Int)))) || (decide (row > (1000000000 : Int)))))] (hK1 _ _ _ ⟨rfl, rfl⟩) (h2 := (by rw [h_g41, h_g47]; try kernel_rfl))
      refine Sx.l 13 1 H11 ?_
      refine Sx.sp 3 64 (decide (((p.na : Nat) : Int) > (0 : Int))) (fun h_g64 => ?_) (fun h_g64 => ?_)
      · skip
        exact Sx.to 17 [(1, .int .i64 ((deep : Nat) : Int)), (2, .pointer (some ⟨k4, 0, none⟩)), (80, .bool ((((((decide (u < (1 : Int))) || (decide (u > (1000000000 : Int)))) || false) || ((decide (((p.na : Nat) : Int) > (0 : Int))) || (row != (0 : Int)))) || (decide (row < (0 : Int)))) || (decide (row > (1000000000 : Int)))))] (hK1 _ _ _ ⟨rfl, rfl⟩) (h2 := (by rw [h_g41, h_g47, h_g64]; try kernel_rfl))
      refine Sx.l 1 1 H11 ?_
      refine Sx.sp 5 71 (row != (0 : Int)) (fun h_g71 => ?_) (fun h_g71 => ?_)
      · skip
        exact Sx.to 10 [(1, .int .i64 ((deep : Nat) : Int)), (2, .pointer (some ⟨k4, 0, none⟩)), (80, .bool ((((((decide (u < (1 : Int))) || (decide (u > (1000000000 : Int)))) || false) || ((decide (((p.na : Nat) : Int) > (0 : Int))) || (row != (0 : Int)))) || (decide (row < (0 : Int)))) || (decide (row > (1000000000 : Int)))))] (hK1 _ _ _ ⟨rfl, rfl⟩) (h2 := (by rw [h_g41, h_g47, h_g64, h_g71]; try kernel_rfl))
      refine Sx.l 1 1 H11 ?_
      refine Sx.sp 3 76 (decide (row < (0 : Int))) (fun h_g76 => ?_) (fun h_g76 => ?_)
      · skip
        exact Sx.to 5 [(1, .int .i64 ((deep : Nat) : Int)), (2, .pointer (some ⟨k4, 0, none⟩)), (80, .bool ((((((decide (u < (1 : Int))) || (decide (u > (1000000000 : Int)))) || false) || ((decide (((p.na : Nat) : Int) > (0 : Int))) || (row != (0 : Int)))) || (decide (row < (0 : Int)))) || (decide (row > (1000000000 : Int)))))] (hK1 _ _ _ ⟨rfl, rfl⟩) (h2 := (by rw [h_g41, h_g47, h_g64, h_g71, h_g76]; try kernel_rfl))
      refine Sx.l 1 1 H11 ?_
      exact Sx.to 3 [(1, .int .i64 ((deep : Nat) : Int)), (2, .pointer (some ⟨k4, 0, none⟩)), (80, .bool ((((((decide (u < (1 : Int))) || (decide (u > (1000000000 : Int)))) || false) || ((decide (((p.na : Nat) : Int) > (0 : Int))) || (row != (0 : Int)))) || (decide (row < (0 : Int)))) || (decide (row > (1000000000 : Int)))))] (hK1 _ _ _ ⟨rfl, rfl⟩) (h2 := (by rw [h_g41, h_g47, h_g64, h_g71, h_g76]; try kernel_rfl))
    obtain ⟨rfl, rfl⟩ := hI1
    refine Sx.br 0 ((((((decide (u < (1 : Int))) || (decide (u > (1000000000 : Int)))) || false) || ((decide (((p.na : Nat) : Int) > (0 : Int))) || (row != (0 : Int)))) || (decide (row < (0 : Int)))) || (decide (row > (1000000000 : Int)))) (fun h_c80 => ?_) (fun h_c80 => ?_)
    · skip
      refine Sx.rt 8 [] H11 (.tuple #[.int .i64 0, .bool false]) ?_
      have p_c80 := h_c80; try simp [-List.getD_eq_getElem?_getD] at p_c80
      subst hL0
      exact hK _ _ _ (H11.pick (a := [trI Sy p (Tr.mk kd u row ops args)]) [0] (by kernel_rfl)) (saidD_no (fun c k => by have := k.head.1.lin; omega) ⟨by omega, by omega⟩)
    have p_c80 := h_c80; try simp [-List.getD_eq_getElem?_getD] at p_c80
    have hHd : (kd = 0 → 1 ≤ u ∧ u ≤ 1000000000) ∧ (kd ≠ 0 → u = 0) ∧ (kd ≠ 6 → ops.length = 0 ∧ row = 0) ∧ 0 ≤ row ∧ row ≤ 1000000000 := by omega
    have H12 := H11.pick (a := [trI Sy p (Tr.mk kd u row ops args), .blk k4 (.cells #[.int .i64 kd, .int .i64 u, .int .i64 row, .slice p.A p.na p.ca, .slice p.B p.nb p.cb] 32)]) [0, 0] (by kernel_rfl)
    refine Sx.lp 9 (fun z l' w' => ∃ (i : Nat), l' = [(1, .int .i64 ((deep : Nat) : Int)), (2, .pointer (some ⟨k4, 0, none⟩)), (8, .int .i64 ((i : Nat) : Int))] ∧ z = ops.length - i ∧ Hs w L0 w' [trI Sy p (Tr.mk kd u row ops args), .blk k4 (.cells #[.int .i64 kd, .int .i64 u, .int .i64 row, .slice p.A p.na p.ca, .slice p.B p.nb p.cb] 32)] ∧ (OpsTo ops i) ∧ (i ≤ ops.length)) _ [(1, .int .i64 ((deep : Nat) : Int)), (2, .pointer (some ⟨k4, 0, none⟩)), (8, .int .i64 ((0 : Nat) : Int))] ⟨0, rfl, rfl, H12, (OpsTo.nil ops), (Nat.zero_le _)⟩ (fun b2 z1 l2 w13 hI2 K2 hK2 => ?_)
    obtain ⟨i, rfl, rfl, H13, hOT, hil⟩ := hI2
    rcases ops_cs hil with hx | ⟨hi0, s, hs1, hse⟩ | ⟨hi0, s, hs1, hse⟩ | ⟨j, r, s, hi0, hr1, hs1, hse⟩ | ⟨j, r, s, hi0, hr1, hs1, hse, hsl⟩ | ⟨j, r, s, hi0, hr1, hs1, hse, hsl⟩
    · skip
      refine Sx.l 5 1 H13 ?_
      refine Sx.v 1 (.bool (decide (((i : Nat) : Int) < ((p.na : Nat) : Int)))) (.bool false) (dF (by omega)) ?_
      refine Sx.l 11 1 H13 ?_
      refine Sx.v 1 (.int .i64 (IntKind.i64.wrap ((1 : Int) + ((p.na : Nat) : Int)))) (.int .i64 ((1 + p.na : Nat) : Int)) (congrArg (Value.int .i64) (Gx.i64n (by omega) (by omega))) ?_
      have hOK := hOT.done hx
      have H14 := H13.pick (a := [trI Sy p (Tr.mk kd u row ops args), .blk k4 (.cells #[.int .i64 kd, .int .i64 u, .int .i64 row, .slice p.A p.na p.ca, .slice p.B p.nb p.cb] 32)]) [0, 0] (by kernel_rfl)
      refine Sx.lp 10 (fun z l' w' => ∃ (i : Nat) (s : Nat), l' = [(1, .int .i64 ((deep : Nat) : Int)), (2, .pointer (some ⟨k4, 0, none⟩)), (9, .int .i64 ((1 + p.na + s : Nat) : Int)), (10, .int .i64 ((i : Nat) : Int))] ∧ z = args.length - i ∧ Hs w L0 w' [trI Sy p (Tr.mk kd u row ops args), .blk k4 (.cells #[.int .i64 kd, .int .i64 u, .int .i64 row, .slice p.A p.na p.ca, .slice p.B p.nb p.cb] 32)] ∧ (FNs args i s) ∧ (i ≤ args.length) ∧ ((i = 0 ∧ s = 0) ∨ 1 + ops.length + s ≤ 300)) _ [(1, .int .i64 ((deep : Nat) : Int)), (2, .pointer (some ⟨k4, 0, none⟩)), (9, .int .i64 ((1 + p.na + 0 : Nat) : Int)), (10, .int .i64 ((0 : Nat) : Int))] ⟨0, 0, rfl, rfl, H14, (FNs.nil args), (Nat.zero_le _), (.inl ⟨rfl, rfl⟩)⟩ (fun b3 z2 l3 w14 hI3 K3 hK3 => ?_)
      obtain ⟨i, s, rfl, rfl, H15, hFs, hil, hsb⟩ := hI3
      rcases Nat.lt_or_ge i args.length with hx2 | hx2
      · skip
        obtain ⟨⟨k0, u0, r0, o0, a0⟩, hti⟩ : ∃ t, args[i]? = some t := ⟨_, List.getElem?_eq_getElem hx2⟩
        obtain ⟨q, aq, haq, hcq, hq⟩ := hkid i _ hti
        obtain ⟨q, aq, haq, hcq, hq⟩ := (tr_at (S := Sy) (p := p) (t := (Tr.mk kd u row ops args)) H15 0 (by kernel_rfl)).open.2.2.2.2 i _ hti
        have H16 := H15.ro 0 (S := Sy) (A := fun w => TrIn w Sy p (Tr.mk kd u row ops args)) (B := fun w => TrIn w Sy q (Tr.mk k0 u0 r0 o0 a0)) (by kernel_rfl) hq (trI_loc _ _ _)
        refine Sx.l 5 1 H16 ?_
        refine Sx.v 1 (.bool (decide (((i : Nat) : Int) < ((p.nb : Nat) : Int)))) (.bool true) (dT (by omega)) ?_
        refine Sx.l 10 1 H16 ?_
        refine Sx.ia 1 aq i 5 p.nb p.cb haq (by omega) ?_
        refine Sx.lo (c := 5) (t := 32) 0 [.int .i64 k0, .int .i64 u0, .int .i64 r0, .slice q.A q.na q.ca, .slice q.B q.nb q.cb] (.agg #[.int .i64 k0, .int .i64 u0, .int .i64 r0, .slice q.A q.na q.ca, .slice q.B q.nb q.cb]) hcq ?_
        refine Sx.v 1 (.int .i64 (IntKind.i64.wrap (((deep : Nat) : Int) + (1 : Int)))) (.int .i64 ((deep + 1 : Nat) : Int)) (congrArg (Value.int .i64) (Gx.i64n (by omega) (by omega))) ?_
        refine Sx.c 0 [2] H16 (fun Hp4 R4 hR4 => ih Sy k0 u0 r0 o0 a0 q (deep + 1) w14 R4 Hp4 (by omega) (by omega) (fun z3 b4 w15 G4 hS1 => hR4 _ _ _ G4 fun H17 => ?_))
        have hzz := hS1.z
        refine Sx.v 11 (.int .i64 (IntKind.i64.wrap (((1 + p.na + s : Nat) : Int) + z3))) (.int .i64 (((1 + p.na + s : Nat) : Int) + z3)) (congrArg (Value.int .i64) (IntWalk.i64_in _ (by omega))) ?_
        refine Sx.cut 3 (fun l' w' => l' = [(1, .int .i64 ((deep : Nat) : Int)), (2, .pointer (some ⟨k4, 0, none⟩)), (9, .int .i64 (((1 + p.na + s : Nat) : Int) + z3)), (10, .int .i64 ((i : Nat) : Int)), (142, .bool ((!b4) || (decide ((((1 + p.na + s : Nat) : Int) + z3) > (300 : Int)))))] ∧ w15 = w') (fun K4 hK4 => ?_) (fun b5 l4 w16 hI4 => ?_)
        · skip
          refine Sx.sp 4 139 (!b4) (fun h_g139 => ?_) (fun h_g139 => ?_)
          · skip
            exact Sx.to 4 [(1, .int .i64 ((deep : Nat) : Int)), (2, .pointer (some ⟨k4, 0, none⟩)), (9, .int .i64 (((1 + p.na + s : Nat) : Int) + z3)), (10, .int .i64 ((i : Nat) : Int)), (142, .bool ((!b4) || (decide ((((1 + p.na + s : Nat) : Int) + z3) > (300 : Int)))))] (hK4 _ _ _ ⟨rfl, rfl⟩) (h2 := (by rw [h_g139]; try kernel_rfl))
          exact Sx.to 4 [(1, .int .i64 ((deep : Nat) : Int)), (2, .pointer (some ⟨k4, 0, none⟩)), (9, .int .i64 (((1 + p.na + s : Nat) : Int) + z3)), (10, .int .i64 ((i : Nat) : Int)), (142, .bool ((!b4) || (decide ((((1 + p.na + s : Nat) : Int) + z3) > (300 : Int)))))] (hK4 _ _ _ ⟨rfl, rfl⟩) (h2 := (by rw [h_g139]; try kernel_rfl))
        obtain ⟨rfl, rfl⟩ := hI4
        refine Sx.br 0 ((!b4) || (decide ((((1 + p.na + s : Nat) : Int) + z3) > (300 : Int)))) (fun h_c142 => ?_) (fun h_c142 => ?_)
        · skip
          refine Sx.rt 13 [] H17 (.tuple #[.int .i64 (((1 + p.na + s : Nat) : Int) + z3), .bool false]) ?_
          subst hL0
          exact hK _ _ _ (H17.pick (a := [trI Sy p (Tr.mk kd u row ops args)]) [1] (by kernel_rfl)) (saidD_no (fun c k => by obtain ⟨c1, h1, h2⟩ := (hFs.ge hil k).2 _ hti; have hzz := hS1.z; cases hb : b4 with | false => (have := hS1.n hb c1 h1; omega) | true => (obtain ⟨c2, hz2, hf2, _⟩ := hS1.y hb; have e12 := hf2.det h1; rw [hb] at h_c142; simp at h_c142; omega)) (by have := hS1.z; omega))
        have hb1 : b4 = true := by cases b4 with
          | true => rfl
          | false => simp at h_c142
        have hle := h_c142
        rw [hb1] at hle; simp at hle
        obtain ⟨c1, hz1, hfn, hcl⟩ := hS1.y hb1
        subst hz1
        refine Sx.sl 0 9 (.int .i64 (((1 + p.na + s : Nat) : Int) + ((c1 : Nat) : Int))) (.int .i64 ((1 + p.na + (s + c1) : Nat) : Int)) (congrArg (Value.int .i64) (by omega)) ?_
        refine Sx.v 5 (.int .i64 (IntKind.i64.wrap (((i : Nat) : Int) + (1 : Int)))) (.int .i64 ((i + 1 : Nat) : Int)) (congrArg (Value.int .i64) (Gx.i64n (by omega) (by omega))) ?_
        have H18 := H17.pick (a := [trI Sy p (Tr.mk kd u row ops args), .blk k4 (.cells #[.int .i64 kd, .int .i64 u, .int .i64 row, .slice p.A p.na p.ca, .slice p.B p.nb p.cb] 32)]) [1, 1] (by kernel_rfl)
        exact Sx.to 2 [(1, .int .i64 ((deep : Nat) : Int)), (2, .pointer (some ⟨k4, 0, none⟩)), (9, .int .i64 ((1 + p.na + (s + c1) : Nat) : Int)), (10, .int .i64 (((i + 1) : Nat) : Int))] (hK3 _ _ _ _ (by omega) ⟨(i + 1), (s + c1), rfl, rfl, H18, (hFs.snoc hti hfn), (by omega), (by omega)⟩)
      have hie : i = args.length := by omega
      refine Sx.l 5 1 H15 ?_
      refine Sx.v 1 (.bool (decide (((i : Nat) : Int) < ((p.nb : Nat) : Int)))) (.bool false) (dF (by omega)) ?_
      refine Sx.rt 16 [] H15 (.tuple #[.int .i64 ((1 + p.na + s : Nat) : Int), .bool true]) ?_
      subst hL0
      have hfn := (hie ▸ hFs : FNs args args.length s).done (.of hB hHd hOK)
      have ez : (((1 + p.na + s : Nat)) : Int) = ((1 + ops.length + s : Nat) : Int) := by rw [hna]
      exact Gx.ret_as (by rw [ez]) (hK _ true _ (H15.pick (a := [trI Sy p (Tr.mk kd u row ops args)]) [0] (by kernel_rfl)) (saidD_yes hfn (by omega) (by omega)))
    · skip
      have hst1 := (tr_at (S := Sy) (p := p) (t := (Tr.mk kd u row ops args)) H13 0 (by kernel_rfl)).open.1
      obtain ⟨ys, hys, _, hcs⟩ := hst1 _ _ hs1
      have hlen := (List.getElem?_eq_some_iff.1 hs1).1
      subst hi0
      refine Sx.l 5 1 H13 ?_
      refine Sx.v 1 (.bool (decide ((0 : Int) < ((p.na : Nat) : Int)))) (.bool true) (dT (by omega)) ?_
      refine Sx.dr 8 H13 [1, 0] [] (LJ := [.blk k4 (.cells #[.int .i64 kd, .int .i64 u, .int .i64 row, .slice p.A p.na p.ca, .slice p.B p.nb p.cb] 32), trI Sy p (Tr.mk kd u row ops args)]) (by kernel_rfl) fun w17 H19 => ?_
      refine Sx.tk [(0, none), (1, some (0, [])), (2, none)] (fun _ => (H19.sub [1, 0] (by kernel_rfl))) ?_
      refine Sx.tvi 3 [] ys 0 1 p.na p.ca hys (by omega) (fun _ => (H19.sub [1, 0] (by kernel_rfl))) ?_
      refine Sx.tvo (c := 1) (t := 9) 4 [] [.string s] (.string s) (fun w' hs => tr_str (S := Sy) (p := p) (kd := kd) (n := u) (row := row) (ops := ops) (args := args) hs 1 (by kernel_rfl) hys hs1) (fun _ => (H19.sub [1, 0] (by kernel_rfl))) ?_
      refine Sx.tva 5 [] (.bool (s.toList == (⟨#[]⟩ : ByteArray).toList)) (.bool true) (em_t hse) (fun _ => (H19.sub [1, 0] (by kernel_rfl))) ?_
      refine Sx.tk [(6, none), (7, none), (8, none), (9, none), (10, none), (11, none), (12, none), (13, none), (14, none), (15, none), (16, none), (17, none), (18, none), (19, none), (20, none), (21, none), (22, none), (23, none)] (fun _ => (H19.sub [1, 0] (by kernel_rfl))) ?_
      refine Sx.dn ?_
      refine Sx.rt 14 [] H19 (.tuple #[.int .i64 0, .bool false]) ?_
      subst hL0
      exact hK _ _ _ (H19.pick (a := [trI Sy p (Tr.mk kd u row ops args)]) [0] (by kernel_rfl)) (saidD_no (fun c k => absurd hse (k.head.1.ops.at hs1)) ⟨by omega, by omega⟩)
    · skip
      have hst1 := (tr_at (S := Sy) (p := p) (t := (Tr.mk kd u row ops args)) H13 0 (by kernel_rfl)).open.1
      obtain ⟨ys, hys, _, hcs⟩ := hst1 _ _ hs1
      have hlen := (List.getElem?_eq_some_iff.1 hs1).1
      subst hi0
      refine Sx.l 5 1 H13 ?_
      refine Sx.v 1 (.bool (decide ((0 : Int) < ((p.na : Nat) : Int)))) (.bool true) (dT (by omega)) ?_
      refine Sx.dr 8 H13 [1, 0] [] (LJ := [.blk k4 (.cells #[.int .i64 kd, .int .i64 u, .int .i64 row, .slice p.A p.na p.ca, .slice p.B p.nb p.cb] 32), trI Sy p (Tr.mk kd u row ops args)]) (by kernel_rfl) fun w18 H20 => ?_
      refine Sx.tk [(0, none), (1, some (0, [])), (2, none)] (fun _ => (H20.sub [1, 0] (by kernel_rfl))) ?_
      refine Sx.tvi 3 [] ys 0 1 p.na p.ca hys (by omega) (fun _ => (H20.sub [1, 0] (by kernel_rfl))) ?_
      refine Sx.tvo (c := 1) (t := 9) 4 [] [.string s] (.string s) (fun w' hs => tr_str (S := Sy) (p := p) (kd := kd) (n := u) (row := row) (ops := ops) (args := args) hs 1 (by kernel_rfl) hys hs1) (fun _ => (H20.sub [1, 0] (by kernel_rfl))) ?_
      refine Sx.tva 5 [] (.bool (s.toList == (⟨#[]⟩ : ByteArray).toList)) (.bool false) (em_f hse) (fun _ => (H20.sub [1, 0] (by kernel_rfl))) ?_
      refine Sx.tk [(6, none), (7, none)] (fun _ => (H20.sub [1, 0] (by kernel_rfl))) ?_
      refine Sx.tva 8 [] (.bool (decide ((0 : Int) > (0 : Int)))) (.bool false) (dF (by omega)) (fun _ => (H20.sub [1, 0] (by kernel_rfl))) ?_
      refine Sx.tk [(9, none), (10, none), (11, none), (12, none), (13, none), (14, none), (15, none), (16, none), (17, none), (18, none), (19, none), (20, none), (21, none), (22, none), (23, none)] (fun _ => (H20.sub [1, 0] (by kernel_rfl))) ?_
      refine Sx.dn ?_
      have H21 := H20.pick (a := [trI Sy p (Tr.mk kd u row ops args), .blk k4 (.cells #[.int .i64 kd, .int .i64 u, .int .i64 row, .slice p.A p.na p.ca, .slice p.B p.nb p.cb] 32)]) [0, 0] (by kernel_rfl)
      exact Sx.to 10 [(1, .int .i64 ((deep : Nat) : Int)), (2, .pointer (some ⟨k4, 0, none⟩)), (8, .int .i64 (((0 + 1) : Nat) : Int))] (hK2 _ _ _ _ (by omega) ⟨(0 + 1), rfl, rfl, H21, (OpsTo.one hs1 hse), hlen⟩)
    · skip
      have hst1 := (tr_at (S := Sy) (p := p) (t := (Tr.mk kd u row ops args)) H13 0 (by kernel_rfl)).open.1
      obtain ⟨ys, hys, _, hcs⟩ := hst1 _ _ hs1
      have hlen := (List.getElem?_eq_some_iff.1 hs1).1
      obtain ⟨yr, hyr, _, hcr⟩ := hst1 _ _ hr1
      subst hi0
      refine Sx.l 5 1 H13 ?_
      refine Sx.v 1 (.bool (decide (((j + 1 : Nat) : Int) < ((p.na : Nat) : Int)))) (.bool true) (dT (by omega)) ?_
      refine Sx.dr 8 H13 [1, 0] [] (LJ := [.blk k4 (.cells #[.int .i64 kd, .int .i64 u, .int .i64 row, .slice p.A p.na p.ca, .slice p.B p.nb p.cb] 32), trI Sy p (Tr.mk kd u row ops args)]) (by kernel_rfl) fun w19 H22 => ?_
      refine Sx.tk [(0, none), (1, some (0, [])), (2, none)] (fun _ => (H22.sub [1, 0] (by kernel_rfl))) ?_
      refine Sx.tvi 3 [] ys (j + 1) 1 p.na p.ca hys (by omega) (fun _ => (H22.sub [1, 0] (by kernel_rfl))) ?_
      refine Sx.tvo (c := 1) (t := 9) 4 [] [.string s] (.string s) (fun w' hs => tr_str (S := Sy) (p := p) (kd := kd) (n := u) (row := row) (ops := ops) (args := args) hs 1 (by kernel_rfl) hys hs1) (fun _ => (H22.sub [1, 0] (by kernel_rfl))) ?_
      refine Sx.tva 5 [] (.bool (s.toList == (⟨#[]⟩ : ByteArray).toList)) (.bool true) (em_t hse) (fun _ => (H22.sub [1, 0] (by kernel_rfl))) ?_
      refine Sx.tk [(6, none), (7, none), (8, none), (9, none), (10, none), (11, none), (12, none), (13, none), (14, none), (15, none), (16, none), (17, none), (18, none), (19, none), (20, none), (21, none), (22, none), (23, none)] (fun _ => (H22.sub [1, 0] (by kernel_rfl))) ?_
      refine Sx.dn ?_
      refine Sx.rt 14 [] H22 (.tuple #[.int .i64 0, .bool false]) ?_
      subst hL0
      exact hK _ _ _ (H22.pick (a := [trI Sy p (Tr.mk kd u row ops args)]) [0] (by kernel_rfl)) (saidD_no (fun c k => absurd hse (k.head.1.ops.at hs1)) ⟨by omega, by omega⟩)
    · skip
      have hst1 := (tr_at (S := Sy) (p := p) (t := (Tr.mk kd u row ops args)) H13 0 (by kernel_rfl)).open.1
      obtain ⟨ys, hys, _, hcs⟩ := hst1 _ _ hs1
      have hlen := (List.getElem?_eq_some_iff.1 hs1).1
      obtain ⟨yr, hyr, _, hcr⟩ := hst1 _ _ hr1
      subst hi0
      refine Sx.l 5 1 H13 ?_
      refine Sx.v 1 (.bool (decide (((j + 1 : Nat) : Int) < ((p.na : Nat) : Int)))) (.bool true) (dT (by omega)) ?_
      refine Sx.dr 8 H13 [1, 0] [] (LJ := [.blk k4 (.cells #[.int .i64 kd, .int .i64 u, .int .i64 row, .slice p.A p.na p.ca, .slice p.B p.nb p.cb] 32), trI Sy p (Tr.mk kd u row ops args)]) (by kernel_rfl) fun w20 H23 => ?_
      refine Sx.tk [(0, none), (1, some (0, [])), (2, none)] (fun _ => (H23.sub [1, 0] (by kernel_rfl))) ?_
      refine Sx.tvi 3 [] ys (j + 1) 1 p.na p.ca hys (by omega) (fun _ => (H23.sub [1, 0] (by kernel_rfl))) ?_
      refine Sx.tvo (c := 1) (t := 9) 4 [] [.string s] (.string s) (fun w' hs => tr_str (S := Sy) (p := p) (kd := kd) (n := u) (row := row) (ops := ops) (args := args) hs 1 (by kernel_rfl) hys hs1) (fun _ => (H23.sub [1, 0] (by kernel_rfl))) ?_
      refine Sx.tva 5 [] (.bool (s.toList == (⟨#[]⟩ : ByteArray).toList)) (.bool false) (em_f hse) (fun _ => (H23.sub [1, 0] (by kernel_rfl))) ?_
      refine Sx.tk [(6, none), (7, none)] (fun _ => (H23.sub [1, 0] (by kernel_rfl))) ?_
      refine Sx.tva 8 [] (.bool (decide (((j + 1 : Nat) : Int) > (0 : Int)))) (.bool true) (dT (by omega)) (fun _ => (H23.sub [1, 0] (by kernel_rfl))) ?_
      refine Sx.tk [(9, none), (10, none), (11, some (0, [])), (12, none)] (fun _ => (H23.sub [1, 0] (by kernel_rfl))) ?_
      refine Sx.tva 13 [] (.int .i64 (IntKind.i64.wrap (((j + 1 : Nat) : Int) - (1 : Int)))) (.int .i64 ((j : Nat) : Int)) (congrArg (Value.int .i64) (Gx.i64n (by omega) (by omega))) (fun _ => (H23.sub [1, 0] (by kernel_rfl))) ?_
      refine Sx.tvi 14 [] yr j 1 p.na p.ca hyr (by omega) (fun _ => (H23.sub [1, 0] (by kernel_rfl))) ?_
      refine Sx.tvo (c := 1) (t := 9) 15 [] [.string r] (.string r) (fun w' hs => tr_str (S := Sy) (p := p) (kd := kd) (n := u) (row := row) (ops := ops) (args := args) hs 1 (by kernel_rfl) hyr hr1) (fun _ => (H23.sub [1, 0] (by kernel_rfl))) ?_
      refine Sx.tk [(16, none), (17, some (0, [])), (18, none)] (fun _ => (H23.sub [1, 0] (by kernel_rfl))) ?_
      refine Sx.tvi 19 [] ys (j + 1) 1 p.na p.ca hys (by omega) (fun _ => (H23.sub [1, 0] (by kernel_rfl))) ?_
      refine Sx.tvo (c := 1) (t := 9) 20 [] [.string s] (.string s) (fun w' hs => tr_str (S := Sy) (p := p) (kd := kd) (n := u) (row := row) (ops := ops) (args := args) hs 1 (by kernel_rfl) hys hs1) (fun _ => (H23.sub [1, 0] (by kernel_rfl))) ?_
      refine Sx.tva 21 [] (.bool (!(Go.Op.bytesLess r.toList s.toList || (r.toList == s.toList)))) (.bool true) (gtT hsl) (fun _ => (H23.sub [1, 0] (by kernel_rfl))) ?_
      refine Sx.tk [(22, none), (23, none)] (fun _ => (H23.sub [1, 0] (by kernel_rfl))) ?_
      refine Sx.dn ?_
      refine Sx.rt 14 [] H23 (.tuple #[.int .i64 0, .bool false]) ?_
      subst hL0
      exact hK _ _ _ (H23.pick (a := [trI Sy p (Tr.mk kd u row ops args)]) [0] (by kernel_rfl)) (saidD_no (fun c k => absurd (k.head.1.ops.2 _ _ _ hr1 hs1) (by rw [hsl]; decide)) ⟨by omega, by omega⟩)
    have hst1 := (tr_at (S := Sy) (p := p) (t := (Tr.mk kd u row ops args)) H13 0 (by kernel_rfl)).open.1
    obtain ⟨ys, hys, _, hcs⟩ := hst1 _ _ hs1
    have hlen := (List.getElem?_eq_some_iff.1 hs1).1
    obtain ⟨yr, hyr, _, hcr⟩ := hst1 _ _ hr1
    subst hi0
    refine Sx.l 5 1 H13 ?_
    refine Sx.v 1 (.bool (decide (((j + 1 : Nat) : Int) < ((p.na : Nat) : Int)))) (.bool true) (dT (by omega)) ?_
    refine Sx.dr 8 H13 [1, 0] [] (LJ := [.blk k4 (.cells #[.int .i64 kd, .int .i64 u, .int .i64 row, .slice p.A p.na p.ca, .slice p.B p.nb p.cb] 32), trI Sy p (Tr.mk kd u row ops args)]) (by kernel_rfl) fun w21 H24 => ?_
    refine Sx.tk [(0, none), (1, some (0, [])), (2, none)] (fun _ => (H24.sub [1, 0] (by kernel_rfl))) ?_
    refine Sx.tvi 3 [] ys (j + 1) 1 p.na p.ca hys (by omega) (fun _ => (H24.sub [1, 0] (by kernel_rfl))) ?_
    refine Sx.tvo (c := 1) (t := 9) 4 [] [.string s] (.string s) (fun w' hs => tr_str (S := Sy) (p := p) (kd := kd) (n := u) (row := row) (ops := ops) (args := args) hs 1 (by kernel_rfl) hys hs1) (fun _ => (H24.sub [1, 0] (by kernel_rfl))) ?_
    refine Sx.tva 5 [] (.bool (s.toList == (⟨#[]⟩ : ByteArray).toList)) (.bool false) (em_f hse) (fun _ => (H24.sub [1, 0] (by kernel_rfl))) ?_
    refine Sx.tk [(6, none), (7, none)] (fun _ => (H24.sub [1, 0] (by kernel_rfl))) ?_
    refine Sx.tva 8 [] (.bool (decide (((j + 1 : Nat) : Int) > (0 : Int)))) (.bool true) (dT (by omega)) (fun _ => (H24.sub [1, 0] (by kernel_rfl))) ?_
    refine Sx.tk [(9, none), (10, none), (11, some (0, [])), (12, none)] (fun _ => (H24.sub [1, 0] (by kernel_rfl))) ?_
    refine Sx.tva 13 [] (.int .i64 (IntKind.i64.wrap (((j + 1 : Nat) : Int) - (1 : Int)))) (.int .i64 ((j : Nat) : Int)) (congrArg (Value.int .i64) (Gx.i64n (by omega) (by omega))) (fun _ => (H24.sub [1, 0] (by kernel_rfl))) ?_
    refine Sx.tvi 14 [] yr j 1 p.na p.ca hyr (by omega) (fun _ => (H24.sub [1, 0] (by kernel_rfl))) ?_
    refine Sx.tvo (c := 1) (t := 9) 15 [] [.string r] (.string r) (fun w' hs => tr_str (S := Sy) (p := p) (kd := kd) (n := u) (row := row) (ops := ops) (args := args) hs 1 (by kernel_rfl) hyr hr1) (fun _ => (H24.sub [1, 0] (by kernel_rfl))) ?_
    refine Sx.tk [(16, none), (17, some (0, [])), (18, none)] (fun _ => (H24.sub [1, 0] (by kernel_rfl))) ?_
    refine Sx.tvi 19 [] ys (j + 1) 1 p.na p.ca hys (by omega) (fun _ => (H24.sub [1, 0] (by kernel_rfl))) ?_
    refine Sx.tvo (c := 1) (t := 9) 20 [] [.string s] (.string s) (fun w' hs => tr_str (S := Sy) (p := p) (kd := kd) (n := u) (row := row) (ops := ops) (args := args) hs 1 (by kernel_rfl) hys hs1) (fun _ => (H24.sub [1, 0] (by kernel_rfl))) ?_
    refine Sx.tva 21 [] (.bool (!(Go.Op.bytesLess r.toList s.toList || (r.toList == s.toList)))) (.bool false) (gtF hsl) (fun _ => (H24.sub [1, 0] (by kernel_rfl))) ?_
    refine Sx.tk [(22, none), (23, none)] (fun _ => (H24.sub [1, 0] (by kernel_rfl))) ?_
    refine Sx.dn ?_
    refine Sx.v 7 (.int .i64 (IntKind.i64.wrap (((j + 1 : Nat) : Int) + (1 : Int)))) (.int .i64 (((j + 1) + 1 : Nat) : Int)) (congrArg (Value.int .i64) (Gx.i64n (by omega) (by omega))) ?_
    have H25 := H24.pick (a := [trI Sy p (Tr.mk kd u row ops args), .blk k4 (.cells #[.int .i64 kd, .int .i64 u, .int .i64 row, .slice p.A p.na p.ca, .slice p.B p.nb p.cb] 32)]) [0, 0] (by kernel_rfl)
    exact Sx.to 2 [(1, .int .i64 ((deep : Nat) : Int)), (2, .pointer (some ⟨k4, 0, none⟩)), (8, .int .i64 (((j + 1 + 1) : Nat) : Int))] (hK2 _ _ _ _ (by omega) ⟨(j + 1 + 1), rfl, rfl, H25, (hOT.more hr1 hs1 hse hsl), hlen⟩)
  · skip
    refine Sx.nw 2 H fun k5 w22 H26 => ?_
    refine Sx.dr 6 H26 [1] [] (LJ := [.blk k5 (.cells #[.int .i64 kd, .int .i64 u, .int .i64 row, .slice p.A p.na p.ca, .slice p.B p.nb p.cb] 32)]) (by kernel_rfl) fun w23 H27 => ?_
    refine Sx.tk [(0, none)] (fun _ => (H27.sub [1] (by kernel_rfl))) ?_
    refine Sx.tva 1 [] (.bool (decide (((deep : Nat) : Int) > (300 : Int)))) (.bool false) (dF (by omega)) (fun _ => (H27.sub [1] (by kernel_rfl))) ?_
    refine Sx.tk [(2, none), (3, none), (4, some (0, [])), (5, none), (6, none), (7, some (0, []))] (fun _ => (H27.sub [1] (by kernel_rfl))) ?_
    refine Sx.nmx ?_
    intro zx4
    refine Sx.on 8 ?_
    refine Sx.c 0 [] H27 (fun Hp5 R5 hR5 => args_c kd w23 R5 Hp5  (fun w24 G5 => hR5 _ _ _ G5 fun H28 => ?_))
    refine Sx.bk (x := zx4) 8 (fun _ => (H28.sub [1] (by kernel_rfl))) ?_
    refine Sx.tva 9 [] (.bool (((p.nb : Nat) : Int) != (ar kd))) (.bool false) (nF (by omega)) (fun _ => (H28.sub [1] (by kernel_rfl))) ?_
    refine Sx.tk [(10, none), (11, none), (12, none), (13, some (0, [])), (14, none)] (fun _ => (H28.sub [1] (by kernel_rfl))) ?_
    refine Sx.tva 15 [] (.bool (decide (((p.na : Nat) : Int) > (300 : Int)))) (.bool false) (dF (by omega)) (fun _ => (H28.sub [1] (by kernel_rfl))) ?_
    refine Sx.tk [(16, none)] (fun _ => (H28.sub [1] (by kernel_rfl))) ?_
    refine Sx.dn ?_
    refine Sx.l 7 1 H28 ?_
    refine Sx.v 0 (.bool (kd == (0 : Int))) (.bool false) (eF (by omega)) ?_
    refine Sx.l 6 1 H28 ?_
    refine Sx.v 0 (.bool (kd == (6 : Int))) (.bool true) (eT (by omega)) ?_
    refine Sx.cut 4 (fun l' w' => l' = [(1, .int .i64 ((deep : Nat) : Int)), (2, .pointer (some ⟨k5, 0, none⟩)), (80, .bool ((((u != (0 : Int)) || false) || (decide (row < (0 : Int)))) || (decide (row > (1000000000 : Int)))))] ∧ w24 = w') (fun K5 hK5 => ?_) (fun b6 l5 w25 hI5 => ?_)
    · skip
      refine Sx.l 17 1 H28 ?_
      refine Sx.sp 4 56 (u != (0 : Int)) (fun h_g56 => ?_) (fun h_g56 => ?_)
      · skip
        exact Sx.to 25 [(1, .int .i64 ((deep : Nat) : Int)), (2, .pointer (some ⟨k5, 0, none⟩)), (80, .bool ((((u != (0 : Int)) || false) || (decide (row < (0 : Int)))) || (decide (row > (1000000000 : Int)))))] (hK5 _ _ _ ⟨rfl, rfl⟩) (h2 := (by rw [h_g56]; try kernel_rfl))
      refine Sx.l 16 1 H28 ?_
      refine Sx.sp 3 76 (decide (row < (0 : Int))) (fun h_g76 => ?_) (fun h_g76 => ?_)
      · skip
        exact Sx.to 5 [(1, .int .i64 ((deep : Nat) : Int)), (2, .pointer (some ⟨k5, 0, none⟩)), (80, .bool ((((u != (0 : Int)) || false) || (decide (row < (0 : Int)))) || (decide (row > (1000000000 : Int)))))] (hK5 _ _ _ ⟨rfl, rfl⟩) (h2 := (by rw [h_g56, h_g76]; try kernel_rfl))
      refine Sx.l 1 1 H28 ?_
      exact Sx.to 3 [(1, .int .i64 ((deep : Nat) : Int)), (2, .pointer (some ⟨k5, 0, none⟩)), (80, .bool ((((u != (0 : Int)) || false) || (decide (row < (0 : Int)))) || (decide (row > (1000000000 : Int)))))] (hK5 _ _ _ ⟨rfl, rfl⟩) (h2 := (by rw [h_g56, h_g76]; try kernel_rfl))
    obtain ⟨rfl, rfl⟩ := hI5
    refine Sx.br 0 ((((u != (0 : Int)) || false) || (decide (row < (0 : Int)))) || (decide (row > (1000000000 : Int)))) (fun h_c80 => ?_) (fun h_c80 => ?_)
    · skip
      refine Sx.rt 8 [] H28 (.tuple #[.int .i64 0, .bool false]) ?_
      have p_c80 := h_c80; try simp [-List.getD_eq_getElem?_getD] at p_c80
      subst hL0
      exact hK _ _ _ (H28.pick (a := [trI Sy p (Tr.mk kd u row ops args)]) [0] (by kernel_rfl)) (saidD_no (fun c k => by have := k.head.1.lin; omega) ⟨by omega, by omega⟩)
    have p_c80 := h_c80; try simp [-List.getD_eq_getElem?_getD] at p_c80
    have hHd : (kd = 0 → 1 ≤ u ∧ u ≤ 1000000000) ∧ (kd ≠ 0 → u = 0) ∧ (kd ≠ 6 → ops.length = 0 ∧ row = 0) ∧ 0 ≤ row ∧ row ≤ 1000000000 := by omega
    have H29 := H28.pick (a := [trI Sy p (Tr.mk kd u row ops args), .blk k5 (.cells #[.int .i64 kd, .int .i64 u, .int .i64 row, .slice p.A p.na p.ca, .slice p.B p.nb p.cb] 32)]) [0, 0] (by kernel_rfl)
    refine Sx.lp 9 (fun z l' w' => ∃ (i : Nat), l' = [(1, .int .i64 ((deep : Nat) : Int)), (2, .pointer (some ⟨k5, 0, none⟩)), (8, .int .i64 ((i : Nat) : Int))] ∧ z = ops.length - i ∧ Hs w L0 w' [trI Sy p (Tr.mk kd u row ops args), .blk k5 (.cells #[.int .i64 kd, .int .i64 u, .int .i64 row, .slice p.A p.na p.ca, .slice p.B p.nb p.cb] 32)] ∧ (OpsTo ops i) ∧ (i ≤ ops.length)) _ [(1, .int .i64 ((deep : Nat) : Int)), (2, .pointer (some ⟨k5, 0, none⟩)), (8, .int .i64 ((0 : Nat) : Int))] ⟨0, rfl, rfl, H29, (OpsTo.nil ops), (Nat.zero_le _)⟩ (fun b7 z4 l6 w26 hI6 K6 hK6 => ?_)
    obtain ⟨i, rfl, rfl, H30, hOT, hil⟩ := hI6
    rcases ops_cs hil with hx | ⟨hi0, s, hs1, hse⟩ | ⟨hi0, s, hs1, hse⟩ | ⟨j, r, s, hi0, hr1, hs1, hse⟩ | ⟨j, r, s, hi0, hr1, hs1, hse, hsl⟩ | ⟨j, r, s, hi0, hr1, hs1, hse, hsl⟩
    · skip
      refine Sx.l 5 1 H30 ?_
      refine Sx.v 1 (.bool (decide (((i : Nat) : Int) < ((p.na : Nat) : Int)))) (.bool false) (dF (by omega)) ?_
      refine Sx.l 11 1 H30 ?_
      refine Sx.v 1 (.int .i64 (IntKind.i64.wrap ((1 : Int) + ((p.na : Nat) : Int)))) (.int .i64 ((1 + p.na : Nat) : Int)) (congrArg (Value.int .i64) (Gx.i64n (by omega) (by omega))) ?_
      have hOK := hOT.done hx
      have H31 := H30.pick (a := [trI Sy p (Tr.mk kd u row ops args), .blk k5 (.cells #[.int .i64 kd, .int .i64 u, .int .i64 row, .slice p.A p.na p.ca, .slice p.B p.nb p.cb] 32)]) [0, 0] (by kernel_rfl)
      refine Sx.lp 10 (fun z l' w' => ∃ (i : Nat) (s : Nat), l' = [(1, .int .i64 ((deep : Nat) : Int)), (2, .pointer (some ⟨k5, 0, none⟩)), (9, .int .i64 ((1 + p.na + s : Nat) : Int)), (10, .int .i64 ((i : Nat) : Int))] ∧ z = args.length - i ∧ Hs w L0 w' [trI Sy p (Tr.mk kd u row ops args), .blk k5 (.cells #[.int .i64 kd, .int .i64 u, .int .i64 row, .slice p.A p.na p.ca, .slice p.B p.nb p.cb] 32)] ∧ (FNs args i s) ∧ (i ≤ args.length) ∧ ((i = 0 ∧ s = 0) ∨ 1 + ops.length + s ≤ 300)) _ [(1, .int .i64 ((deep : Nat) : Int)), (2, .pointer (some ⟨k5, 0, none⟩)), (9, .int .i64 ((1 + p.na + 0 : Nat) : Int)), (10, .int .i64 ((0 : Nat) : Int))] ⟨0, 0, rfl, rfl, H31, (FNs.nil args), (Nat.zero_le _), (.inl ⟨rfl, rfl⟩)⟩ (fun b8 z5 l7 w27 hI7 K7 hK7 => ?_)
      obtain ⟨i, s, rfl, rfl, H32, hFs, hil, hsb⟩ := hI7
      rcases Nat.lt_or_ge i args.length with hx2 | hx2
      · skip
        obtain ⟨⟨k0, u0, r0, o0, a0⟩, hti⟩ : ∃ t, args[i]? = some t := ⟨_, List.getElem?_eq_getElem hx2⟩
        obtain ⟨q, aq, haq, hcq, hq⟩ := hkid i _ hti
        obtain ⟨q, aq, haq, hcq, hq⟩ := (tr_at (S := Sy) (p := p) (t := (Tr.mk kd u row ops args)) H32 0 (by kernel_rfl)).open.2.2.2.2 i _ hti
        have H33 := H32.ro 0 (S := Sy) (A := fun w => TrIn w Sy p (Tr.mk kd u row ops args)) (B := fun w => TrIn w Sy q (Tr.mk k0 u0 r0 o0 a0)) (by kernel_rfl) hq (trI_loc _ _ _)
        refine Sx.l 5 1 H33 ?_
        refine Sx.v 1 (.bool (decide (((i : Nat) : Int) < ((p.nb : Nat) : Int)))) (.bool true) (dT (by omega)) ?_
        refine Sx.l 10 1 H33 ?_
        refine Sx.ia 1 aq i 5 p.nb p.cb haq (by omega) ?_
        refine Sx.lo (c := 5) (t := 32) 0 [.int .i64 k0, .int .i64 u0, .int .i64 r0, .slice q.A q.na q.ca, .slice q.B q.nb q.cb] (.agg #[.int .i64 k0, .int .i64 u0, .int .i64 r0, .slice q.A q.na q.ca, .slice q.B q.nb q.cb]) hcq ?_
        refine Sx.v 1 (.int .i64 (IntKind.i64.wrap (((deep : Nat) : Int) + (1 : Int)))) (.int .i64 ((deep + 1 : Nat) : Int)) (congrArg (Value.int .i64) (Gx.i64n (by omega) (by omega))) ?_
        refine Sx.c 0 [2] H33 (fun Hp6 R6 hR6 => ih Sy k0 u0 r0 o0 a0 q (deep + 1) w27 R6 Hp6 (by omega) (by omega) (fun z6 b9 w28 G6 hS2 => hR6 _ _ _ G6 fun H34 => ?_))
        have hzz := hS2.z
        refine Sx.v 11 (.int .i64 (IntKind.i64.wrap (((1 + p.na + s : Nat) : Int) + z6))) (.int .i64 (((1 + p.na + s : Nat) : Int) + z6)) (congrArg (Value.int .i64) (IntWalk.i64_in _ (by omega))) ?_
        refine Sx.cut 3 (fun l' w' => l' = [(1, .int .i64 ((deep : Nat) : Int)), (2, .pointer (some ⟨k5, 0, none⟩)), (9, .int .i64 (((1 + p.na + s : Nat) : Int) + z6)), (10, .int .i64 ((i : Nat) : Int)), (142, .bool ((!b9) || (decide ((((1 + p.na + s : Nat) : Int) + z6) > (300 : Int)))))] ∧ w28 = w') (fun K8 hK8 => ?_) (fun b10 l8 w29 hI8 => ?_)
        · skip
          refine Sx.sp 4 139 (!b9) (fun h_g139 => ?_) (fun h_g139 => ?_)
          · skip
            exact Sx.to 4 [(1, .int .i64 ((deep : Nat) : Int)), (2, .pointer (some ⟨k5, 0, none⟩)), (9, .int .i64 (((1 + p.na + s : Nat) : Int) + z6)), (10, .int .i64 ((i : Nat) : Int)), (142, .bool ((!b9) || (decide ((((1 + p.na + s : Nat) : Int) + z6) > (300 : Int)))))] (hK8 _ _ _ ⟨rfl, rfl⟩) (h2 := (by rw [h_g139]; try kernel_rfl))
          exact Sx.to 4 [(1, .int .i64 ((deep : Nat) : Int)), (2, .pointer (some ⟨k5, 0, none⟩)), (9, .int .i64 (((1 + p.na + s : Nat) : Int) + z6)), (10, .int .i64 ((i : Nat) : Int)), (142, .bool ((!b9) || (decide ((((1 + p.na + s : Nat) : Int) + z6) > (300 : Int)))))] (hK8 _ _ _ ⟨rfl, rfl⟩) (h2 := (by rw [h_g139]; try kernel_rfl))
        obtain ⟨rfl, rfl⟩ := hI8
        refine Sx.br 0 ((!b9) || (decide ((((1 + p.na + s : Nat) : Int) + z6) > (300 : Int)))) (fun h_c142 => ?_) (fun h_c142 => ?_)
        · skip
          refine Sx.rt 13 [] H34 (.tuple #[.int .i64 (((1 + p.na + s : Nat) : Int) + z6), .bool false]) ?_
          subst hL0
          exact hK _ _ _ (H34.pick (a := [trI Sy p (Tr.mk kd u row ops args)]) [1] (by kernel_rfl)) (saidD_no (fun c k => by obtain ⟨c1, h1, h2⟩ := (hFs.ge hil k).2 _ hti; have hzz := hS2.z; cases hb : b9 with | false => (have := hS2.n hb c1 h1; omega) | true => (obtain ⟨c2, hz2, hf2, _⟩ := hS2.y hb; have e12 := hf2.det h1; rw [hb] at h_c142; simp at h_c142; omega)) (by have := hS2.z; omega))
        have hb1 : b9 = true := by cases b9 with
          | true => rfl
          | false => simp at h_c142
        have hle := h_c142
        rw [hb1] at hle; simp at hle
        obtain ⟨c1, hz1, hfn, hcl⟩ := hS2.y hb1
        subst hz1
        refine Sx.sl 0 9 (.int .i64 (((1 + p.na + s : Nat) : Int) + ((c1 : Nat) : Int))) (.int .i64 ((1 + p.na + (s + c1) : Nat) : Int)) (congrArg (Value.int .i64) (by omega)) ?_
        refine Sx.v 5 (.int .i64 (IntKind.i64.wrap (((i : Nat) : Int) + (1 : Int)))) (.int .i64 ((i + 1 : Nat) : Int)) (congrArg (Value.int .i64) (Gx.i64n (by omega) (by omega))) ?_
        have H35 := H34.pick (a := [trI Sy p (Tr.mk kd u row ops args), .blk k5 (.cells #[.int .i64 kd, .int .i64 u, .int .i64 row, .slice p.A p.na p.ca, .slice p.B p.nb p.cb] 32)]) [1, 1] (by kernel_rfl)
        exact Sx.to 2 [(1, .int .i64 ((deep : Nat) : Int)), (2, .pointer (some ⟨k5, 0, none⟩)), (9, .int .i64 ((1 + p.na + (s + c1) : Nat) : Int)), (10, .int .i64 (((i + 1) : Nat) : Int))] (hK7 _ _ _ _ (by omega) ⟨(i + 1), (s + c1), rfl, rfl, H35, (hFs.snoc hti hfn), (by omega), (by omega)⟩)
      have hie : i = args.length := by omega
      refine Sx.l 5 1 H32 ?_
      refine Sx.v 1 (.bool (decide (((i : Nat) : Int) < ((p.nb : Nat) : Int)))) (.bool false) (dF (by omega)) ?_
      refine Sx.rt 16 [] H32 (.tuple #[.int .i64 ((1 + p.na + s : Nat) : Int), .bool true]) ?_
      subst hL0
      have hfn := (hie ▸ hFs : FNs args args.length s).done (.of hB hHd hOK)
      have ez : (((1 + p.na + s : Nat)) : Int) = ((1 + ops.length + s : Nat) : Int) := by rw [hna]
      exact Gx.ret_as (by rw [ez]) (hK _ true _ (H32.pick (a := [trI Sy p (Tr.mk kd u row ops args)]) [0] (by kernel_rfl)) (saidD_yes hfn (by omega) (by omega)))
    · skip
      have hst1 := (tr_at (S := Sy) (p := p) (t := (Tr.mk kd u row ops args)) H30 0 (by kernel_rfl)).open.1
      obtain ⟨ys, hys, _, hcs⟩ := hst1 _ _ hs1
      have hlen := (List.getElem?_eq_some_iff.1 hs1).1
      subst hi0
      refine Sx.l 5 1 H30 ?_
      refine Sx.v 1 (.bool (decide ((0 : Int) < ((p.na : Nat) : Int)))) (.bool true) (dT (by omega)) ?_
      refine Sx.dr 8 H30 [1, 0] [] (LJ := [.blk k5 (.cells #[.int .i64 kd, .int .i64 u, .int .i64 row, .slice p.A p.na p.ca, .slice p.B p.nb p.cb] 32), trI Sy p (Tr.mk kd u row ops args)]) (by kernel_rfl) fun w30 H36 => ?_
      refine Sx.tk [(0, none), (1, some (0, [])), (2, none)] (fun _ => (H36.sub [1, 0] (by kernel_rfl))) ?_
      refine Sx.tvi 3 [] ys 0 1 p.na p.ca hys (by omega) (fun _ => (H36.sub [1, 0] (by kernel_rfl))) ?_
      refine Sx.tvo (c := 1) (t := 9) 4 [] [.string s] (.string s) (fun w' hs => tr_str (S := Sy) (p := p) (kd := kd) (n := u) (row := row) (ops := ops) (args := args) hs 1 (by kernel_rfl) hys hs1) (fun _ => (H36.sub [1, 0] (by kernel_rfl))) ?_
      refine Sx.tva 5 [] (.bool (s.toList == (⟨#[]⟩ : ByteArray).toList)) (.bool true) (em_t hse) (fun _ => (H36.sub [1, 0] (by kernel_rfl))) ?_
      refine Sx.tk [(6, none), (7, none), (8, none), (9, none), (10, none), (11, none), (12, none), (13, none), (14, none), (15, none), (16, none), (17, none), (18, none), (19, none), (20, none), (21, none), (22, none), (23, none)] (fun _ => (H36.sub [1, 0] (by kernel_rfl))) ?_
      refine Sx.dn ?_
      refine Sx.rt 14 [] H36 (.tuple #[.int .i64 0, .bool false]) ?_
      subst hL0
      exact hK _ _ _ (H36.pick (a := [trI Sy p (Tr.mk kd u row ops args)]) [0] (by kernel_rfl)) (saidD_no (fun c k => absurd hse (k.head.1.ops.at hs1)) ⟨by omega, by omega⟩)
    · skip
      have hst1 := (tr_at (S := Sy) (p := p) (t := (Tr.mk kd u row ops args)) H30 0 (by kernel_rfl)).open.1
      obtain ⟨ys, hys, _, hcs⟩ := hst1 _ _ hs1
      have hlen := (List.getElem?_eq_some_iff.1 hs1).1
      subst hi0
      refine Sx.l 5 1 H30 ?_
      refine Sx.v 1 (.bool (decide ((0 : Int) < ((p.na : Nat) : Int)))) (.bool true) (dT (by omega)) ?_
      refine Sx.dr 8 H30 [1, 0] [] (LJ := [.blk k5 (.cells #[.int .i64 kd, .int .i64 u, .int .i64 row, .slice p.A p.na p.ca, .slice p.B p.nb p.cb] 32), trI Sy p (Tr.mk kd u row ops args)]) (by kernel_rfl) fun w31 H37 => ?_
      refine Sx.tk [(0, none), (1, some (0, [])), (2, none)] (fun _ => (H37.sub [1, 0] (by kernel_rfl))) ?_
      refine Sx.tvi 3 [] ys 0 1 p.na p.ca hys (by omega) (fun _ => (H37.sub [1, 0] (by kernel_rfl))) ?_
      refine Sx.tvo (c := 1) (t := 9) 4 [] [.string s] (.string s) (fun w' hs => tr_str (S := Sy) (p := p) (kd := kd) (n := u) (row := row) (ops := ops) (args := args) hs 1 (by kernel_rfl) hys hs1) (fun _ => (H37.sub [1, 0] (by kernel_rfl))) ?_
      refine Sx.tva 5 [] (.bool (s.toList == (⟨#[]⟩ : ByteArray).toList)) (.bool false) (em_f hse) (fun _ => (H37.sub [1, 0] (by kernel_rfl))) ?_
      refine Sx.tk [(6, none), (7, none)] (fun _ => (H37.sub [1, 0] (by kernel_rfl))) ?_
      refine Sx.tva 8 [] (.bool (decide ((0 : Int) > (0 : Int)))) (.bool false) (dF (by omega)) (fun _ => (H37.sub [1, 0] (by kernel_rfl))) ?_
      refine Sx.tk [(9, none), (10, none), (11, none), (12, none), (13, none), (14, none), (15, none), (16, none), (17, none), (18, none), (19, none), (20, none), (21, none), (22, none), (23, none)] (fun _ => (H37.sub [1, 0] (by kernel_rfl))) ?_
      refine Sx.dn ?_
      have H38 := H37.pick (a := [trI Sy p (Tr.mk kd u row ops args), .blk k5 (.cells #[.int .i64 kd, .int .i64 u, .int .i64 row, .slice p.A p.na p.ca, .slice p.B p.nb p.cb] 32)]) [0, 0] (by kernel_rfl)
      exact Sx.to 10 [(1, .int .i64 ((deep : Nat) : Int)), (2, .pointer (some ⟨k5, 0, none⟩)), (8, .int .i64 (((0 + 1) : Nat) : Int))] (hK6 _ _ _ _ (by omega) ⟨(0 + 1), rfl, rfl, H38, (OpsTo.one hs1 hse), hlen⟩)
    · skip
      have hst1 := (tr_at (S := Sy) (p := p) (t := (Tr.mk kd u row ops args)) H30 0 (by kernel_rfl)).open.1
      obtain ⟨ys, hys, _, hcs⟩ := hst1 _ _ hs1
      have hlen := (List.getElem?_eq_some_iff.1 hs1).1
      obtain ⟨yr, hyr, _, hcr⟩ := hst1 _ _ hr1
      subst hi0
      refine Sx.l 5 1 H30 ?_
      refine Sx.v 1 (.bool (decide (((j + 1 : Nat) : Int) < ((p.na : Nat) : Int)))) (.bool true) (dT (by omega)) ?_
      refine Sx.dr 8 H30 [1, 0] [] (LJ := [.blk k5 (.cells #[.int .i64 kd, .int .i64 u, .int .i64 row, .slice p.A p.na p.ca, .slice p.B p.nb p.cb] 32), trI Sy p (Tr.mk kd u row ops args)]) (by kernel_rfl) fun w32 H39 => ?_
      refine Sx.tk [(0, none), (1, some (0, [])), (2, none)] (fun _ => (H39.sub [1, 0] (by kernel_rfl))) ?_
      refine Sx.tvi 3 [] ys (j + 1) 1 p.na p.ca hys (by omega) (fun _ => (H39.sub [1, 0] (by kernel_rfl))) ?_
      refine Sx.tvo (c := 1) (t := 9) 4 [] [.string s] (.string s) (fun w' hs => tr_str (S := Sy) (p := p) (kd := kd) (n := u) (row := row) (ops := ops) (args := args) hs 1 (by kernel_rfl) hys hs1) (fun _ => (H39.sub [1, 0] (by kernel_rfl))) ?_
      refine Sx.tva 5 [] (.bool (s.toList == (⟨#[]⟩ : ByteArray).toList)) (.bool true) (em_t hse) (fun _ => (H39.sub [1, 0] (by kernel_rfl))) ?_
      refine Sx.tk [(6, none), (7, none), (8, none), (9, none), (10, none), (11, none), (12, none), (13, none), (14, none), (15, none), (16, none), (17, none), (18, none), (19, none), (20, none), (21, none), (22, none), (23, none)] (fun _ => (H39.sub [1, 0] (by kernel_rfl))) ?_
      refine Sx.dn ?_
      refine Sx.rt 14 [] H39 (.tuple #[.int .i64 0, .bool false]) ?_
      subst hL0
      exact hK _ _ _ (H39.pick (a := [trI Sy p (Tr.mk kd u row ops args)]) [0] (by kernel_rfl)) (saidD_no (fun c k => absurd hse (k.head.1.ops.at hs1)) ⟨by omega, by omega⟩)
    · skip
      have hst1 := (tr_at (S := Sy) (p := p) (t := (Tr.mk kd u row ops args)) H30 0 (by kernel_rfl)).open.1
      obtain ⟨ys, hys, _, hcs⟩ := hst1 _ _ hs1
      have hlen := (List.getElem?_eq_some_iff.1 hs1).1
      obtain ⟨yr, hyr, _, hcr⟩ := hst1 _ _ hr1
      subst hi0
      refine Sx.l 5 1 H30 ?_
      refine Sx.v 1 (.bool (decide (((j + 1 : Nat) : Int) < ((p.na : Nat) : Int)))) (.bool true) (dT (by omega)) ?_
      refine Sx.dr 8 H30 [1, 0] [] (LJ := [.blk k5 (.cells #[.int .i64 kd, .int .i64 u, .int .i64 row, .slice p.A p.na p.ca, .slice p.B p.nb p.cb] 32), trI Sy p (Tr.mk kd u row ops args)]) (by kernel_rfl) fun w33 H40 => ?_
      refine Sx.tk [(0, none), (1, some (0, [])), (2, none)] (fun _ => (H40.sub [1, 0] (by kernel_rfl))) ?_
      refine Sx.tvi 3 [] ys (j + 1) 1 p.na p.ca hys (by omega) (fun _ => (H40.sub [1, 0] (by kernel_rfl))) ?_
      refine Sx.tvo (c := 1) (t := 9) 4 [] [.string s] (.string s) (fun w' hs => tr_str (S := Sy) (p := p) (kd := kd) (n := u) (row := row) (ops := ops) (args := args) hs 1 (by kernel_rfl) hys hs1) (fun _ => (H40.sub [1, 0] (by kernel_rfl))) ?_
      refine Sx.tva 5 [] (.bool (s.toList == (⟨#[]⟩ : ByteArray).toList)) (.bool false) (em_f hse) (fun _ => (H40.sub [1, 0] (by kernel_rfl))) ?_
      refine Sx.tk [(6, none), (7, none)] (fun _ => (H40.sub [1, 0] (by kernel_rfl))) ?_
      refine Sx.tva 8 [] (.bool (decide (((j + 1 : Nat) : Int) > (0 : Int)))) (.bool true) (dT (by omega)) (fun _ => (H40.sub [1, 0] (by kernel_rfl))) ?_
      refine Sx.tk [(9, none), (10, none), (11, some (0, [])), (12, none)] (fun _ => (H40.sub [1, 0] (by kernel_rfl))) ?_
      refine Sx.tva 13 [] (.int .i64 (IntKind.i64.wrap (((j + 1 : Nat) : Int) - (1 : Int)))) (.int .i64 ((j : Nat) : Int)) (congrArg (Value.int .i64) (Gx.i64n (by omega) (by omega))) (fun _ => (H40.sub [1, 0] (by kernel_rfl))) ?_
      refine Sx.tvi 14 [] yr j 1 p.na p.ca hyr (by omega) (fun _ => (H40.sub [1, 0] (by kernel_rfl))) ?_
      refine Sx.tvo (c := 1) (t := 9) 15 [] [.string r] (.string r) (fun w' hs => tr_str (S := Sy) (p := p) (kd := kd) (n := u) (row := row) (ops := ops) (args := args) hs 1 (by kernel_rfl) hyr hr1) (fun _ => (H40.sub [1, 0] (by kernel_rfl))) ?_
      refine Sx.tk [(16, none), (17, some (0, [])), (18, none)] (fun _ => (H40.sub [1, 0] (by kernel_rfl))) ?_
      refine Sx.tvi 19 [] ys (j + 1) 1 p.na p.ca hys (by omega) (fun _ => (H40.sub [1, 0] (by kernel_rfl))) ?_
      refine Sx.tvo (c := 1) (t := 9) 20 [] [.string s] (.string s) (fun w' hs => tr_str (S := Sy) (p := p) (kd := kd) (n := u) (row := row) (ops := ops) (args := args) hs 1 (by kernel_rfl) hys hs1) (fun _ => (H40.sub [1, 0] (by kernel_rfl))) ?_
      refine Sx.tva 21 [] (.bool (!(Go.Op.bytesLess r.toList s.toList || (r.toList == s.toList)))) (.bool true) (gtT hsl) (fun _ => (H40.sub [1, 0] (by kernel_rfl))) ?_
      refine Sx.tk [(22, none), (23, none)] (fun _ => (H40.sub [1, 0] (by kernel_rfl))) ?_
      refine Sx.dn ?_
      refine Sx.rt 14 [] H40 (.tuple #[.int .i64 0, .bool false]) ?_
      subst hL0
      exact hK _ _ _ (H40.pick (a := [trI Sy p (Tr.mk kd u row ops args)]) [0] (by kernel_rfl)) (saidD_no (fun c k => absurd (k.head.1.ops.2 _ _ _ hr1 hs1) (by rw [hsl]; decide)) ⟨by omega, by omega⟩)
    have hst1 := (tr_at (S := Sy) (p := p) (t := (Tr.mk kd u row ops args)) H30 0 (by kernel_rfl)).open.1
    obtain ⟨ys, hys, _, hcs⟩ := hst1 _ _ hs1
    have hlen := (List.getElem?_eq_some_iff.1 hs1).1
    obtain ⟨yr, hyr, _, hcr⟩ := hst1 _ _ hr1
    subst hi0
    refine Sx.l 5 1 H30 ?_
    refine Sx.v 1 (.bool (decide (((j + 1 : Nat) : Int) < ((p.na : Nat) : Int)))) (.bool true) (dT (by omega)) ?_
    refine Sx.dr 8 H30 [1, 0] [] (LJ := [.blk k5 (.cells #[.int .i64 kd, .int .i64 u, .int .i64 row, .slice p.A p.na p.ca, .slice p.B p.nb p.cb] 32), trI Sy p (Tr.mk kd u row ops args)]) (by kernel_rfl) fun w34 H41 => ?_
    refine Sx.tk [(0, none), (1, some (0, [])), (2, none)] (fun _ => (H41.sub [1, 0] (by kernel_rfl))) ?_
    refine Sx.tvi 3 [] ys (j + 1) 1 p.na p.ca hys (by omega) (fun _ => (H41.sub [1, 0] (by kernel_rfl))) ?_
    refine Sx.tvo (c := 1) (t := 9) 4 [] [.string s] (.string s) (fun w' hs => tr_str (S := Sy) (p := p) (kd := kd) (n := u) (row := row) (ops := ops) (args := args) hs 1 (by kernel_rfl) hys hs1) (fun _ => (H41.sub [1, 0] (by kernel_rfl))) ?_
    refine Sx.tva 5 [] (.bool (s.toList == (⟨#[]⟩ : ByteArray).toList)) (.bool false) (em_f hse) (fun _ => (H41.sub [1, 0] (by kernel_rfl))) ?_
    refine Sx.tk [(6, none), (7, none)] (fun _ => (H41.sub [1, 0] (by kernel_rfl))) ?_
    refine Sx.tva 8 [] (.bool (decide (((j + 1 : Nat) : Int) > (0 : Int)))) (.bool true) (dT (by omega)) (fun _ => (H41.sub [1, 0] (by kernel_rfl))) ?_
    refine Sx.tk [(9, none), (10, none), (11, some (0, [])), (12, none)] (fun _ => (H41.sub [1, 0] (by kernel_rfl))) ?_
    refine Sx.tva 13 [] (.int .i64 (IntKind.i64.wrap (((j + 1 : Nat) : Int) - (1 : Int)))) (.int .i64 ((j : Nat) : Int)) (congrArg (Value.int .i64) (Gx.i64n (by omega) (by omega))) (fun _ => (H41.sub [1, 0] (by kernel_rfl))) ?_
    refine Sx.tvi 14 [] yr j 1 p.na p.ca hyr (by omega) (fun _ => (H41.sub [1, 0] (by kernel_rfl))) ?_
    refine Sx.tvo (c := 1) (t := 9) 15 [] [.string r] (.string r) (fun w' hs => tr_str (S := Sy) (p := p) (kd := kd) (n := u) (row := row) (ops := ops) (args := args) hs 1 (by kernel_rfl) hyr hr1) (fun _ => (H41.sub [1, 0] (by kernel_rfl))) ?_
    refine Sx.tk [(16, none), (17, some (0, [])), (18, none)] (fun _ => (H41.sub [1, 0] (by kernel_rfl))) ?_
    refine Sx.tvi 19 [] ys (j + 1) 1 p.na p.ca hys (by omega) (fun _ => (H41.sub [1, 0] (by kernel_rfl))) ?_
    refine Sx.tvo (c := 1) (t := 9) 20 [] [.string s] (.string s) (fun w' hs => tr_str (S := Sy) (p := p) (kd := kd) (n := u) (row := row) (ops := ops) (args := args) hs 1 (by kernel_rfl) hys hs1) (fun _ => (H41.sub [1, 0] (by kernel_rfl))) ?_
    refine Sx.tva 21 [] (.bool (!(Go.Op.bytesLess r.toList s.toList || (r.toList == s.toList)))) (.bool false) (gtF hsl) (fun _ => (H41.sub [1, 0] (by kernel_rfl))) ?_
    refine Sx.tk [(22, none), (23, none)] (fun _ => (H41.sub [1, 0] (by kernel_rfl))) ?_
    refine Sx.dn ?_
    refine Sx.v 7 (.int .i64 (IntKind.i64.wrap (((j + 1 : Nat) : Int) + (1 : Int)))) (.int .i64 (((j + 1) + 1 : Nat) : Int)) (congrArg (Value.int .i64) (Gx.i64n (by omega) (by omega))) ?_
    have H42 := H41.pick (a := [trI Sy p (Tr.mk kd u row ops args), .blk k5 (.cells #[.int .i64 kd, .int .i64 u, .int .i64 row, .slice p.A p.na p.ca, .slice p.B p.nb p.cb] 32)]) [0, 0] (by kernel_rfl)
    exact Sx.to 2 [(1, .int .i64 ((deep : Nat) : Int)), (2, .pointer (some ⟨k5, 0, none⟩)), (8, .int .i64 (((j + 1 + 1) : Nat) : Int))] (hK6 _ _ _ _ (by omega) ⟨(j + 1 + 1), rfl, rfl, H42, (hOT.more hr1 hs1 hse hsl), hlen⟩)
  refine Sx.nw 2 H fun k6 w35 H43 => ?_
  refine Sx.dr 6 H43 [1] [] (LJ := [.blk k6 (.cells #[.int .i64 kd, .int .i64 u, .int .i64 row, .slice p.A p.na p.ca, .slice p.B p.nb p.cb] 32)]) (by kernel_rfl) fun w36 H44 => ?_
  refine Sx.tk [(0, none)] (fun _ => (H44.sub [1] (by kernel_rfl))) ?_
  refine Sx.tva 1 [] (.bool (decide (((deep : Nat) : Int) > (300 : Int)))) (.bool false) (dF (by omega)) (fun _ => (H44.sub [1] (by kernel_rfl))) ?_
  refine Sx.tk [(2, none), (3, none), (4, some (0, [])), (5, none), (6, none), (7, some (0, []))] (fun _ => (H44.sub [1] (by kernel_rfl))) ?_
  refine Sx.nmx ?_
  intro zx5
  refine Sx.on 8 ?_
  refine Sx.c 0 [] H44 (fun Hp7 R7 hR7 => args_c kd w36 R7 Hp7  (fun w37 G7 => hR7 _ _ _ G7 fun H45 => ?_))
  refine Sx.bk (x := zx5) 8 (fun _ => (H45.sub [1] (by kernel_rfl))) ?_
  refine Sx.tva 9 [] (.bool (((p.nb : Nat) : Int) != (ar kd))) (.bool false) (nF (by omega)) (fun _ => (H45.sub [1] (by kernel_rfl))) ?_
  refine Sx.tk [(10, none), (11, none), (12, none), (13, some (0, [])), (14, none)] (fun _ => (H45.sub [1] (by kernel_rfl))) ?_
  refine Sx.tva 15 [] (.bool (decide (((p.na : Nat) : Int) > (300 : Int)))) (.bool false) (dF (by omega)) (fun _ => (H45.sub [1] (by kernel_rfl))) ?_
  refine Sx.tk [(16, none)] (fun _ => (H45.sub [1] (by kernel_rfl))) ?_
  refine Sx.dn ?_
  refine Sx.l 7 1 H45 ?_
  refine Sx.v 0 (.bool (kd == (0 : Int))) (.bool false) (eF (by omega)) ?_
  refine Sx.l 6 1 H45 ?_
  refine Sx.v 0 (.bool (kd == (6 : Int))) (.bool false) (eF (by omega)) ?_
  refine Sx.cut 4 (fun l' w' => l' = [(1, .int .i64 ((deep : Nat) : Int)), (2, .pointer (some ⟨k6, 0, none⟩)), (80, .bool ((((u != (0 : Int)) || ((decide (((p.na : Nat) : Int) > (0 : Int))) || (row != (0 : Int)))) || (decide (row < (0 : Int)))) || (decide (row > (1000000000 : Int)))))] ∧ w37 = w') (fun K9 hK9 => ?_) (fun b11 l9 w38 hI9 => ?_)
  · skip
    refine Sx.l 17 1 H45 ?_
    refine Sx.sp 4 56 (u != (0 : Int)) (fun h_g56 => ?_) (fun h_g56 => ?_)
    · skip
      exact Sx.to 25 [(1, .int .i64 ((deep : Nat) : Int)), (2, .pointer (some ⟨k6, 0, none⟩)), (80, .bool ((((u != (0 : Int)) || ((decide (((p.na : Nat) : Int) > (0 : Int))) || (row != (0 : Int)))) || (decide (row < (0 : Int)))) || (decide (row > (1000000000 : Int)))))] (hK9 _ _ _ ⟨rfl, rfl⟩) (h2 := (by rw [h_g56]; try kernel_rfl))
    refine Sx.l 4 1 H45 ?_
    refine Sx.sp 3 64 (decide (((p.na : Nat) : Int) > (0 : Int))) (fun h_g64 => ?_) (fun h_g64 => ?_)
    · skip
      exact Sx.to 17 [(1, .int .i64 ((deep : Nat) : Int)), (2, .pointer (some ⟨k6, 0, none⟩)), (80, .bool ((((u != (0 : Int)) || ((decide (((p.na : Nat) : Int) > (0 : Int))) || (row != (0 : Int)))) || (decide (row < (0 : Int)))) || (decide (row > (1000000000 : Int)))))] (hK9 _ _ _ ⟨rfl, rfl⟩) (h2 := (by rw [h_g56, h_g64]; try kernel_rfl))
    refine Sx.l 1 1 H45 ?_
    refine Sx.sp 5 71 (row != (0 : Int)) (fun h_g71 => ?_) (fun h_g71 => ?_)
    · skip
      exact Sx.to 10 [(1, .int .i64 ((deep : Nat) : Int)), (2, .pointer (some ⟨k6, 0, none⟩)), (80, .bool ((((u != (0 : Int)) || ((decide (((p.na : Nat) : Int) > (0 : Int))) || (row != (0 : Int)))) || (decide (row < (0 : Int)))) || (decide (row > (1000000000 : Int)))))] (hK9 _ _ _ ⟨rfl, rfl⟩) (h2 := (by rw [h_g56, h_g64, h_g71]; try kernel_rfl))
    refine Sx.l 1 1 H45 ?_
    refine Sx.sp 3 76 (decide (row < (0 : Int))) (fun h_g76 => ?_) (fun h_g76 => ?_)
    · skip
      exact Sx.to 5 [(1, .int .i64 ((deep : Nat) : Int)), (2, .pointer (some ⟨k6, 0, none⟩)), (80, .bool ((((u != (0 : Int)) || ((decide (((p.na : Nat) : Int) > (0 : Int))) || (row != (0 : Int)))) || (decide (row < (0 : Int)))) || (decide (row > (1000000000 : Int)))))] (hK9 _ _ _ ⟨rfl, rfl⟩) (h2 := (by rw [h_g56, h_g64, h_g71, h_g76]; try kernel_rfl))
    refine Sx.l 1 1 H45 ?_
    exact Sx.to 3 [(1, .int .i64 ((deep : Nat) : Int)), (2, .pointer (some ⟨k6, 0, none⟩)), (80, .bool ((((u != (0 : Int)) || ((decide (((p.na : Nat) : Int) > (0 : Int))) || (row != (0 : Int)))) || (decide (row < (0 : Int)))) || (decide (row > (1000000000 : Int)))))] (hK9 _ _ _ ⟨rfl, rfl⟩) (h2 := (by rw [h_g56, h_g64, h_g71, h_g76]; try kernel_rfl))
  obtain ⟨rfl, rfl⟩ := hI9
  refine Sx.br 0 ((((u != (0 : Int)) || ((decide (((p.na : Nat) : Int) > (0 : Int))) || (row != (0 : Int)))) || (decide (row < (0 : Int)))) || (decide (row > (1000000000 : Int)))) (fun h_c80 => ?_) (fun h_c80 => ?_)
  · skip
    refine Sx.rt 8 [] H45 (.tuple #[.int .i64 0, .bool false]) ?_
    have p_c80 := h_c80; try simp [-List.getD_eq_getElem?_getD] at p_c80
    subst hL0
    exact hK _ _ _ (H45.pick (a := [trI Sy p (Tr.mk kd u row ops args)]) [0] (by kernel_rfl)) (saidD_no (fun c k => by have := k.head.1.lin; omega) ⟨by omega, by omega⟩)
  have p_c80 := h_c80; try simp [-List.getD_eq_getElem?_getD] at p_c80
  have hHd : (kd = 0 → 1 ≤ u ∧ u ≤ 1000000000) ∧ (kd ≠ 0 → u = 0) ∧ (kd ≠ 6 → ops.length = 0 ∧ row = 0) ∧ 0 ≤ row ∧ row ≤ 1000000000 := by omega
  have H46 := H45.pick (a := [trI Sy p (Tr.mk kd u row ops args), .blk k6 (.cells #[.int .i64 kd, .int .i64 u, .int .i64 row, .slice p.A p.na p.ca, .slice p.B p.nb p.cb] 32)]) [0, 0] (by kernel_rfl)
  refine Sx.lp 9 (fun z l' w' => ∃ (i : Nat), l' = [(1, .int .i64 ((deep : Nat) : Int)), (2, .pointer (some ⟨k6, 0, none⟩)), (8, .int .i64 ((i : Nat) : Int))] ∧ z = ops.length - i ∧ Hs w L0 w' [trI Sy p (Tr.mk kd u row ops args), .blk k6 (.cells #[.int .i64 kd, .int .i64 u, .int .i64 row, .slice p.A p.na p.ca, .slice p.B p.nb p.cb] 32)] ∧ (OpsTo ops i) ∧ (i ≤ ops.length)) _ [(1, .int .i64 ((deep : Nat) : Int)), (2, .pointer (some ⟨k6, 0, none⟩)), (8, .int .i64 ((0 : Nat) : Int))] ⟨0, rfl, rfl, H46, (OpsTo.nil ops), (Nat.zero_le _)⟩ (fun b12 z7 l10 w39 hI10 K10 hK10 => ?_)
  obtain ⟨i, rfl, rfl, H47, hOT, hil⟩ := hI10
  rcases ops_cs hil with hx | ⟨hi0, s, hs1, hse⟩ | ⟨hi0, s, hs1, hse⟩ | ⟨j, r, s, hi0, hr1, hs1, hse⟩ | ⟨j, r, s, hi0, hr1, hs1, hse, hsl⟩ | ⟨j, r, s, hi0, hr1, hs1, hse, hsl⟩
  · skip
    refine Sx.l 5 1 H47 ?_
    refine Sx.v 1 (.bool (decide (((i : Nat) : Int) < ((p.na : Nat) : Int)))) (.bool false) (dF (by omega)) ?_
    refine Sx.l 11 1 H47 ?_
    refine Sx.v 1 (.int .i64 (IntKind.i64.wrap ((1 : Int) + ((p.na : Nat) : Int)))) (.int .i64 ((1 + p.na : Nat) : Int)) (congrArg (Value.int .i64) (Gx.i64n (by omega) (by omega))) ?_
    have hOK := hOT.done hx
    have H48 := H47.pick (a := [trI Sy p (Tr.mk kd u row ops args), .blk k6 (.cells #[.int .i64 kd, .int .i64 u, .int .i64 row, .slice p.A p.na p.ca, .slice p.B p.nb p.cb] 32)]) [0, 0] (by kernel_rfl)
    refine Sx.lp 10 (fun z l' w' => ∃ (i : Nat) (s : Nat), l' = [(1, .int .i64 ((deep : Nat) : Int)), (2, .pointer (some ⟨k6, 0, none⟩)), (9, .int .i64 ((1 + p.na + s : Nat) : Int)), (10, .int .i64 ((i : Nat) : Int))] ∧ z = args.length - i ∧ Hs w L0 w' [trI Sy p (Tr.mk kd u row ops args), .blk k6 (.cells #[.int .i64 kd, .int .i64 u, .int .i64 row, .slice p.A p.na p.ca, .slice p.B p.nb p.cb] 32)] ∧ (FNs args i s) ∧ (i ≤ args.length) ∧ ((i = 0 ∧ s = 0) ∨ 1 + ops.length + s ≤ 300)) _ [(1, .int .i64 ((deep : Nat) : Int)), (2, .pointer (some ⟨k6, 0, none⟩)), (9, .int .i64 ((1 + p.na + 0 : Nat) : Int)), (10, .int .i64 ((0 : Nat) : Int))] ⟨0, 0, rfl, rfl, H48, (FNs.nil args), (Nat.zero_le _), (.inl ⟨rfl, rfl⟩)⟩ (fun b13 z8 l11 w40 hI11 K11 hK11 => ?_)
    obtain ⟨i, s, rfl, rfl, H49, hFs, hil, hsb⟩ := hI11
    rcases Nat.lt_or_ge i args.length with hx2 | hx2
    · skip
      obtain ⟨⟨k0, u0, r0, o0, a0⟩, hti⟩ : ∃ t, args[i]? = some t := ⟨_, List.getElem?_eq_getElem hx2⟩
      obtain ⟨q, aq, haq, hcq, hq⟩ := hkid i _ hti
      obtain ⟨q, aq, haq, hcq, hq⟩ := (tr_at (S := Sy) (p := p) (t := (Tr.mk kd u row ops args)) H49 0 (by kernel_rfl)).open.2.2.2.2 i _ hti
      have H50 := H49.ro 0 (S := Sy) (A := fun w => TrIn w Sy p (Tr.mk kd u row ops args)) (B := fun w => TrIn w Sy q (Tr.mk k0 u0 r0 o0 a0)) (by kernel_rfl) hq (trI_loc _ _ _)
      refine Sx.l 5 1 H50 ?_
      refine Sx.v 1 (.bool (decide (((i : Nat) : Int) < ((p.nb : Nat) : Int)))) (.bool true) (dT (by omega)) ?_
      refine Sx.l 10 1 H50 ?_
      refine Sx.ia 1 aq i 5 p.nb p.cb haq (by omega) ?_
      refine Sx.lo (c := 5) (t := 32) 0 [.int .i64 k0, .int .i64 u0, .int .i64 r0, .slice q.A q.na q.ca, .slice q.B q.nb q.cb] (.agg #[.int .i64 k0, .int .i64 u0, .int .i64 r0, .slice q.A q.na q.ca, .slice q.B q.nb q.cb]) hcq ?_
      refine Sx.v 1 (.int .i64 (IntKind.i64.wrap (((deep : Nat) : Int) + (1 : Int)))) (.int .i64 ((deep + 1 : Nat) : Int)) (congrArg (Value.int .i64) (Gx.i64n (by omega) (by omega))) ?_
      refine Sx.c 0 [2] H50 (fun Hp8 R8 hR8 => ih Sy k0 u0 r0 o0 a0 q (deep + 1) w40 R8 Hp8 (by omega) (by omega) (fun z9 b14 w41 G8 hS3 => hR8 _ _ _ G8 fun H51 => ?_))
      have hzz := hS3.z
      refine Sx.v 11 (.int .i64 (IntKind.i64.wrap (((1 + p.na + s : Nat) : Int) + z9))) (.int .i64 (((1 + p.na + s : Nat) : Int) + z9)) (congrArg (Value.int .i64) (IntWalk.i64_in _ (by omega))) ?_
      refine Sx.cut 3 (fun l' w' => l' = [(1, .int .i64 ((deep : Nat) : Int)), (2, .pointer (some ⟨k6, 0, none⟩)), (9, .int .i64 (((1 + p.na + s : Nat) : Int) + z9)), (10, .int .i64 ((i : Nat) : Int)), (142, .bool ((!b14) || (decide ((((1 + p.na + s : Nat) : Int) + z9) > (300 : Int)))))] ∧ w41 = w') (fun K12 hK12 => ?_) (fun b15 l12 w42 hI12 => ?_)
      · skip
        refine Sx.sp 4 139 (!b14) (fun h_g139 => ?_) (fun h_g139 => ?_)
        · skip
          exact Sx.to 4 [(1, .int .i64 ((deep : Nat) : Int)), (2, .pointer (some ⟨k6, 0, none⟩)), (9, .int .i64 (((1 + p.na + s : Nat) : Int) + z9)), (10, .int .i64 ((i : Nat) : Int)), (142, .bool ((!b14) || (decide ((((1 + p.na + s : Nat) : Int) + z9) > (300 : Int)))))] (hK12 _ _ _ ⟨rfl, rfl⟩) (h2 := (by rw [h_g139]; try kernel_rfl))
        exact Sx.to 4 [(1, .int .i64 ((deep : Nat) : Int)), (2, .pointer (some ⟨k6, 0, none⟩)), (9, .int .i64 (((1 + p.na + s : Nat) : Int) + z9)), (10, .int .i64 ((i : Nat) : Int)), (142, .bool ((!b14) || (decide ((((1 + p.na + s : Nat) : Int) + z9) > (300 : Int)))))] (hK12 _ _ _ ⟨rfl, rfl⟩) (h2 := (by rw [h_g139]; try kernel_rfl))
      obtain ⟨rfl, rfl⟩ := hI12
      refine Sx.br 0 ((!b14) || (decide ((((1 + p.na + s : Nat) : Int) + z9) > (300 : Int)))) (fun h_c142 => ?_) (fun h_c142 => ?_)
      · skip
        refine Sx.rt 13 [] H51 (.tuple #[.int .i64 (((1 + p.na + s : Nat) : Int) + z9), .bool false]) ?_
        subst hL0
        exact hK _ _ _ (H51.pick (a := [trI Sy p (Tr.mk kd u row ops args)]) [1] (by kernel_rfl)) (saidD_no (fun c k => by obtain ⟨c1, h1, h2⟩ := (hFs.ge hil k).2 _ hti; have hzz := hS3.z; cases hb : b14 with | false => (have := hS3.n hb c1 h1; omega) | true => (obtain ⟨c2, hz2, hf2, _⟩ := hS3.y hb; have e12 := hf2.det h1; rw [hb] at h_c142; simp at h_c142; omega)) (by have := hS3.z; omega))
      have hb1 : b14 = true := by cases b14 with
        | true => rfl
        | false => simp at h_c142
      have hle := h_c142
      rw [hb1] at hle; simp at hle
      obtain ⟨c1, hz1, hfn, hcl⟩ := hS3.y hb1
      subst hz1
      refine Sx.sl 0 9 (.int .i64 (((1 + p.na + s : Nat) : Int) + ((c1 : Nat) : Int))) (.int .i64 ((1 + p.na + (s + c1) : Nat) : Int)) (congrArg (Value.int .i64) (by omega)) ?_
      refine Sx.v 5 (.int .i64 (IntKind.i64.wrap (((i : Nat) : Int) + (1 : Int)))) (.int .i64 ((i + 1 : Nat) : Int)) (congrArg (Value.int .i64) (Gx.i64n (by omega) (by omega))) ?_
      have H52 := H51.pick (a := [trI Sy p (Tr.mk kd u row ops args), .blk k6 (.cells #[.int .i64 kd, .int .i64 u, .int .i64 row, .slice p.A p.na p.ca, .slice p.B p.nb p.cb] 32)]) [1, 1] (by kernel_rfl)
      exact Sx.to 2 [(1, .int .i64 ((deep : Nat) : Int)), (2, .pointer (some ⟨k6, 0, none⟩)), (9, .int .i64 ((1 + p.na + (s + c1) : Nat) : Int)), (10, .int .i64 (((i + 1) : Nat) : Int))] (hK11 _ _ _ _ (by omega) ⟨(i + 1), (s + c1), rfl, rfl, H52, (hFs.snoc hti hfn), (by omega), (by omega)⟩)
    have hie : i = args.length := by omega
    refine Sx.l 5 1 H49 ?_
    refine Sx.v 1 (.bool (decide (((i : Nat) : Int) < ((p.nb : Nat) : Int)))) (.bool false) (dF (by omega)) ?_
    refine Sx.rt 16 [] H49 (.tuple #[.int .i64 ((1 + p.na + s : Nat) : Int), .bool true]) ?_
    subst hL0
    have hfn := (hie ▸ hFs : FNs args args.length s).done (.of hB hHd hOK)
    have ez : (((1 + p.na + s : Nat)) : Int) = ((1 + ops.length + s : Nat) : Int) := by rw [hna]
    exact Gx.ret_as (by rw [ez]) (hK _ true _ (H49.pick (a := [trI Sy p (Tr.mk kd u row ops args)]) [0] (by kernel_rfl)) (saidD_yes hfn (by omega) (by omega)))
  · skip
    have hst1 := (tr_at (S := Sy) (p := p) (t := (Tr.mk kd u row ops args)) H47 0 (by kernel_rfl)).open.1
    obtain ⟨ys, hys, _, hcs⟩ := hst1 _ _ hs1
    have hlen := (List.getElem?_eq_some_iff.1 hs1).1
    subst hi0
    refine Sx.l 5 1 H47 ?_
    refine Sx.v 1 (.bool (decide ((0 : Int) < ((p.na : Nat) : Int)))) (.bool true) (dT (by omega)) ?_
    refine Sx.dr 8 H47 [1, 0] [] (LJ := [.blk k6 (.cells #[.int .i64 kd, .int .i64 u, .int .i64 row, .slice p.A p.na p.ca, .slice p.B p.nb p.cb] 32), trI Sy p (Tr.mk kd u row ops args)]) (by kernel_rfl) fun w43 H53 => ?_
    refine Sx.tk [(0, none), (1, some (0, [])), (2, none)] (fun _ => (H53.sub [1, 0] (by kernel_rfl))) ?_
    refine Sx.tvi 3 [] ys 0 1 p.na p.ca hys (by omega) (fun _ => (H53.sub [1, 0] (by kernel_rfl))) ?_
    refine Sx.tvo (c := 1) (t := 9) 4 [] [.string s] (.string s) (fun w' hs => tr_str (S := Sy) (p := p) (kd := kd) (n := u) (row := row) (ops := ops) (args := args) hs 1 (by kernel_rfl) hys hs1) (fun _ => (H53.sub [1, 0] (by kernel_rfl))) ?_
    refine Sx.tva 5 [] (.bool (s.toList == (⟨#[]⟩ : ByteArray).toList)) (.bool true) (em_t hse) (fun _ => (H53.sub [1, 0] (by kernel_rfl))) ?_
    refine Sx.tk [(6, none), (7, none), (8, none), (9, none), (10, none), (11, none), (12, none), (13, none), (14, none), (15, none), (16, none), (17, none), (18, none), (19, none), (20, none), (21, none), (22, none), (23, none)] (fun _ => (H53.sub [1, 0] (by kernel_rfl))) ?_
    refine Sx.dn ?_
    refine Sx.rt 14 [] H53 (.tuple #[.int .i64 0, .bool false]) ?_
    subst hL0
    exact hK _ _ _ (H53.pick (a := [trI Sy p (Tr.mk kd u row ops args)]) [0] (by kernel_rfl)) (saidD_no (fun c k => absurd hse (k.head.1.ops.at hs1)) ⟨by omega, by omega⟩)
  · skip
    have hst1 := (tr_at (S := Sy) (p := p) (t := (Tr.mk kd u row ops args)) H47 0 (by kernel_rfl)).open.1
    obtain ⟨ys, hys, _, hcs⟩ := hst1 _ _ hs1
    have hlen := (List.getElem?_eq_some_iff.1 hs1).1
    subst hi0
    refine Sx.l 5 1 H47 ?_
    refine Sx.v 1 (.bool (decide ((0 : Int) < ((p.na : Nat) : Int)))) (.bool true) (dT (by omega)) ?_
    refine Sx.dr 8 H47 [1, 0] [] (LJ := [.blk k6 (.cells #[.int .i64 kd, .int .i64 u, .int .i64 row, .slice p.A p.na p.ca, .slice p.B p.nb p.cb] 32), trI Sy p (Tr.mk kd u row ops args)]) (by kernel_rfl) fun w44 H54 => ?_
    refine Sx.tk [(0, none), (1, some (0, [])), (2, none)] (fun _ => (H54.sub [1, 0] (by kernel_rfl))) ?_
    refine Sx.tvi 3 [] ys 0 1 p.na p.ca hys (by omega) (fun _ => (H54.sub [1, 0] (by kernel_rfl))) ?_
    refine Sx.tvo (c := 1) (t := 9) 4 [] [.string s] (.string s) (fun w' hs => tr_str (S := Sy) (p := p) (kd := kd) (n := u) (row := row) (ops := ops) (args := args) hs 1 (by kernel_rfl) hys hs1) (fun _ => (H54.sub [1, 0] (by kernel_rfl))) ?_
    refine Sx.tva 5 [] (.bool (s.toList == (⟨#[]⟩ : ByteArray).toList)) (.bool false) (em_f hse) (fun _ => (H54.sub [1, 0] (by kernel_rfl))) ?_
    refine Sx.tk [(6, none), (7, none)] (fun _ => (H54.sub [1, 0] (by kernel_rfl))) ?_
    refine Sx.tva 8 [] (.bool (decide ((0 : Int) > (0 : Int)))) (.bool false) (dF (by omega)) (fun _ => (H54.sub [1, 0] (by kernel_rfl))) ?_
    refine Sx.tk [(9, none), (10, none), (11, none), (12, none), (13, none), (14, none), (15, none), (16, none), (17, none), (18, none), (19, none), (20, none), (21, none), (22, none), (23, none)] (fun _ => (H54.sub [1, 0] (by kernel_rfl))) ?_
    refine Sx.dn ?_
    have H55 := H54.pick (a := [trI Sy p (Tr.mk kd u row ops args), .blk k6 (.cells #[.int .i64 kd, .int .i64 u, .int .i64 row, .slice p.A p.na p.ca, .slice p.B p.nb p.cb] 32)]) [0, 0] (by kernel_rfl)
    exact Sx.to 10 [(1, .int .i64 ((deep : Nat) : Int)), (2, .pointer (some ⟨k6, 0, none⟩)), (8, .int .i64 (((0 + 1) : Nat) : Int))] (hK10 _ _ _ _ (by omega) ⟨(0 + 1), rfl, rfl, H55, (OpsTo.one hs1 hse), hlen⟩)
  · skip
    have hst1 := (tr_at (S := Sy) (p := p) (t := (Tr.mk kd u row ops args)) H47 0 (by kernel_rfl)).open.1
    obtain ⟨ys, hys, _, hcs⟩ := hst1 _ _ hs1
    have hlen := (List.getElem?_eq_some_iff.1 hs1).1
    obtain ⟨yr, hyr, _, hcr⟩ := hst1 _ _ hr1
    subst hi0
    refine Sx.l 5 1 H47 ?_
    refine Sx.v 1 (.bool (decide (((j + 1 : Nat) : Int) < ((p.na : Nat) : Int)))) (.bool true) (dT (by omega)) ?_
    refine Sx.dr 8 H47 [1, 0] [] (LJ := [.blk k6 (.cells #[.int .i64 kd, .int .i64 u, .int .i64 row, .slice p.A p.na p.ca, .slice p.B p.nb p.cb] 32), trI Sy p (Tr.mk kd u row ops args)]) (by kernel_rfl) fun w45 H56 => ?_
    refine Sx.tk [(0, none), (1, some (0, [])), (2, none)] (fun _ => (H56.sub [1, 0] (by kernel_rfl))) ?_
    refine Sx.tvi 3 [] ys (j + 1) 1 p.na p.ca hys (by omega) (fun _ => (H56.sub [1, 0] (by kernel_rfl))) ?_
    refine Sx.tvo (c := 1) (t := 9) 4 [] [.string s] (.string s) (fun w' hs => tr_str (S := Sy) (p := p) (kd := kd) (n := u) (row := row) (ops := ops) (args := args) hs 1 (by kernel_rfl) hys hs1) (fun _ => (H56.sub [1, 0] (by kernel_rfl))) ?_
    refine Sx.tva 5 [] (.bool (s.toList == (⟨#[]⟩ : ByteArray).toList)) (.bool true) (em_t hse) (fun _ => (H56.sub [1, 0] (by kernel_rfl))) ?_
    refine Sx.tk [(6, none), (7, none), (8, none), (9, none), (10, none), (11, none), (12, none), (13, none), (14, none), (15, none), (16, none), (17, none), (18, none), (19, none), (20, none), (21, none), (22, none), (23, none)] (fun _ => (H56.sub [1, 0] (by kernel_rfl))) ?_
    refine Sx.dn ?_
    refine Sx.rt 14 [] H56 (.tuple #[.int .i64 0, .bool false]) ?_
    subst hL0
    exact hK _ _ _ (H56.pick (a := [trI Sy p (Tr.mk kd u row ops args)]) [0] (by kernel_rfl)) (saidD_no (fun c k => absurd hse (k.head.1.ops.at hs1)) ⟨by omega, by omega⟩)
  · skip
    have hst1 := (tr_at (S := Sy) (p := p) (t := (Tr.mk kd u row ops args)) H47 0 (by kernel_rfl)).open.1
    obtain ⟨ys, hys, _, hcs⟩ := hst1 _ _ hs1
    have hlen := (List.getElem?_eq_some_iff.1 hs1).1
    obtain ⟨yr, hyr, _, hcr⟩ := hst1 _ _ hr1
    subst hi0
    refine Sx.l 5 1 H47 ?_
    refine Sx.v 1 (.bool (decide (((j + 1 : Nat) : Int) < ((p.na : Nat) : Int)))) (.bool true) (dT (by omega)) ?_
    refine Sx.dr 8 H47 [1, 0] [] (LJ := [.blk k6 (.cells #[.int .i64 kd, .int .i64 u, .int .i64 row, .slice p.A p.na p.ca, .slice p.B p.nb p.cb] 32), trI Sy p (Tr.mk kd u row ops args)]) (by kernel_rfl) fun w46 H57 => ?_
    refine Sx.tk [(0, none), (1, some (0, [])), (2, none)] (fun _ => (H57.sub [1, 0] (by kernel_rfl))) ?_
    refine Sx.tvi 3 [] ys (j + 1) 1 p.na p.ca hys (by omega) (fun _ => (H57.sub [1, 0] (by kernel_rfl))) ?_
    refine Sx.tvo (c := 1) (t := 9) 4 [] [.string s] (.string s) (fun w' hs => tr_str (S := Sy) (p := p) (kd := kd) (n := u) (row := row) (ops := ops) (args := args) hs 1 (by kernel_rfl) hys hs1) (fun _ => (H57.sub [1, 0] (by kernel_rfl))) ?_
    refine Sx.tva 5 [] (.bool (s.toList == (⟨#[]⟩ : ByteArray).toList)) (.bool false) (em_f hse) (fun _ => (H57.sub [1, 0] (by kernel_rfl))) ?_
    refine Sx.tk [(6, none), (7, none)] (fun _ => (H57.sub [1, 0] (by kernel_rfl))) ?_
    refine Sx.tva 8 [] (.bool (decide (((j + 1 : Nat) : Int) > (0 : Int)))) (.bool true) (dT (by omega)) (fun _ => (H57.sub [1, 0] (by kernel_rfl))) ?_
    refine Sx.tk [(9, none), (10, none), (11, some (0, [])), (12, none)] (fun _ => (H57.sub [1, 0] (by kernel_rfl))) ?_
    refine Sx.tva 13 [] (.int .i64 (IntKind.i64.wrap (((j + 1 : Nat) : Int) - (1 : Int)))) (.int .i64 ((j : Nat) : Int)) (congrArg (Value.int .i64) (Gx.i64n (by omega) (by omega))) (fun _ => (H57.sub [1, 0] (by kernel_rfl))) ?_
    refine Sx.tvi 14 [] yr j 1 p.na p.ca hyr (by omega) (fun _ => (H57.sub [1, 0] (by kernel_rfl))) ?_
    refine Sx.tvo (c := 1) (t := 9) 15 [] [.string r] (.string r) (fun w' hs => tr_str (S := Sy) (p := p) (kd := kd) (n := u) (row := row) (ops := ops) (args := args) hs 1 (by kernel_rfl) hyr hr1) (fun _ => (H57.sub [1, 0] (by kernel_rfl))) ?_
    refine Sx.tk [(16, none), (17, some (0, [])), (18, none)] (fun _ => (H57.sub [1, 0] (by kernel_rfl))) ?_
    refine Sx.tvi 19 [] ys (j + 1) 1 p.na p.ca hys (by omega) (fun _ => (H57.sub [1, 0] (by kernel_rfl))) ?_
    refine Sx.tvo (c := 1) (t := 9) 20 [] [.string s] (.string s) (fun w' hs => tr_str (S := Sy) (p := p) (kd := kd) (n := u) (row := row) (ops := ops) (args := args) hs 1 (by kernel_rfl) hys hs1) (fun _ => (H57.sub [1, 0] (by kernel_rfl))) ?_
    refine Sx.tva 21 [] (.bool (!(Go.Op.bytesLess r.toList s.toList || (r.toList == s.toList)))) (.bool true) (gtT hsl) (fun _ => (H57.sub [1, 0] (by kernel_rfl))) ?_
    refine Sx.tk [(22, none), (23, none)] (fun _ => (H57.sub [1, 0] (by kernel_rfl))) ?_
    refine Sx.dn ?_
    refine Sx.rt 14 [] H57 (.tuple #[.int .i64 0, .bool false]) ?_
    subst hL0
    exact hK _ _ _ (H57.pick (a := [trI Sy p (Tr.mk kd u row ops args)]) [0] (by kernel_rfl)) (saidD_no (fun c k => absurd (k.head.1.ops.2 _ _ _ hr1 hs1) (by rw [hsl]; decide)) ⟨by omega, by omega⟩)
  have hst1 := (tr_at (S := Sy) (p := p) (t := (Tr.mk kd u row ops args)) H47 0 (by kernel_rfl)).open.1
  obtain ⟨ys, hys, _, hcs⟩ := hst1 _ _ hs1
  have hlen := (List.getElem?_eq_some_iff.1 hs1).1
  obtain ⟨yr, hyr, _, hcr⟩ := hst1 _ _ hr1
  subst hi0
  refine Sx.l 5 1 H47 ?_
  refine Sx.v 1 (.bool (decide (((j + 1 : Nat) : Int) < ((p.na : Nat) : Int)))) (.bool true) (dT (by omega)) ?_
  refine Sx.dr 8 H47 [1, 0] [] (LJ := [.blk k6 (.cells #[.int .i64 kd, .int .i64 u, .int .i64 row, .slice p.A p.na p.ca, .slice p.B p.nb p.cb] 32), trI Sy p (Tr.mk kd u row ops args)]) (by kernel_rfl) fun w47 H58 => ?_
  refine Sx.tk [(0, none), (1, some (0, [])), (2, none)] (fun _ => (H58.sub [1, 0] (by kernel_rfl))) ?_
  refine Sx.tvi 3 [] ys (j + 1) 1 p.na p.ca hys (by omega) (fun _ => (H58.sub [1, 0] (by kernel_rfl))) ?_
  refine Sx.tvo (c := 1) (t := 9) 4 [] [.string s] (.string s) (fun w' hs => tr_str (S := Sy) (p := p) (kd := kd) (n := u) (row := row) (ops := ops) (args := args) hs 1 (by kernel_rfl) hys hs1) (fun _ => (H58.sub [1, 0] (by kernel_rfl))) ?_
  refine Sx.tva 5 [] (.bool (s.toList == (⟨#[]⟩ : ByteArray).toList)) (.bool false) (em_f hse) (fun _ => (H58.sub [1, 0] (by kernel_rfl))) ?_
  refine Sx.tk [(6, none), (7, none)] (fun _ => (H58.sub [1, 0] (by kernel_rfl))) ?_
  refine Sx.tva 8 [] (.bool (decide (((j + 1 : Nat) : Int) > (0 : Int)))) (.bool true) (dT (by omega)) (fun _ => (H58.sub [1, 0] (by kernel_rfl))) ?_
  refine Sx.tk [(9, none), (10, none), (11, some (0, [])), (12, none)] (fun _ => (H58.sub [1, 0] (by kernel_rfl))) ?_
  refine Sx.tva 13 [] (.int .i64 (IntKind.i64.wrap (((j + 1 : Nat) : Int) - (1 : Int)))) (.int .i64 ((j : Nat) : Int)) (congrArg (Value.int .i64) (Gx.i64n (by omega) (by omega))) (fun _ => (H58.sub [1, 0] (by kernel_rfl))) ?_
  refine Sx.tvi 14 [] yr j 1 p.na p.ca hyr (by omega) (fun _ => (H58.sub [1, 0] (by kernel_rfl))) ?_
  refine Sx.tvo (c := 1) (t := 9) 15 [] [.string r] (.string r) (fun w' hs => tr_str (S := Sy) (p := p) (kd := kd) (n := u) (row := row) (ops := ops) (args := args) hs 1 (by kernel_rfl) hyr hr1) (fun _ => (H58.sub [1, 0] (by kernel_rfl))) ?_
  refine Sx.tk [(16, none), (17, some (0, [])), (18, none)] (fun _ => (H58.sub [1, 0] (by kernel_rfl))) ?_
  refine Sx.tvi 19 [] ys (j + 1) 1 p.na p.ca hys (by omega) (fun _ => (H58.sub [1, 0] (by kernel_rfl))) ?_
  refine Sx.tvo (c := 1) (t := 9) 20 [] [.string s] (.string s) (fun w' hs => tr_str (S := Sy) (p := p) (kd := kd) (n := u) (row := row) (ops := ops) (args := args) hs 1 (by kernel_rfl) hys hs1) (fun _ => (H58.sub [1, 0] (by kernel_rfl))) ?_
  refine Sx.tva 21 [] (.bool (!(Go.Op.bytesLess r.toList s.toList || (r.toList == s.toList)))) (.bool false) (gtF hsl) (fun _ => (H58.sub [1, 0] (by kernel_rfl))) ?_
  refine Sx.tk [(22, none), (23, none)] (fun _ => (H58.sub [1, 0] (by kernel_rfl))) ?_
  refine Sx.dn ?_
  refine Sx.v 7 (.int .i64 (IntKind.i64.wrap (((j + 1 : Nat) : Int) + (1 : Int)))) (.int .i64 (((j + 1) + 1 : Nat) : Int)) (congrArg (Value.int .i64) (Gx.i64n (by omega) (by omega))) ?_
  have H59 := H58.pick (a := [trI Sy p (Tr.mk kd u row ops args), .blk k6 (.cells #[.int .i64 kd, .int .i64 u, .int .i64 row, .slice p.A p.na p.ca, .slice p.B p.nb p.cb] 32)]) [0, 0] (by kernel_rfl)
  exact Sx.to 2 [(1, .int .i64 ((deep : Nat) : Int)), (2, .pointer (some ⟨k6, 0, none⟩)), (8, .int .i64 (((j + 1 + 1) : Nat) : Int))] (hK10 _ _ _ _ (by omega) ⟨(j + 1 + 1), rfl, rfl, H59, (hOT.more hr1 hs1 hse hsl), hlen⟩)
theorem proper_c (k : Nat) : ∀ (Sy : Nat → Prop) (kd u row : Int) (ops : List Nm) (args : List Tr) (p : Tv) (deep : Nat) (w : World) (K : Ending → World → Prop) (H0 : Sp w [trI Sy p (Tr.mk kd u row ops args)]) (hk : 302 ≤ deep + k) (hl : deep ≤ 301) (hK : ∀ (z : Int) (b : Bool) w', Hs w [trI Sy p (Tr.mk kd u row ops args)] w' [trI Sy p (Tr.mk kd u row ops args)] → (SaidD (Tr.mk kd u row ops args) deep z b) → K (.returned (.tuple #[.int .i64 z, .bool b])) w'),
    Calls Try.prog 24 #[.agg #[.int .i64 kd, .int .i64 u, .int .i64 row, .slice p.A p.na p.ca, .slice p.B p.nb p.cb], .int .i64 ((deep : Nat) : Int)] w K := by
  induction k with
  | zero => intro Sy kd u row ops args p deep w K H0 hk hl; exact absurd hk (by omega)
  | succ k ih => exact proper_c_s k ih
end Go.Proofs.Ytfkkocjheeoobaa
