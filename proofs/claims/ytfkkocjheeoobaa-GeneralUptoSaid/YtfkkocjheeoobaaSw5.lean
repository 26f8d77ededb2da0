/- A part of the proof (YtfkkocjheeoobaaSw5), printed by a program of ours. -/
import Derived.Test.YtfkkocjheeoobaaPs
import Derived.Test.YtfkkocjheeoobaaGx
set_option linter.unusedVariables false
set_option linter.unusedSimpArgs false
set_option linter.unusedVariables false
set_option linter.unusedSimpArgs false
namespace Go.Proofs.Ytfkkocjheeoobaa
open Go.RowKit Go.Sx Go.Inf Go.Slv
attribute [local irreducible] Go.wpOps Go.Code.wp Go.wpOp Go.wpAnyH Go.Calls Go.Sx.Goal
set_option maxRecDepth 20000
set_option maxHeartbeats 16000000 in
theorem Same_p_s (k : Nat) (ih : ∀ (S : Nat → Prop) (Z : List Slot) (T R : List Nat) (g : G) (n m ba bb : Nat) (w : World) (K : Ending → World → Prop) (H0 : Sp w [PI S Z T R g]) (g' : G) (t : Bool) (hba : T[n]? = some ba) (hbb : T[m]? = some bb) (hf : sameX true k g n m = some (g', t)) (hK : ∀ (S' : Nat → Prop) (R' : List Nat) w', Hs w [PI S Z T R g] w' [PI S' Z T R' g'] → (Pre R R') → K (.returned (.bool t)) w'),
    Calls Try.prog 13 #[.pointer (some ⟨ba, 0, none⟩), .pointer (some ⟨bb, 0, none⟩)] w K) (S : Nat → Prop) (Z : List Slot) (T R : List Nat) (g : G) (n m ba bb : Nat) (w : World) (K : Ending → World → Prop) (H0 : Sp w [PI S Z T R g]) (g' : G) (t : Bool) (hba : T[n]? = some ba) (hbb : T[m]? = some bb) (hf : sameX true (k + 1) g n m = some (g', t)) (hK : ∀ (S' : Nat → Prop) (R' : List Nat) w', Hs w [PI S Z T R g] w' [PI S' Z T R' g'] → (Pre R R') → K (.returned (.bool t)) w') :
    Calls Try.prog 13 #[.pointer (some ⟨ba, 0, none⟩), .pointer (some ⟨bb, 0, none⟩)] w K := by
  obtain ⟨L0, hL0, H⟩ : ∃ L0, L0 = [PI S Z T R g] ∧ Hs w L0 w [PI S Z T R g] := ⟨_, rfl, Hs.refl H0⟩
  refine Sx.en (vs := [.pointer (some ⟨ba, 0, none⟩), .pointer (some ⟨bb, 0, none⟩)]) 89 Try.func13 ?_
  obtain ⟨_, hP, _, _⟩ := P_open H 0 (S := S) (Z := Z) (T := T) (R := R) (g := g) (by kernel_rfl)
  obtain ⟨m1, n1, hm, hn, h5⟩ := sameX_cases hP hf
  obtain ⟨be1, hbe1⟩ := root_T hP hm
  rcases h5 with ⟨hmn, rfl, rfl⟩ | ⟨hne, km, kn, hkm, hkn, ⟨rfl, rfl, rfl⟩ | ⟨hm0, rfl, rfl, rfl⟩ | ⟨hm0, hn0, hmk, rfl, rfl⟩ | ⟨hm0, rfl, h6, gr, tr, hx, hx0, hx1⟩ | ⟨rfl, rfl, gr, tr, hx, hx0, hx1⟩⟩
  · skip
    subst hmn
    refine Sx.c 8 [0] H (fun Hp1 R1 hR1 => Now_p S Z T R g n m1 ba be1 w R1 Hp1 _ hba hm hbe1 (fun S1 w1 G1 => hR1 _ _ _ G1 fun H1 => ?_))
    refine Sx.c 1 [0] H1 (fun Hp2 R2 hR2 => Now_p S1 Z T R g m m1 bb be1 w1 R2 Hp2 _ hbb hn hbe1 (fun S2 w2 G2 => hR2 _ _ _ G2 fun H2 => ?_))
    obtain ⟨pm1, hpm1, hzpm1, H3⟩ := P_open H2 0 (S := S2) (Z := Z) (T := T) (R := R) (g := g) (by kernel_rfl)
    refine Sx.peq (kt := 52) (te := 78) 10 be1 be1 true (bank_cb (H3.at 0 (it := bankI 78 T (ndC T R g pm1) []) (by kernel_rfl)) hbe1 nz0) (bank_cb (H3.at 0 (it := bankI 78 T (ndC T R g pm1) []) (by kernel_rfl)) hbe1 nz0) (decide_eq_true rfl) ?_
    refine Sx.rt 12 [] H3 (.bool true) ?_
    obtain ⟨S3, H4⟩ := P_close H3 [0, 0, 0, 0] (Z := Z) (T := T) (R := R) (g := g) pm1 hpm1 hzpm1 (by kernel_rfl)
    subst hL0
    exact hK S3 R _ (H4.pick (a := [PI S3 Z T R g]) [0] (by kernel_rfl)) (Pre.refl R)
  · skip
    obtain ⟨be2, hbe2⟩ := root_T hP hn
    refine Sx.c 8 [0] H (fun Hp3 R3 hR3 => Now_p S Z T R g n m1 ba be1 w R3 Hp3 _ hba hm hbe1 (fun S4 w3 G3 => hR3 _ _ _ G3 fun H5 => ?_))
    refine Sx.c 1 [0] H5 (fun Hp4 R4 hR4 => Now_p S4 Z T R g m n1 bb be2 w3 R4 Hp4 _ hbb hn hbe2 (fun S5 w4 G4 => hR4 _ _ _ G4 fun H6 => ?_))
    obtain ⟨pm2, hpm2, hzpm2, H7⟩ := P_open H6 0 (S := S5) (Z := Z) (T := T) (R := R) (g := g) (by kernel_rfl)
    refine Sx.peq (kt := 52) (te := 78) 10 be1 be2 false (bank_cb (H7.at 0 (it := bankI 78 T (ndC T R g pm2) []) (by kernel_rfl)) hbe1 nz0) (bank_cb (H7.at 0 (it := bankI 78 T (ndC T R g pm2) []) (by kernel_rfl)) hbe2 nz0) (bank_ne (H7.at 0 (it := bankI 78 T (ndC T R g pm2) []) (by kernel_rfl)) hbe1 hbe2 nz0 nz0 hne) ?_
    obtain ⟨io1, hio1⟩ := oB_at (T := T) (m := pm2) (n := m1)
    obtain ⟨rb1, hrb1⟩ : ∃ rb, rowB R g m1 = rb := ⟨_, rfl⟩
    have hnl1 := (List.getElem?_eq_some_iff.1 hkm).1
    obtain ⟨nA1, nn1, nc1, has1, hna1⟩ := P_nd hpm2 (H7.at 1 (by kernel_rfl)) (n := m1) hnl1
    have H8 := bank_take (ty := 78) (T := T) (C := (ndC T R g pm2)) (hs := []) H7 0 (by kernel_rfl) (n := m1) (b := be1) hbe1 nz0 (ndC_eq hkm has1 (rb := rb1) hrb1 (io := io1) hio1)
    obtain ⟨io2, hio2⟩ := oB_at (T := T) (m := pm2) (n := n1)
    obtain ⟨rb2, hrb2⟩ : ∃ rb, rowB R g n1 = rb := ⟨_, rfl⟩
    have hnl2 := (List.getElem?_eq_some_iff.1 hkn).1
    obtain ⟨nA2, nn2, nc2, has2, hna2⟩ := P_nd hpm2 (H8.at 2 (by kernel_rfl)) (n := n1) hnl2
    have H9 := bank_take (ty := 78) (T := T) (C := (ndC T R g pm2)) (hs := [m1]) H8 1 (by kernel_rfl) (n := n1) (b := be2) hbe2 (nz1 (Ne.symm hne)) (ndC_eq hkn has2 (rb := rb2) hrb2 (io := io2) hio2)
    refine Sx.l 9 2 H9 ?_
    refine Sx.v 0 (.bool (((0 : Nat) : Int) == (0 : Int))) (.bool true) (rfl) ?_
    refine Sx.s 10 2 H9 fun w5 H10 => ?_
    refine Sx.rt 10 [] H10 (.bool true) ?_
    have hm1 : PR T R (lnk0 g m1 n1) ({ pm2 with il := pm2.il.set m1 (some n1) } : Pm) := hpm2.lnk (find_root hm) (find_root hn) hne
    have hil1 := (hpm2.en _ _ (find_root hm)).lt
    have H11 := bank_put (ty := 78) (T := T) (C := (ndC T R g pm2)) (C' := (ndC T R g pm2)) (hs := [m1]) H10 [0, 0] (by kernel_rfl) (n := n1) (b := be2) hbe2 (nz1 (Ne.symm hne)) (ndC_eq hkn has2 (rb := rb2) hrb2 (io := io2) hio2) (fun _ _ _ => rfl)
    have H12 := bank_put (ty := 78) (T := T) (C := (ndC T R g pm2)) (C' := (ndC T R (lnk0 g m1 n1) ({ pm2 with il := pm2.il.set m1 (some n1) } : Pm))) (hs := []) H11 [1, 0] (by kernel_rfl) (n := m1) (b := be1) hbe1 nz0 (ndC_eq hkm has1 (rb := rb1) hrb1 (io := some be2) (il_set hil1 hbe2)) (fun i hi _ => ndC_il hi)
    have H13 := H12.pick (a := [bankI 78 T (ndC T R (lnk0 g m1 n1) ({ pm2 with il := pm2.il.set m1 (some n1) } : Pm)) [], kidsI ({ pm2 with il := pm2.il.set m1 (some n1) } : Pm).S1 ({ pm2 with il := pm2.il.set m1 (some n1) } : Pm).as (ksL T (lnk0 g m1 n1)), bankI 80 R (rwC R (lnk0 g m1 n1) ({ pm2 with il := pm2.il.set m1 (some n1) } : Pm)) [0], rowsI ({ pm2 with il := pm2.il.set m1 (some n1) } : Pm).S2 ({ pm2 with il := pm2.il.set m1 (some n1) } : Pm).sl (lnk0 g m1 n1).ops]) [0, 0, 0, 0] (by kernel_rfl)
    obtain ⟨S6, H14⟩ := P_close H13 [0, 0, 0, 0] (Z := Z) (T := T) (R := R) (g := (lnk0 g m1 n1)) ({ pm2 with il := pm2.il.set m1 (some n1) } : Pm) hm1 hzpm2 (by kernel_rfl)
    subst hL0
    exact hK S6 R _ (H14.pick (a := [PI S6 Z T R (lnk0 g m1 n1)]) [0] (by kernel_rfl)) (Pre.refl R)
  · skip
    obtain ⟨be2, hbe2⟩ := root_T hP hn
    refine Sx.c 8 [0] H (fun Hp5 R5 hR5 => Now_p S Z T R g n m1 ba be1 w R5 Hp5 _ hba hm hbe1 (fun S7 w6 G5 => hR5 _ _ _ G5 fun H15 => ?_))
    refine Sx.c 1 [0] H15 (fun Hp6 R6 hR6 => Now_p S7 Z T R g m n1 bb be2 w6 R6 Hp6 _ hbb hn hbe2 (fun S8 w7 G6 => hR6 _ _ _ G6 fun H16 => ?_))
    obtain ⟨pm3, hpm3, hzpm3, H17⟩ := P_open H16 0 (S := S8) (Z := Z) (T := T) (R := R) (g := g) (by kernel_rfl)
    refine Sx.peq (kt := 52) (te := 78) 10 be1 be2 false (bank_cb (H17.at 0 (it := bankI 78 T (ndC T R g pm3) []) (by kernel_rfl)) hbe1 nz0) (bank_cb (H17.at 0 (it := bankI 78 T (ndC T R g pm3) []) (by kernel_rfl)) hbe2 nz0) (bank_ne (H17.at 0 (it := bankI 78 T (ndC T R g pm3) []) (by kernel_rfl)) hbe1 hbe2 nz0 nz0 hne) ?_
    obtain ⟨io3, hio3⟩ := oB_at (T := T) (m := pm3) (n := m1)
    obtain ⟨rb3, hrb3⟩ : ∃ rb, rowB R g m1 = rb := ⟨_, rfl⟩
    have hnl3 := (List.getElem?_eq_some_iff.1 hkm).1
    obtain ⟨nA3, nn3, nc3, has3, hna3⟩ := P_nd hpm3 (H17.at 1 (by kernel_rfl)) (n := m1) hnl3
    have H18 := bank_take (ty := 78) (T := T) (C := (ndC T R g pm3)) (hs := []) H17 0 (by kernel_rfl) (n := m1) (b := be1) hbe1 nz0 (ndC_eq hkm has3 (rb := rb3) hrb3 (io := io3) hio3)
    obtain ⟨io4, hio4⟩ := oB_at (T := T) (m := pm3) (n := n1)
    obtain ⟨rb4, hrb4⟩ : ∃ rb, rowB R g n1 = rb := ⟨_, rfl⟩
    have hnl4 := (List.getElem?_eq_some_iff.1 hkn).1
    obtain ⟨nA4, nn4, nc4, has4, hna4⟩ := P_nd hpm3 (H18.at 2 (by kernel_rfl)) (n := n1) hnl4
    have H19 := bank_take (ty := 78) (T := T) (C := (ndC T R g pm3)) (hs := [m1]) H18 1 (by kernel_rfl) (n := n1) (b := be2) hbe2 (nz1 (Ne.symm hne)) (ndC_eq hkn has4 (rb := rb4) hrb4 (io := io4) hio4)
    refine Sx.l 9 2 H19 ?_
    refine Sx.v 0 (.bool (((km : Nat) : Int) == (0 : Int))) (.bool false) (congrArg Value.bool (ne0 hm0)) ?_
    refine Sx.l 9 0 H19 ?_
    refine Sx.v 0 (.bool (((0 : Nat) : Int) == (0 : Int))) (.bool true) (rfl) ?_
    refine Sx.s 10 0 H19 fun w8 H20 => ?_
    refine Sx.rt 10 [] H20 (.bool true) ?_
    have hm2 : PR T R (lnk0 g n1 m1) ({ pm3 with il := pm3.il.set n1 (some m1) } : Pm) := hpm3.lnk (find_root hn) (find_root hm) (Ne.symm hne)
    have hil2 := (hpm3.en _ _ (find_root hn)).lt
    have H21 := bank_put (ty := 78) (T := T) (C := (ndC T R g pm3)) (C' := (ndC T R (lnk0 g n1 m1) ({ pm3 with il := pm3.il.set n1 (some m1) } : Pm))) (hs := [m1]) H20 [0, 0] (by kernel_rfl) (n := n1) (b := be2) hbe2 (nz1 (Ne.symm hne)) (ndC_eq hkn has4 (rb := rb4) hrb4 (io := some be1) (il_set hil2 hbe1)) (fun i hi _ => ndC_il hi)
    have H22 := bank_put (ty := 78) (T := T) (C := (ndC T R (lnk0 g n1 m1) ({ pm3 with il := pm3.il.set n1 (some m1) } : Pm))) (C' := (ndC T R (lnk0 g n1 m1) ({ pm3 with il := pm3.il.set n1 (some m1) } : Pm))) (hs := []) H21 [1, 0] (by kernel_rfl) (n := m1) (b := be1) hbe1 nz0 ((ndC_il hne).trans (ndC_eq hkm has3 (rb := rb3) hrb3 (io := io3) hio3)) (fun _ _ _ => rfl)
    have H23 := H22.pick (a := [bankI 78 T (ndC T R (lnk0 g n1 m1) ({ pm3 with il := pm3.il.set n1 (some m1) } : Pm)) [], kidsI ({ pm3 with il := pm3.il.set n1 (some m1) } : Pm).S1 ({ pm3 with il := pm3.il.set n1 (some m1) } : Pm).as (ksL T (lnk0 g n1 m1)), bankI 80 R (rwC R (lnk0 g n1 m1) ({ pm3 with il := pm3.il.set n1 (some m1) } : Pm)) [0], rowsI ({ pm3 with il := pm3.il.set n1 (some m1) } : Pm).S2 ({ pm3 with il := pm3.il.set n1 (some m1) } : Pm).sl (lnk0 g n1 m1).ops]) [0, 0, 0, 0] (by kernel_rfl)
    obtain ⟨S9, H24⟩ := P_close H23 [0, 0, 0, 0] (Z := Z) (T := T) (R := R) (g := (lnk0 g n1 m1)) ({ pm3 with il := pm3.il.set n1 (some m1) } : Pm) hm2 hzpm3 (by kernel_rfl)
    subst hL0
    exact hK S9 R _ (H24.pick (a := [PI S9 Z T R (lnk0 g n1 m1)]) [0] (by kernel_rfl)) (Pre.refl R)
  · skip
    obtain ⟨be2, hbe2⟩ := root_T hP hn
    refine Sx.c 8 [0] H (fun Hp7 R7 hR7 => Now_p S Z T R g n m1 ba be1 w R7 Hp7 _ hba hm hbe1 (fun S10 w9 G7 => hR7 _ _ _ G7 fun H25 => ?_))
    refine Sx.c 1 [0] H25 (fun Hp8 R8 hR8 => Now_p S10 Z T R g m n1 bb be2 w9 R8 Hp8 _ hbb hn hbe2 (fun S11 w10 G8 => hR8 _ _ _ G8 fun H26 => ?_))
    obtain ⟨pm4, hpm4, hzpm4, H27⟩ := P_open H26 0 (S := S11) (Z := Z) (T := T) (R := R) (g := g) (by kernel_rfl)
    refine Sx.peq (kt := 52) (te := 78) 10 be1 be2 false (bank_cb (H27.at 0 (it := bankI 78 T (ndC T R g pm4) []) (by kernel_rfl)) hbe1 nz0) (bank_cb (H27.at 0 (it := bankI 78 T (ndC T R g pm4) []) (by kernel_rfl)) hbe2 nz0) (bank_ne (H27.at 0 (it := bankI 78 T (ndC T R g pm4) []) (by kernel_rfl)) hbe1 hbe2 nz0 nz0 hne) ?_
    obtain ⟨io5, hio5⟩ := oB_at (T := T) (m := pm4) (n := m1)
    obtain ⟨rb5, hrb5⟩ : ∃ rb, rowB R g m1 = rb := ⟨_, rfl⟩
    have hnl5 := (List.getElem?_eq_some_iff.1 hkm).1
    obtain ⟨nA5, nn5, nc5, has5, hna5⟩ := P_nd hpm4 (H27.at 1 (by kernel_rfl)) (n := m1) hnl5
    have H28 := bank_take (ty := 78) (T := T) (C := (ndC T R g pm4)) (hs := []) H27 0 (by kernel_rfl) (n := m1) (b := be1) hbe1 nz0 (ndC_eq hkm has5 (rb := rb5) hrb5 (io := io5) hio5)
    obtain ⟨io6, hio6⟩ := oB_at (T := T) (m := pm4) (n := n1)
    obtain ⟨rb6, hrb6⟩ : ∃ rb, rowB R g n1 = rb := ⟨_, rfl⟩
    have hnl6 := (List.getElem?_eq_some_iff.1 hkn).1
    obtain ⟨nA6, nn6, nc6, has6, hna6⟩ := P_nd hpm4 (H28.at 2 (by kernel_rfl)) (n := n1) hnl6
    have H29 := bank_take (ty := 78) (T := T) (C := (ndC T R g pm4)) (hs := [m1]) H28 1 (by kernel_rfl) (n := n1) (b := be2) hbe2 (nz1 (Ne.symm hne)) (ndC_eq hkn has6 (rb := rb6) hrb6 (io := io6) hio6)
    refine Sx.l 9 2 H29 ?_
    refine Sx.v 0 (.bool (((km : Nat) : Int) == (0 : Int))) (.bool false) (congrArg Value.bool (ne0 hm0)) ?_
    refine Sx.l 9 0 H29 ?_
    refine Sx.v 0 (.bool (((kn : Nat) : Int) == (0 : Int))) (.bool false) (congrArg Value.bool (ne0 hn0)) ?_
    refine Sx.dr 5 H29 [2, 0] [] (LJ := [.blk be1 (.cells #[.int .i64 ((km : Nat) : Int), .slice nA5 nn5 nc5, pB rb5, pB io5] 78), .blk be2 (.cells #[.int .i64 ((kn : Nat) : Int), .slice nA6 nn6 nc6, pB rb6, pB io6] 78)]) (by kernel_rfl) fun w11 H30 => ?_
    refine Sx.tk [(0, none), (1, none), (2, none), (3, some (0, [])), (4, none), (5, none), (6, none), (7, some (1, []))] (fun _ => (H30.sub [2, 0] (by kernel_rfl))) ?_
    refine Sx.tva 8 [] (.bool (((km : Nat) : Int) != ((kn : Nat) : Int))) (.bool true) (congrArg Value.bool (neK hmk)) (fun _ => (H30.sub [2, 0] (by kernel_rfl))) ?_
    refine Sx.tk [(9, none)] (fun _ => (H30.sub [2, 0] (by kernel_rfl))) ?_
    refine Sx.dn ?_
    refine Sx.rt 10 [] H30 (.bool false) ?_
    have H31 := bank_put (ty := 78) (T := T) (C := (ndC T R g pm4)) (C' := (ndC T R g pm4)) (hs := [m1]) H30 [0, 0] (by kernel_rfl) (n := n1) (b := be2) hbe2 (nz1 (Ne.symm hne)) (ndC_eq hkn has6 (rb := rb6) hrb6 (io := io6) hio6) (fun _ _ _ => rfl)
    have H32 := bank_put (ty := 78) (T := T) (C := (ndC T R g pm4)) (C' := (ndC T R g pm4)) (hs := []) H31 [1, 0] (by kernel_rfl) (n := m1) (b := be1) hbe1 nz0 (ndC_eq hkm has5 (rb := rb5) hrb5 (io := io5) hio5) (fun _ _ _ => rfl)
    obtain ⟨S12, H33⟩ := P_close H32 [0, 0, 0, 0] (Z := Z) (T := T) (R := R) (g := g) pm4 hpm4 hzpm4 (by kernel_rfl)
    subst hL0
    exact hK S12 R _ (H33.pick (a := [PI S12 Z T R g]) [0] (by kernel_rfl)) (Pre.refl R)
  · skip
    obtain ⟨be2, hbe2⟩ := root_T hP hn
    refine Sx.c 8 [0] H (fun Hp9 R9 hR9 => Now_p S Z T R g n m1 ba be1 w R9 Hp9 _ hba hm hbe1 (fun S13 w12 G9 => hR9 _ _ _ G9 fun H34 => ?_))
    refine Sx.c 1 [0] H34 (fun Hp10 R10 hR10 => Now_p S13 Z T R g m n1 bb be2 w12 R10 Hp10 _ hbb hn hbe2 (fun S14 w13 G10 => hR10 _ _ _ G10 fun H35 => ?_))
    obtain ⟨pm5, hpm5, hzpm5, H36⟩ := P_open H35 0 (S := S14) (Z := Z) (T := T) (R := R) (g := g) (by kernel_rfl)
    refine Sx.peq (kt := 52) (te := 78) 10 be1 be2 false (bank_cb (H36.at 0 (it := bankI 78 T (ndC T R g pm5) []) (by kernel_rfl)) hbe1 nz0) (bank_cb (H36.at 0 (it := bankI 78 T (ndC T R g pm5) []) (by kernel_rfl)) hbe2 nz0) (bank_ne (H36.at 0 (it := bankI 78 T (ndC T R g pm5) []) (by kernel_rfl)) hbe1 hbe2 nz0 nz0 hne) ?_
    obtain ⟨io7, hio7⟩ := oB_at (T := T) (m := pm5) (n := m1)
    obtain ⟨rb7, hrb7⟩ : ∃ rb, rowB R g m1 = rb := ⟨_, rfl⟩
    have hnl7 := (List.getElem?_eq_some_iff.1 hkm).1
    obtain ⟨nA7, nn7, nc7, has7, hna7⟩ := P_nd hpm5 (H36.at 1 (by kernel_rfl)) (n := m1) hnl7
    have H37 := bank_take (ty := 78) (T := T) (C := (ndC T R g pm5)) (hs := []) H36 0 (by kernel_rfl) (n := m1) (b := be1) hbe1 nz0 (ndC_eq hkm has7 (rb := rb7) hrb7 (io := io7) hio7)
    obtain ⟨io8, hio8⟩ := oB_at (T := T) (m := pm5) (n := n1)
    obtain ⟨rb8, hrb8⟩ : ∃ rb, rowB R g n1 = rb := ⟨_, rfl⟩
    have hnl8 := (List.getElem?_eq_some_iff.1 hkn).1
    obtain ⟨nA8, nn8, nc8, has8, hna8⟩ := P_nd hpm5 (H37.at 2 (by kernel_rfl)) (n := n1) hnl8
    have H38 := bank_take (ty := 78) (T := T) (C := (ndC T R g pm5)) (hs := [m1]) H37 1 (by kernel_rfl) (n := n1) (b := be2) hbe2 (nz1 (Ne.symm hne)) (ndC_eq hkn has8 (rb := rb8) hrb8 (io := io8) hio8)
    refine Sx.l 9 2 H38 ?_
    refine Sx.v 0 (.bool (((km : Nat) : Int) == (0 : Int))) (.bool false) (congrArg Value.bool (ne0 hm0)) ?_
    refine Sx.l 9 0 H38 ?_
    refine Sx.v 0 (.bool (((km : Nat) : Int) == (0 : Int))) (.bool false) (congrArg Value.bool (ne0 hm0)) ?_
    refine Sx.dr 5 H38 [2, 0] [] (LJ := [.blk be1 (.cells #[.int .i64 ((km : Nat) : Int), .slice nA7 nn7 nc7, pB rb7, pB io7] 78), .blk be2 (.cells #[.int .i64 ((km : Nat) : Int), .slice nA8 nn8 nc8, pB rb8, pB io8] 78)]) (by kernel_rfl) fun w14 H39 => ?_
    refine Sx.tk [(0, none), (1, none), (2, none), (3, some (0, [])), (4, none), (5, none), (6, none), (7, some (1, []))] (fun _ => (H39.sub [2, 0] (by kernel_rfl))) ?_
    refine Sx.tva 8 [] (.bool (((km : Nat) : Int) != ((km : Nat) : Int))) (.bool false) (congrArg Value.bool (eqK)) (fun _ => (H39.sub [2, 0] (by kernel_rfl))) ?_
    refine Sx.tk [(9, none)] (fun _ => (H39.sub [2, 0] (by kernel_rfl))) ?_
    refine Sx.dn ?_
    refine Sx.s 11 0 H39 fun w15 H40 => ?_
    refine Sx.l 8 2 H40 ?_
    have hlk : nn7 = (kidsN g m1).length := hna7.trans ksO_len
    have hkl := hP.kids_len hkm hkn
    have hm3 : PR T R (lnk0 g n1 m1) ({ pm5 with il := pm5.il.set n1 (some m1) } : Pm) := hpm5.lnk (find_root hn) (find_root hm) (Ne.symm hne)
    have hil3 := (hpm5.en _ _ (find_root hn)).lt
    have H41 := bank_put (ty := 78) (T := T) (C := (ndC T R g pm5)) (C' := (ndC T R (lnk0 g n1 m1) ({ pm5 with il := pm5.il.set n1 (some m1) } : Pm))) (hs := [m1]) H40 [0, 0] (by kernel_rfl) (n := n1) (b := be2) hbe2 (nz1 (Ne.symm hne)) (ndC_eq hkn has8 (rb := rb8) hrb8 (io := some be1) (il_set hil3 hbe1)) (fun i hi _ => ndC_il hi)
    have H42 := bank_put (ty := 78) (T := T) (C := (ndC T R (lnk0 g n1 m1) ({ pm5 with il := pm5.il.set n1 (some m1) } : Pm))) (C' := (ndC T R (lnk0 g n1 m1) ({ pm5 with il := pm5.il.set n1 (some m1) } : Pm))) (hs := []) H41 [1, 0] (by kernel_rfl) (n := m1) (b := be1) hbe1 nz0 ((ndC_il hne).trans (ndC_eq hkm has7 (rb := rb7) hrb7 (io := io7) hio7)) (fun _ _ _ => rfl)
    have H43 := H42.pick (a := [bankI 78 T (ndC T R (lnk0 g n1 m1) ({ pm5 with il := pm5.il.set n1 (some m1) } : Pm)) [], kidsI ({ pm5 with il := pm5.il.set n1 (some m1) } : Pm).S1 ({ pm5 with il := pm5.il.set n1 (some m1) } : Pm).as (ksL T (lnk0 g n1 m1)), bankI 80 R (rwC R (lnk0 g n1 m1) ({ pm5 with il := pm5.il.set n1 (some m1) } : Pm)) [0], rowsI ({ pm5 with il := pm5.il.set n1 (some m1) } : Pm).S2 ({ pm5 with il := pm5.il.set n1 (some m1) } : Pm).sl (lnk0 g n1 m1).ops]) [0, 0, 0, 0] (by kernel_rfl)
    obtain ⟨S15, H44⟩ := P_close H43 [0, 0, 0, 0] (Z := Z) (T := T) (R := R) (g := (lnk0 g n1 m1)) ({ pm5 with il := pm5.il.set n1 (some m1) } : Pm) hm3 hzpm5 (by kernel_rfl)
    refine Sx.lp 5 (fun z l' w' => ∃ (i : Nat) (gi : G) (Ri : List Nat) (Si : Nat → Prop), l' = [(0, .pointer (some ⟨be1, 0, none⟩)), (1, .pointer (some ⟨be2, 0, none⟩)), (52, .int .i64 ((nn7 : Nat) : Int)), (53, .int .i64 ((i : Nat) : Int))] ∧ z = nn7 - i ∧ Hs w L0 w' [PI Si Z T Ri gi] ∧ (argsX k gi (((kidsN g m1).zip (kidsN g n1)).drop i) = some (gr, tr)) ∧ (Pre R Ri) ∧ (Kept g gi)) _ [(0, .pointer (some ⟨be1, 0, none⟩)), (1, .pointer (some ⟨be2, 0, none⟩)), (52, .int .i64 ((nn7 : Nat) : Int)), (53, .int .i64 ((0 : Nat) : Int))] ⟨0, (lnk0 g n1 m1), R, S15, rfl, rfl, H44, hx, (Pre.refl R), ⟨rfl, rfl, rfl, rfl⟩⟩ (fun b1 z1 l1 w16 hI1 K1 hK1 => ?_)
    obtain ⟨i, gi, Ri, Si, rfl, rfl, H45, hxi, hpre, hkp⟩ := hI1
    refine Sx.br 6 (decide (((i : Nat) : Int) < ((nn7 : Nat) : Int))) (fun h_c54 => ?_) (fun h_c54 => ?_)
    · skip
      have p_c54 := of_decide_eq_true h_c54
      have hk2 := kidsN_le g m1
      obtain ⟨p, q, g2, t2, hp, hq, hsm, hr0, hr1⟩ := argsX_step hxi (by omega) hkl
      obtain ⟨pm6, hpm6, hzpm6, H46⟩ := P_open H45 0 (S := Si) (Z := Z) (T := T) (R := Ri) (g := gi) (by kernel_rfl)
      have hkm2 : gi.kind[m1]? = some km := by rw [hkp.kind]; exact hkm
      have hkn2 : gi.kind[n1]? = some km := by rw [hkp.kind]; exact hkn
      obtain ⟨io9, hio9⟩ := oB_at (T := T) (m := pm6) (n := m1)
      obtain ⟨rb9, hrb9⟩ : ∃ rb, rowB Ri gi m1 = rb := ⟨_, rfl⟩
      have hnl9 := (List.getElem?_eq_some_iff.1 hkm2).1
      obtain ⟨nA9, nn9, nc9, has9, hna9⟩ := P_nd hpm6 (H46.at 1 (by kernel_rfl)) (n := m1) hnl9
      have H47 := bank_take (ty := 78) (T := T) (C := (ndC T Ri gi pm6)) (hs := []) H46 0 (by kernel_rfl) (n := m1) (b := be1) hbe1 nz0 (ndC_eq hkm2 has9 (rb := rb9) hrb9 (io := io9) hio9)
      obtain ⟨io10, hio10⟩ := oB_at (T := T) (m := pm6) (n := n1)
      obtain ⟨rb10, hrb10⟩ : ∃ rb, rowB Ri gi n1 = rb := ⟨_, rfl⟩
      have hnl10 := (List.getElem?_eq_some_iff.1 hkn2).1
      obtain ⟨nA10, nn10, nc10, has10, hna10⟩ := P_nd hpm6 (H47.at 2 (by kernel_rfl)) (n := n1) hnl10
      have H48 := bank_take (ty := 78) (T := T) (C := (ndC T Ri gi pm6)) (hs := [m1]) H47 1 (by kernel_rfl) (n := n1) (b := be2) hbe2 (nz1 (Ne.symm hne)) (ndC_eq hkn2 has10 (rb := rb10) hrb10 (io := io10) hio10)
      have hp' : (kidsN gi m1)[i]? = some p := by rw [kidsN_kept hkp]; exact hp
      obtain ⟨bp1, hbp1⟩ := hpm6.kid hp'
      obtain ⟨abe1, habe1, hcbe1⟩ := kid_at (H48.at 3 (it := kidsI pm6.S1 pm6.as (ksL T gi)) (by kernel_rfl)) has9 hnl9 hp' hbp1
      have hltbe1 : i < nn9 := by rw [hna9, ksO_len, kidsN_kept hkp]; omega
      have hq' : (kidsN gi n1)[i]? = some q := by rw [kidsN_kept hkp]; exact hq
      obtain ⟨bp2, hbp2⟩ := hpm6.kid hq'
      obtain ⟨abe2, habe2, hcbe2⟩ := kid_at (H48.at 3 (it := kidsI pm6.S1 pm6.as (ksL T gi)) (by kernel_rfl)) has10 hnl10 hq' hbp2
      have hltbe2 : i < nn10 := by rw [hna10, ksO_len, kidsN_kept hkp]; omega
      refine Sx.dr 11 H48 [2, 3, 0] [14] (LJ := [.blk be1 (.cells #[.int .i64 ((km : Nat) : Int), .slice nA9 nn9 nc9, pB rb9, pB io9] 78), kidsI pm6.S1 pm6.as (ksL T gi), .blk be2 (.cells #[.int .i64 ((km : Nat) : Int), .slice nA10 nn10 nc10, pB rb10, pB io10] 78)]) (by kernel_rfl) fun w17 H49 => ?_
      refine Sx.tk [(0, none), (1, none), (2, none), (3, some (0, [5, 6, 14, 15])), (4, none)] (fun _ => (H49.sub [2, 2, 0] (by kernel_rfl))) ?_
      refine Sx.tvi 5 [6, 14, 15] abe1 i 1 nn9 nc9 habe1 hltbe1 (fun _ => (H49.sub [2, 2, 0] (by kernel_rfl))) ?_
      refine Sx.tvo (c := 1) (t := 52) 6 [14, 15] [.pointer (some ⟨bp1, 0, none⟩)] (.pointer (some ⟨bp1, 0, none⟩)) (fun w' hs => (kid_one (sp_at hs 1 (it := kidsI pm6.S1 pm6.as (ksL T gi)) (by kernel_rfl)) has9 hnl9 hp' hbp1 habe1)) (fun _ => (H49.sub [2, 2, 0] (by kernel_rfl))) ?_
      refine Sx.tk [(7, none), (8, none), (9, none), (10, some (2, [12, 13, 14, 15])), (11, none)] (fun _ => (H49.sub [2, 2, 0] (by kernel_rfl))) ?_
      refine Sx.tvi 12 [13, 14, 15] abe2 i 1 nn10 nc10 habe2 hltbe2 (fun _ => (H49.sub [2, 2, 0] (by kernel_rfl))) ?_
      refine Sx.tvo (c := 1) (t := 52) 13 [14, 15] [.pointer (some ⟨bp2, 0, none⟩)] (.pointer (some ⟨bp2, 0, none⟩)) (fun w' hs => (kid_one (sp_at hs 1 (it := kidsI pm6.S1 pm6.as (ksL T gi)) (by kernel_rfl)) has10 hnl10 hq' hbp2 habe2)) (fun _ => (H49.sub [2, 2, 0] (by kernel_rfl))) ?_
      refine Sx.nmx ?_
      intro zx1
      refine Sx.on 14 ?_
      have H50 := bank_put (ty := 78) (T := T) (C := (ndC T Ri gi pm6)) (C' := (ndC T Ri gi pm6)) (hs := [m1]) H49 [0, 0] (by kernel_rfl) (n := n1) (b := be2) hbe2 (nz1 (Ne.symm hne)) (ndC_eq hkn2 has10 (rb := rb10) hrb10 (io := io10) hio10) (fun _ _ _ => rfl)
      have H51 := bank_put (ty := 78) (T := T) (C := (ndC T Ri gi pm6)) (C' := (ndC T Ri gi pm6)) (hs := []) H50 [1, 0] (by kernel_rfl) (n := m1) (b := be1) hbe1 nz0 (ndC_eq hkm2 has9 (rb := rb9) hrb9 (io := io9) hio9) (fun _ _ _ => rfl)
      obtain ⟨S16, H52⟩ := P_close H51 [0, 0, 0, 0] (Z := Z) (T := T) (R := Ri) (g := gi) pm6 hpm6 hzpm6 (by kernel_rfl)
      refine Sx.c 0 [0] H52 (fun Hp11 R11 hR11 => ih S16 Z T Ri gi p q bp1 bp2 w17 R11 Hp11 g2 t2 hbp1 hbp2 hsm (fun S17 Rr1 w18 G11 hpre1 => hR11 _ _ _ G11 fun H53 => ?_))
      refine Sx.bk (x := zx1) 14 (fun h => Sx.nope h (by kernel_rfl)) ?_
      refine Sx.tk [(15, none)] (fun h => Sx.nope h (by kernel_rfl)) ?_
      refine Sx.dn ?_
      refine Sx.br 1 (!t2) (fun h_c71 => ?_) (fun h_c71 => ?_)
      · skip
        have ht2 : t2 = false := by simpa using h_c71
        obtain ⟨rfl, rfl⟩ := hr0 ht2
        obtain ⟨rfl, rfl⟩ := hx0 rfl
        refine Sx.rt 11 [] H53 (.bool false) ?_
        subst hL0
        exact hK S17 Rr1 _ (H53.pick (a := [PI S17 Z T Rr1 g2]) [0] (by kernel_rfl)) (hpre.trans hpre1)
      have ht2 : t2 = true := by simpa using h_c71
      refine Sx.v 4 (.int .i64 (IntKind.i64.wrap (((i : Nat) : Int) + (1 : Int)))) (.int .i64 ((i + 1 : Nat) : Int)) (congrArg (Value.int .i64) (Gx.i64n (by omega) (by omega))) ?_
      exact Sx.to 2 [(0, .pointer (some ⟨be1, 0, none⟩)), (1, .pointer (some ⟨be2, 0, none⟩)), (52, .int .i64 ((nn7 : Nat) : Int)), (53, .int .i64 (((i + 1) : Nat) : Int))] (hK1 _ _ _ _ (by omega) ⟨(i + 1), g2, Rr1, S17, rfl, rfl, H53, (hr1 ht2), (hpre.trans hpre1), (hkp.trans (sameX_kept hsm))⟩)
    have p_c54 := of_decide_eq_false h_c54
    obtain ⟨rfl, rfl⟩ := argsX_end hxi (by omega)
    have h7 := hx1 rfl
    obtain ⟨rfl, rfl⟩ : gi = g' ∧ true = t := (rwX_cases h7).elim (fun h => ⟨h.2.1, h.2.2⟩) (fun h => absurd h.1 h6)
    obtain ⟨pm7, hpm7, hzpm7, H54⟩ := P_open H45 0 (S := Si) (Z := Z) (T := T) (R := Ri) (g := gi) (by kernel_rfl)
    have hkm2 : gi.kind[m1]? = some km := by rw [hkp.kind]; exact hkm
    have hkn2 : gi.kind[n1]? = some km := by rw [hkp.kind]; exact hkn
    obtain ⟨io11, hio11⟩ := oB_at (T := T) (m := pm7) (n := m1)
    obtain ⟨rb11, hrb11⟩ : ∃ rb, rowB Ri gi m1 = rb := ⟨_, rfl⟩
    have hnl11 := (List.getElem?_eq_some_iff.1 hkm2).1
    obtain ⟨nA11, nn11, nc11, has11, hna11⟩ := P_nd hpm7 (H54.at 1 (by kernel_rfl)) (n := m1) hnl11
    have H55 := bank_take (ty := 78) (T := T) (C := (ndC T Ri gi pm7)) (hs := []) H54 0 (by kernel_rfl) (n := m1) (b := be1) hbe1 nz0 (ndC_eq hkm2 has11 (rb := rb11) hrb11 (io := io11) hio11)
    obtain ⟨io12, hio12⟩ := oB_at (T := T) (m := pm7) (n := n1)
    obtain ⟨rb12, hrb12⟩ : ∃ rb, rowB Ri gi n1 = rb := ⟨_, rfl⟩
    have hnl12 := (List.getElem?_eq_some_iff.1 hkn2).1
    obtain ⟨nA12, nn12, nc12, has12, hna12⟩ := P_nd hpm7 (H55.at 2 (by kernel_rfl)) (n := n1) hnl12
    have H56 := bank_take (ty := 78) (T := T) (C := (ndC T Ri gi pm7)) (hs := [m1]) H55 1 (by kernel_rfl) (n := n1) (b := be2) hbe2 (nz1 (Ne.symm hne)) (ndC_eq hkn2 has12 (rb := rb12) hrb12 (io := io12) hio12)
    refine Sx.dr 6 H56 [2] [] (LJ := [.blk be1 (.cells #[.int .i64 ((km : Nat) : Int), .slice nA11 nn11 nc11, pB rb11, pB io11] 78)]) (by kernel_rfl) fun w19 H57 => ?_
    refine Sx.tk [(0, none), (1, none), (2, none), (3, some (0, []))] (fun _ => (H57.sub [2] (by kernel_rfl))) ?_
    refine Sx.tva 4 [] (.bool (((km : Nat) : Int) != (6 : Int))) (.bool true) (congrArg Value.bool (ne6 h6)) (fun _ => (H57.sub [2] (by kernel_rfl))) ?_
    refine Sx.tk [(5, none), (6, none), (7, none), (8, none), (9, none), (10, none), (11, none), (12, none), (13, none), (14, none), (15, none), (16, none)] (fun _ => (H57.sub [2] (by kernel_rfl))) ?_
    refine Sx.dn ?_
    refine Sx.rt 2 [] H57 (.bool true) ?_
    have H58 := bank_put (ty := 78) (T := T) (C := (ndC T Ri gi pm7)) (C' := (ndC T Ri gi pm7)) (hs := [m1]) H57 [0, 0] (by kernel_rfl) (n := n1) (b := be2) hbe2 (nz1 (Ne.symm hne)) (ndC_eq hkn2 has12 (rb := rb12) hrb12 (io := io12) hio12) (fun _ _ _ => rfl)
    have H59 := bank_put (ty := 78) (T := T) (C := (ndC T Ri gi pm7)) (C' := (ndC T Ri gi pm7)) (hs := []) H58 [1, 0] (by kernel_rfl) (n := m1) (b := be1) hbe1 nz0 (ndC_eq hkm2 has11 (rb := rb11) hrb11 (io := io11) hio11) (fun _ _ _ => rfl)
    obtain ⟨S18, H60⟩ := P_close H59 [0, 0, 0, 0] (Z := Z) (T := T) (R := Ri) (g := gi) pm7 hpm7 hzpm7 (by kernel_rfl)
    subst hL0
    exact hK S18 Ri _ (H60.pick (a := [PI S18 Z T Ri gi]) [0] (by kernel_rfl)) hpre
  obtain ⟨be2, hbe2⟩ := root_T hP hn
  refine Sx.c 8 [0] H (fun Hp12 R12 hR12 => Now_p S Z T R g n m1 ba be1 w R12 Hp12 _ hba hm hbe1 (fun S19 w20 G12 => hR12 _ _ _ G12 fun H61 => ?_))
  refine Sx.c 1 [0] H61 (fun Hp13 R13 hR13 => Now_p S19 Z T R g m n1 bb be2 w20 R13 Hp13 _ hbb hn hbe2 (fun S20 w21 G13 => hR13 _ _ _ G13 fun H62 => ?_))
  obtain ⟨pm8, hpm8, hzpm8, H63⟩ := P_open H62 0 (S := S20) (Z := Z) (T := T) (R := R) (g := g) (by kernel_rfl)
  refine Sx.peq (kt := 52) (te := 78) 10 be1 be2 false (bank_cb (H63.at 0 (it := bankI 78 T (ndC T R g pm8) []) (by kernel_rfl)) hbe1 nz0) (bank_cb (H63.at 0 (it := bankI 78 T (ndC T R g pm8) []) (by kernel_rfl)) hbe2 nz0) (bank_ne (H63.at 0 (it := bankI 78 T (ndC T R g pm8) []) (by kernel_rfl)) hbe1 hbe2 nz0 nz0 hne) ?_
  obtain ⟨io13, hio13⟩ := oB_at (T := T) (m := pm8) (n := m1)
  obtain ⟨rb13, hrb13⟩ : ∃ rb, rowB R g m1 = rb := ⟨_, rfl⟩
  have hnl13 := (List.getElem?_eq_some_iff.1 hkm).1
  obtain ⟨nA13, nn13, nc13, has13, hna13⟩ := P_nd hpm8 (H63.at 1 (by kernel_rfl)) (n := m1) hnl13
  have H64 := bank_take (ty := 78) (T := T) (C := (ndC T R g pm8)) (hs := []) H63 0 (by kernel_rfl) (n := m1) (b := be1) hbe1 nz0 (ndC_eq hkm has13 (rb := rb13) hrb13 (io := io13) hio13)
  obtain ⟨io14, hio14⟩ := oB_at (T := T) (m := pm8) (n := n1)
  obtain ⟨rb14, hrb14⟩ : ∃ rb, rowB R g n1 = rb := ⟨_, rfl⟩
  have hnl14 := (List.getElem?_eq_some_iff.1 hkn).1
  obtain ⟨nA14, nn14, nc14, has14, hna14⟩ := P_nd hpm8 (H64.at 2 (by kernel_rfl)) (n := n1) hnl14
  have H65 := bank_take (ty := 78) (T := T) (C := (ndC T R g pm8)) (hs := [m1]) H64 1 (by kernel_rfl) (n := n1) (b := be2) hbe2 (nz1 (Ne.symm hne)) (ndC_eq hkn has14 (rb := rb14) hrb14 (io := io14) hio14)
  refine Sx.l 9 2 H65 ?_
  refine Sx.v 0 (.bool (((6 : Nat) : Int) == (0 : Int))) (.bool false) (rfl) ?_
  refine Sx.l 9 0 H65 ?_
  refine Sx.v 0 (.bool (((6 : Nat) : Int) == (0 : Int))) (.bool false) (rfl) ?_
  refine Sx.dr 5 H65 [2, 0] [] (LJ := [.blk be1 (.cells #[.int .i64 6, .slice nA13 nn13 nc13, pB rb13, pB io13] 78), .blk be2 (.cells #[.int .i64 6, .slice nA14 nn14 nc14, pB rb14, pB io14] 78)]) (by kernel_rfl) fun w22 H66 => ?_
  refine Sx.tk [(0, none), (1, none), (2, none), (3, some (0, [])), (4, none), (5, none), (6, none), (7, some (1, []))] (fun _ => (H66.sub [2, 0] (by kernel_rfl))) ?_
  refine Sx.tva 8 [] (.bool (((6 : Nat) : Int) != ((6 : Nat) : Int))) (.bool false) (rfl) (fun _ => (H66.sub [2, 0] (by kernel_rfl))) ?_
  refine Sx.tk [(9, none)] (fun _ => (H66.sub [2, 0] (by kernel_rfl))) ?_
  refine Sx.dn ?_
  refine Sx.s 11 0 H66 fun w23 H67 => ?_
  refine Sx.l 8 2 H67 ?_
  have hlk : nn13 = (kidsN g m1).length := hna13.trans ksO_len
  have hkl := hP.kids_len hkm hkn
  have hm4 : PR T R (lnk0 g n1 m1) ({ pm8 with il := pm8.il.set n1 (some m1) } : Pm) := hpm8.lnk (find_root hn) (find_root hm) (Ne.symm hne)
  have hil4 := (hpm8.en _ _ (find_root hn)).lt
  have H68 := bank_put (ty := 78) (T := T) (C := (ndC T R g pm8)) (C' := (ndC T R (lnk0 g n1 m1) ({ pm8 with il := pm8.il.set n1 (some m1) } : Pm))) (hs := [m1]) H67 [0, 0] (by kernel_rfl) (n := n1) (b := be2) hbe2 (nz1 (Ne.symm hne)) (ndC_eq hkn has14 (rb := rb14) hrb14 (io := some be1) (il_set hil4 hbe1)) (fun i hi _ => ndC_il hi)
  have H69 := bank_put (ty := 78) (T := T) (C := (ndC T R (lnk0 g n1 m1) ({ pm8 with il := pm8.il.set n1 (some m1) } : Pm))) (C' := (ndC T R (lnk0 g n1 m1) ({ pm8 with il := pm8.il.set n1 (some m1) } : Pm))) (hs := []) H68 [1, 0] (by kernel_rfl) (n := m1) (b := be1) hbe1 nz0 ((ndC_il hne).trans (ndC_eq hkm has13 (rb := rb13) hrb13 (io := io13) hio13)) (fun _ _ _ => rfl)
  have H70 := H69.pick (a := [bankI 78 T (ndC T R (lnk0 g n1 m1) ({ pm8 with il := pm8.il.set n1 (some m1) } : Pm)) [], kidsI ({ pm8 with il := pm8.il.set n1 (some m1) } : Pm).S1 ({ pm8 with il := pm8.il.set n1 (some m1) } : Pm).as (ksL T (lnk0 g n1 m1)), bankI 80 R (rwC R (lnk0 g n1 m1) ({ pm8 with il := pm8.il.set n1 (some m1) } : Pm)) [0], rowsI ({ pm8 with il := pm8.il.set n1 (some m1) } : Pm).S2 ({ pm8 with il := pm8.il.set n1 (some m1) } : Pm).sl (lnk0 g n1 m1).ops]) [0, 0, 0, 0] (by kernel_rfl)
  obtain ⟨S21, H71⟩ := P_close H70 [0, 0, 0, 0] (Z := Z) (T := T) (R := R) (g := (lnk0 g n1 m1)) ({ pm8 with il := pm8.il.set n1 (some m1) } : Pm) hm4 hzpm8 (by kernel_rfl)
  refine Sx.lp 5 (fun z l' w' => ∃ (i : Nat) (gi : G) (Ri : List Nat) (Si : Nat → Prop), l' = [(0, .pointer (some ⟨be1, 0, none⟩)), (1, .pointer (some ⟨be2, 0, none⟩)), (52, .int .i64 ((nn13 : Nat) : Int)), (53, .int .i64 ((i : Nat) : Int))] ∧ z = nn13 - i ∧ Hs w L0 w' [PI Si Z T Ri gi] ∧ (argsX k gi (((kidsN g m1).zip (kidsN g n1)).drop i) = some (gr, tr)) ∧ (Pre R Ri) ∧ (Kept g gi)) _ [(0, .pointer (some ⟨be1, 0, none⟩)), (1, .pointer (some ⟨be2, 0, none⟩)), (52, .int .i64 ((nn13 : Nat) : Int)), (53, .int .i64 ((0 : Nat) : Int))] ⟨0, (lnk0 g n1 m1), R, S21, rfl, rfl, H71, hx, (Pre.refl R), ⟨rfl, rfl, rfl, rfl⟩⟩ (fun b2 z2 l2 w24 hI2 K2 hK2 => ?_)
  obtain ⟨i, gi, Ri, Si, rfl, rfl, H72, hxi, hpre, hkp⟩ := hI2
  refine Sx.br 6 (decide (((i : Nat) : Int) < ((nn13 : Nat) : Int))) (fun h_c54 => ?_) (fun h_c54 => ?_)
  · skip
    have p_c54 := of_decide_eq_true h_c54
    have hk2 := kidsN_le g m1
    obtain ⟨p, q, g2, t2, hp, hq, hsm, hr0, hr1⟩ := argsX_step hxi (by omega) hkl
    obtain ⟨pm9, hpm9, hzpm9, H73⟩ := P_open H72 0 (S := Si) (Z := Z) (T := T) (R := Ri) (g := gi) (by kernel_rfl)
    have hkm2 : gi.kind[m1]? = some 6 := by rw [hkp.kind]; exact hkm
    have hkn2 : gi.kind[n1]? = some 6 := by rw [hkp.kind]; exact hkn
    obtain ⟨io15, hio15⟩ := oB_at (T := T) (m := pm9) (n := m1)
    obtain ⟨rb15, hrb15⟩ : ∃ rb, rowB Ri gi m1 = rb := ⟨_, rfl⟩
    have hnl15 := (List.getElem?_eq_some_iff.1 hkm2).1
    obtain ⟨nA15, nn15, nc15, has15, hna15⟩ := P_nd hpm9 (H73.at 1 (by kernel_rfl)) (n := m1) hnl15
    have H74 := bank_take (ty := 78) (T := T) (C := (ndC T Ri gi pm9)) (hs := []) H73 0 (by kernel_rfl) (n := m1) (b := be1) hbe1 nz0 (ndC_eq hkm2 has15 (rb := rb15) hrb15 (io := io15) hio15)
    obtain ⟨io16, hio16⟩ := oB_at (T := T) (m := pm9) (n := n1)
    obtain ⟨rb16, hrb16⟩ : ∃ rb, rowB Ri gi n1 = rb := ⟨_, rfl⟩
    have hnl16 := (List.getElem?_eq_some_iff.1 hkn2).1
    obtain ⟨nA16, nn16, nc16, has16, hna16⟩ := P_nd hpm9 (H74.at 2 (by kernel_rfl)) (n := n1) hnl16
    have H75 := bank_take (ty := 78) (T := T) (C := (ndC T Ri gi pm9)) (hs := [m1]) H74 1 (by kernel_rfl) (n := n1) (b := be2) hbe2 (nz1 (Ne.symm hne)) (ndC_eq hkn2 has16 (rb := rb16) hrb16 (io := io16) hio16)
    have hp' : (kidsN gi m1)[i]? = some p := by rw [kidsN_kept hkp]; exact hp
    obtain ⟨bp1, hbp1⟩ := hpm9.kid hp'
    obtain ⟨abe1, habe1, hcbe1⟩ := kid_at (H75.at 3 (it := kidsI pm9.S1 pm9.as (ksL T gi)) (by kernel_rfl)) has15 hnl15 hp' hbp1
    have hltbe1 : i < nn15 := by rw [hna15, ksO_len, kidsN_kept hkp]; omega
    have hq' : (kidsN gi n1)[i]? = some q := by rw [kidsN_kept hkp]; exact hq
    obtain ⟨bp2, hbp2⟩ := hpm9.kid hq'
    obtain ⟨abe2, habe2, hcbe2⟩ := kid_at (H75.at 3 (it := kidsI pm9.S1 pm9.as (ksL T gi)) (by kernel_rfl)) has16 hnl16 hq' hbp2
    have hltbe2 : i < nn16 := by rw [hna16, ksO_len, kidsN_kept hkp]; omega
    refine Sx.dr 11 H75 [2, 3, 0] [14] (LJ := [.blk be1 (.cells #[.int .i64 6, .slice nA15 nn15 nc15, pB rb15, pB io15] 78), kidsI pm9.S1 pm9.as (ksL T gi), .blk be2 (.cells #[.int .i64 6, .slice nA16 nn16 nc16, pB rb16, pB io16] 78)]) (by kernel_rfl) fun w25 H76 => ?_
    refine Sx.tk [(0, none), (1, none), (2, none), (3, some (0, [5, 6, 14, 15])), (4, none)] (fun _ => (H76.sub [2, 2, 0] (by kernel_rfl))) ?_
    refine Sx.tvi 5 [6, 14, 15] abe1 i 1 nn15 nc15 habe1 hltbe1 (fun _ => (H76.sub [2, 2, 0] (by kernel_rfl))) ?_
    refine Sx.tvo (c := 1) (t := 52) 6 [14, 15] [.pointer (some ⟨bp1, 0, none⟩)] (.pointer (some ⟨bp1, 0, none⟩)) (fun w' hs => (kid_one (sp_at hs 1 (it := kidsI pm9.S1 pm9.as (ksL T gi)) (by kernel_rfl)) has15 hnl15 hp' hbp1 habe1)) (fun _ => (H76.sub [2, 2, 0] (by kernel_rfl))) ?_
    refine Sx.tk [(7, none), (8, none), (9, none), (10, some (2, [12, 13, 14, 15])), (11, none)] (fun _ => (H76.sub [2, 2, 0] (by kernel_rfl))) ?_
    refine Sx.tvi 12 [13, 14, 15] abe2 i 1 nn16 nc16 habe2 hltbe2 (fun _ => (H76.sub [2, 2, 0] (by kernel_rfl))) ?_
    refine Sx.tvo (c := 1) (t := 52) 13 [14, 15] [.pointer (some ⟨bp2, 0, none⟩)] (.pointer (some ⟨bp2, 0, none⟩)) (fun w' hs => (kid_one (sp_at hs 1 (it := kidsI pm9.S1 pm9.as (ksL T gi)) (by kernel_rfl)) has16 hnl16 hq' hbp2 habe2)) (fun _ => (H76.sub [2, 2, 0] (by kernel_rfl))) ?_
    refine Sx.nmx ?_
    intro zx2
    refine Sx.on 14 ?_
    have H77 := bank_put (ty := 78) (T := T) (C := (ndC T Ri gi pm9)) (C' := (ndC T Ri gi pm9)) (hs := [m1]) H76 [0, 0] (by kernel_rfl) (n := n1) (b := be2) hbe2 (nz1 (Ne.symm hne)) (ndC_eq hkn2 has16 (rb := rb16) hrb16 (io := io16) hio16) (fun _ _ _ => rfl)
    have H78 := bank_put (ty := 78) (T := T) (C := (ndC T Ri gi pm9)) (C' := (ndC T Ri gi pm9)) (hs := []) H77 [1, 0] (by kernel_rfl) (n := m1) (b := be1) hbe1 nz0 (ndC_eq hkm2 has15 (rb := rb15) hrb15 (io := io15) hio15) (fun _ _ _ => rfl)
    obtain ⟨S22, H79⟩ := P_close H78 [0, 0, 0, 0] (Z := Z) (T := T) (R := Ri) (g := gi) pm9 hpm9 hzpm9 (by kernel_rfl)
    refine Sx.c 0 [0] H79 (fun Hp14 R14 hR14 => ih S22 Z T Ri gi p q bp1 bp2 w25 R14 Hp14 g2 t2 hbp1 hbp2 hsm (fun S23 Rr2 w26 G14 hpre2 => hR14 _ _ _ G14 fun H80 => ?_))
    refine Sx.bk (x := zx2) 14 (fun h => Sx.nope h (by kernel_rfl)) ?_
    refine Sx.tk [(15, none)] (fun h => Sx.nope h (by kernel_rfl)) ?_
    refine Sx.dn ?_
    refine Sx.br 1 (!t2) (fun h_c71 => ?_) (fun h_c71 => ?_)
    · skip
      have ht2 : t2 = false := by simpa using h_c71
      obtain ⟨rfl, rfl⟩ := hr0 ht2
      obtain ⟨rfl, rfl⟩ := hx0 rfl
      refine Sx.rt 11 [] H80 (.bool false) ?_
      subst hL0
      exact hK S23 Rr2 _ (H80.pick (a := [PI S23 Z T Rr2 g2]) [0] (by kernel_rfl)) (hpre.trans hpre2)
    have ht2 : t2 = true := by simpa using h_c71
    refine Sx.v 4 (.int .i64 (IntKind.i64.wrap (((i : Nat) : Int) + (1 : Int)))) (.int .i64 ((i + 1 : Nat) : Int)) (congrArg (Value.int .i64) (Gx.i64n (by omega) (by omega))) ?_
    exact Sx.to 2 [(0, .pointer (some ⟨be1, 0, none⟩)), (1, .pointer (some ⟨be2, 0, none⟩)), (52, .int .i64 ((nn13 : Nat) : Int)), (53, .int .i64 (((i + 1) : Nat) : Int))] (hK2 _ _ _ _ (by omega) ⟨(i + 1), g2, Rr2, S23, rfl, rfl, H80, (hr1 ht2), (hpre.trans hpre2), (hkp.trans (sameX_kept hsm))⟩)
  have p_c54 := of_decide_eq_false h_c54
  obtain ⟨rfl, rfl⟩ := argsX_end hxi (by omega)
  have h7 := hx1 rfl
  obtain ⟨r, s, hrr, hrs, hsr⟩ := ((rwX_cases h7).resolve_left (fun h => h.1 rfl)).2
  obtain ⟨pm10, hpm10, hzpm10, H81⟩ := P_open H72 0 (S := Si) (Z := Z) (T := T) (R := Ri) (g := gi) (by kernel_rfl)
  have hkm2 : gi.kind[m1]? = some 6 := by rw [hkp.kind]; exact hkm
  have hkn2 : gi.kind[n1]? = some 6 := by rw [hkp.kind]; exact hkn
  obtain ⟨hr0', br1, hbr1⟩ := hpm10.row6 hkm2 hrr
  obtain ⟨hs0', br2, hbr2⟩ := hpm10.row6 hkn2 hrs
  obtain ⟨io17, hio17⟩ := oB_at (T := T) (m := pm10) (n := m1)
  have hnl17 := (List.getElem?_eq_some_iff.1 hkm2).1
  obtain ⟨nA17, nn17, nc17, has17, hna17⟩ := P_nd hpm10 (H81.at 1 (by kernel_rfl)) (n := m1) hnl17
  have H82 := bank_take (ty := 78) (T := T) (C := (ndC T Ri gi pm10)) (hs := []) H81 0 (by kernel_rfl) (n := m1) (b := be1) hbe1 nz0 (ndC_eq hkm2 has17 (rb := (some br1)) ((rowB_yes hkm2 hrr).trans hbr1) (io := io17) hio17)
  obtain ⟨io18, hio18⟩ := oB_at (T := T) (m := pm10) (n := n1)
  have hnl18 := (List.getElem?_eq_some_iff.1 hkn2).1
  obtain ⟨nA18, nn18, nc18, has18, hna18⟩ := P_nd hpm10 (H82.at 2 (by kernel_rfl)) (n := n1) hnl18
  have H83 := bank_take (ty := 78) (T := T) (C := (ndC T Ri gi pm10)) (hs := [m1]) H82 1 (by kernel_rfl) (n := n1) (b := be2) hbe2 (nz1 (Ne.symm hne)) (ndC_eq hkn2 has18 (rb := (some br2)) ((rowB_yes hkn2 hrs).trans hbr2) (io := io18) hio18)
  refine Sx.dr 6 H83 [2, 0] [14] (LJ := [.blk be1 (.cells #[.int .i64 6, .slice nA17 nn17 nc17, .pointer (some ⟨br1, 0, none⟩), pB io17] 78), .blk be2 (.cells #[.int .i64 6, .slice nA18 nn18 nc18, .pointer (some ⟨br2, 0, none⟩), pB io18] 78)]) (by kernel_rfl) fun w27 H84 => ?_
  refine Sx.tk [(0, none), (1, none), (2, none), (3, some (0, [4, 5, 6, 7, 8, 9, 10, 11, 12, 13, 14, 15, 16]))] (fun _ => (H84.sub [2, 0] (by kernel_rfl))) ?_
  refine Sx.tva 4 [5, 6, 7, 8, 9, 10, 11, 12, 13, 14, 15, 16] (.bool (((6 : Nat) : Int) != (6 : Int))) (.bool false) (rfl) (fun _ => (H84.sub [2, 0] (by kernel_rfl))) ?_
  refine Sx.tk [(5, none), (6, none), (7, none), (8, none), (9, some (0, [14, 15, 16])), (10, none), (11, none), (12, none), (13, some (1, [14, 15, 16]))] (fun _ => (H84.sub [2, 0] (by kernel_rfl))) ?_
  refine Sx.nmx ?_
  intro zx3
  refine Sx.on 14 ?_
  have H85 := bank_put (ty := 78) (T := T) (C := (ndC T Ri gi pm10)) (C' := (ndC T Ri gi pm10)) (hs := [m1]) H84 [0, 0] (by kernel_rfl) (n := n1) (b := be2) hbe2 (nz1 (Ne.symm hne)) (ndC_eq hkn2 has18 (rb := (some br2)) ((rowB_yes hkn2 hrs).trans hbr2) (io := io18) hio18) (fun _ _ _ => rfl)
  have H86 := bank_put (ty := 78) (T := T) (C := (ndC T Ri gi pm10)) (C' := (ndC T Ri gi pm10)) (hs := []) H85 [1, 0] (by kernel_rfl) (n := m1) (b := be1) hbe1 nz0 (ndC_eq hkm2 has17 (rb := (some br1)) ((rowB_yes hkm2 hrr).trans hbr1) (io := io17) hio17) (fun _ _ _ => rfl)
  obtain ⟨S24, H87⟩ := P_close H86 [0, 0, 0, 0] (Z := Z) (T := T) (R := Ri) (g := gi) pm10 hpm10 hzpm10 (by kernel_rfl)
  refine Sx.c 0 [0] H87 (fun Hp15 R15 hR15 => SameRow_p S24 Z T Ri gi _ r s br1 br2 w27 R15 Hp15 g' t hbr1 hr0' hbr2 hs0' hsr (fun S25 Rr3 w28 G15 hpre3 => hR15 _ _ _ G15 fun H88 => ?_))
  refine Sx.bk (x := zx3) 14 (fun h => Sx.nope h (by kernel_rfl)) ?_
  refine Sx.tk [(15, none), (16, none)] (fun h => Sx.nope h (by kernel_rfl)) ?_
  refine Sx.dn ?_
  refine Sx.rt 2 [] H88 (.bool t) ?_
  subst hL0
  exact hK S25 Rr3 _ (H88.pick (a := [PI S25 Z T Rr3 g']) [0] (by kernel_rfl)) (hpre.trans hpre3)
theorem Same_p (k : Nat) : ∀ (S : Nat → Prop) (Z : List Slot) (T R : List Nat) (g : G) (n m ba bb : Nat) (w : World) (K : Ending → World → Prop) (H0 : Sp w [PI S Z T R g]) (g' : G) (t : Bool) (hba : T[n]? = some ba) (hbb : T[m]? = some bb) (hf : sameX true k g n m = some (g', t)) (hK : ∀ (S' : Nat → Prop) (R' : List Nat) w', Hs w [PI S Z T R g] w' [PI S' Z T R' g'] → (Pre R R') → K (.returned (.bool t)) w'),
    Calls Try.prog 13 #[.pointer (some ⟨ba, 0, none⟩), .pointer (some ⟨bb, 0, none⟩)] w K := by
  induction k with
  | zero => intro S Z T R g n m ba bb w K H0 g' t hba hbb hf; exact absurd hf (by simp [sameX])
  | succ k ih => exact Same_p_s k ih
end Go.Proofs.Ytfkkocjheeoobaa
set_option linter.unusedVariables false
set_option linter.unusedSimpArgs false
namespace Go.Slv
open Go.RowKit Go.Sx Go.Inf Go.Gx
def ckids (k : Nat) (g : G) : List Nat → Nat → Seen → Bool → Option (Nat × Seen × Bool)
  | [], c, s, fl => some (c, s, fl)
  | p :: r, c, s, fl => match cnt k g p s fl with
    | some (j, s, fl) => ckids k g r (c + j) s fl
    | none => none
theorem ckids_ge {k : Nat} {g : G} : ∀ {l : List Nat} {c c2 : Nat} {s s2 : Seen} {fl f2 : Bool}, ckids k g l c s fl = some (c2, s2, f2) → c ≤ c2
  | [], _, _, _, _, _, _, h => by cases h; exact Nat.le_refl _
  | p :: r, c, c2, s, s2, fl, f2, h => by
    unfold ckids at h
    split at h <;> try contradiction
    have := ckids_ge h
    omega
theorem ckids_step {k i c c2 : Nat} {g : G} {K : List Nat} {s s2 : Seen} {fl f2 : Bool} (h : ckids k g (K.drop i) c s fl = some (c2, s2, f2)) (hi : i < K.length) : ∃ p j s3 f3, K[i]? = some p ∧ cnt k g p s fl = some (j, s3, f3) ∧ ckids k g (K.drop (i + 1)) (c + j) s3 f3 = some (c2, s2, f2) ∧ c + j ≤ c2 := by
  rw [List.drop_eq_getElem_cons hi] at h
  unfold ckids at h
  split at h <;> try contradiction
  rename_i j s3 f3 h1
  exact ⟨K[i], j, s3, f3, by simp [hi], h1, h, ckids_ge h⟩
theorem ckids_end {k i c c2 : Nat} {g : G} {K : List Nat} {s s2 : Seen} {fl f2 : Bool} (h : ckids k g (K.drop i) c s fl = some (c2, s2, f2)) (hi : K.length ≤ i) : c = c2 ∧ s = s2 ∧ fl = f2 := by
  rw [List.drop_of_length_le hi] at h; cases h; exact ⟨rfl, rfl, rfl⟩
theorem ckids_app {k : Nat} {g : G} : ∀ {l m : List Nat} {c c1 : Nat} {s s1 : Seen} {fl f1 : Bool}, ckids k g l c s fl = some (c1, s1, f1) → ckids k g (l ++ m) c s fl = ckids k g m c1 s1 f1
  | [], _, _, _, _, _, _, _, h => by cases h; rfl
  | p :: r, m, c, c1, s, s1, fl, f1, h => by
    unfold ckids at h
    split at h <;> try contradiction
    rename_i h1
    show ckids k g (p :: (r ++ m)) c s fl = _
    rw [ckids, h1]
    exact ckids_app h
theorem ckid_list {k c c1 : Nat} {g : G} {x : Option (Option Nat)} {s s1 : Seen} {fl f1 : Bool} (h : ckid (cnt k g) x c s fl = some (c1, s1, f1)) : ckids k g (x.getD none).toList c s fl = some (c1, s1, f1) := by
  unfold ckid at h
  split at h <;> try contradiction
  · exact h
  · split at h <;> try contradiction
    rename_i h1
    cases h
    simp [ckids, h1]
theorem own_cases {k n j kd : Nat} {g : G} (h : ownX k g n = some j) (hk : g.kind[n]? = some kd) : (kd ≠ 6 ∧ 0 = j) ∨ (kd = 6 ∧ ∃ r l v, g.row[n]? = some r ∧ whole k g r [] = some (l, v) ∧ l.length = j) := by
  unfold ownX at h
  rw [hk] at h
  split at h
  · rename_i e
    cases Option.some.inj e
    split at h <;> try contradiction
    rename_i r hr
    cases hw : whole k g r [] with
    | none => rw [hw] at h; cases h
    | some p => rw [hw] at h; cases h; exact .inr ⟨rfl, r, p.1, p.2, hr, hw, rfl⟩
  · rename_i k' hne e
    cases h
    exact .inl ⟨fun q => hne (by have := Option.some.inj e; omega), rfl⟩
  · cases h
theorem cnt_cases {k n c : Nat} {g : G} {s s' : Seen} {fl fl' : Bool} (h : cnt (k + 1) g n s fl = some (c, s', fl')) : ∃ n1, find k g n = some n1 ∧
    ((lkS n1 s = some 0 ∧ 0 = c ∧ s = s' ∧ true = fl') ∨ (∃ v, lkS n1 s = some (v + 1) ∧ v + 1 = c ∧ s = s' ∧ fl = fl') ∨
     (lkS n1 s = none ∧ ∃ c2 s2 j, ckids k g (kidsN g n1) 1 (s.put n1 0) fl = some (c2, s2, fl') ∧ ownX k g n1 = some j ∧ c2 + j ≤ 2147483647 ∧ min (c2 + j) 1000000 = c ∧ s2.put n1 (min (c2 + j) 1000000) = s')) := by
  unfold cnt at h
  split at h <;> try contradiction
  rename_i n1 hn
  refine ⟨n1, hn, ?_⟩
  split at h
  · rename_i hl; cases h; exact .inl ⟨hl, rfl, rfl, rfl⟩
  · rename_i v hl; cases h; exact .inr (.inl ⟨v, hl, rfl, rfl, rfl⟩)
  · rename_i hl
    refine .inr (.inr ⟨hl, ?_⟩)
    split at h <;> try contradiction
    rename_i c1 s1 f1 h1
    split at h <;> try contradiction
    rename_i c2 s2 f2 h2
    split at h <;> try contradiction
    rename_i j hj
    split at h <;> try contradiction
    rename_i hb
    cases h
    exact ⟨c2, s2, j, by unfold kidsN; rw [ckids_app (ckid_list h1)]; exact ckid_list h2, hj, hb, rfl, rfl⟩
/-! ### What has been seen -/
def cI : Nat → Int
  | 0 => -1
  | k + 1 => ((k + 1 : Nat) : Int)
def sI : Option Nat → Int
  | none => 0
  | some k => cI k
def kvS (B : List Nat) (s : Seen) : List (Nat × Value) := s.map fun p => ((B[p.1]?).getD 0, .int .i64 (cI p.2))
def SnOk (n : Nat) (s : Seen) : Prop := ∀ p ∈ s, p.1 < n
theorem sn0 (n : Nat) : SnOk n [] := fun _ h => by cases h
theorem SnOk.put {n i v : Nat} {s : Seen} (h : SnOk n s) (hi : i < n) : SnOk n (s.put i v) := by
  induction s with
  | nil => intro p hp; rw [List.mem_singleton.1 hp]; exact hi
  | cons q s ih =>
    obtain ⟨m, u⟩ := q
    unfold Seen.put
    split
    · intro p hp
      rcases List.mem_cons.1 hp with rfl | q
      · exact hi
      · exact h p (.tail _ q)
    · intro p hp
      rcases List.mem_cons.1 hp with rfl | q
      · exact h _ (.head _)
      · exact ih (fun p hp => h p (.tail _ hp)) p q
section
variable {ty : Nat} {B z : List Nat} {C : Nat → List Value} {w : World} {s : Seen}
theorem ks_cb (h : (bankI ty B C []).holds w) (hl : SnOk B.length s) : ∀ p ∈ kvS B s, Cb w p.1 := fun p hp => by
  obtain ⟨q, hq, rfl⟩ := List.mem_map.1 hp
  have hi := hl q hq
  have : B[q.1]? = some B[q.1] := by simp [hi]
  show Cb w ((B[q.1]?).getD 0)
  rw [this]
  exact bank_cb h (n := q.1) (by simp [hi]) nz0
theorem ks_key (h : (bankI ty B C []).holds w) {i j b : Nat} (hj : j < B.length) (hb : B[i]? = some b) : (B[j]?).getD 0 = b ↔ j = i := by
  have e : B[j]? = some B[j] := by simp [hj]
  rw [e]
  exact ⟨fun q => bank_inj h e (by rw [hb]; simp at q; rw [q]) nz0 nz0, fun q => by subst q; rw [hb] at e; cases e; rfl⟩
theorem look_seen (h : (bankI ty B C []).holds w) (hl : SnOk B.length s) {i b : Nat} (hb : B[i]? = some b) : Sx.look b (kvS B s) = (lkS i s).map fun k => .int .i64 (cI k) := by
  induction s with
  | nil => rfl
  | cons p s ih =>
    obtain ⟨m, v⟩ := p
    have ih := ih fun p hp => hl p (.tail _ hp)
    have hk := ks_key h (hl _ (.head _)) hb
    simp only at hk
    have hkv : kvS B ((m, v) :: s) = ((B[m]?).getD 0, .int .i64 (cI v)) :: kvS B s := rfl
    rw [hkv]
    simp only [lkS]
    by_cases q : m = i
    · rw [if_pos q]; simp [Sx.look, Sx.pos, hk.2 q]
    · have hne : ¬ (B[m]?).getD 0 = b := fun e => q (hk.1 e)
      rw [if_neg q, ← ih]
      unfold Sx.look
      simp only [Sx.pos, if_neg hne]
      cases Sx.pos b (kvS B s) with
      | none => rfl
      | some k => simp
theorem seen_get (h : (bankI ty B C []).holds w) (hl : SnOk B.length s) {i b : Nat} (hb : B[i]? = some b) {o : Option Nat} (ho : lkS i s = o) : (Sx.look b (kvS B s)).getD (.int .i64 0) = .int .i64 (sI o) := by
  rw [look_seen h hl hb, ho]; cases o <;> rfl
theorem upd_seen (h : (bankI ty B C []).holds w) (hl : SnOk B.length s) {i b : Nat} (hb : B[i]? = some b) (v : Nat) : Sx.upd b (.int .i64 (cI v)) (kvS B s) = kvS B (s.put i v) := by
  induction s with
  | nil => simp [kvS, Seen.put, Sx.upd, Sx.pos, hb]
  | cons p s ih =>
    obtain ⟨m, u⟩ := p
    have ih := ih fun p hp => hl p (.tail _ hp)
    have hk := ks_key h (hl _ (.head _)) hb
    simp only at hk
    have hkv : kvS B ((m, u) :: s) = ((B[m]?).getD 0, .int .i64 (cI u)) :: kvS B s := rfl
    rw [hkv]
    by_cases q : m = i
    · have e := hk.2 q
      unfold Sx.upd
      simp [Sx.pos, e, Seen.put, if_pos q, kvS, hb]
    · have hne : ¬ (B[m]?).getD 0 = b := fun e => q (hk.1 e)
      have e1 : Seen.put ((m, u) :: s) i v = (m, u) :: Seen.put s i v := by simp [Seen.put, if_neg q]
      rw [e1]
      show _ = ((B[m]?).getD 0, Value.int .i64 (cI u)) :: kvS B (Seen.put s i v)
      rw [← ih]
      unfold Sx.upd
      simp only [Sx.pos, if_neg hne]
      cases Sx.pos b (kvS B s) with
      | none => simp
      | some k => simp
theorem cI_pos {v : Nat} (h : 1 ≤ v) : (v : Int) = cI v := by cases v with | zero => omega | succ v => rfl
theorem upd_seen1 (h : (bankI ty B C []).holds w) (hl : SnOk B.length s) {i b : Nat} (hb : B[i]? = some b) {v : Nat} (hv : 1 ≤ v) : Sx.upd b (.int .i64 (v : Int)) (kvS B s) = kvS B (s.put i v) := by
  rw [cI_pos hv]; exact upd_seen h hl hb v
end
theorem minE (K : Nat) : (if (1000000 : Int) < ((K : Nat) : Int) then (1000000 : Int) else ((K : Nat) : Int)) = ((min K 1000000 : Nat) : Int) := by split <;> omega
end Go.Slv
set_option linter.unusedVariables false
set_option linter.unusedSimpArgs false
namespace Go.Proofs.Ytfkkocjheeoobaa
open Go.RowKit Go.Sx Go.Inf Go.Slv
attribute [local irreducible] Go.wpOps Go.Code.wp Go.wpOp Go.wpAnyH Go.Calls Go.Sx.Goal
set_option maxRecDepth 20000
set_option maxHeartbeats 16000000 in
theorem count_p_s (k : Nat) (ih : ∀ (S : Nat → Prop) (Z : List Slot) (T R : List Nat) (g : G) (n ba mb rb fb sb : Nat) (s : Seen) (fl : Bool) (w : World) (K : Ending → World → Prop) (H0 : Sp w [PI S Z T R g, pkI sb (kvS T s), .blk mb (.cells #[.map (some sb)] 83), .blk rb (.cells #[.bool fl] 4), .blk fb (.cells #[.func (.func 32) #[] #[.pointer (some ⟨mb, 0, none⟩), .pointer (some ⟨rb, 0, none⟩), .pointer (some ⟨fb, 0, none⟩)]] 84)]) (c : Nat) (s' : Seen) (fl' : Bool) (hba : T[n]? = some ba) (hs : SnOk T.length s) (hf : cnt k g n s fl = some (c, s', fl')) (hK : ∀ (S' : Nat → Prop) w', Hs w [PI S Z T R g, pkI sb (kvS T s), .blk mb (.cells #[.map (some sb)] 83), .blk rb (.cells #[.bool fl] 4), .blk fb (.cells #[.func (.func 32) #[] #[.pointer (some ⟨mb, 0, none⟩), .pointer (some ⟨rb, 0, none⟩), .pointer (some ⟨fb, 0, none⟩)]] 84)] w' [PI S' Z T R g, pkI sb (kvS T s'), .blk mb (.cells #[.map (some sb)] 83), .blk rb (.cells #[.bool fl'] 4), .blk fb (.cells #[.func (.func 32) #[] #[.pointer (some ⟨mb, 0, none⟩), .pointer (some ⟨rb, 0, none⟩), .pointer (some ⟨fb, 0, none⟩)]] 84)] → (SnOk T.length s') → K (.returned (.int .i64 (c : Int))) w'),
    Calls Try.prog 32 #[.pointer (some ⟨ba, 0, none⟩), .pointer (some ⟨mb, 0, none⟩), .pointer (some ⟨rb, 0, none⟩), .pointer (some ⟨fb, 0, none⟩)] w K) (S : Nat → Prop) (Z : List Slot) (T R : List Nat) (g : G) (n ba mb rb fb sb : Nat) (s : Seen) (fl : Bool) (w : World) (K : Ending → World → Prop) (H0 : Sp w [PI S Z T R g, pkI sb (kvS T s), .blk mb (.cells #[.map (some sb)] 83), .blk rb (.cells #[.bool fl] 4), .blk fb (.cells #[.func (.func 32) #[] #[.pointer (some ⟨mb, 0, none⟩), .pointer (some ⟨rb, 0, none⟩), .pointer (some ⟨fb, 0, none⟩)]] 84)]) (c : Nat) (s' : Seen) (fl' : Bool) (hba : T[n]? = some ba) (hs : SnOk T.length s) (hf : cnt (k + 1) g n s fl = some (c, s', fl')) (hK : ∀ (S' : Nat → Prop) w', Hs w [PI S Z T R g, pkI sb (kvS T s), .blk mb (.cells #[.map (some sb)] 83), .blk rb (.cells #[.bool fl] 4), .blk fb (.cells #[.func (.func 32) #[] #[.pointer (some ⟨mb, 0, none⟩), .pointer (some ⟨rb, 0, none⟩), .pointer (some ⟨fb, 0, none⟩)]] 84)] w' [PI S' Z T R g, pkI sb (kvS T s'), .blk mb (.cells #[.map (some sb)] 83), .blk rb (.cells #[.bool fl'] 4), .blk fb (.cells #[.func (.func 32) #[] #[.pointer (some ⟨mb, 0, none⟩), .pointer (some ⟨rb, 0, none⟩), .pointer (some ⟨fb, 0, none⟩)]] 84)] → (SnOk T.length s') → K (.returned (.int .i64 (c : Int))) w') :
    Calls Try.prog 32 #[.pointer (some ⟨ba, 0, none⟩), .pointer (some ⟨mb, 0, none⟩), .pointer (some ⟨rb, 0, none⟩), .pointer (some ⟨fb, 0, none⟩)] w K := by
  obtain ⟨L0, hL0, H⟩ : ∃ L0, L0 = [PI S Z T R g, pkI sb (kvS T s), .blk mb (.cells #[.map (some sb)] 83), .blk rb (.cells #[.bool fl] 4), .blk fb (.cells #[.func (.func 32) #[] #[.pointer (some ⟨mb, 0, none⟩), .pointer (some ⟨rb, 0, none⟩), .pointer (some ⟨fb, 0, none⟩)]] 84)] ∧ Hs w L0 w [PI S Z T R g, pkI sb (kvS T s), .blk mb (.cells #[.map (some sb)] 83), .blk rb (.cells #[.bool fl] 4), .blk fb (.cells #[.func (.func 32) #[] #[.pointer (some ⟨mb, 0, none⟩), .pointer (some ⟨rb, 0, none⟩), .pointer (some ⟨fb, 0, none⟩)]] 84)] := ⟨_, rfl, Hs.refl H0⟩
  refine Sx.en (vs := [.pointer (some ⟨ba, 0, none⟩), .pointer (some ⟨mb, 0, none⟩), .pointer (some ⟨rb, 0, none⟩), .pointer (some ⟨fb, 0, none⟩)]) 64 Try.func32 ?_
  obtain ⟨_, hP, _, _⟩ := P_open H 0 (S := S) (Z := Z) (T := T) (R := R) (g := g) (by kernel_rfl)
  obtain ⟨n1, hm, h5⟩ := cnt_cases hf
  obtain ⟨be1, hbe1⟩ := root_T hP hm
  have hn1 : n1 < g.kind.length := by have := (List.getElem?_eq_some_iff.1 hbe1).1; rw [hP.lT] at this; exact this
  have hn1T := (List.getElem?_eq_some_iff.1 hbe1).1
  obtain ⟨kd, hkd⟩ := tb2 (l := g.kind) (n := n1) hn1
  have h6 : ((lkS n1 s = some 0 ∧ 0 = c ∧ s = s' ∧ true = fl') ∨ (∃ v, lkS n1 s = some (v + 1) ∧ v + 1 = c ∧ s = s' ∧ fl = fl') ∨ (lkS n1 s = none ∧ kd ≠ 6 ∧ ∃ c2 s2, ckids k g (kidsN g n1) 1 (s.put n1 0) fl = some (c2, s2, fl') ∧ c2 ≤ 2147483647 ∧ min c2 1000000 = c ∧ s2.put n1 (min c2 1000000) = s') ∨ (lkS n1 s = none ∧ kd = 6 ∧ ∃ c2 s2 r lo vo, ckids k g (kidsN g n1) 1 (s.put n1 0) fl = some (c2, s2, fl') ∧ g.row[n1]? = some r ∧ whole k g r [] = some (lo, vo) ∧ c2 + lo.length ≤ 2147483647 ∧ min (c2 + lo.length) 1000000 = c ∧ s2.put n1 (min (c2 + lo.length) 1000000) = s')) := by
    rcases h5 with h | h | ⟨h1, c2, s2, j, h2, h3, h4, h7, h8⟩
    · exact .inl h
    · exact .inr (.inl h)
    · rcases own_cases h3 hkd with ⟨hk6, rfl⟩ | ⟨hk6, r, lo, vo, hrr, hwl, rfl⟩
      · exact .inr (.inr (.inl ⟨h1, hk6, c2, s2, h2, h4, h7, h8⟩))
      · exact .inr (.inr (.inr ⟨h1, hk6, c2, s2, r, lo, vo, h2, hrr, hwl, h4, h7, h8⟩))
  rcases h6 with ⟨ho, rfl, rfl, rfl⟩ | ⟨v, ho, rfl, rfl, rfl⟩ | ⟨ho, hk6, c2, s2, hx, hb2, rfl, rfl⟩ | ⟨ho, rfl, c2, s2, r, lo, vo, hx, hrr, hwl, hb2, rfl, rfl⟩
  · skip
    refine Sx.c 8 [0] H (fun Hp1 R1 hR1 => Now_p S Z T R g n n1 ba be1 w R1 Hp1 _ hba hm hbe1 (fun S1 w1 G1 => hR1 _ _ _ G1 fun H1 => ?_))
    obtain ⟨pm1, hpm1, hzpm1, H2⟩ := P_open H1 0 (S := S1) (Z := Z) (T := T) (R := R) (g := g) (by kernel_rfl)
    refine Sx.l 6 5 H2 ?_
    refine Sx.lkB (bt := sb) (t := 83) (kt := 52) (et := 3) (te := 78) 1 4 be1 (kvS T s) (.int .i64 0) H2 (bank_cb (H2.at 0 (it := bankI 78 T (ndC T R g pm1) []) (by kernel_rfl)) hbe1 nz0) (ks_cb (H2.at 0 (it := bankI 78 T (ndC T R g pm1) []) (by kernel_rfl)) hs) (by kernel_rfl) (seen_get (H2.at 0 (it := bankI 78 T (ndC T R g pm1) []) (by kernel_rfl)) hs hbe1 ho) ?_
    refine Sx.s 14 6 H2 fun w2 H3 => ?_
    refine Sx.rt 10 [] H3 (.int .i64 0) ?_
    obtain ⟨S2, H4⟩ := P_close H3 [0, 0, 0, 0] (Z := Z) (T := T) (R := R) (g := g) pm1 hpm1 hzpm1 (by kernel_rfl)
    subst hL0
    exact hK S2 _ (H4.pick (a := [PI S2 Z T R g, pkI sb (kvS T s), .blk mb (.cells #[.map (some sb)] 83), .blk rb (.cells #[.bool true] 4), .blk fb (.cells #[.func (.func 32) #[] #[.pointer (some ⟨mb, 0, none⟩), .pointer (some ⟨rb, 0, none⟩), .pointer (some ⟨fb, 0, none⟩)]] 84)]) [0, 0, 0, 0, 0] (by kernel_rfl)) hs
  · skip
    refine Sx.c 8 [0] H (fun Hp2 R2 hR2 => Now_p S Z T R g n n1 ba be1 w R2 Hp2 _ hba hm hbe1 (fun S3 w3 G2 => hR2 _ _ _ G2 fun H5 => ?_))
    obtain ⟨pm2, hpm2, hzpm2, H6⟩ := P_open H5 0 (S := S3) (Z := Z) (T := T) (R := R) (g := g) (by kernel_rfl)
    refine Sx.l 6 5 H6 ?_
    refine Sx.lkB (bt := sb) (t := 83) (kt := 52) (et := 3) (te := 78) 1 4 be1 (kvS T s) (.int .i64 0) H6 (bank_cb (H6.at 0 (it := bankI 78 T (ndC T R g pm2) []) (by kernel_rfl)) hbe1 nz0) (ks_cb (H6.at 0 (it := bankI 78 T (ndC T R g pm2) []) (by kernel_rfl)) hs) (by kernel_rfl) (seen_get (H6.at 0 (it := bankI 78 T (ndC T R g pm2) []) (by kernel_rfl)) hs hbe1 ho) ?_
    refine Sx.v 15 (.bool (decide (((v + 1 : Nat) : Int) > (0 : Int)))) (.bool true) (congrArg Value.bool (decide_eq_true (by omega))) ?_
    refine Sx.rt 13 [] H6 (.int .i64 ((v + 1 : Nat) : Int)) ?_
    obtain ⟨S4, H7⟩ := P_close H6 [0, 0, 0, 0] (Z := Z) (T := T) (R := R) (g := g) pm2 hpm2 hzpm2 (by kernel_rfl)
    subst hL0
    exact hK S4 _ (H7.pick (a := [PI S4 Z T R g, pkI sb (kvS T s), .blk mb (.cells #[.map (some sb)] 83), .blk rb (.cells #[.bool fl] 4), .blk fb (.cells #[.func (.func 32) #[] #[.pointer (some ⟨mb, 0, none⟩), .pointer (some ⟨rb, 0, none⟩), .pointer (some ⟨fb, 0, none⟩)]] 84)]) [0, 0, 0, 0, 0] (by kernel_rfl)) hs
  · skip
    refine Sx.c 8 [0] H (fun Hp3 R3 hR3 => Now_p S Z T R g n n1 ba be1 w R3 Hp3 _ hba hm hbe1 (fun S5 w4 G3 => hR3 _ _ _ G3 fun H8 => ?_))
    obtain ⟨pm3, hpm3, hzpm3, H9⟩ := P_open H8 0 (S := S5) (Z := Z) (T := T) (R := R) (g := g) (by kernel_rfl)
    refine Sx.l 6 5 H9 ?_
    refine Sx.lkB (bt := sb) (t := 83) (kt := 52) (et := 3) (te := 78) 1 4 be1 (kvS T s) (.int .i64 0) H9 (bank_cb (H9.at 0 (it := bankI 78 T (ndC T R g pm3) []) (by kernel_rfl)) hbe1 nz0) (ks_cb (H9.at 0 (it := bankI 78 T (ndC T R g pm3) []) (by kernel_rfl)) hs) (by kernel_rfl) (seen_get (H9.at 0 (it := bankI 78 T (ndC T R g pm3) []) (by kernel_rfl)) hs hbe1 ho) ?_
    refine Sx.v 15 (.bool (decide ((0 : Int) > (0 : Int)))) (.bool false) (rfl) ?_
    have hs1 : SnOk T.length (s.put n1 0) := hs.put hn1T
    refine Sx.l 9 5 H9 ?_
    refine Sx.muB (bt := sb) (t := 83) (kt := 52) (et := 3) (te := 78) 1 4 be1 (kvS T s) (.int .i64 (-1)) H9 (bank_cb (H9.at 0 (it := bankI 78 T (ndC T R g pm3) []) (by kernel_rfl)) hbe1 nz0) (ks_cb (H9.at 0 (it := bankI 78 T (ndC T R g pm3) []) (by kernel_rfl)) hs) (by kernel_rfl) (mp' := kvS T (s.put n1 0)) (upd_seen (H9.at 0 (it := bankI 78 T (ndC T R g pm3) []) (by kernel_rfl)) hs hbe1 0) fun w5 H10 => ?_
    obtain ⟨io1, hio1⟩ := oB_at (T := T) (m := pm3) (n := n1)
    obtain ⟨rb1, hrb1⟩ : ∃ rb, rowB R g n1 = rb := ⟨_, rfl⟩
    have hnl1 := (List.getElem?_eq_some_iff.1 hkd).1
    obtain ⟨nA1, nn1, nc1, has1, hna1⟩ := P_nd hpm3 (H10.at 1 (by kernel_rfl)) (n := n1) hnl1
    have H11 := bank_take (ty := 78) (T := T) (C := (ndC T R g pm3)) (hs := []) H10 0 (by kernel_rfl) (n := n1) (b := be1) hbe1 nz0 (ndC_eq hkd has1 (rb := rb1) hrb1 (io := io1) hio1)
    refine Sx.l 13 0 H11 ?_
    have hZ : Z[n1]? = some (nA1, nn1, nc1) := by rw [← hzpm3]; exact has1
    have hlk : nn1 = (kidsN g n1).length := hna1.trans ksO_len
    have hk2 := kidsN_le g n1
    have H12 := bank_put (ty := 78) (T := T) (C := (ndC T R g pm3)) (C' := (ndC T R g pm3)) (hs := []) H11 [0, 0] (by kernel_rfl) (n := n1) (b := be1) hbe1 nz0 (ndC_eq hkd has1 (rb := rb1) hrb1 (io := io1) hio1) (fun _ _ _ => rfl)
    obtain ⟨S6, H13⟩ := P_close H12 [0, 0, 0, 0] (Z := Z) (T := T) (R := R) (g := g) pm3 hpm3 hzpm3 (by kernel_rfl)
    have H14 := H13.pick (a := [PI S6 Z T R g, pkI sb (kvS T (s.put n1 0)), .blk mb (.cells #[.map (some sb)] 83), .blk rb (.cells #[.bool fl] 4), .blk fb (.cells #[.func (.func 32) #[] #[.pointer (some ⟨mb, 0, none⟩), .pointer (some ⟨rb, 0, none⟩), .pointer (some ⟨fb, 0, none⟩)]] 84)]) [0, 0, 0, 0, 0] (by kernel_rfl)
    refine Sx.lp 5 (fun z l' w' => ∃ (i : Nat) (ci : Nat) (si : Seen) (fi : Bool) (Si : Nat → Prop), l' = [(0, .pointer (some ⟨be1, 0, none⟩)), (1, .pointer (some ⟨mb, 0, none⟩)), (3, .pointer (some ⟨fb, 0, none⟩)), (7, .int .i64 ((ci : Nat) : Int)), (29, .slice nA1 nn1 nc1), (30, .int .i64 ((nn1 : Nat) : Int)), (31, .int .i64 ((i : Nat) : Int))] ∧ z = nn1 - i ∧ Hs w L0 w' [PI Si Z T R g, pkI sb (kvS T si), .blk mb (.cells #[.map (some sb)] 83), .blk rb (.cells #[.bool fi] 4), .blk fb (.cells #[.func (.func 32) #[] #[.pointer (some ⟨mb, 0, none⟩), .pointer (some ⟨rb, 0, none⟩), .pointer (some ⟨fb, 0, none⟩)]] 84)] ∧ (ckids k g ((kidsN g n1).drop i) ci si fi = some (c2, s2, fl')) ∧ (SnOk T.length si) ∧ (1 ≤ ci)) _ [(0, .pointer (some ⟨be1, 0, none⟩)), (1, .pointer (some ⟨mb, 0, none⟩)), (3, .pointer (some ⟨fb, 0, none⟩)), (7, .int .i64 ((1 : Nat) : Int)), (29, .slice nA1 nn1 nc1), (30, .int .i64 ((nn1 : Nat) : Int)), (31, .int .i64 ((0 : Nat) : Int))] ⟨0, 1, (s.put n1 0), fl, S6, rfl, rfl, H14, hx, hs1, (Nat.le_refl 1)⟩ (fun b1 z1 l1 w6 hI1 K1 hK1 => ?_)
    obtain ⟨i, ci, si, fi, Si, rfl, rfl, H15, hxi, hsi, hci⟩ := hI1
    refine Sx.br 6 (decide (((i : Nat) : Int) < ((nn1 : Nat) : Int))) (fun h_c32 => ?_) (fun h_c32 => ?_)
    · skip
      have p_c32 := of_decide_eq_true h_c32
      obtain ⟨p, j, s3, f3, hp, hcp, hxn, hge⟩ := ckids_step hxi (by omega)
      obtain ⟨pm4, hpm4, hzpm4, H16⟩ := P_open H15 0 (S := Si) (Z := Z) (T := T) (R := R) (g := g) (by kernel_rfl)
      have hge2 := ckids_ge hxn
      have has2 : pm4.as[n1]? = some (nA1, nn1, nc1) := by rw [hzpm4]; exact hZ
      obtain ⟨bp1, hbp1⟩ := hpm4.kid hp
      obtain ⟨ax, hax, hcx⟩ := kid_at (H16.at 1 (it := kidsI pm4.S1 pm4.as (ksL T g)) (by kernel_rfl)) has2 hn1 hp hbp1
      refine Sx.ia 6 ax i 1 nn1 nc1 hax (by omega) ?_
      refine Sx.lo (c := 1) (t := 52) 0 [.pointer (some ⟨bp1, 0, none⟩)] (.pointer (some ⟨bp1, 0, none⟩)) hcx ?_
      refine Sx.l 5 7 H16 ?_
      obtain ⟨S7, H17⟩ := P_close H16 [0, 0, 0, 0] (Z := Z) (T := T) (R := R) (g := g) pm4 hpm4 hzpm4 (by kernel_rfl)
      refine Sx.c 1 [0, 0, 0, 0, 0] H17 (fun Hp4 R4 hR4 => ih S7 Z T R g p bp1 mb rb fb sb si fi w6 R4 Hp4 j s3 f3 hbp1 hsi hcp (fun S8 w7 G4 hsn1 => hR4 _ _ _ G4 fun H18 => ?_))
      refine Sx.v 0 (.int .i64 (IntKind.i64.wrap (((ci : Nat) : Int) + ((j : Nat) : Int)))) (.int .i64 ((ci + j : Nat) : Int)) (congrArg (Value.int .i64) (Gx.i64n (by omega) (by omega))) ?_
      refine Sx.v 5 (.int .i64 (IntKind.i64.wrap (((i : Nat) : Int) + (1 : Int)))) (.int .i64 ((i + 1 : Nat) : Int)) (congrArg (Value.int .i64) (Gx.i64n (by omega) (by omega))) ?_
      have H19 := H18.pick (a := [PI S8 Z T R g, pkI sb (kvS T s3), .blk mb (.cells #[.map (some sb)] 83), .blk rb (.cells #[.bool f3] 4), .blk fb (.cells #[.func (.func 32) #[] #[.pointer (some ⟨mb, 0, none⟩), .pointer (some ⟨rb, 0, none⟩), .pointer (some ⟨fb, 0, none⟩)]] 84)]) [0, 0, 0, 0, 0] (by kernel_rfl)
      exact Sx.to 2 [(0, .pointer (some ⟨be1, 0, none⟩)), (1, .pointer (some ⟨mb, 0, none⟩)), (3, .pointer (some ⟨fb, 0, none⟩)), (7, .int .i64 (((ci + j) : Nat) : Int)), (29, .slice nA1 nn1 nc1), (30, .int .i64 ((nn1 : Nat) : Int)), (31, .int .i64 (((i + 1) : Nat) : Int))] (hK1 _ _ _ _ (by omega) ⟨(i + 1), (ci + j), s3, f3, S8, rfl, rfl, H19, hxn, hsn1, (by omega)⟩)
    have p_c32 := of_decide_eq_false h_c32
    obtain ⟨rfl, rfl, rfl⟩ := ckids_end hxi (by omega)
    obtain ⟨pm5, hpm5, hzpm5, H20⟩ := P_open H15 0 (S := Si) (Z := Z) (T := T) (R := R) (g := g) (by kernel_rfl)
    obtain ⟨io2, hio2⟩ := oB_at (T := T) (m := pm5) (n := n1)
    have hnl2 := (List.getElem?_eq_some_iff.1 hkd).1
    obtain ⟨nA2, nn2, nc2, has3, hna2⟩ := P_nd hpm5 (H20.at 1 (by kernel_rfl)) (n := n1) hnl2
    have H21 := bank_take (ty := 78) (T := T) (C := (ndC T R g pm5)) (hs := []) H20 0 (by kernel_rfl) (n := n1) (b := be1) hbe1 nz0 (ndC_eq hkd has3 (rb := none) (rowB_no hkd hk6) (io := io2) hio2)
    refine Sx.l 11 0 H21 ?_
    refine Sx.v 9 (.int .i64 (if (1000000 : Int) < ((ci : Nat) : Int) then (1000000 : Int) else ((ci : Nat) : Int))) (.int .i64 (((min (ci) 1000000) : Nat) : Int)) (congrArg (Value.int .i64) (minE (ci))) ?_
    have H22 := bank_put (ty := 78) (T := T) (C := (ndC T R g pm5)) (C' := (ndC T R g pm5)) (hs := []) H21 [0, 0] (by kernel_rfl) (n := n1) (b := be1) hbe1 nz0 (ndC_eq hkd has3 (rb := none) (rowB_no hkd hk6) (io := io2) hio2) (fun _ _ _ => rfl)
    refine Sx.l 5 5 H22 ?_
    refine Sx.muB (bt := sb) (t := 83) (kt := 52) (et := 3) (te := 78) 2 4 be1 (kvS T si) (.int .i64 (((min (ci) 1000000) : Nat) : Int)) H22 (bank_cb (H22.at 0 (it := bankI 78 T (ndC T R g pm5) []) (by kernel_rfl)) hbe1 nz0) (ks_cb (H22.at 0 (it := bankI 78 T (ndC T R g pm5) []) (by kernel_rfl)) hsi) (by kernel_rfl) (mp' := kvS T (si.put n1 (min (ci) 1000000))) (upd_seen1 (H22.at 0 (it := bankI 78 T (ndC T R g pm5) []) (by kernel_rfl)) hsi hbe1 (by omega)) fun w8 H23 => ?_
    refine Sx.rt 9 [] H23 (.int .i64 (((min (ci) 1000000) : Nat) : Int)) ?_
    obtain ⟨S9, H24⟩ := P_close H23 [0, 0, 0, 0] (Z := Z) (T := T) (R := R) (g := g) pm5 hpm5 hzpm5 (by kernel_rfl)
    subst hL0
    exact hK S9 _ (H24.pick (a := [PI S9 Z T R g, pkI sb (kvS T (si.put n1 (min (ci) 1000000))), .blk mb (.cells #[.map (some sb)] 83), .blk rb (.cells #[.bool fi] 4), .blk fb (.cells #[.func (.func 32) #[] #[.pointer (some ⟨mb, 0, none⟩), .pointer (some ⟨rb, 0, none⟩), .pointer (some ⟨fb, 0, none⟩)]] 84)]) [0, 0, 0, 0, 0] (by kernel_rfl)) (SnOk.put hsi hn1T)
  refine Sx.c 8 [0] H (fun Hp5 R5 hR5 => Now_p S Z T R g n n1 ba be1 w R5 Hp5 _ hba hm hbe1 (fun S10 w9 G5 => hR5 _ _ _ G5 fun H25 => ?_))
  obtain ⟨pm6, hpm6, hzpm6, H26⟩ := P_open H25 0 (S := S10) (Z := Z) (T := T) (R := R) (g := g) (by kernel_rfl)
  refine Sx.l 6 5 H26 ?_
  refine Sx.lkB (bt := sb) (t := 83) (kt := 52) (et := 3) (te := 78) 1 4 be1 (kvS T s) (.int .i64 0) H26 (bank_cb (H26.at 0 (it := bankI 78 T (ndC T R g pm6) []) (by kernel_rfl)) hbe1 nz0) (ks_cb (H26.at 0 (it := bankI 78 T (ndC T R g pm6) []) (by kernel_rfl)) hs) (by kernel_rfl) (seen_get (H26.at 0 (it := bankI 78 T (ndC T R g pm6) []) (by kernel_rfl)) hs hbe1 ho) ?_
  refine Sx.v 15 (.bool (decide ((0 : Int) > (0 : Int)))) (.bool false) (rfl) ?_
  have hs1 : SnOk T.length (s.put n1 0) := hs.put hn1T
  refine Sx.l 9 5 H26 ?_
  refine Sx.muB (bt := sb) (t := 83) (kt := 52) (et := 3) (te := 78) 1 4 be1 (kvS T s) (.int .i64 (-1)) H26 (bank_cb (H26.at 0 (it := bankI 78 T (ndC T R g pm6) []) (by kernel_rfl)) hbe1 nz0) (ks_cb (H26.at 0 (it := bankI 78 T (ndC T R g pm6) []) (by kernel_rfl)) hs) (by kernel_rfl) (mp' := kvS T (s.put n1 0)) (upd_seen (H26.at 0 (it := bankI 78 T (ndC T R g pm6) []) (by kernel_rfl)) hs hbe1 0) fun w10 H27 => ?_
  obtain ⟨io3, hio3⟩ := oB_at (T := T) (m := pm6) (n := n1)
  obtain ⟨rb2, hrb2⟩ : ∃ rb, rowB R g n1 = rb := ⟨_, rfl⟩
  have hnl3 := (List.getElem?_eq_some_iff.1 hkd).1
  obtain ⟨nA3, nn3, nc3, has4, hna3⟩ := P_nd hpm6 (H27.at 1 (by kernel_rfl)) (n := n1) hnl3
  have H28 := bank_take (ty := 78) (T := T) (C := (ndC T R g pm6)) (hs := []) H27 0 (by kernel_rfl) (n := n1) (b := be1) hbe1 nz0 (ndC_eq hkd has4 (rb := rb2) hrb2 (io := io3) hio3)
  refine Sx.l 13 0 H28 ?_
  have hZ : Z[n1]? = some (nA3, nn3, nc3) := by rw [← hzpm6]; exact has4
  have hlk : nn3 = (kidsN g n1).length := hna3.trans ksO_len
  have hk2 := kidsN_le g n1
  have H29 := bank_put (ty := 78) (T := T) (C := (ndC T R g pm6)) (C' := (ndC T R g pm6)) (hs := []) H28 [0, 0] (by kernel_rfl) (n := n1) (b := be1) hbe1 nz0 (ndC_eq hkd has4 (rb := rb2) hrb2 (io := io3) hio3) (fun _ _ _ => rfl)
  obtain ⟨S11, H30⟩ := P_close H29 [0, 0, 0, 0] (Z := Z) (T := T) (R := R) (g := g) pm6 hpm6 hzpm6 (by kernel_rfl)
  have H31 := H30.pick (a := [PI S11 Z T R g, pkI sb (kvS T (s.put n1 0)), .blk mb (.cells #[.map (some sb)] 83), .blk rb (.cells #[.bool fl] 4), .blk fb (.cells #[.func (.func 32) #[] #[.pointer (some ⟨mb, 0, none⟩), .pointer (some ⟨rb, 0, none⟩), .pointer (some ⟨fb, 0, none⟩)]] 84)]) [0, 0, 0, 0, 0] (by kernel_rfl)
  refine Sx.lp 5 (fun z l' w' => ∃ (i : Nat) (ci : Nat) (si : Seen) (fi : Bool) (Si : Nat → Prop), l' = [(0, .pointer (some ⟨be1, 0, none⟩)), (1, .pointer (some ⟨mb, 0, none⟩)), (3, .pointer (some ⟨fb, 0, none⟩)), (7, .int .i64 ((ci : Nat) : Int)), (29, .slice nA3 nn3 nc3), (30, .int .i64 ((nn3 : Nat) : Int)), (31, .int .i64 ((i : Nat) : Int))] ∧ z = nn3 - i ∧ Hs w L0 w' [PI Si Z T R g, pkI sb (kvS T si), .blk mb (.cells #[.map (some sb)] 83), .blk rb (.cells #[.bool fi] 4), .blk fb (.cells #[.func (.func 32) #[] #[.pointer (some ⟨mb, 0, none⟩), .pointer (some ⟨rb, 0, none⟩), .pointer (some ⟨fb, 0, none⟩)]] 84)] ∧ (ckids k g ((kidsN g n1).drop i) ci si fi = some (c2, s2, fl')) ∧ (SnOk T.length si) ∧ (1 ≤ ci)) _ [(0, .pointer (some ⟨be1, 0, none⟩)), (1, .pointer (some ⟨mb, 0, none⟩)), (3, .pointer (some ⟨fb, 0, none⟩)), (7, .int .i64 ((1 : Nat) : Int)), (29, .slice nA3 nn3 nc3), (30, .int .i64 ((nn3 : Nat) : Int)), (31, .int .i64 ((0 : Nat) : Int))] ⟨0, 1, (s.put n1 0), fl, S11, rfl, rfl, H31, hx, hs1, (Nat.le_refl 1)⟩ (fun b2 z2 l2 w11 hI2 K2 hK2 => ?_)
  obtain ⟨i, ci, si, fi, Si, rfl, rfl, H32, hxi, hsi, hci⟩ := hI2
  refine Sx.br 6 (decide (((i : Nat) : Int) < ((nn3 : Nat) : Int))) (fun h_c32 => ?_) (fun h_c32 => ?_)
  · skip
    have p_c32 := of_decide_eq_true h_c32
    obtain ⟨p, j, s3, f3, hp, hcp, hxn, hge⟩ := ckids_step hxi (by omega)
    obtain ⟨pm7, hpm7, hzpm7, H33⟩ := P_open H32 0 (S := Si) (Z := Z) (T := T) (R := R) (g := g) (by kernel_rfl)
    have hge2 := ckids_ge hxn
    have has5 : pm7.as[n1]? = some (nA3, nn3, nc3) := by rw [hzpm7]; exact hZ
    obtain ⟨bp1, hbp1⟩ := hpm7.kid hp
    obtain ⟨ax, hax, hcx⟩ := kid_at (H33.at 1 (it := kidsI pm7.S1 pm7.as (ksL T g)) (by kernel_rfl)) has5 hn1 hp hbp1
    refine Sx.ia 6 ax i 1 nn3 nc3 hax (by omega) ?_
    refine Sx.lo (c := 1) (t := 52) 0 [.pointer (some ⟨bp1, 0, none⟩)] (.pointer (some ⟨bp1, 0, none⟩)) hcx ?_
    refine Sx.l 5 7 H33 ?_
    obtain ⟨S12, H34⟩ := P_close H33 [0, 0, 0, 0] (Z := Z) (T := T) (R := R) (g := g) pm7 hpm7 hzpm7 (by kernel_rfl)
    refine Sx.c 1 [0, 0, 0, 0, 0] H34 (fun Hp6 R6 hR6 => ih S12 Z T R g p bp1 mb rb fb sb si fi w11 R6 Hp6 j s3 f3 hbp1 hsi hcp (fun S13 w12 G6 hsn2 => hR6 _ _ _ G6 fun H35 => ?_))
    refine Sx.v 0 (.int .i64 (IntKind.i64.wrap (((ci : Nat) : Int) + ((j : Nat) : Int)))) (.int .i64 ((ci + j : Nat) : Int)) (congrArg (Value.int .i64) (Gx.i64n (by omega) (by omega))) ?_
    refine Sx.v 5 (.int .i64 (IntKind.i64.wrap (((i : Nat) : Int) + (1 : Int)))) (.int .i64 ((i + 1 : Nat) : Int)) (congrArg (Value.int .i64) (Gx.i64n (by omega) (by omega))) ?_
    have H36 := H35.pick (a := [PI S13 Z T R g, pkI sb (kvS T s3), .blk mb (.cells #[.map (some sb)] 83), .blk rb (.cells #[.bool f3] 4), .blk fb (.cells #[.func (.func 32) #[] #[.pointer (some ⟨mb, 0, none⟩), .pointer (some ⟨rb, 0, none⟩), .pointer (some ⟨fb, 0, none⟩)]] 84)]) [0, 0, 0, 0, 0] (by kernel_rfl)
    exact Sx.to 2 [(0, .pointer (some ⟨be1, 0, none⟩)), (1, .pointer (some ⟨mb, 0, none⟩)), (3, .pointer (some ⟨fb, 0, none⟩)), (7, .int .i64 (((ci + j) : Nat) : Int)), (29, .slice nA3 nn3 nc3), (30, .int .i64 ((nn3 : Nat) : Int)), (31, .int .i64 (((i + 1) : Nat) : Int))] (hK2 _ _ _ _ (by omega) ⟨(i + 1), (ci + j), s3, f3, S13, rfl, rfl, H36, hxn, hsn2, (by omega)⟩)
  have p_c32 := of_decide_eq_false h_c32
  obtain ⟨rfl, rfl, rfl⟩ := ckids_end hxi (by omega)
  obtain ⟨pm8, hpm8, hzpm8, H37⟩ := P_open H32 0 (S := Si) (Z := Z) (T := T) (R := R) (g := g) (by kernel_rfl)
  obtain ⟨hr0', br1, hbr1⟩ := hpm8.row6 hkd hrr
  obtain ⟨vb, hvb⟩ : ∃ vb, vB R vo = vb := ⟨_, rfl⟩
  obtain ⟨io4, hio4⟩ := oB_at (T := T) (m := pm8) (n := n1)
  have hnl4 := (List.getElem?_eq_some_iff.1 hkd).1
  obtain ⟨nA4, nn4, nc4, has6, hna4⟩ := P_nd hpm8 (H37.at 1 (by kernel_rfl)) (n := n1) hnl4
  have H38 := bank_take (ty := 78) (T := T) (C := (ndC T R g pm8)) (hs := []) H37 0 (by kernel_rfl) (n := n1) (b := be1) hbe1 nz0 (ndC_eq hkd has6 (rb := (some br1)) ((rowB_yes hkd hrr).trans hbr1) (io := io4) hio4)
  refine Sx.l 11 0 H38 ?_
  refine Sx.l 9 0 H38 ?_
  have H39 := bank_put (ty := 78) (T := T) (C := (ndC T R g pm8)) (C' := (ndC T R g pm8)) (hs := []) H38 [0, 0] (by kernel_rfl) (n := n1) (b := be1) hbe1 nz0 (ndC_eq hkd has6 (rb := (some br1)) ((rowB_yes hkd hrr).trans hbr1) (io := io4) hio4) (fun _ _ _ => rfl)
  obtain ⟨S14, H40⟩ := P_close H39 [0, 0, 0, 0] (Z := Z) (T := T) (R := R) (g := g) pm8 hpm8 hzpm8 (by kernel_rfl)
  refine Sx.c 0 [0] H40 (fun Hp7 R7 hR7 => Whole_p S14 Z T R g _ r br1 vo lo vb w11 R7 Hp7 hbr1 hr0' hvb hwl (fun S15 S16 wA1 wn1 wc1 w13 G7 hwn1 hwc1 => hR7 _ _ _ G7 fun H41 => ?_))
  subst hwn1
  refine Sx.v 11 (.int .i64 (IntKind.i64.wrap (((ci : Nat) : Int) + ((lo.length : Nat) : Int)))) (.int .i64 ((ci + lo.length : Nat) : Int)) (congrArg (Value.int .i64) (Gx.i64n (by omega) (by omega))) ?_
  refine Sx.v 6 (.int .i64 (if (1000000 : Int) < ((ci + lo.length : Nat) : Int) then (1000000 : Int) else ((ci + lo.length : Nat) : Int))) (.int .i64 (((min (ci + lo.length) 1000000) : Nat) : Int)) (congrArg (Value.int .i64) (minE (ci + lo.length))) ?_
  obtain ⟨pm9, hpm9, hzpm9, H42⟩ := P_open H41 0 (S := S15) (Z := Z) (T := T) (R := R) (g := g) (by kernel_rfl)
  refine Sx.l 5 6 H42 ?_
  refine Sx.muB (bt := sb) (t := 83) (kt := 52) (et := 3) (te := 78) 2 5 be1 (kvS T si) (.int .i64 (((min (ci + lo.length) 1000000) : Nat) : Int)) H42 (bank_cb (H42.at 0 (it := bankI 78 T (ndC T R g pm9) []) (by kernel_rfl)) hbe1 nz0) (ks_cb (H42.at 0 (it := bankI 78 T (ndC T R g pm9) []) (by kernel_rfl)) hsi) (by kernel_rfl) (mp' := kvS T (si.put n1 (min (ci + lo.length) 1000000))) (upd_seen1 (H42.at 0 (it := bankI 78 T (ndC T R g pm9) []) (by kernel_rfl)) hsi hbe1 (by omega)) fun w14 H43 => ?_
  refine Sx.rt 9 [] H43 (.int .i64 (((min (ci + lo.length) 1000000) : Nat) : Int)) ?_
  obtain ⟨S17, H44⟩ := P_close H43 [0, 0, 0, 0] (Z := Z) (T := T) (R := R) (g := g) pm9 hpm9 hzpm9 (by kernel_rfl)
  subst hL0
  exact hK S17 _ (H44.pick (a := [PI S17 Z T R g, pkI sb (kvS T (si.put n1 (min (ci + lo.length) 1000000))), .blk mb (.cells #[.map (some sb)] 83), .blk rb (.cells #[.bool fi] 4), .blk fb (.cells #[.func (.func 32) #[] #[.pointer (some ⟨mb, 0, none⟩), .pointer (some ⟨rb, 0, none⟩), .pointer (some ⟨fb, 0, none⟩)]] 84)]) [0, 1, 1, 1, 1] (by kernel_rfl)) (SnOk.put hsi hn1T)
theorem count_p (k : Nat) : ∀ (S : Nat → Prop) (Z : List Slot) (T R : List Nat) (g : G) (n ba mb rb fb sb : Nat) (s : Seen) (fl : Bool) (w : World) (K : Ending → World → Prop) (H0 : Sp w [PI S Z T R g, pkI sb (kvS T s), .blk mb (.cells #[.map (some sb)] 83), .blk rb (.cells #[.bool fl] 4), .blk fb (.cells #[.func (.func 32) #[] #[.pointer (some ⟨mb, 0, none⟩), .pointer (some ⟨rb, 0, none⟩), .pointer (some ⟨fb, 0, none⟩)]] 84)]) (c : Nat) (s' : Seen) (fl' : Bool) (hba : T[n]? = some ba) (hs : SnOk T.length s) (hf : cnt k g n s fl = some (c, s', fl')) (hK : ∀ (S' : Nat → Prop) w', Hs w [PI S Z T R g, pkI sb (kvS T s), .blk mb (.cells #[.map (some sb)] 83), .blk rb (.cells #[.bool fl] 4), .blk fb (.cells #[.func (.func 32) #[] #[.pointer (some ⟨mb, 0, none⟩), .pointer (some ⟨rb, 0, none⟩), .pointer (some ⟨fb, 0, none⟩)]] 84)] w' [PI S' Z T R g, pkI sb (kvS T s'), .blk mb (.cells #[.map (some sb)] 83), .blk rb (.cells #[.bool fl'] 4), .blk fb (.cells #[.func (.func 32) #[] #[.pointer (some ⟨mb, 0, none⟩), .pointer (some ⟨rb, 0, none⟩), .pointer (some ⟨fb, 0, none⟩)]] 84)] → (SnOk T.length s') → K (.returned (.int .i64 (c : Int))) w'),
    Calls Try.prog 32 #[.pointer (some ⟨ba, 0, none⟩), .pointer (some ⟨mb, 0, none⟩), .pointer (some ⟨rb, 0, none⟩), .pointer (some ⟨fb, 0, none⟩)] w K := by
  induction k with
  | zero => intro S Z T R g n ba mb rb fb sb s fl w K H0 c s' fl' hba hs hf; exact absurd hf (by simp [cnt])
  | succ k ih => exact count_p_s k ih
end Go.Proofs.Ytfkkocjheeoobaa
set_option linter.unusedVariables false
set_option linter.unusedSimpArgs false
namespace Go.Inf
open Go.RowKit Go.Sx Go.Gx Go.MapKept
theorem keyN (a : Int) : IsKey (.int .i64) (encN a) := rfl
theorem injN (a b : Int) (h : encN a = encN b) : a = b := by simpa [encN] using h
theorem bitsN (a : Int) : Instr.sameBits 10000 (encN a) (encN a) = true := by simp [encN, Instr.sameBits]
theorem upd_cons (a : Int) (v : Value) (p : Int × Value) (r : List (Int × Value)) : upd a v (p :: r) = if p.1 = a then (a, v) :: r else p :: upd a v r := by
  unfold upd
  rw [pos]
  by_cases e : p.1 = a
  · rw [if_pos e, if_pos e]; rfl
  · rw [if_neg e, if_neg e]; cases pos a r <;> rfl
section
variable {P : Program} {B : Exit → Act → World → Prop} {b : Nat → Value} {n : Nat} {d : List Deferred} {w0 w : World} {x : St} {L0 L : List Sx.Item}
end
theorem numb_some {m : List (Int × Nat)} {n q : Nat} (h : lookI n m = some q) : numb m n = (m, q) := by unfold numb; rw [h]
theorem numb_none {m : List (Int × Nat)} {n : Nat} (h : lookI n m = none) : numb m n = (m ++ [((n : Int), m.length + 1)], m.length + 1) := by unfold numb; rw [h]
end Go.Inf
namespace Go.Inf
open Go.RowKit Go.Sx
end Go.Inf
namespace Go.Inf
open Go.RowKit Go.Sx Go.Gx
section
variable {P : Program} {fn : Func} {R : Ending → World → Prop} {b : Nat → Value} {n : Nat} {d : List Deferred} {w0 w : World} {x : St} {L0 L : List Sx.Item}
end
end Go.Inf
set_option linter.unusedVariables false
set_option linter.unusedSimpArgs false
namespace Go.Inf
open Go.RowKit Go.Sx
def PD (n c j : Nat) (s : Seen) (r : Nat) (s' : Seen) : Prop := c + j ≤ 2147483647 ∧ min (c + j) 1000000 = r ∧ s.put n (min (c + j) 1000000) = s'
def PC (k : Nat) (g : G) (n c : Nat) (s : Seen) (r : Nat) (s' : Seen) : Prop := ∃ kd, g.kind[n]? = some kd ∧ (kd ≠ 6 → PD n c 0 s r s') ∧ (kd = 6 → ∃ q l v, g.row[n]? = some q ∧ whole k g q [] = some (l, v) ∧ PD n c l.length s r s')
def PB (k : Nat) (g : G) (n c : Nat) (s : Seen) (r : Nat) (s' : Seen) : Prop := ∃ y, g.b[n]? = some y ∧ (y = none → PC k g n c s r s') ∧ ∀ p, y = some p → ∃ j s2, parts k g p s = some (j, s2) ∧ PC k g n (c + j) s2 r s'
def PA (k : Nat) (g : G) (n c : Nat) (s : Seen) (r : Nat) (s' : Seen) : Prop := ∃ y, g.a[n]? = some y ∧ (y = none → PB k g n c s r s') ∧ ∀ p, y = some p → ∃ j s2, parts k g p s = some (j, s2) ∧ PB k g n (c + j) s2 r s'
end Go.Inf
namespace Go.Inf
end Go.Inf
set_option linter.unusedVariables false
set_option linter.unusedSimpArgs false
namespace Go.Inf
open Go.RowKit Go.Sx
structure Tv where
  A : Option Addr
  na : Nat
  ca : Nat
  B : Option Addr
  nb : Nat
  cb : Nat
def tvC (t : Ty) (p : Tv) : List Value := match t with
  | .mk kd n row _ _ => [.int .i64 (kd : Int), .int .i64 (n : Int), .int .i64 (row : Int), .slice p.A p.na p.ca, .slice p.B p.nb p.cb]
/-- A tree of types that is only read. -/
inductive TyIn (w : World) (S : Nat → Prop) : Tv → Ty → Prop
  | mk {kd n row : Nat} {ops : List Nm} {args : List Ty} (p : Tv) (ps : List Tv) (hs : Strs w S p.A ops) (hn : p.na = ops.length) (hc : p.na ≤ p.ca ∧ ops.length < 1000000000 ∧ args.length ≤ 2) (hb : p.nb = args.length) (hl : ps.length = args.length)
      (hm : ∀ (i : Nat) (q : Tv) (t : Ty), ps[i]? = some q → args[i]? = some t → ∃ a, p.B = some a ∧ S a.block ∧ w.cells? 0 (a.add (i * 5)) 5 = some (tvC t q))
      (ht : ∀ (i : Nat) (q : Tv) (t : Ty), ps[i]? = some q → args[i]? = some t → TyIn w S q t) : TyIn w S p (.mk kd n row ops args)
theorem TyIn.keep {w w' : World} {S : Nat → Prop} {p : Tv} {t : Ty} (h : TyIn w S p t) (k : ∀ c, S c → w'.heap[c]? = w.heap[c]?) : TyIn w' S p t := by
  induction h with
  | mk p ps hs hn hc hb hl hm _ ih => exact .mk p ps (hs.keep k) hn hc hb hl (fun i q t h1 h2 => by obtain ⟨a, ha, hS, hcs⟩ := hm i q t h1 h2; exact ⟨a, ha, hS, cells_same hcs (by rw [add_block]; exact k _ hS)⟩) ih
theorem TyIn.mono {w : World} {S S' : Nat → Prop} {p : Tv} {t : Ty} (h : TyIn w S p t) (k : ∀ c, S c → S' c) : TyIn w S' p t := by
  induction h with
  | mk p ps hs hn hc hb hl hm _ ih => exact .mk p ps (hs.mono k) hn hc hb hl (fun i q t h1 h2 => by obtain ⟨a, ha, hS, hcs⟩ := hm i q t h1 h2; exact ⟨a, ha, k _ hS, hcs⟩) ih
theorem tyI_loc (S : Nat → Prop) (p : Tv) (t : Ty) : Sx.Loc S (fun w => TyIn w S p t) := fun _ _ _ hk h => h.keep hk
def tyI (S : Nat → Prop) (p : Tv) (t : Ty) : Sx.Item := .ro S (fun w => TyIn w S p t)
theorem TyIn.open {w : World} {S : Nat → Prop} {p : Tv} {kd n row : Nat} {ops : List Nm} {args : List Ty} (h : TyIn w S p (.mk kd n row ops args)) :
    Strs w S p.A ops ∧ p.na = ops.length ∧ (p.na ≤ p.ca ∧ ops.length < 1000000000 ∧ args.length ≤ 2) ∧ p.nb = args.length ∧ ∀ i t, args[i]? = some t → ∃ (q : Tv) (a : Addr), p.B = some a ∧ w.cells? 0 (a.add (i * 5)) 5 = some (tvC t q) ∧ TyIn w S q t := by
  cases h with
  | mk _ ps hs hn hc hb hl hm ht =>
    refine ⟨hs, hn, hc, hb, fun i t h => ?_⟩
    have hi : i < ps.length := by rw [hl]; exact (List.getElem?_eq_some_iff.1 h).1
    obtain ⟨a, ha, hS, hcs⟩ := hm i _ t (List.getElem?_eq_getElem hi) h
    exact ⟨_, a, ha, hcs, ht i _ t (List.getElem?_eq_getElem hi) h⟩
end Go.Inf
namespace Go.Inf
open Go.RowKit Go.Sx
end Go.Inf
namespace Go.Inf
open Go.RowKit Go.Sx
theorem ty_at {w0 w : World} {L0 L : List Sx.Item} {S : Nat → Prop} {p : Tv} {t : Ty} (H : Hs w0 L0 w L) (j : Nat) (hi : L[j]? = some (tyI S p t)) : TyIn w S p t := (H.at j hi).1
end Go.Inf
set_option linter.unusedVariables false
set_option linter.unusedSimpArgs false
namespace Go.Lex
open Go.Gx (byteAt)
def digitB (c : UInt8) : Bool := decide ((c.toNat : Int) ≥ 48) && decide ((c.toNat : Int) ≤ 57)
def letterB (c : UInt8) : Bool := ((decide ((c.toNat : Int) ≥ 97) && decide ((c.toNat : Int) ≤ 122)) || (decide ((c.toNat : Int) ≥ 65) && decide ((c.toNat : Int) ≤ 90))) || ((c.toNat : Int) == 95)
def blankB (c : UInt8) : Bool := ((((c.toNat : Int) == 9) || ((c.toNat : Int) == 10)) || ((c.toNat : Int) == 13)) || ((c.toNat : Int) == 32)
abbrev sgB : ByteArray := ⟨#[40, 41, 91, 93, 123, 125, 44, 59, 58, 61, 45, 43, 42, 60, 124, 126]⟩
def signB (c : UInt8) : Bool := (List.range 16).any (fun j => (byteAt sgB j).toNat == c.toNat)
/-- What a byte begins. -/
def cls (c : UInt8) : Nat :=
  if blankB c = true then 1 else if ((c.toNat : Int) == 35) = true then 2 else if digitB c = true then 3 else if letterB c = true then 4 else if signB c = true then 5 else 0
/-! ### Ends of runs -/
/-- The first place from k on whose byte is not p; the end. -/
def stop (p : UInt8 → Bool) (s : ByteArray) (k : Nat) : Nat :=
  if _h : k < s.size ∧ p (byteAt s k) = true then stop p s (k + 1) else k
termination_by s.size - k
theorem le_stop (p : UInt8 → Bool) (s : ByteArray) (k : Nat) : k ≤ stop p s k := by
  rw [stop]
  split
  · have := le_stop p s (k + 1); omega
  · exact Nat.le_refl _
termination_by s.size - k
def notNl (c : UInt8) : Bool := (c.toNat : Int) != 10
/-- Behind blanks and remarks. -/
def pass (s : ByteArray) (k : Nat) : Nat :=
  if _h : k < s.size then
    if blankB (byteAt s k) = true then pass s (k + 1)
    else if ((byteAt s k).toNat : Int) == 35 then pass s (stop notNl s (k + 1))
    else k
  else k
termination_by s.size - k
decreasing_by
  all_goals (have := le_stop notNl s (k + 1); omega)
/-! ### Numbers -/
def maxInt : Nat := 9223372036854775807
/-- What the first m digits from j on say. -/
def dval (s : ByteArray) (j : Nat) : Nat → Nat
  | 0 => 0
  | m + 1 => dval s j m * 10 + ((byteAt s (j + m)).toNat - 48)
def numOk (s : ByteArray) (j e : Nat) : Bool := !(decide (e - j > 1) && ((byteAt s j).toNat == 48)) && decide (dval s j (e - j) ≤ maxInt)
/-! ### Words and signs -/
def wordsL : List ByteArray := [⟨#[111, 112]⟩, ⟨#[111, 110, 99, 101]⟩, ⟨#[109, 97, 110, 121]⟩, ⟨#[100, 101, 102]⟩, ⟨#[114, 101, 99]⟩, ⟨#[109, 97, 105, 110]⟩, ⟨#[108, 101, 116]⟩, ⟨#[105, 110]⟩, ⟨#[102, 110]⟩, ⟨#[105, 102]⟩, ⟨#[116, 104, 101, 110]⟩, ⟨#[101, 108, 115, 101]⟩, ⟨#[99, 97, 115, 101]⟩, ⟨#[111, 102]⟩, ⟨#[101, 110, 100]⟩, ⟨#[100, 111]⟩, ⟨#[102, 115, 116]⟩, ⟨#[115, 110, 100]⟩, ⟨#[104, 97, 110, 100, 108, 101]⟩, ⟨#[115, 104, 97, 108, 108, 111, 119]⟩, ⟨#[119, 105, 116, 104]⟩, ⟨#[114, 101, 116, 117, 114, 110]⟩, ⟨#[116, 114, 117, 101]⟩, ⟨#[102, 97, 108, 115, 101]⟩, ⟨#[105, 110, 116]⟩, ⟨#[98, 111, 111, 108]⟩, ⟨#[117, 110, 105, 116]⟩, ⟨#[108, 105, 115, 116]⟩]
def wordB (s : ByteArray) : Bool := wordsL.any (fun x => s.toList == x.toList)
def longerB (s : ByteArray) : Bool := (((s.toList == (⟨#[58, 58]⟩ : ByteArray).toList) || (s.toList == (⟨#[61, 61]⟩ : ByteArray).toList)) || (s.toList == (⟨#[61, 62]⟩ : ByteArray).toList)) || (s.toList == (⟨#[45, 62]⟩ : ByteArray).toList)
/-! ### Pieces -/
/-! ### The token at a place -/
structure Nx where
  kind : Nat
  at_ : Nat
  text : ByteArray
  n : Nat
  nx : Nat
  fk : Nat
  fa : Nat
def fault (k a : Nat) : Nx := ⟨0, 0, ⟨#[]⟩, 0, 0, k, a⟩
def signLen (s : ByteArray) (j : Nat) : Nat := if (decide (((j + 2 : Nat) : Int) ≤ ((s.size : Nat) : Int)) && longerB (s.extract j (j + 2))) = true then 2 else 1
def numAt (s : ByteArray) (j : Nat) : Nx :=
  if numOk s j (stop digitB s j) = true then ⟨1, j, ⟨#[]⟩, dval s j (stop digitB s j - j), stop digitB s j, 0, 0⟩ else fault 3 j
def nameAt (s : ByteArray) (j : Nat) : Nx :=
  if stop (fun c => letterB c || digitB c) s j - j > 20 then fault 3 j
  else ⟨if wordB (s.extract j (stop (fun c => letterB c || digitB c) s j)) = true then 3 else 2, j, s.extract j (stop (fun c => letterB c || digitB c) s j), 0, stop (fun c => letterB c || digitB c) s j, 0, 0⟩
/-- The token that begins at j. -/
def tokAt (s : ByteArray) (j : Nat) : Nx :=
  if digitB (byteAt s j) = true then numAt s j
  else if letterB (byteAt s j) = true then nameAt s j
  else if signB (byteAt s j) = true then ⟨4, j, s.extract j (j + signLen s j), 0, j + signLen s j, 0, 0⟩
  else fault 2 j
/-- The token at a place or behind it. -/
def next (s : ByteArray) (i : Nat) : Nx :=
  if pass s i < s.size then tokAt s (pass s i) else ⟨0, s.size, ⟨#[]⟩, 0, s.size, 0, 0⟩
def Nx.tokV (x : Nx) : Value := .agg #[.int .i64 (x.kind : Int), .int .i64 (x.at_ : Int), .string x.text, .int .i64 (x.n : Int)]
def Nx.faultV (x : Nx) : Value := .agg #[.int .i64 (x.fk : Int), .int .i64 (x.fa : Int)]
def Nx.V (x : Nx) : Value := .tuple #[x.tokV, .int .i64 (x.nx : Int), x.faultV]
/-! ### Signs: the list of them, and what the byte and the next one say -/
/-! ### All tokens -/
end Go.Lex
set_option linter.unusedVariables false
set_option linter.unusedSimpArgs false
namespace Go.Syn
open Go.Lex
inductive Nd where
  | mk (k a : Nat) (nm : ByteArray) (n : Int) (ks : List Nd)
def Nd.k : Nd → Nat | .mk k _ _ _ _ => k
def Nd.a : Nd → Nat | .mk _ a _ _ _ => a
def Nd.nm : Nd → ByteArray | .mk _ _ x _ _ => x
def Nd.n : Nd → Int | .mk _ _ _ n _ => n
def Nd.ks : Nd → List Nd | .mk _ _ _ _ l => l
def nd0 : Nd := .mk 0 0 (⟨#[]⟩ : ByteArray) 0 []
def two (x : ByteArray) (a b : Nd) : Nd := .mk 18 a.a x 0 [a, b]
/-- How a reader stands. -/
structure Rs where
  k : Nat
  a : Nat
  t : ByteArray
  n : Nat
  e : Nat
  fk : Nat
  fa : Nat
  x : Nat
  y : Nat
def okB (q : Rs) : Bool := ((q.fk : Nat) : Int) == (0 : Int)
def isB (q : Rs) (s : ByteArray) : Bool := okB q && ((((q.k : Nat) : Int) == (3 : Int)) || (((q.k : Nat) : Int) == (4 : Int))) && (q.t.toList == s.toList)
def isNameB (q : Rs) : Bool := okB q && (((q.k : Nat) : Int) == (2 : Int))
def begB (q : Rs) : Bool := okB q && ((((q.k : Nat) : Int) == (2 : Int)) || (((q.k : Nat) : Int) == (1 : Int)) || isB q (⟨#[126]⟩ : ByteArray) || isB q (⟨#[116, 114, 117, 101]⟩ : ByteArray) || isB q (⟨#[102, 97, 108, 115, 101]⟩ : ByteArray) || isB q (⟨#[40]⟩ : ByteArray) || isB q (⟨#[91]⟩ : ByteArray))
def nextR (S : ByteArray) (q : Rs) : Rs := if okB q = true then ⟨(next S q.e).kind, (next S q.e).at_, (next S q.e).text, (next S q.e).n, (next S q.e).nx, (next S q.e).fk, (next S q.e).fa, q.x, q.y⟩ else q
def noR (q : Rs) : Rs := if okB q = true then { q with fk := 4, fa := q.a } else q
def hasR (S : ByteArray) (q : Rs) (s : ByteArray) : Rs := if isB q s = true then nextR S q else q
def mustR (S : ByteArray) (q : Rs) (s : ByteArray) : Rs := if isB q s = true then nextR S q else noR q
def nameR (S : ByteArray) (q : Rs) : (ByteArray × Nat) × Rs := if isNameB q = true then ((q.t, q.a), nextR S q) else (((⟨#[]⟩ : ByteArray), 0), noR q)
/-- What is read. -/
inductive NT where
  | typ | pair | some | listL (a : Nd) | namesL (l : List Nd) | expr | any | params (sign : ByteArray) (first : Bool) | letN (at_ : Nat) | cases (at_ : Nat) | handle (at_ : Nat) | handL (l : List Nd)
  | comp | cons | sum | sumL (a : Nd) | mul | mulL (a : Nd) | app | appL (a : Nd) | atom | round (at_ : Nat) | square (at_ : Nat) | squareL (l : List Nd) | prog | opsL (l : List Nd) | defsL (n : Nat) (l : List Nd)
section
variable (S : ByteArray) (R : NT → Rs → Nd × Rs)
def fnS (a : Nd) (q1 : Rs) : Nd × Rs :=
  let q2 := hasR S q1 (⟨#[45, 62]⟩ : ByteArray)
  if isB q1 (⟨#[45, 62]⟩ : ByteArray) = true then
    let r := R .typ q2
    (.mk 29 a.a (⟨#[]⟩ : ByteArray) 0 [a, r.1], r.2)
  else
    let q3 := hasR S q2 (⟨#[45]⟩ : ByteArray)
    if isB q2 (⟨#[45]⟩ : ByteArray) = true then
      let q4 := mustR S q3 (⟨#[123]⟩ : ByteArray)
      let r4 := R (.namesL []) q4
      let q5 := mustR S r4.2 (⟨#[125]⟩ : ByteArray)
      let q6 := mustR S q5 (⟨#[45, 62]⟩ : ByteArray)
      let r6 := R .typ q6
      (.mk 29 a.a (⟨#[]⟩ : ByteArray) 0 ([a, r6.1] ++ r4.1.ks), r6.2)
    else (a, q3)
def typS (q : Rs) : Nd × Rs :=
  if okB q = true then
    if decide (((q.y : Nat) : Int) ≥ (200 : Int)) = true then (nd0, { q with fk := 5, fa := q.a })
    else
      let r1 := R .pair { q with y := q.y + 1 }
      let r := fnS S R r1.1 r1.2
      (r.1, { r.2 with y := r.2.y - 1 })
  else (nd0, q)
def namesLS (l : List Nd) (q : Rs) : Nd × Rs :=
  let r := nameR S q
  let q1 := hasR S r.2 (⟨#[44]⟩ : ByteArray)
  if isB r.2 (⟨#[44]⟩ : ByteArray) = true then R (.namesL (l ++ [.mk 23 r.1.2 r.1.1 0 []])) q1 else (.mk 0 0 (⟨#[]⟩ : ByteArray) 0 (l ++ [.mk 23 r.1.2 r.1.1 0 []]), q1)
def pairS (q : Rs) : Nd × Rs :=
  let r1 := R .some q
  let q2 := hasR S r1.2 (⟨#[42]⟩ : ByteArray)
  if isB r1.2 (⟨#[42]⟩ : ByteArray) = true then
    let r2 := R .pair q2
    (.mk 28 r1.1.a (⟨#[]⟩ : ByteArray) 0 [r1.1, r2.1], r2.2)
  else (r1.1, q2)
def someS (q : Rs) : Nd × Rs :=
  let q1 := hasR S q (⟨#[105, 110, 116]⟩ : ByteArray)
  if isB q (⟨#[105, 110, 116]⟩ : ByteArray) = true then R (.listL (.mk 24 q.a (⟨#[]⟩ : ByteArray) 0 [])) q1 else
  let q2 := hasR S q1 (⟨#[98, 111, 111, 108]⟩ : ByteArray)
  if isB q1 (⟨#[98, 111, 111, 108]⟩ : ByteArray) = true then R (.listL (.mk 25 q.a (⟨#[]⟩ : ByteArray) 0 [])) q2 else
  let q3 := hasR S q2 (⟨#[117, 110, 105, 116]⟩ : ByteArray)
  if isB q2 (⟨#[117, 110, 105, 116]⟩ : ByteArray) = true then R (.listL (.mk 26 q.a (⟨#[]⟩ : ByteArray) 0 [])) q3 else
  let q4 := hasR S q3 (⟨#[40]⟩ : ByteArray)
  if isB q3 (⟨#[40]⟩ : ByteArray) = true then
    let r := R .typ q4
    R (.listL r.1) (mustR S r.2 (⟨#[41]⟩ : ByteArray))
  else R (.listL nd0) (noR q4)
def listLS (a : Nd) (q : Rs) : Nd × Rs :=
  let q1 := hasR S q (⟨#[108, 105, 115, 116]⟩ : ByteArray)
  if isB q (⟨#[108, 105, 115, 116]⟩ : ByteArray) = true then R (.listL (.mk 27 a.a (⟨#[]⟩ : ByteArray) 0 [a])) q1 else (a, q1)
def exprS (q : Rs) : Nd × Rs :=
  if okB q = true then
    if decide (((q.x : Nat) : Int) ≥ (200 : Int)) = true then (nd0, { q with fk := 5, fa := q.a })
    else
      let r1 := R .any { q with x := q.x + 1 }
      (r1.1, { r1.2 with x := r1.2.x - 1 })
  else (nd0, q)
def anyS (q : Rs) : Nd × Rs :=
  let q1 := hasR S q (⟨#[108, 101, 116]⟩ : ByteArray)
  if isB q (⟨#[108, 101, 116]⟩ : ByteArray) = true then R (.letN q.a) q1 else
  let q2 := hasR S q1 (⟨#[102, 110]⟩ : ByteArray)
  if isB q1 (⟨#[102, 110]⟩ : ByteArray) = true then
    let r := R (.params (⟨#[61, 62]⟩ : ByteArray) true) q2
    (.mk r.1.k q.a r.1.nm r.1.n r.1.ks, r.2)
  else
  let q3 := hasR S q2 (⟨#[105, 102]⟩ : ByteArray)
  if isB q2 (⟨#[105, 102]⟩ : ByteArray) = true then
    let ra := R .expr q3
    let qa := mustR S ra.2 (⟨#[116, 104, 101, 110]⟩ : ByteArray)
    let rb := R .expr qa
    let qb := mustR S rb.2 (⟨#[101, 108, 115, 101]⟩ : ByteArray)
    let rc := R .expr qb
    (.mk 11 q.a (⟨#[]⟩ : ByteArray) 0 [ra.1, rb.1, rc.1], rc.2)
  else
  let q4 := hasR S q3 (⟨#[99, 97, 115, 101]⟩ : ByteArray)
  if isB q3 (⟨#[99, 97, 115, 101]⟩ : ByteArray) = true then R (.cases q.a) q4 else
  if isB q4 (⟨#[104, 97, 110, 100, 108, 101]⟩ : ByteArray) = true then R (.handle q.a) q4 else
  if isB q4 (⟨#[115, 104, 97, 108, 108, 111, 119]⟩ : ByteArray) = true then R (.handle q.a) q4 else
  let r := R .comp q4
  let q5 := hasR S r.2 (⟨#[59]⟩ : ByteArray)
  if isB r.2 (⟨#[59]⟩ : ByteArray) = true then
    let r2 := R .expr q5
    (.mk 10 r.1.a (⟨#[]⟩ : ByteArray) 0 [r.1, r2.1], r2.2)
  else (r.1, q5)
def paramS (sign : ByteArray) (q : Rs) : Nd × Rs :=
  let r := nameR S q
  if okB r.2 = true then
    let r2 := R (.params sign false) r.2
    (.mk 7 r.1.2 r.1.1 0 [r2.1], r2.2)
  else (nd0, r.2)
def paramsS (sign : ByteArray) (first : Bool) (q : Rs) : Nd × Rs :=
  if first = true then paramS S R sign q else if isNameB q = true then paramS S R sign q else R .expr (mustR S q sign)
def letT (at_ : Nat) (n : Int) (f : Bool) (q1 : Rs) : Nd × Rs :=
  let r := nameR S q1
  let r2 := R (.params (⟨#[61]⟩ : ByteArray) f) r.2
  let q3 := mustR S r2.2 (⟨#[105, 110]⟩ : ByteArray)
  let r4 := R .expr q3
  (.mk 9 at_ r.1.1 n [r2.1, r4.1], r4.2)
def letS (at_ : Nat) (q : Rs) : Nd × Rs :=
  let q1 := hasR S q (⟨#[114, 101, 99]⟩ : ByteArray)
  if isB q (⟨#[114, 101, 99]⟩ : ByteArray) = true then letT S R at_ 1 true q1 else letT S R at_ 0 false q1
def casesS (at_ : Nat) (q : Rs) : Nd × Rs :=
  let r := R .expr q
  let q1 := mustR S r.2 (⟨#[111, 102]⟩ : ByteArray)
  let q2 := mustR S q1 (⟨#[91]⟩ : ByteArray)
  let q3 := mustR S q2 (⟨#[93]⟩ : ByteArray)
  let q4 := mustR S q3 (⟨#[61, 62]⟩ : ByteArray)
  let r5 := R .expr q4
  let q6 := mustR S r5.2 (⟨#[124]⟩ : ByteArray)
  let r7 := nameR S q6
  let q8 := mustR S r7.2 (⟨#[58, 58]⟩ : ByteArray)
  let r9 := nameR S q8
  let q10 := mustR S r9.2 (⟨#[61, 62]⟩ : ByteArray)
  let r11 := R .expr q10
  let q12 := mustR S r11.2 (⟨#[101, 110, 100]⟩ : ByteArray)
  (.mk 17 at_ (⟨#[]⟩ : ByteArray) 0 [r.1, r5.1, .mk 23 r7.1.2 r7.1.1 0 [], .mk 23 r9.1.2 r9.1.1 0 [], r11.1], q12)
def handT (at_ : Nat) (n : Int) (q1 : Rs) : Nd × Rs :=
  let r := R .expr q1
  let q2 := mustR S r.2 (⟨#[119, 105, 116, 104]⟩ : ByteArray)
  let q3 := mustR S q2 (⟨#[123]⟩ : ByteArray)
  let q4 := mustR S q3 (⟨#[114, 101, 116, 117, 114, 110]⟩ : ByteArray)
  let r5 := nameR S q4
  let q6 := mustR S r5.2 (⟨#[61, 62]⟩ : ByteArray)
  let r7 := R .expr q6
  let r8 := R (.handL [r.1, .mk 21 q3.a r5.1.1 0 [r7.1]]) r7.2
  let q9 := mustR S r8.2 (⟨#[125]⟩ : ByteArray)
  (.mk 20 at_ (⟨#[]⟩ : ByteArray) n r8.1.ks, q9)
def handleS (at_ : Nat) (q : Rs) : Nd × Rs :=
  let q1 := hasR S q (⟨#[104, 97, 110, 100, 108, 101]⟩ : ByteArray)
  if isB q (⟨#[104, 97, 110, 100, 108, 101]⟩ : ByteArray) = true then handT S R at_ 0 q1 else handT S R at_ 1 (nextR S q1)
def handLS (l : List Nd) (q : Rs) : Nd × Rs :=
  let q1 := hasR S q (⟨#[124]⟩ : ByteArray)
  if isB q (⟨#[124]⟩ : ByteArray) = true then
    let r2 := nameR S q1
    let r3 := nameR S r2.2
    let r4 := nameR S r3.2
    let q5 := mustR S r4.2 (⟨#[61, 62]⟩ : ByteArray)
    let r6 := R .expr q5
    R (.handL (l ++ [.mk 22 r2.1.2 r2.1.1 0 [.mk 23 r3.1.2 r3.1.1 0 [], .mk 23 r4.1.2 r4.1.1 0 [], r6.1]])) r6.2
  else (.mk 0 0 (⟨#[]⟩ : ByteArray) 0 l, q1)
def compS (q : Rs) : Nd × Rs :=
  let r := R .cons q
  let q1 := hasR S r.2 (⟨#[61, 61]⟩ : ByteArray)
  if isB r.2 (⟨#[61, 61]⟩ : ByteArray) = true then
    let r2 := R .cons q1
    (two (⟨#[61, 61]⟩ : ByteArray) r.1 r2.1, r2.2)
  else
  let q2 := hasR S q1 (⟨#[60]⟩ : ByteArray)
  if isB q1 (⟨#[60]⟩ : ByteArray) = true then
    let r2 := R .cons q2
    (two (⟨#[60]⟩ : ByteArray) r.1 r2.1, r2.2)
  else (r.1, q2)
def consS (q : Rs) : Nd × Rs :=
  let r := R .sum q
  let q1 := hasR S r.2 (⟨#[58, 58]⟩ : ByteArray)
  if isB r.2 (⟨#[58, 58]⟩ : ByteArray) = true then
    let r2 := R .cons q1
    (.mk 16 r.1.a (⟨#[]⟩ : ByteArray) 0 [r.1, r2.1], r2.2)
  else (r.1, q1)
def sumS (q : Rs) : Nd × Rs :=
  let r := R .mul q
  R (.sumL r.1) r.2
def sumLS (a : Nd) (q : Rs) : Nd × Rs :=
  let q1 := hasR S q (⟨#[43]⟩ : ByteArray)
  if isB q (⟨#[43]⟩ : ByteArray) = true then
    let r := R .mul q1
    R (.sumL (two q.t a r.1)) r.2
  else
  let q2 := hasR S q1 (⟨#[45]⟩ : ByteArray)
  if isB q1 (⟨#[45]⟩ : ByteArray) = true then
    let r := R .mul q2
    R (.sumL (two q.t a r.1)) r.2
  else (a, q2)
def mulS (q : Rs) : Nd × Rs :=
  let r := R .app q
  R (.mulL r.1) r.2
def mulLS (a : Nd) (q : Rs) : Nd × Rs :=
  let q1 := hasR S q (⟨#[42]⟩ : ByteArray)
  if isB q (⟨#[42]⟩ : ByteArray) = true then
    let r := R .app q1
    R (.mulL (two (⟨#[42]⟩ : ByteArray) a r.1)) r.2
  else (a, q1)
def appS (q : Rs) : Nd × Rs :=
  let q1 := hasR S q (⟨#[100, 111]⟩ : ByteArray)
  if isB q (⟨#[100, 111]⟩ : ByteArray) = true then
    let r := nameR S q1
    let r2 := R .atom r.2
    (.mk 19 q.a r.1.1 0 [r2.1], r2.2)
  else
  let q2 := hasR S q1 (⟨#[102, 115, 116]⟩ : ByteArray)
  if isB q1 (⟨#[102, 115, 116]⟩ : ByteArray) = true then
    let r := R .atom q2
    (.mk 13 q.a (⟨#[]⟩ : ByteArray) 0 [r.1], r.2)
  else
  let q3 := hasR S q2 (⟨#[115, 110, 100]⟩ : ByteArray)
  if isB q2 (⟨#[115, 110, 100]⟩ : ByteArray) = true then
    let r := R .atom q3
    (.mk 14 q.a (⟨#[]⟩ : ByteArray) 0 [r.1], r.2)
  else
  let r := R .atom q3
  R (.appL r.1) r.2
def appLS (a : Nd) (q : Rs) : Nd × Rs :=
  if begB q = true then
    let r := R .atom q
    R (.appL (.mk 8 a.a (⟨#[]⟩ : ByteArray) 0 [a, r.1])) r.2
  else (a, q)
def numS (q : Rs) (q1 : Rs) : Nd × Rs :=
  if okB q1 = true then
    if (((q1.k : Nat) : Int) != (1 : Int)) = true then (.mk 3 q.a (⟨#[]⟩ : ByteArray) (-((q1.n : Nat) : Int)) [], nextR S (noR q1))
    else (.mk 3 q.a (⟨#[]⟩ : ByteArray) (-((q1.n : Nat) : Int)) [], nextR S q1)
  else (.mk 3 q.a (⟨#[]⟩ : ByteArray) (-((q1.n : Nat) : Int)) [], nextR S q1)
def atomS (q : Rs) : Nd × Rs :=
  if okB q = true then
    if (((q.k : Nat) : Int) == (2 : Int)) = true then (.mk 6 q.a q.t 0 [], nextR S q) else
    if (((q.k : Nat) : Int) == (1 : Int)) = true then (.mk 3 q.a (⟨#[]⟩ : ByteArray) ((q.n : Nat) : Int) [], nextR S q) else
    let q1 := hasR S q (⟨#[126]⟩ : ByteArray)
    if isB q (⟨#[126]⟩ : ByteArray) = true then numS S q q1 else
    let q2 := hasR S q1 (⟨#[116, 114, 117, 101]⟩ : ByteArray)
    if isB q1 (⟨#[116, 114, 117, 101]⟩ : ByteArray) = true then (.mk 4 q.a (⟨#[]⟩ : ByteArray) 1 [], q2) else
    let q3 := hasR S q2 (⟨#[102, 97, 108, 115, 101]⟩ : ByteArray)
    if isB q2 (⟨#[102, 97, 108, 115, 101]⟩ : ByteArray) = true then (.mk 4 q.a (⟨#[]⟩ : ByteArray) 0 [], q3) else
    let q4 := hasR S q3 (⟨#[40]⟩ : ByteArray)
    if isB q3 (⟨#[40]⟩ : ByteArray) = true then R (.round q.a) q4 else
    let q5 := hasR S q4 (⟨#[91]⟩ : ByteArray)
    if isB q4 (⟨#[91]⟩ : ByteArray) = true then R (.square q.a) q5 else
    (nd0, noR q5)
  else (nd0, q)
def roundS (at_ : Nat) (q : Rs) : Nd × Rs :=
  let q1 := hasR S q (⟨#[41]⟩ : ByteArray)
  if isB q (⟨#[41]⟩ : ByteArray) = true then (.mk 5 at_ (⟨#[]⟩ : ByteArray) 0 [], q1) else
  let r := R .expr q1
  let q2 := hasR S r.2 (⟨#[44]⟩ : ByteArray)
  if isB r.2 (⟨#[44]⟩ : ByteArray) = true then
    let r2 := R .expr q2
    let q3 := mustR S r2.2 (⟨#[41]⟩ : ByteArray)
    (.mk 12 at_ (⟨#[]⟩ : ByteArray) 0 [r.1, r2.1], q3)
  else (r.1, mustR S q2 (⟨#[41]⟩ : ByteArray))
def consF (x e : Nd) : Nd := .mk 16 x.a (⟨#[]⟩ : ByteArray) 0 [x, e]
def consAll (at_ : Nat) (l : List Nd) : Nd := l.foldr consF (.mk 15 at_ (⟨#[]⟩ : ByteArray) 0 [])
def squareS (at_ : Nat) (q : Rs) : Nd × Rs :=
  let q1 := hasR S q (⟨#[93]⟩ : ByteArray)
  if isB q (⟨#[93]⟩ : ByteArray) = true then (.mk 15 at_ (⟨#[]⟩ : ByteArray) 0 [], q1) else
  let r := R (.squareL []) q1
  (consAll at_ r.1.ks, mustR S r.2 (⟨#[93]⟩ : ByteArray))
def squareLS (l : List Nd) (q : Rs) : Nd × Rs :=
  let r := R .expr q
  let q1 := hasR S r.2 (⟨#[44]⟩ : ByteArray)
  if isB r.2 (⟨#[44]⟩ : ByteArray) = true then R (.squareL (l ++ [r.1])) q1 else (.mk 0 0 (⟨#[]⟩ : ByteArray) 0 (l ++ [r.1]), q1)
def opsT (l : List Nd) (at_ : Nat) (n : Int) (q2 : Rs) : Nd × Rs :=
  let r := nameR S q2
  let q3 := mustR S r.2 (⟨#[58]⟩ : ByteArray)
  let ra := R .typ q3
  let q4 := mustR S ra.2 (⟨#[61, 62]⟩ : ByteArray)
  let rb := R .typ q4
  R (.opsL (l ++ [.mk 1 at_ r.1.1 n [ra.1, rb.1]])) rb.2
def opsLS (l : List Nd) (q : Rs) : Nd × Rs :=
  if isB q (⟨#[111, 112]⟩ : ByteArray) = true then
    let q1 := nextR S q
    if isB q1 (⟨#[111, 110, 99, 101]⟩ : ByteArray) = true then opsT S R l q.a 1 (nextR S q1)
    else if isB q1 (⟨#[109, 97, 110, 121]⟩ : ByteArray) = true then opsT S R l q.a 0 (nextR S q1)
    else opsT S R l q.a 0 (noR q1)
  else (.mk 0 0 (⟨#[]⟩ : ByteArray) ((l.length : Nat) : Int) l, q)
def defsT (n0 : Nat) (l : List Nd) (at_ : Nat) (n : Int) (q2 : Rs) : Nd × Rs :=
  let r := nameR S q2
  let r2 := R (.params (⟨#[61]⟩ : ByteArray) true) r.2
  R (.defsL n0 (l ++ [.mk 2 at_ r.1.1 n [r2.1]])) r2.2
def defsLS (n0 : Nat) (l : List Nd) (q : Rs) : Nd × Rs :=
  if isB q (⟨#[100, 101, 102]⟩ : ByteArray) = true then
    let q1 := nextR S q
    let q2 := hasR S q1 (⟨#[114, 101, 99]⟩ : ByteArray)
    if isB q1 (⟨#[114, 101, 99]⟩ : ByteArray) = true then defsT S R n0 l q.a 1 q2 else defsT S R n0 l q.a 0 q2
  else (.mk 0 0 (⟨#[]⟩ : ByteArray) ((n0 : Nat) : Int) l, q)
def progS (q : Rs) : Nd × Rs :=
  let r := R (.opsL []) q
  let r2 := R (.defsL r.1.ks.length r.1.ks) r.2
  let q3 := mustR S r2.2 (⟨#[109, 97, 105, 110]⟩ : ByteArray)
  let q4 := mustR S q3 (⟨#[61]⟩ : ByteArray)
  let r5 := R .expr q4
  (.mk 0 0 (⟨#[]⟩ : ByteArray) ((r.1.ks.length : Nat) : Int) (r2.1.ks ++ [r5.1]), r5.2)
def stepN (nt : NT) (q : Rs) : Nd × Rs :=
  match nt with
  | .typ => typS S R q
  | .pair => pairS S R q
  | .some => someS S R q
  | .listL a => listLS S R a q
  | .namesL l => namesLS S R l q
  | .expr => exprS R q
  | .any => anyS S R q
  | .params s f => paramsS S R s f q
  | .letN a => letS S R a q
  | .cases a => casesS S R a q
  | .handle a => handleS S R a q
  | .handL l => handLS S R l q
  | .comp => compS S R q
  | .cons => consS S R q
  | .sum => sumS R q
  | .sumL a => sumLS S R a q
  | .mul => mulS R q
  | .mulL a => mulLS S R a q
  | .app => appS S R q
  | .appL a => appLS R a q
  | .atom => atomS S R q
  | .round a => roundS S R a q
  | .square a => squareS S R a q
  | .squareL l => squareLS S R l q
  | .prog => progS S R q
  | .opsL l => opsLS S R l q
  | .defsL n l => defsLS S R n l q
end
def run (S : ByteArray) : Nat → NT → Rs → Nd × Rs
  | 0 => fun _ q => (nd0, noR q)
  | k + 1 => stepN S (run S k)
/-! ### How far it is to the end -/
def M (S : ByteArray) (q : Rs) : Nat := if q.fk ≠ 0 then 0 else if q.k = 0 then 1 else S.size + 2 - q.e
structure Ok (S : ByteArray) (q : Rs) : Prop where
  size : S.size ≤ 3000
  e : q.e ≤ S.size
  x : q.x ≤ 200
  y : q.y ≤ 200
  a : q.a ≤ S.size
  n : q.n ≤ 9223372036854775807
  t : q.t.size ≤ S.size
  k : q.k ≤ 4
  end_ : q.fk = 0 → q.k = 0 → q.e = S.size
  nm : q.fk = 0 → q.k = 2 → 0 < q.t.size
  sg : q.fk = 0 → q.k = 4 → letterB (Gx.byteAt q.t 0) = false
structure Tr (S : ByteArray) (q q' : Rs) : Prop where
  ok : Ok S q'
  m : M S q' ≤ M S q
  x : q'.x = q.x
  y : q'.y = q.y
  fk : q.fk ≠ 0 → q' = q
theorem Tr.refl {S : ByteArray} {q : Rs} (h : Ok S q) : Tr S q q := ⟨h, Nat.le_refl _, rfl, rfl, fun _ => rfl⟩
theorem Tr.trans {S : ByteArray} {q q' q'' : Rs} (h : Tr S q q') (k : Tr S q' q'') : Tr S q q'' :=
  ⟨k.ok, Nat.le_trans k.m h.m, k.x.trans h.x, k.y.trans h.y, fun f => by
    have := h.fk f
    subst this
    exact k.fk f⟩
section
variable {S : ByteArray} {R : NT → Rs → Nd × Rs} (hR : ∀ nt q, Ok S q → Tr S q (R nt q).2)
theorem bR {q q1 : Rs} {nt : NT} (hR : ∀ nt q, Ok S q → Tr S q (R nt q).2) (h : Tr S q q1) : Tr S q (R nt q1).2 := h.trans (hR _ _ h.ok)
end
/-! ### Trees in memory -/
def ndC (t : Nd) (A : Option Addr) (c : Nat) : List Value := [.int .i64 (t.k : Int), .int .i64 (t.a : Int), .string t.nm, .int .i64 t.n, .slice A t.ks.length c]
def In (lo hi : Nat) (X : List Nat) (j : Nat) : Prop := lo ≤ j ∧ j < hi ∧ j ∉ X
/-- These nodes lie in a row at A, in blocks of which Q is said. -/
inductive KV (Q : Nat → Prop) (w : World) : List Nd → Option Addr → Nat → Prop
  | mk {ks : List Nd} {A : Option Addr} {c : Nat} (As : Nat → Option Addr) (cs : Nat → Nat) (hc : ks.length ≤ c) (hl : ks.length ≤ maxLen) (hA : ∀ i, i < ks.length → ∃ a, A = some a ∧ Q a.block)
      (hr : Gx.Rd w A ks.length 5 (fun i => ndC (ks.getD i nd0) (As i) (cs i))) (h : ∀ i, i < ks.length → KV Q w (ks.getD i nd0).ks (As i) (cs i)) : KV Q w ks A c
theorem cells_frame {w w' : World} {a : Addr} {n : Nat} {cs : List Value} (h : w.cells? 0 a n = some cs) (x : w'.heap[a.block]? = w.heap[a.block]?) : w'.cells? 0 a n = some cs := by
  have e : (fun i => w'.cell? (a.add i)) = fun i => w.cell? (a.add i) := funext fun i => by
    unfold World.cell?
    have : (a.add i).block = a.block := by unfold Addr.add; split <;> rfl
    rw [this, x]
  unfold World.cells? at h ⊢
  rw [e]
  exact h
theorem KV.frame {Q : Nat → Prop} {w w' : World} {ks : List Nd} {A : Option Addr} {c : Nat} (h : KV Q w ks A c) (x : ∀ j, Q j → j < w.heap.size → w'.heap[j]? = w.heap[j]?) : KV Q w' ks A c := by
  induction h with
  | @mk ks A c As cs hc hl hA hr _ ih =>
    refine .mk As cs hc hl hA (fun i hi => ?_) (fun i hi => ih i hi)
    obtain ⟨a, ha, hq⟩ := hA i hi
    obtain ⟨a', ha', hc⟩ := hr i hi
    rw [ha] at ha'
    cases ha'
    have hb := World.cells?_block hc (by decide)
    have e : (a.add (i * 5)).block = a.block := by unfold Addr.add; split <;> rfl
    rw [e] at hb
    exact ⟨a, ha, cells_frame hc (by rw [e]; exact x _ hq hb)⟩
theorem KV.mono {Q Q' : Nat → Prop} {w : World} {ks : List Nd} {A : Option Addr} {c : Nat} (h : KV Q w ks A c) (x : ∀ j, Q j → j < w.heap.size → Q' j) : KV Q' w ks A c := by
  induction h with
  | @mk ks A c As cs hc hl hA hr _ ih =>
    refine .mk As cs hc hl (fun i hi => ?_) hr (fun i hi => ih i hi)
    obtain ⟨a, ha, hq⟩ := hA i hi
    obtain ⟨a', ha', hc⟩ := hr i hi
    rw [ha] at ha'
    cases ha'
    have hb := World.cells?_block hc (by decide)
    have e : (a.add (i * 5)).block = a.block := by unfold Addr.add; split <;> rfl
    rw [e] at hb
    exact ⟨a, ha, x _ hq hb⟩
theorem KV.nil {Q : Nat → Prop} {w : World} {A : Option Addr} {c : Nat} : KV Q w [] A c :=
  .mk (fun _ => none) (fun _ => 0) (Nat.zero_le _) (Nat.zero_le _) (fun i h => absurd h (Nat.not_lt_zero i)) (fun i h => absurd h (Nat.not_lt_zero i)) (fun i h => absurd h (Nat.not_lt_zero i))
section
variable {lo hi lo' hi' k : Nat} {X X' : List Nat} {w w' : World} {ks : List Nd} {A : Option Addr} {c : Nat}
theorem KV.ext (h : KV (In lo hi X) w ks A c) (x : Gx.Ext w w') : KV (In lo hi X) w' ks A c := h.frame (fun j _ hj => x.block j hj (by simp))
theorem KV.upd (h : KV (In lo hi X) w ks A c) (x : Gx.G w w' (some k)) (hk : k < lo ∨ hi ≤ k ∨ k ∈ X := by first | (left; omega) | (right; left; omega) | (right; right; simp)) : KV (In lo hi X) w' ks A c :=
  h.frame (fun j hj hs => x.block j hs (fun e => by
    cases e
    obtain ⟨h1, h2, h3⟩ := hj
    rcases hk with q | q | q
    · omega
    · omega
    · exact h3 q))
theorem KV.app {r : Option Nat} (h : KV (In lo hi X) w ks A c) (x : Gx.G w w' r) (hk : ∀ j, r = some j → j < lo ∨ hi ≤ j ∨ j ∈ X) : KV (In lo hi X) w' ks A c :=
  h.frame (fun j hj hs => x.block j hs (fun e => by
    obtain ⟨h1, h2, h3⟩ := hj
    rcases hk j e.symm with q | q | q
    · omega
    · omega
    · exact h3 q))
theorem KV.to (h : KV (In lo hi X) w ks A c) (h1 : lo' ≤ lo) (h2 : hi ≤ hi') (h3 : ∀ j ∈ X', j ∈ X ∨ j < lo ∨ hi ≤ j) : KV (In lo' hi' X') w ks A c :=
  h.mono (fun j hj _ => ⟨Nat.le_trans h1 hj.1, Nat.lt_of_lt_of_le hj.2.1 h2, fun q => by
    obtain ⟨a, b, c⟩ := hj
    rcases h3 j q with r | r | r
    · exact c r
    · omega
    · omega⟩)
end
section
variable {lo hi lo' k : Nat} {X X' : List Nat} {w w' : World} {ks : List Nd} {A : Option Addr} {c : Nat} {v v' : Value}
end
def nds (L : List (Nd × Option Addr × Nat)) : List Nd := L.map (·.1)
theorem nds_app (L M : List (Nd × Option Addr × Nat)) : nds (L ++ M) = nds L ++ nds M := by simp [nds]
theorem nds_cons (p : Nd × Option Addr × Nat) (L : List (Nd × Option Addr × Nat)) : nds (p :: L) = p.1 :: nds L := rfl
theorem nds_nil : nds [] = [] := rfl
theorem nds_len (L : List (Nd × Option Addr × Nat)) : (nds L).length = L.length := by simp [nds]
theorem maps : (∀ L M : List (Nd × Option Addr × Nat), nds (L ++ M) = nds L ++ nds M) ∧ (∀ (p : Nd × Option Addr × Nat) (L : List (Nd × Option Addr × Nat)), nds (p :: L) = p.1 :: nds L) ∧ nds [] = [] ∧ (∀ L : List (Nd × Option Addr × Nat), (nds L).length = L.length) ∧
    (∀ l : List Nd, [] ++ l = l) ∧ (∀ (a : Nd) (l m : List Nd), (a :: l) ++ m = a :: (l ++ m)) ∧ (∀ l m r : List Nd, (l ++ m) ++ r = l ++ (m ++ r)) ∧
    (∀ l : List (Nd × Option Addr × Nat), [] ++ l = l) ∧ (∀ (a : Nd × Option Addr × Nat) (l m : List (Nd × Option Addr × Nat)), (a :: l) ++ m = a :: (l ++ m)) ∧ (∀ l m r : List (Nd × Option Addr × Nat), (l ++ m) ++ r = l ++ (m ++ r)) :=
  ⟨nds_app, nds_cons, nds_nil, nds_len, fun _ => rfl, fun _ _ _ => rfl, List.append_assoc, fun _ => rfl, fun _ _ _ => rfl, List.append_assoc⟩
/-- One node of them. -/
theorem KV.at_ {Q : Nat → Prop} {w : World} {ks : List Nd} {A : Option Addr} {c : Nat} (h : KV Q w ks A c) : ∃ (As : Nat → Option Addr) (cs : Nat → Nat), Gx.Rd w A ks.length 5 (fun i => ndC (ks.getD i nd0) (As i) (cs i)) ∧ ∀ i, i < ks.length → KV Q w (ks.getD i nd0).ks (As i) (cs i) := by
  cases h with
  | mk As cs hc hl hA hr hk => exact ⟨As, cs, hr, hk⟩
theorem KV.cap {Q : Nat → Prop} {w : World} {ks : List Nd} {A : Option Addr} {c : Nat} (h : KV Q w ks A c) : ks.length ≤ c := by
  cases h with
  | mk As cs hc hl hA hr hk => exact hc
theorem KV.max {Q : Nat → Prop} {w : World} {ks : List Nd} {A : Option Addr} {c : Nat} (h : KV Q w ks A c) : ks.length ≤ maxLen := by
  cases h with
  | mk As cs hc hl hA hr hk => exact hl
section
variable {w w' w'' : World} {b j : Nat}
end
end Go.Syn
