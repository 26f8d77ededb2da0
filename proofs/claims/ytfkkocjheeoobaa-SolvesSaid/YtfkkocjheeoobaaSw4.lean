/- A part of the proof (YtfkkocjheeoobaaSw4), printed by a program of ours. -/
import Derived.Test.YtfkkocjheeoobaaPs
set_option linter.unusedVariables false
set_option linter.unusedSimpArgs false
set_option linter.unusedVariables false
set_option linter.unusedSimpArgs false
namespace Go.Proofs.Ytfkkocjheeoobaa
open Go.RowKit Go.Sx Go.Inf Go.Slv
attribute [local irreducible] Go.wpOps Go.Code.wp Go.wpOp Go.wpAnyH Go.Calls Go.Sx.Goal
set_option maxRecDepth 20000
set_option maxHeartbeats 8000000 in
theorem SameRow_p (S : Nat → Prop) (Z : List Slot) (T R : List Nat) (g : G) (k r0 s0 b1 b2 : Nat) (w : World) (K : Ending → World → Prop) (H0 : Sp w [PI S Z T R g]) (g' : G) (t : Bool) (hbr : R[r0]? = some b1) (hr : r0 ≠ 0) (hbs : R[s0]? = some b2) (hs : s0 ≠ 0) (hf : sameRow k g r0 s0 = some (g', t)) (hK : ∀ (S' : Nat → Prop) (R' : List Nat) w', Hs w [PI S Z T R g] w' [PI S' Z T R' g'] → (Pre R R') → K (.returned (.bool t)) w') :
    Calls Try.prog 31 #[.pointer (some ⟨b1, 0, none⟩), .pointer (some ⟨b2, 0, none⟩)] w K := by
  obtain ⟨L0, hL0, H⟩ : ∃ L0, L0 = [PI S Z T R g] ∧ Hs w L0 w [PI S Z T R g] := ⟨_, rfl, Hs.refl H0⟩
  refine Sx.en (vs := [.pointer (some ⟨b1, 0, none⟩), .pointer (some ⟨b2, 0, none⟩)]) 65 Try.func31 ?_
  obtain ⟨a, v, b, u, hw1, hw2, hs1, hs2, hs3, hs4, hs5⟩ := sameRow_cases hf
  have hz1 := whole_len hw1
  have hz2 := whole_len hw2
  have hv1 := whole_v hw1
  have hv2 := whole_v hw2
  have ho1 := whole_open hw1
  have ho2 := whole_open hw2
  have hdf := differ_less (whole_srt .nil hw1) (whole_srt .nil hw2)
  obtain ⟨_, hP, _, _⟩ := P_open H 0 (S := S) (Z := Z) (T := T) (R := R) (g := g) (by kernel_rfl)
  have hRl : R.length = g.ops.length := by rw [hP.lR, hP.lo]
  simp only [stands_set] at hs3 hs4 hs5
  rcases sr5 v u with h5 | h5 | h5 | h5 | h5
  · skip
    obtain ⟨rfl, rfl⟩ := h5
    obtain ⟨rfl, rfl⟩ := hs1 rfl
    refine Sx.c 8 [0] H (fun Hp1 R1 hR1 => Whole_p S Z T R g _ r0 b1 0 a none w R1 Hp1 hbr hr vB_0 hw1 (fun S1 S2 wA1 wn1 wc1 w1 G1 hwn1 hwc1 => hR1 _ _ _ G1 fun H1 => ?_))
    refine Sx.c 10 [0] H1 (fun Hp2 R2 hR2 => Whole_p S1 Z T R g _ s0 b2 0 b none w1 R2 Hp2 hbs hs vB_0 hw2 (fun S3 S4 wA2 wn2 wc2 w2 G2 hwn2 hwc2 => hR2 _ _ _ G2 fun H2 => ?_))
    refine Sx.c 11 [2, 1] H2 (fun Hp3 R3 hR3 => differ_p S2 wA1 wn1 wc1 a S4 wA2 wn2 wc2 b w2 R3 Hp3 hwn1 hwc1 hwn2 hwc2 hz1 hz2 (fun S5 dA1 dn1 dc1 S6 eA1 en1 ec1 w3 G3 hd1 hd2 hd3 hd4 => hR3 _ _ _ G3 fun H3 => ?_))
    rw [hdf] at hd1; dsimp only at hd1
    rw [hdf] at hd3; dsimp only at hd3
    have hle1 := Slv.less_le a b
    have hle2 := Slv.less_le b a
    have H4 := H3.pick (a := [strI S2 wA1 a, strI S4 wA2 b, strI S5 dA1 (less a b), strI S6 eA1 (less b a), PI S3 Z T R g]) [0, 0, 0, 0, 0] (by rw [hdf]; kernel_rfl)
    obtain ⟨pm1, hpm1, hzpm1, H5⟩ := P_open H4 4 (S := S3) (Z := Z) (T := T) (R := R) (g := g) (by kernel_rfl)
    refine Sx.v 24 (.int .i64 (IntKind.i64.wrap (((dn1 : Nat) : Int) + ((en1 : Nat) : Int)))) (.int .i64 ((dn1 + en1 : Nat) : Int)) (congrArg (Value.int .i64) (Gx.i64n (by omega) (by omega))) ?_
    refine Sx.rt 7 [] H5 (.bool (((dn1 + en1 : Nat) : Int) == (0 : Int))) ?_
    obtain ⟨S7, H6⟩ := P_close H5 [0, 0, 0, 0] (Z := Z) (T := T) (R := R) (g := g) pm1 hpm1 hzpm1 (by kernel_rfl)
    subst hL0
    exact Gx.ret_as (v' := .bool ((less a b).isEmpty && (less b a).isEmpty)) (by rw [hd1, hd3, len01]) (hK S7 R _ (H6.pick (a := [PI S7 Z T R g]) [0] (by kernel_rfl)) (Pre.refl R))
  · skip
    obtain ⟨rfl, hv0⟩ := h5
    obtain ⟨rfl, rfl⟩ := hs1 rfl
    obtain ⟨bv, hbv⟩ := tb (T := R) (n := v) (by omega)
    refine Sx.c 8 [0] H (fun Hp4 R4 hR4 => Whole_p S Z T R g _ r0 b1 v a (some bv) w R4 Hp4 hbr hr (vB_n hv0 hbv) hw1 (fun S8 S9 wA3 wn3 wc3 w4 G4 hwn3 hwc3 => hR4 _ _ _ G4 fun H7 => ?_))
    refine Sx.c 10 [0] H7 (fun Hp5 R5 hR5 => Whole_p S8 Z T R g _ s0 b2 v b (some bv) w4 R5 Hp5 hbs hs (vB_n hv0 hbv) hw2 (fun S10 S11 wA4 wn4 wc4 w5 G5 hwn4 hwc4 => hR5 _ _ _ G5 fun H8 => ?_))
    refine Sx.c 11 [2, 1] H8 (fun Hp6 R6 hR6 => differ_p S9 wA3 wn3 wc3 a S11 wA4 wn4 wc4 b w5 R6 Hp6 hwn3 hwc3 hwn4 hwc4 hz1 hz2 (fun S12 dA2 dn2 dc2 S13 eA2 en2 ec2 w6 G6 hd5 hd6 hd7 hd8 => hR6 _ _ _ G6 fun H9 => ?_))
    rw [hdf] at hd5; dsimp only at hd5
    rw [hdf] at hd7; dsimp only at hd7
    have hle1 := Slv.less_le a b
    have hle2 := Slv.less_le b a
    have H10 := H9.pick (a := [strI S9 wA3 a, strI S11 wA4 b, strI S12 dA2 (less a b), strI S13 eA2 (less b a), PI S10 Z T R g]) [0, 0, 0, 0, 0] (by rw [hdf]; kernel_rfl)
    obtain ⟨pm2, hpm2, hzpm2, H11⟩ := P_open H10 4 (S := S10) (Z := Z) (T := T) (R := R) (g := g) (by kernel_rfl)
    refine Sx.peq (kt := 76) (te := 80) 13 bv bv true (bank_cb (H11.at 2 (it := bankI 80 R (rwC R g pm2) [0]) (by kernel_rfl)) hbv (nz1 hv0)) (bank_cb (H11.at 2 (it := bankI 80 R (rwC R g pm2) [0]) (by kernel_rfl)) hbv (nz1 hv0)) (decide_eq_true rfl) ?_
    refine Sx.v 10 (.int .i64 (IntKind.i64.wrap (((dn2 : Nat) : Int) + ((en2 : Nat) : Int)))) (.int .i64 ((dn2 + en2 : Nat) : Int)) (congrArg (Value.int .i64) (Gx.i64n (by omega) (by omega))) ?_
    refine Sx.rt 7 [] H11 (.bool (((dn2 + en2 : Nat) : Int) == (0 : Int))) ?_
    obtain ⟨S14, H12⟩ := P_close H11 [0, 0, 0, 0] (Z := Z) (T := T) (R := R) (g := g) pm2 hpm2 hzpm2 (by kernel_rfl)
    subst hL0
    exact Gx.ret_as (v' := .bool ((less a b).isEmpty && (less b a).isEmpty)) (by rw [hd5, hd7, len01]) (hK S14 R _ (H12.pick (a := [PI S14 Z T R g]) [0] (by kernel_rfl)) (Pre.refl R))
  · skip
    obtain ⟨hne, rfl⟩ := h5
    have hu0 : u ≠ 0 := Ne.symm hne
    obtain ⟨bu, hbu⟩ := tb (T := R) (n := u) (by omega)
    have hou := ho2.resolve_left hu0
    refine Sx.c 8 [0] H (fun Hp7 R7 hR7 => Whole_p S Z T R g _ r0 b1 0 a none w R7 Hp7 hbr hr vB_0 hw1 (fun S15 S16 wA5 wn5 wc5 w7 G7 hwn5 hwc5 => hR7 _ _ _ G7 fun H13 => ?_))
    refine Sx.c 10 [0] H13 (fun Hp8 R8 hR8 => Whole_p S15 Z T R g _ s0 b2 u b (some bu) w7 R8 Hp8 hbs hs (vB_n hu0 hbu) hw2 (fun S17 S18 wA6 wn6 wc6 w8 G8 hwn6 hwc6 => hR8 _ _ _ G8 fun H14 => ?_))
    refine Sx.c 11 [2, 1] H14 (fun Hp9 R9 hR9 => differ_p S16 wA5 wn5 wc5 a S18 wA6 wn6 wc6 b w8 R9 Hp9 hwn5 hwc5 hwn6 hwc6 hz1 hz2 (fun S19 dA3 dn3 dc3 S20 eA3 en3 ec3 w9 G9 hd9 hd10 hd11 hd12 => hR9 _ _ _ G9 fun H15 => ?_))
    rw [hdf] at hd9; dsimp only at hd9
    rw [hdf] at hd11; dsimp only at hd11
    have hle1 := Slv.less_le a b
    have hle2 := Slv.less_le b a
    have H16 := H15.pick (a := [strI S16 wA5 a, strI S18 wA6 b, strI S19 dA3 (less a b), strI S20 eA3 (less b a), PI S17 Z T R g]) [0, 0, 0, 0, 0] (by rw [hdf]; kernel_rfl)
    obtain ⟨pm3, hpm3, hzpm3, H17⟩ := P_open H16 4 (S := S17) (Z := Z) (T := T) (R := R) (g := g) (by kernel_rfl)
    refine Sx.br 34 (decide (((en3 : Nat) : Int) > (0 : Int))) (fun h_c52 => ?_) (fun h_c52 => ?_)
    · skip
      have hsr : srB 0 u (less a b) (less b a) = true := by have h := of_decide_eq_true h_c52; unfold srB; cases hle : less b a with | nil => rw [hle] at hd11; simp at hd11; omega | cons x l => simp
      obtain ⟨rfl, rfl⟩ := hs2 hne hsr
      refine Sx.rt 9 [] H17 (.bool false) ?_
      obtain ⟨S21, H18⟩ := P_close H17 [0, 0, 0, 0] (Z := Z) (T := T) (R := R) (g := g) pm3 hpm3 hzpm3 (by kernel_rfl)
      subst hL0
      exact (hK S21 R _ (H18.pick (a := [PI S21 Z T R g]) [0] (by kernel_rfl)) (Pre.refl R))
    have hsr : srB 0 u (less a b) (less b a) = false := by have h := of_decide_eq_false h_c52; simp only [srB, beq_self_eq_true, Bool.true_and, Bool.or_eq_false_iff, Bool.and_eq_false_iff, beq_eq_false_iff_ne, ne_eq]; refine ⟨?_, .inl hu0⟩; cases hle : less b a with | nil => rfl | cons x l => rw [hle] at hd11; simp at hd11; omega
    have hg' := (hs3 hne hsr rfl)
    obtain ⟨rfl, rfl⟩ := hg'
    obtain ⟨lo1, hlo1⟩ := tb2 (l := g.ops) (n := u) (by first | omega | (simp only [List.length_set, List.length_append]; omega))
    obtain ⟨rA1, rn1, rc1, hsl1, hrn1, hst1⟩ := P_rw (m := pm3) (g := g) (H17.at 3 (it := rowsI pm3.S2 pm3.sl g.ops) (by kernel_rfl)) hlo1
    have H19 := bank_take (ty := 80) (T := R) (C := (rwC R g pm3)) (hs := [0]) H17 2 (by kernel_rfl) (n := u) (b := bu) hbu (nz1 hu0) (rwC_eq hsl1 hou (tl := none) rfl (b := true) rfl)
    refine Sx.c 5 [0] H19 (fun Hp10 R10 hR10 => becomeN_p bu dA3 dn3 dc3 (.slice rA1 rn1 rc1) (.pointer none) (.bool true) w9 R10 Hp10  (fun w10 G10 => hR10 _ _ _ G10 fun H20 => ?_))
    obtain ⟨S22, H21⟩ := rows_set H20 [4, 6] u (c := dc3) (n := dn3) (S := pm3.S2) (sl := pm3.sl) (ops := (g).ops) (S2 := S19) (A := dA3) (l := (less a b)) (by kernel_rfl) hd9
    have hm1 : PR T R (gset g u (less a b) (some 0)) ({ pm3 with sl := pm3.sl.set u (dA3, dn3, dc3), S2 := S22 } : Pm) := hpm3.set (less a b) (fun q h => by cases h)
    have hl1 := (List.getElem?_eq_some_iff.1 hsl1).1
    have hl2 := (List.getElem?_eq_some_iff.1 hou).1
    have H22 := bank_put (ty := 80) (T := R) (C := (rwC R g pm3)) (C' := (rwC R (gset g u (less a b) (some 0)) ({ pm3 with sl := pm3.sl.set u (dA3, dn3, dc3), S2 := S22 } : Pm))) (hs := [0]) H21 [1, 1] (by kernel_rfl) (n := u) (b := bu) hbu (nz1 hu0) (rwC_at hl1 hl2 (tl := none) rfl (b := false) rfl) (fun i hi _ => rwC_set hi)
    have H23 := H22.pick (a := [bankI 78 T (ndC T R (gset g u (less a b) (some 0)) ({ pm3 with sl := pm3.sl.set u (dA3, dn3, dc3), S2 := S22 } : Pm)) [], kidsI ({ pm3 with sl := pm3.sl.set u (dA3, dn3, dc3), S2 := S22 } : Pm).S1 ({ pm3 with sl := pm3.sl.set u (dA3, dn3, dc3), S2 := S22 } : Pm).as (ksL T (gset g u (less a b) (some 0))), bankI 80 R (rwC R (gset g u (less a b) (some 0)) ({ pm3 with sl := pm3.sl.set u (dA3, dn3, dc3), S2 := S22 } : Pm)) [0], rowsI ({ pm3 with sl := pm3.sl.set u (dA3, dn3, dc3), S2 := S22 } : Pm).S2 ({ pm3 with sl := pm3.sl.set u (dA3, dn3, dc3), S2 := S22 } : Pm).sl (gset g u (less a b) (some 0)).ops, strI S16 wA5 a, strI S18 wA6 b, strI S20 eA3 (less b a)]) [2, 2, 0, 0, 0, 0, 0] (by kernel_rfl)
    refine Sx.rt 9 [] H23 (.bool true) ?_
    obtain ⟨S23, H24⟩ := P_close H23 [0, 0, 0, 0] (Z := Z) (T := T) (R := R) (g := (gset g u (less a b) (some 0))) ({ pm3 with sl := pm3.sl.set u (dA3, dn3, dc3), S2 := S22 } : Pm) hm1 hzpm3 (by kernel_rfl)
    subst hL0
    exact (hK S23 R _ (H24.pick (a := [PI S23 Z T R (gset g u (less a b) (some 0))]) [0] (by kernel_rfl)) (Pre.refl R))
  · skip
    obtain ⟨hne, hv0, rfl⟩ := h5
    obtain ⟨bv, hbv⟩ := tb (T := R) (n := v) (by omega)
    have hov := ho1.resolve_left hv0
    refine Sx.c 8 [0] H (fun Hp11 R11 hR11 => Whole_p S Z T R g _ r0 b1 v a (some bv) w R11 Hp11 hbr hr (vB_n hv0 hbv) hw1 (fun S24 S25 wA7 wn7 wc7 w11 G11 hwn7 hwc7 => hR11 _ _ _ G11 fun H25 => ?_))
    refine Sx.c 10 [0] H25 (fun Hp12 R12 hR12 => Whole_p S24 Z T R g _ s0 b2 0 b none w11 R12 Hp12 hbs hs vB_0 hw2 (fun S26 S27 wA8 wn8 wc8 w12 G12 hwn8 hwc8 => hR12 _ _ _ G12 fun H26 => ?_))
    refine Sx.c 11 [2, 1] H26 (fun Hp13 R13 hR13 => differ_p S25 wA7 wn7 wc7 a S27 wA8 wn8 wc8 b w12 R13 Hp13 hwn7 hwc7 hwn8 hwc8 hz1 hz2 (fun S28 dA4 dn4 dc4 S29 eA4 en4 ec4 w13 G13 hd13 hd14 hd15 hd16 => hR13 _ _ _ G13 fun H27 => ?_))
    rw [hdf] at hd13; dsimp only at hd13
    rw [hdf] at hd15; dsimp only at hd15
    have hle1 := Slv.less_le a b
    have hle2 := Slv.less_le b a
    have H28 := H27.pick (a := [strI S25 wA7 a, strI S27 wA8 b, strI S28 dA4 (less a b), strI S29 eA4 (less b a), PI S26 Z T R g]) [0, 0, 0, 0, 0] (by rw [hdf]; kernel_rfl)
    obtain ⟨pm5, hpm5, hzpm5, H29⟩ := P_open H28 4 (S := S26) (Z := Z) (T := T) (R := R) (g := g) (by kernel_rfl)
    refine Sx.br 42 (decide (((dn4 : Nat) : Int) > (0 : Int))) (fun h_c61 => ?_) (fun h_c61 => ?_)
    · skip
      have hsr : srB v 0 (less a b) (less b a) = true := by have h := of_decide_eq_true h_c61; unfold srB; cases hle : less a b with | nil => rw [hle] at hd13; simp at hd13; omega | cons x l => simp
      obtain ⟨rfl, rfl⟩ := hs2 hne hsr
      refine Sx.rt 9 [] H29 (.bool false) ?_
      obtain ⟨S30, H30⟩ := P_close H29 [0, 0, 0, 0] (Z := Z) (T := T) (R := R) (g := g) pm5 hpm5 hzpm5 (by kernel_rfl)
      subst hL0
      exact (hK S30 R _ (H30.pick (a := [PI S30 Z T R g]) [0] (by kernel_rfl)) (Pre.refl R))
    have hsr : srB v 0 (less a b) (less b a) = false := by have h := of_decide_eq_false h_c61; simp only [srB, beq_self_eq_true, Bool.true_and, Bool.or_eq_false_iff, Bool.and_eq_false_iff, beq_eq_false_iff_ne, ne_eq]; refine ⟨.inl hv0, ?_⟩; cases hle : less a b with | nil => rfl | cons x l => rw [hle] at hd13; simp at hd13; omega
    have hg' := (hs4 hne hsr hv0 rfl)
    obtain ⟨rfl, rfl⟩ := hg'
    obtain ⟨lo2, hlo2⟩ := tb2 (l := g.ops) (n := v) (by first | omega | (simp only [List.length_set, List.length_append]; omega))
    obtain ⟨rA2, rn2, rc2, hsl2, hrn2, hst2⟩ := P_rw (m := pm5) (g := g) (H29.at 3 (it := rowsI pm5.S2 pm5.sl g.ops) (by kernel_rfl)) hlo2
    have H31 := bank_take (ty := 80) (T := R) (C := (rwC R g pm5)) (hs := [0]) H29 2 (by kernel_rfl) (n := v) (b := bv) hbv (nz1 hv0) (rwC_eq hsl2 hov (tl := none) rfl (b := true) rfl)
    refine Sx.c 5 [0] H31 (fun Hp14 R14 hR14 => becomeN_p bv eA4 en4 ec4 (.slice rA2 rn2 rc2) (.pointer none) (.bool true) w13 R14 Hp14  (fun w14 G14 => hR14 _ _ _ G14 fun H32 => ?_))
    obtain ⟨S31, H33⟩ := rows_set H32 [4, 7] v (c := ec4) (n := en4) (S := pm5.S2) (sl := pm5.sl) (ops := (g).ops) (S2 := S29) (A := eA4) (l := (less b a)) (by kernel_rfl) hd15
    have hm2 : PR T R (gset g v (less b a) (some 0)) ({ pm5 with sl := pm5.sl.set v (eA4, en4, ec4), S2 := S31 } : Pm) := hpm5.set (less b a) (fun q h => by cases h)
    have hl3 := (List.getElem?_eq_some_iff.1 hsl2).1
    have hl4 := (List.getElem?_eq_some_iff.1 hov).1
    have H34 := bank_put (ty := 80) (T := R) (C := (rwC R g pm5)) (C' := (rwC R (gset g v (less b a) (some 0)) ({ pm5 with sl := pm5.sl.set v (eA4, en4, ec4), S2 := S31 } : Pm))) (hs := [0]) H33 [1, 1] (by kernel_rfl) (n := v) (b := bv) hbv (nz1 hv0) (rwC_at hl3 hl4 (tl := none) rfl (b := false) rfl) (fun i hi _ => rwC_set hi)
    have H35 := H34.pick (a := [bankI 78 T (ndC T R (gset g v (less b a) (some 0)) ({ pm5 with sl := pm5.sl.set v (eA4, en4, ec4), S2 := S31 } : Pm)) [], kidsI ({ pm5 with sl := pm5.sl.set v (eA4, en4, ec4), S2 := S31 } : Pm).S1 ({ pm5 with sl := pm5.sl.set v (eA4, en4, ec4), S2 := S31 } : Pm).as (ksL T (gset g v (less b a) (some 0))), bankI 80 R (rwC R (gset g v (less b a) (some 0)) ({ pm5 with sl := pm5.sl.set v (eA4, en4, ec4), S2 := S31 } : Pm)) [0], rowsI ({ pm5 with sl := pm5.sl.set v (eA4, en4, ec4), S2 := S31 } : Pm).S2 ({ pm5 with sl := pm5.sl.set v (eA4, en4, ec4), S2 := S31 } : Pm).sl (gset g v (less b a) (some 0)).ops, strI S25 wA7 a, strI S27 wA8 b, strI S28 dA4 (less a b)]) [2, 2, 0, 0, 0, 0, 0] (by kernel_rfl)
    refine Sx.rt 9 [] H35 (.bool true) ?_
    obtain ⟨S32, H36⟩ := P_close H35 [0, 0, 0, 0] (Z := Z) (T := T) (R := R) (g := (gset g v (less b a) (some 0))) ({ pm5 with sl := pm5.sl.set v (eA4, en4, ec4), S2 := S31 } : Pm) hm2 hzpm5 (by kernel_rfl)
    subst hL0
    exact (hK S32 R _ (H36.pick (a := [PI S32 Z T R (gset g v (less b a) (some 0))]) [0] (by kernel_rfl)) (Pre.refl R))
  obtain ⟨hne, hv0, hu0⟩ := h5
  obtain ⟨bv, hbv⟩ := tb (T := R) (n := v) (by omega)
  obtain ⟨bu, hbu⟩ := tb (T := R) (n := u) (by omega)
  have hov := ho1.resolve_left hv0
  have hou := ho2.resolve_left hu0
  have hsr : srB v u (less a b) (less b a) = false := by simp [srB, hv0, hu0]
  refine Sx.c 8 [0] H (fun Hp15 R15 hR15 => Whole_p S Z T R g _ r0 b1 v a (some bv) w R15 Hp15 hbr hr (vB_n hv0 hbv) hw1 (fun S33 S34 wA9 wn9 wc9 w15 G15 hwn9 hwc9 => hR15 _ _ _ G15 fun H37 => ?_))
  refine Sx.c 10 [0] H37 (fun Hp16 R16 hR16 => Whole_p S33 Z T R g _ s0 b2 u b (some bu) w15 R16 Hp16 hbs hs (vB_n hu0 hbu) hw2 (fun S35 S36 wA10 wn10 wc10 w16 G16 hwn10 hwc10 => hR16 _ _ _ G16 fun H38 => ?_))
  refine Sx.c 11 [2, 1] H38 (fun Hp17 R17 hR17 => differ_p S34 wA9 wn9 wc9 a S36 wA10 wn10 wc10 b w16 R17 Hp17 hwn9 hwc9 hwn10 hwc10 hz1 hz2 (fun S37 dA5 dn5 dc5 S38 eA5 en5 ec5 w17 G17 hd17 hd18 hd19 hd20 => hR17 _ _ _ G17 fun H39 => ?_))
  rw [hdf] at hd17; dsimp only at hd17
  rw [hdf] at hd19; dsimp only at hd19
  have hle1 := Slv.less_le a b
  have hle2 := Slv.less_le b a
  have H40 := H39.pick (a := [strI S34 wA9 a, strI S36 wA10 b, strI S37 dA5 (less a b), strI S38 eA5 (less b a), PI S35 Z T R g]) [0, 0, 0, 0, 0] (by rw [hdf]; kernel_rfl)
  obtain ⟨pm7, hpm7, hzpm7, H41⟩ := P_open H40 4 (S := S35) (Z := Z) (T := T) (R := R) (g := g) (by kernel_rfl)
  refine Sx.peq (kt := 76) (te := 80) 13 bv bu false (bank_cb (H41.at 2 (it := bankI 80 R (rwC R g pm7) [0]) (by kernel_rfl)) hbv (nz1 hv0)) (bank_cb (H41.at 2 (it := bankI 80 R (rwC R g pm7) [0]) (by kernel_rfl)) hbu (nz1 hu0)) (bank_ne (H41.at 2 (it := bankI 80 R (rwC R g pm7) [0]) (by kernel_rfl)) hbv hbu (nz1 hv0) (nz1 hu0) hne) ?_
  refine Sx.c 22 [] H41 (fun Hp18 R18 hR18 => Any_p  w17 R18 Hp18  (fun bx1 w18 G18 => hR18 _ _ _ G18 fun H42 => ?_))
  obtain ⟨g1, x, hop, hg', rfl⟩ := hs5 hne hsr hv0 hu0
  obtain ⟨hzo, rfl, rfl⟩ := opn_op1 hop
  subst hg'
  obtain ⟨q, hq⟩ : ∃ q, g.ops.length = q + 1 := ⟨g.ops.length - 1, by have := hP.z; have := hP.lo; omega⟩
  have H43 := H42.add (Gx.Ext.refl _) (it := strI (fun _ => False) none []) strI_nil (fun _ h => h.elim)
  have hsl3 := (H43.at 4 (it := rowsI pm7.S2 pm7.sl g.ops) (by kernel_rfl)).1.1
  obtain ⟨S39, H44⟩ := rows_add H43 [4, 8] (c := 0) (n := 0) (S := pm7.S2) (sl := pm7.sl) (ops := g.ops) (S2 := fun _ => False) (A := none) (l := []) (by kernel_rfl) rfl
  have hm3 : PR T (R ++ [bx1]) (gop1 g [] none) ({ pm7 with sl := pm7.sl ++ [(none, 0, 0)], S2 := S39 } : Pm) := hpm7.add bx1 [] (fun _ h => by cases h)
  have H45 := bank_add (b := bx1) (ty := 80) (T := R) (C := (rwC R g pm7)) (C' := rwC (R ++ [bx1]) (gop1 g [] none) ({ pm7 with sl := pm7.sl ++ [(none, 0, 0)], S2 := S39 } : Pm)) (hs := [0]) H44 [1, 3] (by kernel_rfl) (rwC_new hpm7 hsl3 bx1 [] none (tl := none) rfl (t := true) rfl) (fun i hi => rwC_add hpm7 hsl3 bx1 [] none _ _ hi)
  have H46 := bank_as (ty := 78) (T := T) (hs := []) (C := (ndC T R g pm7)) (C' := ndC T (R ++ [bx1]) (gop1 g [] none) ({ pm7 with sl := pm7.sl ++ [(none, 0, 0)], S2 := S39 } : Pm)) H45 2 (by kernel_rfl) (fun j _ _ => ndC_add hpm7 bx1 [] none _ _ j)
  have H47 := H46.pick (a := [bankI 78 T (ndC T (R ++ [bx1]) (gop1 g [] none) ({ pm7 with sl := pm7.sl ++ [(none, 0, 0)], S2 := S39 } : Pm)) [], kidsI ({ pm7 with sl := pm7.sl ++ [(none, 0, 0)], S2 := S39 } : Pm).S1 ({ pm7 with sl := pm7.sl ++ [(none, 0, 0)], S2 := S39 } : Pm).as (ksL T (gop1 g [] none)), bankI 80 (R ++ [bx1]) (rwC (R ++ [bx1]) (gop1 g [] none) ({ pm7 with sl := pm7.sl ++ [(none, 0, 0)], S2 := S39 } : Pm)) [0], rowsI ({ pm7 with sl := pm7.sl ++ [(none, 0, 0)], S2 := S39 } : Pm).S2 ({ pm7 with sl := pm7.sl ++ [(none, 0, 0)], S2 := S39 } : Pm).sl (gop1 g [] none).ops, strI S34 wA9 a, strI S36 wA10 b, strI S37 dA5 (less a b), strI S38 eA5 (less b a)]) [2, 2, 0, 0, 0, 0, 0, 0] (by kernel_rfl)
  have hbx : (R ++ [bx1])[q + 1]? = some bx1 := by rw [← hq, ← hRl]; simp
  have hvl := (List.getElem?_eq_some_iff.1 hbv).1
  have hul := (List.getElem?_eq_some_iff.1 hbu).1
  have hnl := hP.lR
  have hbv2 : (R ++ [bx1])[v]? = some bv := by rw [app_l hvl]; exact hbv
  have hbu2 : (R ++ [bx1])[u]? = some bu := by rw [app_l hul]; exact hbu
  have hov2 : (g.next ++ [none])[v]? = some none := by rw [app_l (by omega)]; exact hov
  have hou2 : (g.next ++ [none])[u]? = some none := by rw [app_l (by omega)]; exact hou
  have hou3 : ((g.next ++ [none]).set v (some g.ops.length))[u]? = some none := by rw [List.getElem?_set_ne hne]; exact hou2
  obtain ⟨lo3, hlo3⟩ := tb2 (l := ((gop1 g [] none)).ops) (n := v) (by first | omega | (simp only [List.length_set, List.length_append]; omega))
  obtain ⟨rA3, rn3, rc3, hsl4, hrn3, hst3⟩ := P_rw (m := ({ pm7 with sl := pm7.sl ++ [(none, 0, 0)], S2 := S39 } : Pm)) (g := (gop1 g [] none)) (H47.at 3 (it := rowsI ({ pm7 with sl := pm7.sl ++ [(none, 0, 0)], S2 := S39 } : Pm).S2 ({ pm7 with sl := pm7.sl ++ [(none, 0, 0)], S2 := S39 } : Pm).sl (gop1 g [] none).ops) (by kernel_rfl)) hlo3
  have H48 := bank_take (ty := 80) (T := (R ++ [bx1])) (C := (rwC (R ++ [bx1]) (gop1 g [] none) ({ pm7 with sl := pm7.sl ++ [(none, 0, 0)], S2 := S39 } : Pm))) (hs := [0]) H47 2 (by kernel_rfl) (n := v) (b := bv) hbv2 (nz1 hv0) (rwC_eq hsl4 hov2 (tl := none) rfl (b := true) rfl)
  refine Sx.c 8 [0] H48 (fun Hp19 R19 hR19 => becomeS_p bv eA5 en5 ec5 bx1 (.slice rA3 rn3 rc3) (.pointer none) (.bool true) w18 R19 Hp19  (fun w19 G19 => hR19 _ _ _ G19 fun H49 => ?_))
  obtain ⟨S40, H50⟩ := rows_set H49 [4, 7] v (c := ec5) (n := en5) (S := ({ pm7 with sl := pm7.sl ++ [(none, 0, 0)], S2 := S39 } : Pm).S2) (sl := ({ pm7 with sl := pm7.sl ++ [(none, 0, 0)], S2 := S39 } : Pm).sl) (ops := ((gop1 g [] none)).ops) (S2 := S38) (A := eA5) (l := (less b a)) (by kernel_rfl) hd19
  have hm4 : PR T (R ++ [bx1]) (gset (gop1 g [] none) v (less b a) (some g.ops.length)) ({ ({ pm7 with sl := pm7.sl ++ [(none, 0, 0)], S2 := S39 } : Pm) with sl := ({ pm7 with sl := pm7.sl ++ [(none, 0, 0)], S2 := S39 } : Pm).sl.set v (eA5, en5, ec5), S2 := S40 } : Pm) := hm3.set (less b a) (fun q' h => by first | (have h := Option.some.inj h; show q' + 1 < (g.next ++ [none]).length; rw [List.length_append, List.length_singleton]; have := hP.lo; omega) | (have h := Option.some.inj h; show q' + 1 < ((g.next ++ [none]).set v _).length; rw [List.length_set, List.length_append, List.length_singleton]; have := hP.lo; omega))
  have hl5 := (List.getElem?_eq_some_iff.1 hsl4).1
  have hl6 := (List.getElem?_eq_some_iff.1 hov2).1
  have H51 := bank_put (ty := 80) (T := (R ++ [bx1])) (C := (rwC (R ++ [bx1]) (gop1 g [] none) ({ pm7 with sl := pm7.sl ++ [(none, 0, 0)], S2 := S39 } : Pm))) (C' := (rwC (R ++ [bx1]) (gset (gop1 g [] none) v (less b a) (some g.ops.length)) ({ ({ pm7 with sl := pm7.sl ++ [(none, 0, 0)], S2 := S39 } : Pm) with sl := ({ pm7 with sl := pm7.sl ++ [(none, 0, 0)], S2 := S39 } : Pm).sl.set v (eA5, en5, ec5), S2 := S40 } : Pm))) (hs := [0]) H50 [1, 1] (by kernel_rfl) (n := v) (b := bv) hbv2 (nz1 hv0) (rwC_at hl5 hl6 (tl := (some bx1)) (by rw [hq]; exact hbx) (b := false) rfl) (fun i hi _ => rwC_set hi)
  have H52 := H51.pick (a := [bankI 78 T (ndC T (R ++ [bx1]) (gset (gop1 g [] none) v (less b a) (some g.ops.length)) ({ ({ pm7 with sl := pm7.sl ++ [(none, 0, 0)], S2 := S39 } : Pm) with sl := ({ pm7 with sl := pm7.sl ++ [(none, 0, 0)], S2 := S39 } : Pm).sl.set v (eA5, en5, ec5), S2 := S40 } : Pm)) [], kidsI ({ ({ pm7 with sl := pm7.sl ++ [(none, 0, 0)], S2 := S39 } : Pm) with sl := ({ pm7 with sl := pm7.sl ++ [(none, 0, 0)], S2 := S39 } : Pm).sl.set v (eA5, en5, ec5), S2 := S40 } : Pm).S1 ({ ({ pm7 with sl := pm7.sl ++ [(none, 0, 0)], S2 := S39 } : Pm) with sl := ({ pm7 with sl := pm7.sl ++ [(none, 0, 0)], S2 := S39 } : Pm).sl.set v (eA5, en5, ec5), S2 := S40 } : Pm).as (ksL T (gset (gop1 g [] none) v (less b a) (some g.ops.length))), bankI 80 (R ++ [bx1]) (rwC (R ++ [bx1]) (gset (gop1 g [] none) v (less b a) (some g.ops.length)) ({ ({ pm7 with sl := pm7.sl ++ [(none, 0, 0)], S2 := S39 } : Pm) with sl := ({ pm7 with sl := pm7.sl ++ [(none, 0, 0)], S2 := S39 } : Pm).sl.set v (eA5, en5, ec5), S2 := S40 } : Pm)) [0], rowsI ({ ({ pm7 with sl := pm7.sl ++ [(none, 0, 0)], S2 := S39 } : Pm) with sl := ({ pm7 with sl := pm7.sl ++ [(none, 0, 0)], S2 := S39 } : Pm).sl.set v (eA5, en5, ec5), S2 := S40 } : Pm).S2 ({ ({ pm7 with sl := pm7.sl ++ [(none, 0, 0)], S2 := S39 } : Pm) with sl := ({ pm7 with sl := pm7.sl ++ [(none, 0, 0)], S2 := S39 } : Pm).sl.set v (eA5, en5, ec5), S2 := S40 } : Pm).sl (gset (gop1 g [] none) v (less b a) (some g.ops.length)).ops, strI S34 wA9 a, strI S36 wA10 b, strI S37 dA5 (less a b)]) [2, 2, 0, 0, 0, 0, 0] (by kernel_rfl)
  obtain ⟨lo4, hlo4⟩ := tb2 (l := ((gset (gop1 g [] none) v (less b a) (some g.ops.length))).ops) (n := u) (by first | omega | (simp only [List.length_set, List.length_append]; omega))
  obtain ⟨rA4, rn4, rc4, hsl5, hrn4, hst4⟩ := P_rw (m := ({ ({ pm7 with sl := pm7.sl ++ [(none, 0, 0)], S2 := S39 } : Pm) with sl := ({ pm7 with sl := pm7.sl ++ [(none, 0, 0)], S2 := S39 } : Pm).sl.set v (eA5, en5, ec5), S2 := S40 } : Pm)) (g := (gset (gop1 g [] none) v (less b a) (some g.ops.length))) (H52.at 3 (it := rowsI ({ ({ pm7 with sl := pm7.sl ++ [(none, 0, 0)], S2 := S39 } : Pm) with sl := ({ pm7 with sl := pm7.sl ++ [(none, 0, 0)], S2 := S39 } : Pm).sl.set v (eA5, en5, ec5), S2 := S40 } : Pm).S2 ({ ({ pm7 with sl := pm7.sl ++ [(none, 0, 0)], S2 := S39 } : Pm) with sl := ({ pm7 with sl := pm7.sl ++ [(none, 0, 0)], S2 := S39 } : Pm).sl.set v (eA5, en5, ec5), S2 := S40 } : Pm).sl (gset (gop1 g [] none) v (less b a) (some g.ops.length)).ops) (by kernel_rfl)) hlo4
  have H53 := bank_take (ty := 80) (T := (R ++ [bx1])) (C := (rwC (R ++ [bx1]) (gset (gop1 g [] none) v (less b a) (some g.ops.length)) ({ ({ pm7 with sl := pm7.sl ++ [(none, 0, 0)], S2 := S39 } : Pm) with sl := ({ pm7 with sl := pm7.sl ++ [(none, 0, 0)], S2 := S39 } : Pm).sl.set v (eA5, en5, ec5), S2 := S40 } : Pm))) (hs := [0]) H52 2 (by kernel_rfl) (n := u) (b := bu) hbu2 (nz1 hu0) (rwC_eq hsl5 hou3 (tl := none) rfl (b := true) rfl)
  refine Sx.c 6 [0] H53 (fun Hp20 R20 hR20 => becomeS_p bu dA5 dn5 dc5 bx1 (.slice rA4 rn4 rc4) (.pointer none) (.bool true) w19 R20 Hp20  (fun w20 G20 => hR20 _ _ _ G20 fun H54 => ?_))
  obtain ⟨S41, H55⟩ := rows_set H54 [4, 6] u (c := dc5) (n := dn5) (S := ({ ({ pm7 with sl := pm7.sl ++ [(none, 0, 0)], S2 := S39 } : Pm) with sl := ({ pm7 with sl := pm7.sl ++ [(none, 0, 0)], S2 := S39 } : Pm).sl.set v (eA5, en5, ec5), S2 := S40 } : Pm).S2) (sl := ({ ({ pm7 with sl := pm7.sl ++ [(none, 0, 0)], S2 := S39 } : Pm) with sl := ({ pm7 with sl := pm7.sl ++ [(none, 0, 0)], S2 := S39 } : Pm).sl.set v (eA5, en5, ec5), S2 := S40 } : Pm).sl) (ops := ((gset (gop1 g [] none) v (less b a) (some g.ops.length))).ops) (S2 := S37) (A := dA5) (l := (less a b)) (by kernel_rfl) hd17
  have hm5 : PR T (R ++ [bx1]) (gset (gset (gop1 g [] none) v (less b a) (some g.ops.length)) u (less a b) (some g.ops.length)) ({ ({ ({ pm7 with sl := pm7.sl ++ [(none, 0, 0)], S2 := S39 } : Pm) with sl := ({ pm7 with sl := pm7.sl ++ [(none, 0, 0)], S2 := S39 } : Pm).sl.set v (eA5, en5, ec5), S2 := S40 } : Pm) with sl := ({ ({ pm7 with sl := pm7.sl ++ [(none, 0, 0)], S2 := S39 } : Pm) with sl := ({ pm7 with sl := pm7.sl ++ [(none, 0, 0)], S2 := S39 } : Pm).sl.set v (eA5, en5, ec5), S2 := S40 } : Pm).sl.set u (dA5, dn5, dc5), S2 := S41 } : Pm) := hm4.set (less a b) (fun q' h => by first | (have h := Option.some.inj h; show q' + 1 < (g.next ++ [none]).length; rw [List.length_append, List.length_singleton]; have := hP.lo; omega) | (have h := Option.some.inj h; show q' + 1 < ((g.next ++ [none]).set v _).length; rw [List.length_set, List.length_append, List.length_singleton]; have := hP.lo; omega))
  have hl7 := (List.getElem?_eq_some_iff.1 hsl5).1
  have hl8 := (List.getElem?_eq_some_iff.1 hou3).1
  have H56 := bank_put (ty := 80) (T := (R ++ [bx1])) (C := (rwC (R ++ [bx1]) (gset (gop1 g [] none) v (less b a) (some g.ops.length)) ({ ({ pm7 with sl := pm7.sl ++ [(none, 0, 0)], S2 := S39 } : Pm) with sl := ({ pm7 with sl := pm7.sl ++ [(none, 0, 0)], S2 := S39 } : Pm).sl.set v (eA5, en5, ec5), S2 := S40 } : Pm))) (C' := (rwC (R ++ [bx1]) (gset (gset (gop1 g [] none) v (less b a) (some g.ops.length)) u (less a b) (some g.ops.length)) ({ ({ ({ pm7 with sl := pm7.sl ++ [(none, 0, 0)], S2 := S39 } : Pm) with sl := ({ pm7 with sl := pm7.sl ++ [(none, 0, 0)], S2 := S39 } : Pm).sl.set v (eA5, en5, ec5), S2 := S40 } : Pm) with sl := ({ ({ pm7 with sl := pm7.sl ++ [(none, 0, 0)], S2 := S39 } : Pm) with sl := ({ pm7 with sl := pm7.sl ++ [(none, 0, 0)], S2 := S39 } : Pm).sl.set v (eA5, en5, ec5), S2 := S40 } : Pm).sl.set u (dA5, dn5, dc5), S2 := S41 } : Pm))) (hs := [0]) H55 [1, 1] (by kernel_rfl) (n := u) (b := bu) hbu2 (nz1 hu0) (rwC_at hl7 hl8 (tl := (some bx1)) (by rw [hq]; exact hbx) (b := false) rfl) (fun i hi _ => rwC_set hi)
  have H57 := H56.pick (a := [bankI 78 T (ndC T (R ++ [bx1]) (gset (gset (gop1 g [] none) v (less b a) (some g.ops.length)) u (less a b) (some g.ops.length)) ({ ({ ({ pm7 with sl := pm7.sl ++ [(none, 0, 0)], S2 := S39 } : Pm) with sl := ({ pm7 with sl := pm7.sl ++ [(none, 0, 0)], S2 := S39 } : Pm).sl.set v (eA5, en5, ec5), S2 := S40 } : Pm) with sl := ({ ({ pm7 with sl := pm7.sl ++ [(none, 0, 0)], S2 := S39 } : Pm) with sl := ({ pm7 with sl := pm7.sl ++ [(none, 0, 0)], S2 := S39 } : Pm).sl.set v (eA5, en5, ec5), S2 := S40 } : Pm).sl.set u (dA5, dn5, dc5), S2 := S41 } : Pm)) [], kidsI ({ ({ ({ pm7 with sl := pm7.sl ++ [(none, 0, 0)], S2 := S39 } : Pm) with sl := ({ pm7 with sl := pm7.sl ++ [(none, 0, 0)], S2 := S39 } : Pm).sl.set v (eA5, en5, ec5), S2 := S40 } : Pm) with sl := ({ ({ pm7 with sl := pm7.sl ++ [(none, 0, 0)], S2 := S39 } : Pm) with sl := ({ pm7 with sl := pm7.sl ++ [(none, 0, 0)], S2 := S39 } : Pm).sl.set v (eA5, en5, ec5), S2 := S40 } : Pm).sl.set u (dA5, dn5, dc5), S2 := S41 } : Pm).S1 ({ ({ ({ pm7 with sl := pm7.sl ++ [(none, 0, 0)], S2 := S39 } : Pm) with sl := ({ pm7 with sl := pm7.sl ++ [(none, 0, 0)], S2 := S39 } : Pm).sl.set v (eA5, en5, ec5), S2 := S40 } : Pm) with sl := ({ ({ pm7 with sl := pm7.sl ++ [(none, 0, 0)], S2 := S39 } : Pm) with sl := ({ pm7 with sl := pm7.sl ++ [(none, 0, 0)], S2 := S39 } : Pm).sl.set v (eA5, en5, ec5), S2 := S40 } : Pm).sl.set u (dA5, dn5, dc5), S2 := S41 } : Pm).as (ksL T (gset (gset (gop1 g [] none) v (less b a) (some g.ops.length)) u (less a b) (some g.ops.length))), bankI 80 (R ++ [bx1]) (rwC (R ++ [bx1]) (gset (gset (gop1 g [] none) v (less b a) (some g.ops.length)) u (less a b) (some g.ops.length)) ({ ({ ({ pm7 with sl := pm7.sl ++ [(none, 0, 0)], S2 := S39 } : Pm) with sl := ({ pm7 with sl := pm7.sl ++ [(none, 0, 0)], S2 := S39 } : Pm).sl.set v (eA5, en5, ec5), S2 := S40 } : Pm) with sl := ({ ({ pm7 with sl := pm7.sl ++ [(none, 0, 0)], S2 := S39 } : Pm) with sl := ({ pm7 with sl := pm7.sl ++ [(none, 0, 0)], S2 := S39 } : Pm).sl.set v (eA5, en5, ec5), S2 := S40 } : Pm).sl.set u (dA5, dn5, dc5), S2 := S41 } : Pm)) [0], rowsI ({ ({ ({ pm7 with sl := pm7.sl ++ [(none, 0, 0)], S2 := S39 } : Pm) with sl := ({ pm7 with sl := pm7.sl ++ [(none, 0, 0)], S2 := S39 } : Pm).sl.set v (eA5, en5, ec5), S2 := S40 } : Pm) with sl := ({ ({ pm7 with sl := pm7.sl ++ [(none, 0, 0)], S2 := S39 } : Pm) with sl := ({ pm7 with sl := pm7.sl ++ [(none, 0, 0)], S2 := S39 } : Pm).sl.set v (eA5, en5, ec5), S2 := S40 } : Pm).sl.set u (dA5, dn5, dc5), S2 := S41 } : Pm).S2 ({ ({ ({ pm7 with sl := pm7.sl ++ [(none, 0, 0)], S2 := S39 } : Pm) with sl := ({ pm7 with sl := pm7.sl ++ [(none, 0, 0)], S2 := S39 } : Pm).sl.set v (eA5, en5, ec5), S2 := S40 } : Pm) with sl := ({ ({ pm7 with sl := pm7.sl ++ [(none, 0, 0)], S2 := S39 } : Pm) with sl := ({ pm7 with sl := pm7.sl ++ [(none, 0, 0)], S2 := S39 } : Pm).sl.set v (eA5, en5, ec5), S2 := S40 } : Pm).sl.set u (dA5, dn5, dc5), S2 := S41 } : Pm).sl (gset (gset (gop1 g [] none) v (less b a) (some g.ops.length)) u (less a b) (some g.ops.length)).ops, strI S34 wA9 a, strI S36 wA10 b]) [2, 2, 0, 0, 0, 0] (by kernel_rfl)
  refine Sx.rt 9 [] H57 (.bool true) ?_
  obtain ⟨S42, H58⟩ := P_close H57 [0, 0, 0, 0] (Z := Z) (T := T) (R := (R ++ [bx1])) (g := (gset (gset (gop1 g [] none) v (less b a) (some g.ops.length)) u (less a b) (some g.ops.length))) ({ ({ ({ pm7 with sl := pm7.sl ++ [(none, 0, 0)], S2 := S39 } : Pm) with sl := ({ pm7 with sl := pm7.sl ++ [(none, 0, 0)], S2 := S39 } : Pm).sl.set v (eA5, en5, ec5), S2 := S40 } : Pm) with sl := ({ ({ pm7 with sl := pm7.sl ++ [(none, 0, 0)], S2 := S39 } : Pm) with sl := ({ pm7 with sl := pm7.sl ++ [(none, 0, 0)], S2 := S39 } : Pm).sl.set v (eA5, en5, ec5), S2 := S40 } : Pm).sl.set u (dA5, dn5, dc5), S2 := S41 } : Pm) hm5 hzpm7 (by kernel_rfl)
  subst hL0
  exact (hK S42 (R ++ [bx1]) _ (H58.pick (a := [PI S42 Z T (R ++ [bx1]) (gset (gset (gop1 g [] none) v (less b a) (some g.ops.length)) u (less a b) (some g.ops.length))]) [0] (by kernel_rfl)) (Pre.app R bx1))
end Go.Proofs.Ytfkkocjheeoobaa
set_option linter.unusedVariables false
set_option linter.unusedSimpArgs false
namespace Go.Slv
open Go.RowKit Go.Sx Go.Inf Go.Gx
def kidsN (g : G) (n : Nat) : List Nat := ((g.a[n]?).getD none).toList ++ ((g.b[n]?).getD none).toList
/-- Parts, one after the other. -/
def argsX (k : Nat) (g : G) : List (Nat × Nat) → Option (G × Bool)
  | [] => some (g, true)
  | (p, q) :: r => match sameX true k g p q with
    | some (g, true) => argsX k g r
    | some (g, false) => some (g, false)
    | none => none
/-- What stays. -/
structure Kept (g g' : G) : Prop where
  kind : g'.kind = g.kind
  a : g'.a = g.a
  b : g'.b = g.b
  row : g'.row = g.row
theorem Kept.refl (g : G) : Kept g g := ⟨rfl, rfl, rfl, rfl⟩
theorem Kept.trans {g g1 g2 : G} (h : Kept g g1) (k : Kept g1 g2) : Kept g g2 := ⟨k.kind.trans h.kind, k.a.trans h.a, k.b.trans h.b, k.row.trans h.row⟩
theorem sameRow_kept {k r s : Nat} {g g' : G} {t : Bool} (h : sameRow k g r s = some (g', t)) : Kept g g' := by
  obtain ⟨a, v, b, u, _, _, h1, h2, h3, h4, h5⟩ := sameRow_cases h
  simp only [stands_set] at h3 h4 h5
  by_cases e1 : v = u
  · rw [(h1 e1).1]; exact .refl _
  · cases e2 : srB v u (less a b) (less b a) with
    | true => rw [(h2 e1 e2).1]; exact .refl _
    | false =>
      by_cases e3 : v = 0
      · rw [← (h3 e1 e2 e3).1]; exact ⟨rfl, rfl, rfl, rfl⟩
      · by_cases e4 : u = 0
        · rw [← (h4 e1 e2 e3 e4).1]; exact ⟨rfl, rfl, rfl, rfl⟩
        · obtain ⟨g1, x, ho, hg, _⟩ := h5 e1 e2 e3 e4
          obtain ⟨_, rfl, _⟩ := opn_op1 ho
          rw [← hg]; exact ⟨rfl, rfl, rfl, rfl⟩
theorem rwX_cases {k km m n : Nat} {g g' : G} {t : Bool} (h : rwX k g km m n = some (g', t)) : (km ≠ 6 ∧ g = g' ∧ true = t) ∨ (km = 6 ∧ ∃ r s, g.row[m]? = some r ∧ g.row[n]? = some s ∧ sameRow k g r s = some (g', t)) := by
  unfold rwX at h
  split at h
  · rename_i e
    split at h <;> try contradiction
    rename_i r s hr hs
    exact .inr ⟨e, r, s, hr, hs, h⟩
  · rename_i e; cases h; exact .inl ⟨e, rfl, rfl⟩
theorem lkX_true (g : G) (m n : Nat) : lkX true g m n = lnk0 g n m := lnk_eq g n m
theorem sameX_kept : ∀ {k m n : Nat} {g g' : G} {t : Bool}, sameX true k g m n = some (g', t) → Kept g g'
  | 0, _, _, _, _, _, h => by cases h
  | k + 1, m, n, g, g', t, h => by
    unfold sameX at h
    split at h <;> try contradiction
    split at h
    · cases h; exact .refl _
    split at h <;> try contradiction
    split at h
    · cases h; rw [lnk_eq]; exact ⟨rfl, rfl, rfl, rfl⟩
    split at h
    · cases h; rw [lnk_eq]; exact ⟨rfl, rfl, rfl, rfl⟩
    split at h
    · cases h; exact .refl _
    simp only [lkX_true] at h
    have hl : ∀ m n, Kept g (lnk0 g m n) := fun _ _ => ⟨rfl, rfl, rfl, rfl⟩
    have hA : ∀ {g0 g1 : G} {x y : Option (Option Nat)} {t1 : Bool}, argX (sameX true k) g0 x y = some (g1, t1) → Kept g0 g1 := fun {g0 g1 x y t1} h => by
      unfold argX at h
      split at h <;> try contradiction
      · cases h; exact .refl _
      · exact sameX_kept h
    split at h <;> try contradiction
    · rename_i h1; cases h; exact (hl _ _).trans (hA h1)
    · rename_i g1 h1
      split at h <;> try contradiction
      · rename_i h2; cases h; exact ((hl _ _).trans (hA h1)).trans (hA h2)
      · rename_i g2 h2
        refine ((hl _ _).trans (hA h1)).trans ((hA h2).trans ?_)
        rcases rwX_cases h with ⟨_, rfl, _⟩ | ⟨_, r, s, _, _, h3⟩
        · exact .refl _
        · exact sameRow_kept h3
theorem argX_none (f : G → Nat → Nat → Option (G × Bool)) (g : G) (y : Option (Option Nat)) : argX f g (some none) y = some (g, true) := rfl
theorem argX_some (f : G → Nat → Nat → Option (G × Bool)) (g : G) (p q : Nat) : argX f g (some (some p)) (some (some q)) = f g p q := rfl
/-- What one goes on with. -/
def SXR (k : Nat) (g : G) (m n km : Nat) (g' : G) (t : Bool) : Prop := ∃ gr tr, argsX k (lnk0 g n m) ((kidsN g m).zip (kidsN g n)) = some (gr, tr) ∧ (tr = false → gr = g' ∧ false = t) ∧ (tr = true → rwX k gr km m n = some (g', t))
theorem sameX_cases {k m n : Nat} {g g' : G} {t : Bool} {T R : List Nat} {pm : Pm} (hP : PR T R g pm) (h : sameX true (k + 1) g m n = some (g', t)) : ∃ m1 n1, find k g m = some m1 ∧ find k g n = some n1 ∧
    ((m1 = n1 ∧ g = g' ∧ true = t) ∨ (m1 ≠ n1 ∧ ∃ km kn, g.kind[m1]? = some km ∧ g.kind[n1]? = some kn ∧ ((km = 0 ∧ lnk0 g m1 n1 = g' ∧ true = t) ∨ (km ≠ 0 ∧ kn = 0 ∧ lnk0 g n1 m1 = g' ∧ true = t) ∨ (km ≠ 0 ∧ kn ≠ 0 ∧ km ≠ kn ∧ g = g' ∧ false = t) ∨ (km ≠ 0 ∧ km = kn ∧ km ≠ 6 ∧ SXR k g m1 n1 km g' t) ∨ (km = 6 ∧ kn = 6 ∧ SXR k g m1 n1 km g' t)))) := by
  unfold sameX at h
  split at h <;> try contradiction
  rename_i m1 n1 hm hn
  refine ⟨m1, n1, hm, hn, ?_⟩
  split at h
  · rename_i e; cases h; exact .inl ⟨e, rfl, rfl⟩
  rename_i e
  refine .inr ⟨e, ?_⟩
  split at h <;> try contradiction
  rename_i km kn hkm hkn
  refine ⟨km, kn, hkm, hkn, ?_⟩
  split at h
  · rename_i e1; cases h; rw [lnk_eq]; exact .inl ⟨e1, rfl, rfl⟩
  rename_i e1
  split at h
  · rename_i e2; cases h; rw [lnk_eq]; exact .inr (.inl ⟨e1, e2, rfl, rfl⟩)
  rename_i e2
  split at h
  · rename_i e3; cases h; exact .inr (.inr (.inl ⟨e1, e2, e3, rfl, rfl⟩))
  rename_i e3
  have e3 : km = kn := Classical.not_not.1 e3
  subst e3
  simp only [lkX_true] at h
  have key : SXR k g m1 n1 km g' t := by
    unfold SXR kidsN
    rcases hP.ar m1 km hkm with ⟨q4, q5, q6, ha, hb⟩ | ⟨rfl, p, ha, hb⟩ | ⟨q, p, p', ha, hb⟩
    · simp only [ha, hb, argX_none] at h
      rw [ha, hb]
      exact ⟨lnk0 g n1 m1, true, rfl, fun e => (by cases e), fun _ => h⟩
    · rcases hP.ar n1 4 hkn with ⟨q4, _⟩ | ⟨_, r, ha2, hb2⟩ | ⟨q, _⟩
      · exact absurd rfl q4
      · simp only [ha, ha2, argX_some] at h
        split at h <;> try contradiction
        · rename_i g2 h2; cases h
          exact ⟨g', false, by simp [ha, hb, ha2, hb2, argsX, h2], fun _ => ⟨rfl, rfl⟩, fun e => by cases e⟩
        · rename_i g2 h2
          have hk := (sameX_kept h2).b
          change g2.b = g.b at hk
          simp only [hk, hb, argX_none] at h
          exact ⟨g2, true, by simp [ha, hb, ha2, hb2, argsX, h2], fun e => (by cases e), fun _ => h⟩
      · omega
    · rcases hP.ar n1 km hkn with ⟨_, q5, q6, _⟩ | ⟨q4, _⟩ | ⟨_, r, r', ha2, hb2⟩
      · omega
      · omega
      · simp only [ha, ha2, argX_some] at h
        split at h <;> try contradiction
        · rename_i g2 h2; cases h
          exact ⟨g', false, by simp [ha, hb, ha2, hb2, argsX, h2], fun _ => ⟨rfl, rfl⟩, fun e => by cases e⟩
        · rename_i g2 h2
          have hk := (sameX_kept h2).b
          change g2.b = g.b at hk
          simp only [hk, hb, hb2, argX_some] at h
          split at h <;> try contradiction
          · rename_i g3 h3; cases h
            exact ⟨g', false, by simp [ha, hb, ha2, hb2, argsX, h2, h3], fun _ => ⟨rfl, rfl⟩, fun e => by cases e⟩
          · rename_i g3 h3
            exact ⟨g3, true, by simp [ha, hb, ha2, hb2, argsX, h2, h3], fun e => (by cases e), fun _ => h⟩
  by_cases q : km = 6
  · exact .inr (.inr (.inr (.inr ⟨q, q, key⟩)))
  · exact .inr (.inr (.inr (.inl ⟨e1, rfl, q, key⟩)))
theorem argsX_step {k i : Nat} {g gr : G} {tr : Bool} {K1 K2 : List Nat} (h : argsX k g ((K1.zip K2).drop i) = some (gr, tr)) (hi : i < K1.length) (hl : K1.length = K2.length) : ∃ p q g2 t2, K1[i]? = some p ∧ K2[i]? = some q ∧ sameX true k g p q = some (g2, t2) ∧ (t2 = false → g2 = gr ∧ false = tr) ∧ (t2 = true → argsX k g2 ((K1.zip K2).drop (i + 1)) = some (gr, tr)) := by
  have hz : i < (K1.zip K2).length := by rw [List.length_zip]; omega
  rw [List.drop_eq_getElem_cons hz, List.getElem_zip] at h
  unfold argsX at h
  refine ⟨K1[i], K2[i], ?_⟩
  split at h <;> try contradiction
  · rename_i g2 h2; exact ⟨g2, true, by simp, by simp [← hl, hi], h2, fun e => (by cases e), fun _ => h⟩
  · rename_i g2 h2; cases h; exact ⟨_, false, by simp, by simp [← hl, hi], h2, fun _ => ⟨rfl, rfl⟩, fun e => by cases e⟩
theorem argsX_end {k i : Nat} {g gr : G} {tr : Bool} {K1 K2 : List Nat} (h : argsX k g ((K1.zip K2).drop i) = some (gr, tr)) (hi : K1.length ≤ i) : g = gr ∧ true = tr := by
  rw [List.drop_of_length_le (by rw [List.length_zip]; omega)] at h
  cases h; exact ⟨rfl, rfl⟩
theorem PR.kids_len {T R : List Nat} {g : G} {pm : Pm} (hP : PR T R g pm) {m n km : Nat} (h1 : g.kind[m]? = some km) (h2 : g.kind[n]? = some km) : (kidsN g m).length = (kidsN g n).length := by
  unfold kidsN
  rcases hP.ar m km h1 with ⟨_, _, _, ha, hb⟩ | ⟨_, _, ha, hb⟩ | ⟨_, _, _, ha, hb⟩ <;> rcases hP.ar n km h2 with ⟨_, _, _, ha2, hb2⟩ | ⟨_, _, ha2, hb2⟩ | ⟨_, _, _, ha2, hb2⟩ <;> rw [ha, hb, ha2, hb2] <;> first | rfl | omega
theorem PR.kid {T R : List Nat} {g : G} {pm : Pm} (hP : PR T R g pm) {n i p : Nat} (h : (kidsN g n)[i]? = some p) : ∃ b, T[p]? = some b := by
  have hm : p ∈ kidsN g n := List.mem_of_getElem? h
  have : p < g.kind.length := by
    unfold kidsN at hm
    rcases List.mem_append.1 hm with q | q
    · cases ha : g.a[n]? with
      | none => simp [ha] at q
      | some o => cases o with
        | none => simp [ha] at q
        | some z => simp [ha] at q; subst q; exact hP.ka n _ (.inl ha)
    · cases ha : g.b[n]? with
      | none => simp [ha] at q
      | some o => cases o with
        | none => simp [ha] at q
        | some z => simp [ha] at q; subst q; exact hP.ka n _ (.inr ha)
  exact tb (by rw [hP.lT]; exact this)
theorem kid_at {w : World} {S : Nat → Prop} {sa : List Slot} {T : List Nat} {g : G} (h0 : (kidsI S sa (ksL T g)).holds w) {n na ca : Nat} {A : Option Addr} (has : sa[n]? = some (A, na, ca)) (hn : n < g.kind.length) {i p b : Nat} (hp : (kidsN g n)[i]? = some p) (hb : T[p]? = some b) :
    ∃ a, A = some a ∧ w.cells? 0 (a.add (i * 1)) 1 = some [.pointer (some ⟨b, 0, none⟩)] := by
  obtain ⟨_, h⟩ := h0.1.2 n _ (ksO T ((g.a[n]?).getD none) ((g.b[n]?).getD none)) has (by simp [ksL, hn])
  obtain ⟨a, h1, _, h2⟩ := h i b (by unfold ksO; rw [List.getElem?_map]; unfold kidsN at hp; rw [hp]; simp [hb])
  exact ⟨a, h1, h2⟩
theorem kid_one {w : World} {S : Nat → Prop} {sa : List Slot} {T : List Nat} {g : G} (h0 : (kidsI S sa (ksL T g)).holds w) {n na ca : Nat} {A : Option Addr} (has : sa[n]? = some (A, na, ca)) (hn : n < g.kind.length) {i p b : Nat} (hp : (kidsN g n)[i]? = some p) (hb : T[p]? = some b) {a : Addr} (ha : A = some a) :
    w.cells? 0 (a.add (i * 1)) 1 = some [.pointer (some ⟨b, 0, none⟩)] := by
  obtain ⟨a2, h1, h2⟩ := kid_at h0 has hn hp hb
  rw [ha] at h1; cases h1; exact h2
theorem ksO_len {T : List Nat} {g : G} {n : Nat} : (ksO T ((g.a[n]?).getD none) ((g.b[n]?).getD none)).length = (kidsN g n).length := by simp [ksO, kidsN]
/-- A link. -/
theorem PR.lnk {T R : List Nat} {g : G} {m : Pm} (hm : PR T R g m) {a b : Nat} (ha : En g.link a a) (hb : En g.link b b) (hne : a ≠ b) : PR T R (lnk0 g a b) { m with il := m.il.set a (some b) } := by
  refine ⟨hm.lT, hm.lR, hm.la, hm.lb, hm.lr, ?_, ?_, fun x e h => ?_, hm.al.link ha.last hb.last hne, hm.ka, hm.kr, hm.kn, hm.z, hm.lo, hm.ar⟩
  · show (g.link.set a (some b)).length = _; rw [List.length_set]; exact hm.ll
  · show (m.il.set a (some b)).length = (g.link.set a (some b)).length; rw [List.length_set, List.length_set]; exact hm.li
  · obtain ⟨d, h1, rfl⟩ := h.unlink ha.last hb.last hne
    exact (hm.en x d h1).link (hm.en a a ha).last (hm.en b b hb).last hne
theorem find_root {k n e : Nat} {g : G} (h : find k g n = some e) : En g.link e e := (find_En h).end
theorem oB_at {T : List Nat} {m : Pm} {n : Nat} : ∃ io, oB T ((m.il[n]?).getD none) = io := ⟨_, rfl⟩
end Go.Slv
namespace Go.Slv
open Go.RowKit Go.Sx Go.Inf Go.Gx
theorem kidsN_kept {g g' : G} (h : Kept g g') (n : Nat) : kidsN g' n = kidsN g n := by unfold kidsN; rw [h.a, h.b]
theorem PR.row6 {T R : List Nat} {g : G} {m : Pm} (hm : PR T R g m) {n r : Nat} (hk : g.kind[n]? = some 6) (hr : g.row[n]? = some r) : r ≠ 0 ∧ ∃ b, R[r]? = some b := by
  obtain ⟨r', h1, h2, h3⟩ := hm.kr n hk
  rw [hr] at h1; cases h1
  exact ⟨h3, tb (by rw [hm.lR]; exact h2)⟩
theorem kidsN_le (g : G) (n : Nat) : (kidsN g n).length ≤ 2 := by
  unfold kidsN
  cases (g.a[n]?).getD none <;> cases (g.b[n]?).getD none <;> simp
theorem ne0 {k : Nat} (h : k ≠ 0) : (((k : Nat) : Int) == (0 : Int)) = false := by simp; omega
theorem neK {j k : Nat} (h : j ≠ k) : (((j : Nat) : Int) != ((k : Nat) : Int)) = true := by simp; omega
theorem eqK {j : Nat} : (((j : Nat) : Int) != ((j : Nat) : Int)) = false := by simp
theorem root_T {T R : List Nat} {g : G} {m : Pm} (hm : PR T R g m) {k n e : Nat} (h : find k g n = some e) : ∃ b, T[e]? = some b := tb (by have := (find_root h).lt; rw [hm.ll, ← hm.lT] at this; exact this)
end Go.Slv
namespace Go.Slv
theorem eq6 {k : Nat} (h : k ≠ 6) : (((k : Nat) : Int) == (6 : Int)) = false := by simp; omega
end Go.Slv
set_option linter.unusedVariables false
set_option linter.unusedSimpArgs false
namespace Go.Proofs.Ytfkkocjheeoobaa
open Go.RowKit Go.Sx Go.Inf Go.Slv
attribute [local irreducible] Go.wpOps Go.Code.wp Go.wpOp Go.wpAnyH Go.Calls Go.Sx.Goal
set_option maxRecDepth 20000
set_option maxHeartbeats 16000000 in
theorem Same_p_s (k : Nat) (ih : ∀ (S : Nat → Prop) (Z : List Slot) (T R : List Nat) (g : G) (n m ba bb : Nat) (w : World) (K : Ending → World → Prop) (H0 : Sp w [PI S Z T R g]) (g' : G) (t : Bool) (hba : T[n]? = some ba) (hbb : T[m]? = some bb) (hf : sameX true k g n m = some (g', t)) (hK : ∀ (S' : Nat → Prop) (R' : List Nat) w', Hs w [PI S Z T R g] w' [PI S' Z T R' g'] → (Pre R R') → K (.returned (.bool t)) w'),
    Calls Try.prog 13 #[.pointer (some ⟨ba, 0, none⟩), .pointer (some ⟨bb, 0, none⟩)] w K) (S : Nat → Prop) (Z : List Slot) (T R : List Nat) (g : G) (n m ba bb : Nat) (w : World) (K : Ending → World → Prop) (H0 : Sp w [PI S Z T R g]) (g' : G) (t : Bool) (hba : T[n]? = some ba) (hbb : T[m]? = some bb) (hf : sameX true (k + 1) g n m = some (g', t)) (hK : ∀ (S' : Nat → Prop) (R' : List Nat) w', Hs w [PI S Z T R g] w' [PI S' Z T R' g'] → (Pre R R') → K (.returned (.bool t)) w') :
    Calls Try.prog 13 #[.pointer (some ⟨ba, 0, none⟩), .pointer (some ⟨bb, 0, none⟩)] w K := by
  obtain ⟨L0, hL0, H⟩ : ∃ L0, L0 = [PI S Z T R g] ∧ Hs w L0 w [PI S Z T R g] := ⟨_, rfl, Hs.refl H0⟩
  refine Sx.en (vs := [.pointer (some ⟨ba, 0, none⟩), .pointer (some ⟨bb, 0, none⟩)]) 89 Try.func13 ?_
  obtain ⟨_, hP, _, _⟩ := P_open H 0 (S := S) (Z := Z) (T := T) (R := R) (g := g) (by kernel_rfl)
  obtain ⟨m1, n1, hm, hn, h5⟩ := sameX_cases hP hf
  obtain ⟨be1, hbe1⟩ := root_T hP hm
  rcases h5 with ⟨hmn, rfl, rfl⟩ | ⟨hne, km, kn, hkm, hkn, ⟨rfl, rfl, rfl⟩ | ⟨hm0, rfl, rfl, rfl⟩ | ⟨hm0, hn0, hmk, rfl, rfl⟩ | ⟨hm0, rfl, h6, gr, tr, hx, hx0, hx1⟩ | ⟨rfl, rfl, gr, tr, hx, hx0, hx1⟩⟩
  · skip
    subst hmn
    refine Sx.c 8 [0] H (fun Hp1 R1 hR1 => Now_p S Z T R g n m1 ba be1 w R1 Hp1 _ hba hm hbe1 (fun S1 w1 G1 => hR1 _ _ _ G1 fun H1 => ?_))
    refine Sx.c 1 [0] H1 (fun Hp2 R2 hR2 => Now_p S1 Z T R g m m1 bb be1 w1 R2 Hp2 _ hbb hn hbe1 (fun S2 w2 G2 => hR2 _ _ _ G2 fun H2 => ?_))
    obtain ⟨pm1, hpm1, hzpm1, H3⟩ := P_open H2 0 (S := S2) (Z := Z) (T := T) (R := R) (g := g) (by kernel_rfl)
    refine Sx.peq (kt := 52) (te := 78) 10 be1 be1 true (bank_cb (H3.at 0 (it := bankI 78 T (ndC T R g pm1) []) (by kernel_rfl)) hbe1 nz0) (bank_cb (H3.at 0 (it := bankI 78 T (ndC T R g pm1) []) (by kernel_rfl)) hbe1 nz0) (decide_eq_true rfl) ?_
    refine Sx.rt 12 [] H3 (.bool true) ?_
    obtain ⟨S3, H4⟩ := P_close H3 [0, 0, 0, 0] (Z := Z) (T := T) (R := R) (g := g) pm1 hpm1 hzpm1 (by kernel_rfl)
    subst hL0
    exact hK S3 R _ (H4.pick (a := [PI S3 Z T R g]) [0] (by kernel_rfl)) (Pre.refl R)
  · skip
    obtain ⟨be2, hbe2⟩ := root_T hP hn
    refine Sx.c 8 [0] H (fun Hp3 R3 hR3 => Now_p S Z T R g n m1 ba be1 w R3 Hp3 _ hba hm hbe1 (fun S4 w3 G3 => hR3 _ _ _ G3 fun H5 => ?_))
    refine Sx.c 1 [0] H5 (fun Hp4 R4 hR4 => Now_p S4 Z T R g m n1 bb be2 w3 R4 Hp4 _ hbb hn hbe2 (fun S5 w4 G4 => hR4 _ _ _ G4 fun H6 => ?_))
    obtain ⟨pm2, hpm2, hzpm2, H7⟩ := P_open H6 0 (S := S5) (Z := Z) (T := T) (R := R) (g := g) (by kernel_rfl)
    refine Sx.peq (kt := 52) (te := 78) 10 be1 be2 false (bank_cb (H7.at 0 (it := bankI 78 T (ndC T R g pm2) []) (by kernel_rfl)) hbe1 nz0) (bank_cb (H7.at 0 (it := bankI 78 T (ndC T R g pm2) []) (by kernel_rfl)) hbe2 nz0) (bank_ne (H7.at 0 (it := bankI 78 T (ndC T R g pm2) []) (by kernel_rfl)) hbe1 hbe2 nz0 nz0 hne) ?_
    obtain ⟨io1, hio1⟩ := oB_at (T := T) (m := pm2) (n := m1)
    obtain ⟨rb1, hrb1⟩ : ∃ rb, rowB R g m1 = rb := ⟨_, rfl⟩
    have hnl1 := (List.getElem?_eq_some_iff.1 hkm).1
    obtain ⟨nA1, nn1, nc1, has1, hna1⟩ := P_nd hpm2 (H7.at 1 (by kernel_rfl)) (n := m1) hnl1
    have H8 := bank_take (ty := 78) (T := T) (C := (ndC T R g pm2)) (hs := []) H7 0 (by kernel_rfl) (n := m1) (b := be1) hbe1 nz0 (ndC_eq hkm has1 (rb := rb1) hrb1 (io := io1) hio1)
    obtain ⟨io2, hio2⟩ := oB_at (T := T) (m := pm2) (n := n1)
    obtain ⟨rb2, hrb2⟩ : ∃ rb, rowB R g n1 = rb := ⟨_, rfl⟩
    have hnl2 := (List.getElem?_eq_some_iff.1 hkn).1
    obtain ⟨nA2, nn2, nc2, has2, hna2⟩ := P_nd hpm2 (H8.at 2 (by kernel_rfl)) (n := n1) hnl2
    have H9 := bank_take (ty := 78) (T := T) (C := (ndC T R g pm2)) (hs := [m1]) H8 1 (by kernel_rfl) (n := n1) (b := be2) hbe2 (nz1 (Ne.symm hne)) (ndC_eq hkn has2 (rb := rb2) hrb2 (io := io2) hio2)
    refine Sx.l 9 2 H9 ?_
    refine Sx.v 0 (.bool (((0 : Nat) : Int) == (0 : Int))) (.bool true) (rfl) ?_
    refine Sx.s 10 2 H9 fun w5 H10 => ?_
    refine Sx.rt 10 [] H10 (.bool true) ?_
    have hm1 : PR T R (lnk0 g m1 n1) ({ pm2 with il := pm2.il.set m1 (some n1) } : Pm) := hpm2.lnk (find_root hm) (find_root hn) hne
    have hil1 := (hpm2.en _ _ (find_root hm)).lt
    have H11 := bank_put (ty := 78) (T := T) (C := (ndC T R g pm2)) (C' := (ndC T R g pm2)) (hs := [m1]) H10 [0, 0] (by kernel_rfl) (n := n1) (b := be2) hbe2 (nz1 (Ne.symm hne)) (ndC_eq hkn has2 (rb := rb2) hrb2 (io := io2) hio2) (fun _ _ _ => rfl)
    have H12 := bank_put (ty := 78) (T := T) (C := (ndC T R g pm2)) (C' := (ndC T R (lnk0 g m1 n1) ({ pm2 with il := pm2.il.set m1 (some n1) } : Pm))) (hs := []) H11 [1, 0] (by kernel_rfl) (n := m1) (b := be1) hbe1 nz0 (ndC_eq hkm has1 (rb := rb1) hrb1 (io := some be2) (il_set hil1 hbe2)) (fun i hi _ => ndC_il hi)
    have H13 := H12.pick (a := [bankI 78 T (ndC T R (lnk0 g m1 n1) ({ pm2 with il := pm2.il.set m1 (some n1) } : Pm)) [], kidsI ({ pm2 with il := pm2.il.set m1 (some n1) } : Pm).S1 ({ pm2 with il := pm2.il.set m1 (some n1) } : Pm).as (ksL T (lnk0 g m1 n1)), bankI 80 R (rwC R (lnk0 g m1 n1) ({ pm2 with il := pm2.il.set m1 (some n1) } : Pm)) [0], rowsI ({ pm2 with il := pm2.il.set m1 (some n1) } : Pm).S2 ({ pm2 with il := pm2.il.set m1 (some n1) } : Pm).sl (lnk0 g m1 n1).ops]) [0, 0, 0, 0] (by kernel_rfl)
    obtain ⟨S6, H14⟩ := P_close H13 [0, 0, 0, 0] (Z := Z) (T := T) (R := R) (g := (lnk0 g m1 n1)) ({ pm2 with il := pm2.il.set m1 (some n1) } : Pm) hm1 hzpm2 (by kernel_rfl)
    subst hL0
    exact hK S6 R _ (H14.pick (a := [PI S6 Z T R (lnk0 g m1 n1)]) [0] (by kernel_rfl)) (Pre.refl R)
  · skip
    obtain ⟨be2, hbe2⟩ := root_T hP hn
    refine Sx.c 8 [0] H (fun Hp5 R5 hR5 => Now_p S Z T R g n m1 ba be1 w R5 Hp5 _ hba hm hbe1 (fun S7 w6 G5 => hR5 _ _ _ G5 fun H15 => ?_))
    refine Sx.c 1 [0] H15 (fun Hp6 R6 hR6 => Now_p S7 Z T R g m n1 bb be2 w6 R6 Hp6 _ hbb hn hbe2 (fun S8 w7 G6 => hR6 _ _ _ G6 fun H16 => ?_))
    obtain ⟨pm3, hpm3, hzpm3, H17⟩ := P_open H16 0 (S := S8) (Z := Z) (T := T) (R := R) (g := g) (by kernel_rfl)
    refine Sx.peq (kt := 52) (te := 78) 10 be1 be2 false (bank_cb (H17.at 0 (it := bankI 78 T (ndC T R g pm3) []) (by kernel_rfl)) hbe1 nz0) (bank_cb (H17.at 0 (it := bankI 78 T (ndC T R g pm3) []) (by kernel_rfl)) hbe2 nz0) (bank_ne (H17.at 0 (it := bankI 78 T (ndC T R g pm3) []) (by kernel_rfl)) hbe1 hbe2 nz0 nz0 hne) ?_
    obtain ⟨io3, hio3⟩ := oB_at (T := T) (m := pm3) (n := m1)
    obtain ⟨rb3, hrb3⟩ : ∃ rb, rowB R g m1 = rb := ⟨_, rfl⟩
    have hnl3 := (List.getElem?_eq_some_iff.1 hkm).1
    obtain ⟨nA3, nn3, nc3, has3, hna3⟩ := P_nd hpm3 (H17.at 1 (by kernel_rfl)) (n := m1) hnl3
    have H18 := bank_take (ty := 78) (T := T) (C := (ndC T R g pm3)) (hs := []) H17 0 (by kernel_rfl) (n := m1) (b := be1) hbe1 nz0 (ndC_eq hkm has3 (rb := rb3) hrb3 (io := io3) hio3)
    obtain ⟨io4, hio4⟩ := oB_at (T := T) (m := pm3) (n := n1)
    obtain ⟨rb4, hrb4⟩ : ∃ rb, rowB R g n1 = rb := ⟨_, rfl⟩
    have hnl4 := (List.getElem?_eq_some_iff.1 hkn).1
    obtain ⟨nA4, nn4, nc4, has4, hna4⟩ := P_nd hpm3 (H18.at 2 (by kernel_rfl)) (n := n1) hnl4
    have H19 := bank_take (ty := 78) (T := T) (C := (ndC T R g pm3)) (hs := [m1]) H18 1 (by kernel_rfl) (n := n1) (b := be2) hbe2 (nz1 (Ne.symm hne)) (ndC_eq hkn has4 (rb := rb4) hrb4 (io := io4) hio4)
    refine Sx.l 9 2 H19 ?_
    refine Sx.v 0 (.bool (((km : Nat) : Int) == (0 : Int))) (.bool false) (congrArg Value.bool (ne0 hm0)) ?_
    refine Sx.l 9 0 H19 ?_
    refine Sx.v 0 (.bool (((0 : Nat) : Int) == (0 : Int))) (.bool true) (rfl) ?_
    refine Sx.s 10 0 H19 fun w8 H20 => ?_
    refine Sx.rt 10 [] H20 (.bool true) ?_
    have hm2 : PR T R (lnk0 g n1 m1) ({ pm3 with il := pm3.il.set n1 (some m1) } : Pm) := hpm3.lnk (find_root hn) (find_root hm) (Ne.symm hne)
    have hil2 := (hpm3.en _ _ (find_root hn)).lt
    have H21 := bank_put (ty := 78) (T := T) (C := (ndC T R g pm3)) (C' := (ndC T R (lnk0 g n1 m1) ({ pm3 with il := pm3.il.set n1 (some m1) } : Pm))) (hs := [m1]) H20 [0, 0] (by kernel_rfl) (n := n1) (b := be2) hbe2 (nz1 (Ne.symm hne)) (ndC_eq hkn has4 (rb := rb4) hrb4 (io := some be1) (il_set hil2 hbe1)) (fun i hi _ => ndC_il hi)
    have H22 := bank_put (ty := 78) (T := T) (C := (ndC T R (lnk0 g n1 m1) ({ pm3 with il := pm3.il.set n1 (some m1) } : Pm))) (C' := (ndC T R (lnk0 g n1 m1) ({ pm3 with il := pm3.il.set n1 (some m1) } : Pm))) (hs := []) H21 [1, 0] (by kernel_rfl) (n := m1) (b := be1) hbe1 nz0 ((ndC_il hne).trans (ndC_eq hkm has3 (rb := rb3) hrb3 (io := io3) hio3)) (fun _ _ _ => rfl)
    have H23 := H22.pick (a := [bankI 78 T (ndC T R (lnk0 g n1 m1) ({ pm3 with il := pm3.il.set n1 (some m1) } : Pm)) [], kidsI ({ pm3 with il := pm3.il.set n1 (some m1) } : Pm).S1 ({ pm3 with il := pm3.il.set n1 (some m1) } : Pm).as (ksL T (lnk0 g n1 m1)), bankI 80 R (rwC R (lnk0 g n1 m1) ({ pm3 with il := pm3.il.set n1 (some m1) } : Pm)) [0], rowsI ({ pm3 with il := pm3.il.set n1 (some m1) } : Pm).S2 ({ pm3 with il := pm3.il.set n1 (some m1) } : Pm).sl (lnk0 g n1 m1).ops]) [0, 0, 0, 0] (by kernel_rfl)
    obtain ⟨S9, H24⟩ := P_close H23 [0, 0, 0, 0] (Z := Z) (T := T) (R := R) (g := (lnk0 g n1 m1)) ({ pm3 with il := pm3.il.set n1 (some m1) } : Pm) hm2 hzpm3 (by kernel_rfl)
    subst hL0
    exact hK S9 R _ (H24.pick (a := [PI S9 Z T R (lnk0 g n1 m1)]) [0] (by kernel_rfl)) (Pre.refl R)
  · skip
    obtain ⟨be2, hbe2⟩ := root_T hP hn
    refine Sx.c 8 [0] H (fun Hp7 R7 hR7 => Now_p S Z T R g n m1 ba be1 w R7 Hp7 _ hba hm hbe1 (fun S10 w9 G7 => hR7 _ _ _ G7 fun H25 => ?_))
    refine Sx.c 1 [0] H25 (fun Hp8 R8 hR8 => Now_p S10 Z T R g m n1 bb be2 w9 R8 Hp8 _ hbb hn hbe2 (fun S11 w10 G8 => hR8 _ _ _ G8 fun H26 => ?_))
    obtain ⟨pm4, hpm4, hzpm4, H27⟩ := P_open H26 0 (S := S11) (Z := Z) (T := T) (R := R) (g := g) (by kernel_rfl)
    refine Sx.peq (kt := 52) (te := 78) 10 be1 be2 false (bank_cb (H27.at 0 (it := bankI 78 T (ndC T R g pm4) []) (by kernel_rfl)) hbe1 nz0) (bank_cb (H27.at 0 (it := bankI 78 T (ndC T R g pm4) []) (by kernel_rfl)) hbe2 nz0) (bank_ne (H27.at 0 (it := bankI 78 T (ndC T R g pm4) []) (by kernel_rfl)) hbe1 hbe2 nz0 nz0 hne) ?_
    obtain ⟨io5, hio5⟩ := oB_at (T := T) (m := pm4) (n := m1)
    obtain ⟨rb5, hrb5⟩ : ∃ rb, rowB R g m1 = rb := ⟨_, rfl⟩
    have hnl5 := (List.getElem?_eq_some_iff.1 hkm).1
    obtain ⟨nA5, nn5, nc5, has5, hna5⟩ := P_nd hpm4 (H27.at 1 (by kernel_rfl)) (n := m1) hnl5
    have H28 := bank_take (ty := 78) (T := T) (C := (ndC T R g pm4)) (hs := []) H27 0 (by kernel_rfl) (n := m1) (b := be1) hbe1 nz0 (ndC_eq hkm has5 (rb := rb5) hrb5 (io := io5) hio5)
    obtain ⟨io6, hio6⟩ := oB_at (T := T) (m := pm4) (n := n1)
    obtain ⟨rb6, hrb6⟩ : ∃ rb, rowB R g n1 = rb := ⟨_, rfl⟩
    have hnl6 := (List.getElem?_eq_some_iff.1 hkn).1
    obtain ⟨nA6, nn6, nc6, has6, hna6⟩ := P_nd hpm4 (H28.at 2 (by kernel_rfl)) (n := n1) hnl6
    have H29 := bank_take (ty := 78) (T := T) (C := (ndC T R g pm4)) (hs := [m1]) H28 1 (by kernel_rfl) (n := n1) (b := be2) hbe2 (nz1 (Ne.symm hne)) (ndC_eq hkn has6 (rb := rb6) hrb6 (io := io6) hio6)
    refine Sx.l 9 2 H29 ?_
    refine Sx.v 0 (.bool (((km : Nat) : Int) == (0 : Int))) (.bool false) (congrArg Value.bool (ne0 hm0)) ?_
    refine Sx.l 9 0 H29 ?_
    refine Sx.v 0 (.bool (((kn : Nat) : Int) == (0 : Int))) (.bool false) (congrArg Value.bool (ne0 hn0)) ?_
    refine Sx.dr 5 H29 [2, 0] [] (LJ := [.blk be1 (.cells #[.int .i64 ((km : Nat) : Int), .slice nA5 nn5 nc5, pB rb5, pB io5] 78), .blk be2 (.cells #[.int .i64 ((kn : Nat) : Int), .slice nA6 nn6 nc6, pB rb6, pB io6] 78)]) (by kernel_rfl) fun w11 H30 => ?_
    refine Sx.tk [(0, none), (1, none), (2, none), (3, some (0, [])), (4, none), (5, none), (6, none), (7, some (1, []))] (fun _ => (H30.sub [2, 0] (by kernel_rfl))) ?_
    refine Sx.tva 8 [] (.bool (((km : Nat) : Int) != ((kn : Nat) : Int))) (.bool true) (congrArg Value.bool (neK hmk)) (fun _ => (H30.sub [2, 0] (by kernel_rfl))) ?_
    refine Sx.tk [(9, none)] (fun _ => (H30.sub [2, 0] (by kernel_rfl))) ?_
    refine Sx.dn ?_
    refine Sx.rt 10 [] H30 (.bool false) ?_
    have H31 := bank_put (ty := 78) (T := T) (C := (ndC T R g pm4)) (C' := (ndC T R g pm4)) (hs := [m1]) H30 [0, 0] (by kernel_rfl) (n := n1) (b := be2) hbe2 (nz1 (Ne.symm hne)) (ndC_eq hkn has6 (rb := rb6) hrb6 (io := io6) hio6) (fun _ _ _ => rfl)
    have H32 := bank_put (ty := 78) (T := T) (C := (ndC T R g pm4)) (C' := (ndC T R g pm4)) (hs := []) H31 [1, 0] (by kernel_rfl) (n := m1) (b := be1) hbe1 nz0 (ndC_eq hkm has5 (rb := rb5) hrb5 (io := io5) hio5) (fun _ _ _ => rfl)
    obtain ⟨S12, H33⟩ := P_close H32 [0, 0, 0, 0] (Z := Z) (T := T) (R := R) (g := g) pm4 hpm4 hzpm4 (by kernel_rfl)
    subst hL0
    exact hK S12 R _ (H33.pick (a := [PI S12 Z T R g]) [0] (by kernel_rfl)) (Pre.refl R)
  · skip
    obtain ⟨be2, hbe2⟩ := root_T hP hn
    refine Sx.c 8 [0] H (fun Hp9 R9 hR9 => Now_p S Z T R g n m1 ba be1 w R9 Hp9 _ hba hm hbe1 (fun S13 w12 G9 => hR9 _ _ _ G9 fun H34 => ?_))
    refine Sx.c 1 [0] H34 (fun Hp10 R10 hR10 => Now_p S13 Z T R g m n1 bb be2 w12 R10 Hp10 _ hbb hn hbe2 (fun S14 w13 G10 => hR10 _ _ _ G10 fun H35 => ?_))
    obtain ⟨pm5, hpm5, hzpm5, H36⟩ := P_open H35 0 (S := S14) (Z := Z) (T := T) (R := R) (g := g) (by kernel_rfl)
    refine Sx.peq (kt := 52) (te := 78) 10 be1 be2 false (bank_cb (H36.at 0 (it := bankI 78 T (ndC T R g pm5) []) (by kernel_rfl)) hbe1 nz0) (bank_cb (H36.at 0 (it := bankI 78 T (ndC T R g pm5) []) (by kernel_rfl)) hbe2 nz0) (bank_ne (H36.at 0 (it := bankI 78 T (ndC T R g pm5) []) (by kernel_rfl)) hbe1 hbe2 nz0 nz0 hne) ?_
    obtain ⟨io7, hio7⟩ := oB_at (T := T) (m := pm5) (n := m1)
    obtain ⟨rb7, hrb7⟩ : ∃ rb, rowB R g m1 = rb := ⟨_, rfl⟩
    have hnl7 := (List.getElem?_eq_some_iff.1 hkm).1
    obtain ⟨nA7, nn7, nc7, has7, hna7⟩ := P_nd hpm5 (H36.at 1 (by kernel_rfl)) (n := m1) hnl7
    have H37 := bank_take (ty := 78) (T := T) (C := (ndC T R g pm5)) (hs := []) H36 0 (by kernel_rfl) (n := m1) (b := be1) hbe1 nz0 (ndC_eq hkm has7 (rb := rb7) hrb7 (io := io7) hio7)
    obtain ⟨io8, hio8⟩ := oB_at (T := T) (m := pm5) (n := n1)
    obtain ⟨rb8, hrb8⟩ : ∃ rb, rowB R g n1 = rb := ⟨_, rfl⟩
    have hnl8 := (List.getElem?_eq_some_iff.1 hkn).1
    obtain ⟨nA8, nn8, nc8, has8, hna8⟩ := P_nd hpm5 (H37.at 2 (by kernel_rfl)) (n := n1) hnl8
    have H38 := bank_take (ty := 78) (T := T) (C := (ndC T R g pm5)) (hs := [m1]) H37 1 (by kernel_rfl) (n := n1) (b := be2) hbe2 (nz1 (Ne.symm hne)) (ndC_eq hkn has8 (rb := rb8) hrb8 (io := io8) hio8)
    refine Sx.l 9 2 H38 ?_
    refine Sx.v 0 (.bool (((km : Nat) : Int) == (0 : Int))) (.bool false) (congrArg Value.bool (ne0 hm0)) ?_
    refine Sx.l 9 0 H38 ?_
    refine Sx.v 0 (.bool (((km : Nat) : Int) == (0 : Int))) (.bool false) (congrArg Value.bool (ne0 hm0)) ?_
    refine Sx.dr 5 H38 [2, 0] [] (LJ := [.blk be1 (.cells #[.int .i64 ((km : Nat) : Int), .slice nA7 nn7 nc7, pB rb7, pB io7] 78), .blk be2 (.cells #[.int .i64 ((km : Nat) : Int), .slice nA8 nn8 nc8, pB rb8, pB io8] 78)]) (by kernel_rfl) fun w14 H39 => ?_
    refine Sx.tk [(0, none), (1, none), (2, none), (3, some (0, [])), (4, none), (5, none), (6, none), (7, some (1, []))] (fun _ => (H39.sub [2, 0] (by kernel_rfl))) ?_
    refine Sx.tva 8 [] (.bool (((km : Nat) : Int) != ((km : Nat) : Int))) (.bool false) (congrArg Value.bool (eqK)) (fun _ => (H39.sub [2, 0] (by kernel_rfl))) ?_
    refine Sx.tk [(9, none)] (fun _ => (H39.sub [2, 0] (by kernel_rfl))) ?_
    refine Sx.dn ?_
    refine Sx.s 11 0 H39 fun w15 H40 => ?_
    refine Sx.l 8 2 H40 ?_
    have hlk : nn7 = (kidsN g m1).length := hna7.trans ksO_len
    have hkl := hP.kids_len hkm hkn
    have hm3 : PR T R (lnk0 g n1 m1) ({ pm5 with il := pm5.il.set n1 (some m1) } : Pm) := hpm5.lnk (find_root hn) (find_root hm) (Ne.symm hne)
    have hil3 := (hpm5.en _ _ (find_root hn)).lt
    have H41 := bank_put (ty := 78) (T := T) (C := (ndC T R g pm5)) (C' := (ndC T R (lnk0 g n1 m1) ({ pm5 with il := pm5.il.set n1 (some m1) } : Pm))) (hs := [m1]) H40 [0, 0] (by kernel_rfl) (n := n1) (b := be2) hbe2 (nz1 (Ne.symm hne)) (ndC_eq hkn has8 (rb := rb8) hrb8 (io := some be1) (il_set hil3 hbe1)) (fun i hi _ => ndC_il hi)
    have H42 := bank_put (ty := 78) (T := T) (C := (ndC T R (lnk0 g n1 m1) ({ pm5 with il := pm5.il.set n1 (some m1) } : Pm))) (C' := (ndC T R (lnk0 g n1 m1) ({ pm5 with il := pm5.il.set n1 (some m1) } : Pm))) (hs := []) H41 [1, 0] (by kernel_rfl) (n := m1) (b := be1) hbe1 nz0 ((ndC_il hne).trans (ndC_eq hkm has7 (rb := rb7) hrb7 (io := io7) hio7)) (fun _ _ _ => rfl)
    have H43 := H42.pick (a := [bankI 78 T (ndC T R (lnk0 g n1 m1) ({ pm5 with il := pm5.il.set n1 (some m1) } : Pm)) [], kidsI ({ pm5 with il := pm5.il.set n1 (some m1) } : Pm).S1 ({ pm5 with il := pm5.il.set n1 (some m1) } : Pm).as (ksL T (lnk0 g n1 m1)), bankI 80 R (rwC R (lnk0 g n1 m1) ({ pm5 with il := pm5.il.set n1 (some m1) } : Pm)) [0], rowsI ({ pm5 with il := pm5.il.set n1 (some m1) } : Pm).S2 ({ pm5 with il := pm5.il.set n1 (some m1) } : Pm).sl (lnk0 g n1 m1).ops]) [0, 0, 0, 0] (by kernel_rfl)
    obtain ⟨S15, H44⟩ := P_close H43 [0, 0, 0, 0] (Z := Z) (T := T) (R := R) (g := (lnk0 g n1 m1)) ({ pm5 with il := pm5.il.set n1 (some m1) } : Pm) hm3 hzpm5 (by kernel_rfl)
    refine Sx.lp 5 (fun z l' w' => ∃ (i : Nat) (gi : G) (Ri : List Nat) (Si : Nat → Prop), l' = [(0, .pointer (some ⟨be1, 0, none⟩)), (1, .pointer (some ⟨be2, 0, none⟩)), (52, .int .i64 ((nn7 : Nat) : Int)), (53, .int .i64 ((i : Nat) : Int))] ∧ z = nn7 - i ∧ Hs w L0 w' [PI Si Z T Ri gi] ∧ (argsX k gi (((kidsN g m1).zip (kidsN g n1)).drop i) = some (gr, tr)) ∧ (Pre R Ri) ∧ (Kept g gi)) _ [(0, .pointer (some ⟨be1, 0, none⟩)), (1, .pointer (some ⟨be2, 0, none⟩)), (52, .int .i64 ((nn7 : Nat) : Int)), (53, .int .i64 ((0 : Nat) : Int))] ⟨0, (lnk0 g n1 m1), R, S15, rfl, rfl, H44, hx, (Pre.refl R), ⟨rfl, rfl, rfl, rfl⟩⟩ (fun b1 z1 l1 w16 hI1 K1 hK1 => ?_)
    obtain ⟨i, gi, Ri, Si, rfl, rfl, H45, hxi, hpre, hkp⟩ := hI1
    refine Sx.br 6 (decide (((i : Nat) : Int) < ((nn7 : Nat) : Int))) (fun h_c54 => ?_) (fun h_c54 => ?_)
    · skip
      have p_c54 := of_decide_eq_true h_c54
      have hk2 := kidsN_le g m1
      obtain ⟨p, q, g2, t2, hp, hq, hsm, hr0, hr1⟩ := argsX_step hxi (by omega) hkl
      obtain ⟨pm6, hpm6, hzpm6, H46⟩ := P_open H45 0 (S := Si) (Z := Z) (T := T) (R := Ri) (g := gi) (by kernel_rfl)
      have hkm2 : gi.kind[m1]? = some km := by rw [hkp.kind]; exact hkm
      have hkn2 : gi.kind[n1]? = some km := by rw [hkp.kind]; exact hkn
      obtain ⟨io9, hio9⟩ := oB_at (T := T) (m := pm6) (n := m1)
      obtain ⟨rb9, hrb9⟩ : ∃ rb, rowB Ri gi m1 = rb := ⟨_, rfl⟩
      have hnl9 := (List.getElem?_eq_some_iff.1 hkm2).1
      obtain ⟨nA9, nn9, nc9, has9, hna9⟩ := P_nd hpm6 (H46.at 1 (by kernel_rfl)) (n := m1) hnl9
      have H47 := bank_take (ty := 78) (T := T) (C := (ndC T Ri gi pm6)) (hs := []) H46 0 (by kernel_rfl) (n := m1) (b := be1) hbe1 nz0 (ndC_eq hkm2 has9 (rb := rb9) hrb9 (io := io9) hio9)
      obtain ⟨io10, hio10⟩ := oB_at (T := T) (m := pm6) (n := n1)
      obtain ⟨rb10, hrb10⟩ : ∃ rb, rowB Ri gi n1 = rb := ⟨_, rfl⟩
      have hnl10 := (List.getElem?_eq_some_iff.1 hkn2).1
      obtain ⟨nA10, nn10, nc10, has10, hna10⟩ := P_nd hpm6 (H47.at 2 (by kernel_rfl)) (n := n1) hnl10
      have H48 := bank_take (ty := 78) (T := T) (C := (ndC T Ri gi pm6)) (hs := [m1]) H47 1 (by kernel_rfl) (n := n1) (b := be2) hbe2 (nz1 (Ne.symm hne)) (ndC_eq hkn2 has10 (rb := rb10) hrb10 (io := io10) hio10)
      have hp' : (kidsN gi m1)[i]? = some p := by rw [kidsN_kept hkp]; exact hp
      obtain ⟨bp1, hbp1⟩ := hpm6.kid hp'
      obtain ⟨abe1, habe1, hcbe1⟩ := kid_at (H48.at 3 (it := kidsI pm6.S1 pm6.as (ksL T gi)) (by kernel_rfl)) has9 hnl9 hp' hbp1
      have hltbe1 : i < nn9 := by rw [hna9, ksO_len, kidsN_kept hkp]; omega
      have hq' : (kidsN gi n1)[i]? = some q := by rw [kidsN_kept hkp]; exact hq
      obtain ⟨bp2, hbp2⟩ := hpm6.kid hq'
      obtain ⟨abe2, habe2, hcbe2⟩ := kid_at (H48.at 3 (it := kidsI pm6.S1 pm6.as (ksL T gi)) (by kernel_rfl)) has10 hnl10 hq' hbp2
      have hltbe2 : i < nn10 := by rw [hna10, ksO_len, kidsN_kept hkp]; omega
      refine Sx.dr 11 H48 [2, 3, 0] [14] (LJ := [.blk be1 (.cells #[.int .i64 ((km : Nat) : Int), .slice nA9 nn9 nc9, pB rb9, pB io9] 78), kidsI pm6.S1 pm6.as (ksL T gi), .blk be2 (.cells #[.int .i64 ((km : Nat) : Int), .slice nA10 nn10 nc10, pB rb10, pB io10] 78)]) (by kernel_rfl) fun w17 H49 => ?_
      refine Sx.tk [(0, none), (1, none), (2, none), (3, some (0, [5, 6, 14, 15])), (4, none)] (fun _ => (H49.sub [2, 2, 0] (by kernel_rfl))) ?_
      refine Sx.tvi 5 [6, 14, 15] abe1 i 1 nn9 nc9 habe1 hltbe1 (fun _ => (H49.sub [2, 2, 0] (by kernel_rfl))) ?_
      refine Sx.tvo (c := 1) (t := 52) 6 [14, 15] [.pointer (some ⟨bp1, 0, none⟩)] (.pointer (some ⟨bp1, 0, none⟩)) (fun w' hs => (kid_one (sp_at hs 1 (it := kidsI pm6.S1 pm6.as (ksL T gi)) (by kernel_rfl)) has9 hnl9 hp' hbp1 habe1)) (fun _ => (H49.sub [2, 2, 0] (by kernel_rfl))) ?_
      refine Sx.tk [(7, none), (8, none), (9, none), (10, some (2, [12, 13, 14, 15])), (11, none)] (fun _ => (H49.sub [2, 2, 0] (by kernel_rfl))) ?_
      refine Sx.tvi 12 [13, 14, 15] abe2 i 1 nn10 nc10 habe2 hltbe2 (fun _ => (H49.sub [2, 2, 0] (by kernel_rfl))) ?_
      refine Sx.tvo (c := 1) (t := 52) 13 [14, 15] [.pointer (some ⟨bp2, 0, none⟩)] (.pointer (some ⟨bp2, 0, none⟩)) (fun w' hs => (kid_one (sp_at hs 1 (it := kidsI pm6.S1 pm6.as (ksL T gi)) (by kernel_rfl)) has10 hnl10 hq' hbp2 habe2)) (fun _ => (H49.sub [2, 2, 0] (by kernel_rfl))) ?_
      refine Sx.nmx ?_
      intro zx1
      refine Sx.on 14 ?_
      have H50 := bank_put (ty := 78) (T := T) (C := (ndC T Ri gi pm6)) (C' := (ndC T Ri gi pm6)) (hs := [m1]) H49 [0, 0] (by kernel_rfl) (n := n1) (b := be2) hbe2 (nz1 (Ne.symm hne)) (ndC_eq hkn2 has10 (rb := rb10) hrb10 (io := io10) hio10) (fun _ _ _ => rfl)
      have H51 := bank_put (ty := 78) (T := T) (C := (ndC T Ri gi pm6)) (C' := (ndC T Ri gi pm6)) (hs := []) H50 [1, 0] (by kernel_rfl) (n := m1) (b := be1) hbe1 nz0 (ndC_eq hkm2 has9 (rb := rb9) hrb9 (io := io9) hio9) (fun _ _ _ => rfl)
      obtain ⟨S16, H52⟩ := P_close H51 [0, 0, 0, 0] (Z := Z) (T := T) (R := Ri) (g := gi) pm6 hpm6 hzpm6 (by kernel_rfl)
      refine Sx.c 0 [0] H52 (fun Hp11 R11 hR11 => ih S16 Z T Ri gi p q bp1 bp2 w17 R11 Hp11 g2 t2 hbp1 hbp2 hsm (fun S17 Rr1 w18 G11 hpre1 => hR11 _ _ _ G11 fun H53 => ?_))
      refine Sx.bk (x := zx1) 14 (fun h => Sx.nope h (by kernel_rfl)) ?_
      refine Sx.tk [(15, none)] (fun h => Sx.nope h (by kernel_rfl)) ?_
      refine Sx.dn ?_
      refine Sx.br 1 (!t2) (fun h_c71 => ?_) (fun h_c71 => ?_)
      · skip
        have ht2 : t2 = false := by simpa using h_c71
        obtain ⟨rfl, rfl⟩ := hr0 ht2
        obtain ⟨rfl, rfl⟩ := hx0 rfl
        refine Sx.rt 11 [] H53 (.bool false) ?_
        subst hL0
        exact hK S17 Rr1 _ (H53.pick (a := [PI S17 Z T Rr1 g2]) [0] (by kernel_rfl)) (hpre.trans hpre1)
      have ht2 : t2 = true := by simpa using h_c71
      refine Sx.v 4 (.int .i64 (IntKind.i64.wrap (((i : Nat) : Int) + (1 : Int)))) (.int .i64 ((i + 1 : Nat) : Int)) (congrArg (Value.int .i64) (Gx.i64n (by omega) (by omega))) ?_
      exact Sx.to 2 [(0, .pointer (some ⟨be1, 0, none⟩)), (1, .pointer (some ⟨be2, 0, none⟩)), (52, .int .i64 ((nn7 : Nat) : Int)), (53, .int .i64 (((i + 1) : Nat) : Int))] (hK1 _ _ _ _ (by omega) ⟨(i + 1), g2, Rr1, S17, rfl, rfl, H53, (hr1 ht2), (hpre.trans hpre1), (hkp.trans (sameX_kept hsm))⟩)
    have p_c54 := of_decide_eq_false h_c54
    obtain ⟨rfl, rfl⟩ := argsX_end hxi (by omega)
    have h7 := hx1 rfl
    obtain ⟨rfl, rfl⟩ : gi = g' ∧ true = t := (rwX_cases h7).elim (fun h => ⟨h.2.1, h.2.2⟩) (fun h => absurd h.1 h6)
    obtain ⟨pm7, hpm7, hzpm7, H54⟩ := P_open H45 0 (S := Si) (Z := Z) (T := T) (R := Ri) (g := gi) (by kernel_rfl)
    have hkm2 : gi.kind[m1]? = some km := by rw [hkp.kind]; exact hkm
    have hkn2 : gi.kind[n1]? = some km := by rw [hkp.kind]; exact hkn
    obtain ⟨io11, hio11⟩ := oB_at (T := T) (m := pm7) (n := m1)
    obtain ⟨rb11, hrb11⟩ : ∃ rb, rowB Ri gi m1 = rb := ⟨_, rfl⟩
    have hnl11 := (List.getElem?_eq_some_iff.1 hkm2).1
    obtain ⟨nA11, nn11, nc11, has11, hna11⟩ := P_nd hpm7 (H54.at 1 (by kernel_rfl)) (n := m1) hnl11
    have H55 := bank_take (ty := 78) (T := T) (C := (ndC T Ri gi pm7)) (hs := []) H54 0 (by kernel_rfl) (n := m1) (b := be1) hbe1 nz0 (ndC_eq hkm2 has11 (rb := rb11) hrb11 (io := io11) hio11)
    obtain ⟨io12, hio12⟩ := oB_at (T := T) (m := pm7) (n := n1)
    obtain ⟨rb12, hrb12⟩ : ∃ rb, rowB Ri gi n1 = rb := ⟨_, rfl⟩
    have hnl12 := (List.getElem?_eq_some_iff.1 hkn2).1
    obtain ⟨nA12, nn12, nc12, has12, hna12⟩ := P_nd hpm7 (H55.at 2 (by kernel_rfl)) (n := n1) hnl12
    have H56 := bank_take (ty := 78) (T := T) (C := (ndC T Ri gi pm7)) (hs := [m1]) H55 1 (by kernel_rfl) (n := n1) (b := be2) hbe2 (nz1 (Ne.symm hne)) (ndC_eq hkn2 has12 (rb := rb12) hrb12 (io := io12) hio12)
    refine Sx.dr 6 H56 [2] [] (LJ := [.blk be1 (.cells #[.int .i64 ((km : Nat) : Int), .slice nA11 nn11 nc11, pB rb11, pB io11] 78)]) (by kernel_rfl) fun w19 H57 => ?_
    refine Sx.tk [(0, none), (1, none), (2, none), (3, some (0, []))] (fun _ => (H57.sub [2] (by kernel_rfl))) ?_
    refine Sx.tva 4 [] (.bool (((km : Nat) : Int) != (6 : Int))) (.bool true) (congrArg Value.bool (ne6 h6)) (fun _ => (H57.sub [2] (by kernel_rfl))) ?_
    refine Sx.tk [(5, none), (6, none), (7, none), (8, none), (9, none), (10, none), (11, none), (12, none), (13, none), (14, none), (15, none), (16, none)] (fun _ => (H57.sub [2] (by kernel_rfl))) ?_
    refine Sx.dn ?_
    refine Sx.rt 2 [] H57 (.bool true) ?_
    have H58 := bank_put (ty := 78) (T := T) (C := (ndC T Ri gi pm7)) (C' := (ndC T Ri gi pm7)) (hs := [m1]) H57 [0, 0] (by kernel_rfl) (n := n1) (b := be2) hbe2 (nz1 (Ne.symm hne)) (ndC_eq hkn2 has12 (rb := rb12) hrb12 (io := io12) hio12) (fun _ _ _ => rfl)
    have H59 := bank_put (ty := 78) (T := T) (C := (ndC T Ri gi pm7)) (C' := (ndC T Ri gi pm7)) (hs := []) H58 [1, 0] (by kernel_rfl) (n := m1) (b := be1) hbe1 nz0 (ndC_eq hkm2 has11 (rb := rb11) hrb11 (io := io11) hio11) (fun _ _ _ => rfl)
    obtain ⟨S18, H60⟩ := P_close H59 [0, 0, 0, 0] (Z := Z) (T := T) (R := Ri) (g := gi) pm7 hpm7 hzpm7 (by kernel_rfl)
    subst hL0
    exact hK S18 Ri _ (H60.pick (a := [PI S18 Z T Ri gi]) [0] (by kernel_rfl)) hpre
  obtain ⟨be2, hbe2⟩ := root_T hP hn
  refine Sx.c 8 [0] H (fun Hp12 R12 hR12 => Now_p S Z T R g n m1 ba be1 w R12 Hp12 _ hba hm hbe1 (fun S19 w20 G12 => hR12 _ _ _ G12 fun H61 => ?_))
  refine Sx.c 1 [0] H61 (fun Hp13 R13 hR13 => Now_p S19 Z T R g m n1 bb be2 w20 R13 Hp13 _ hbb hn hbe2 (fun S20 w21 G13 => hR13 _ _ _ G13 fun H62 => ?_))
  obtain ⟨pm8, hpm8, hzpm8, H63⟩ := P_open H62 0 (S := S20) (Z := Z) (T := T) (R := R) (g := g) (by kernel_rfl)
  refine Sx.peq (kt := 52) (te := 78) 10 be1 be2 false (bank_cb (H63.at 0 (it := bankI 78 T (ndC T R g pm8) []) (by kernel_rfl)) hbe1 nz0) (bank_cb (H63.at 0 (it := bankI 78 T (ndC T R g pm8) []) (by kernel_rfl)) hbe2 nz0) (bank_ne (H63.at 0 (it := bankI 78 T (ndC T R g pm8) []) (by kernel_rfl)) hbe1 hbe2 nz0 nz0 hne) ?_
  obtain ⟨io13, hio13⟩ := oB_at (T := T) (m := pm8) (n := m1)
  obtain ⟨rb13, hrb13⟩ : ∃ rb, rowB R g m1 = rb := ⟨_, rfl⟩
  have hnl13 := (List.getElem?_eq_some_iff.1 hkm).1
  obtain ⟨nA13, nn13, nc13, has13, hna13⟩ := P_nd hpm8 (H63.at 1 (by kernel_rfl)) (n := m1) hnl13
  have H64 := bank_take (ty := 78) (T := T) (C := (ndC T R g pm8)) (hs := []) H63 0 (by kernel_rfl) (n := m1) (b := be1) hbe1 nz0 (ndC_eq hkm has13 (rb := rb13) hrb13 (io := io13) hio13)
  obtain ⟨io14, hio14⟩ := oB_at (T := T) (m := pm8) (n := n1)
  obtain ⟨rb14, hrb14⟩ : ∃ rb, rowB R g n1 = rb := ⟨_, rfl⟩
  have hnl14 := (List.getElem?_eq_some_iff.1 hkn).1
  obtain ⟨nA14, nn14, nc14, has14, hna14⟩ := P_nd hpm8 (H64.at 2 (by kernel_rfl)) (n := n1) hnl14
  have H65 := bank_take (ty := 78) (T := T) (C := (ndC T R g pm8)) (hs := [m1]) H64 1 (by kernel_rfl) (n := n1) (b := be2) hbe2 (nz1 (Ne.symm hne)) (ndC_eq hkn has14 (rb := rb14) hrb14 (io := io14) hio14)
  refine Sx.l 9 2 H65 ?_
  refine Sx.v 0 (.bool (((6 : Nat) : Int) == (0 : Int))) (.bool false) (rfl) ?_
  refine Sx.l 9 0 H65 ?_
  refine Sx.v 0 (.bool (((6 : Nat) : Int) == (0 : Int))) (.bool false) (rfl) ?_
  refine Sx.dr 5 H65 [2, 0] [] (LJ := [.blk be1 (.cells #[.int .i64 6, .slice nA13 nn13 nc13, pB rb13, pB io13] 78), .blk be2 (.cells #[.int .i64 6, .slice nA14 nn14 nc14, pB rb14, pB io14] 78)]) (by kernel_rfl) fun w22 H66 => ?_
  refine Sx.tk [(0, none), (1, none), (2, none), (3, some (0, [])), (4, none), (5, none), (6, none), (7, some (1, []))] (fun _ => (H66.sub [2, 0] (by kernel_rfl))) ?_
  refine Sx.tva 8 [] (.bool (((6 : Nat) : Int) != ((6 : Nat) : Int))) (.bool false) (rfl) (fun _ => (H66.sub [2, 0] (by kernel_rfl))) ?_
  refine Sx.tk [(9, none)] (fun _ => (H66.sub [2, 0] (by kernel_rfl))) ?_
  refine Sx.dn ?_
  refine Sx.s 11 0 H66 fun w23 H67 => ?_
  refine Sx.l 8 2 H67 ?_
  have hlk : nn13 = (kidsN g m1).length := hna13.trans ksO_len
  have hkl := hP.kids_len hkm hkn
  have hm4 : PR T R (lnk0 g n1 m1) ({ pm8 with il := pm8.il.set n1 (some m1) } : Pm) := hpm8.lnk (find_root hn) (find_root hm) (Ne.symm hne)
  have hil4 := (hpm8.en _ _ (find_root hn)).lt
  have H68 := bank_put (ty := 78) (T := T) (C := (ndC T R g pm8)) (C' := (ndC T R (lnk0 g n1 m1) ({ pm8 with il := pm8.il.set n1 (some m1) } : Pm))) (hs := [m1]) H67 [0, 0] (by kernel_rfl) (n := n1) (b := be2) hbe2 (nz1 (Ne.symm hne)) (ndC_eq hkn has14 (rb := rb14) hrb14 (io := some be1) (il_set hil4 hbe1)) (fun i hi _ => ndC_il hi)
  have H69 := bank_put (ty := 78) (T := T) (C := (ndC T R (lnk0 g n1 m1) ({ pm8 with il := pm8.il.set n1 (some m1) } : Pm))) (C' := (ndC T R (lnk0 g n1 m1) ({ pm8 with il := pm8.il.set n1 (some m1) } : Pm))) (hs := []) H68 [1, 0] (by kernel_rfl) (n := m1) (b := be1) hbe1 nz0 ((ndC_il hne).trans (ndC_eq hkm has13 (rb := rb13) hrb13 (io := io13) hio13)) (fun _ _ _ => rfl)
  have H70 := H69.pick (a := [bankI 78 T (ndC T R (lnk0 g n1 m1) ({ pm8 with il := pm8.il.set n1 (some m1) } : Pm)) [], kidsI ({ pm8 with il := pm8.il.set n1 (some m1) } : Pm).S1 ({ pm8 with il := pm8.il.set n1 (some m1) } : Pm).as (ksL T (lnk0 g n1 m1)), bankI 80 R (rwC R (lnk0 g n1 m1) ({ pm8 with il := pm8.il.set n1 (some m1) } : Pm)) [0], rowsI ({ pm8 with il := pm8.il.set n1 (some m1) } : Pm).S2 ({ pm8 with il := pm8.il.set n1 (some m1) } : Pm).sl (lnk0 g n1 m1).ops]) [0, 0, 0, 0] (by kernel_rfl)
  obtain ⟨S21, H71⟩ := P_close H70 [0, 0, 0, 0] (Z := Z) (T := T) (R := R) (g := (lnk0 g n1 m1)) ({ pm8 with il := pm8.il.set n1 (some m1) } : Pm) hm4 hzpm8 (by kernel_rfl)
  refine Sx.lp 5 (fun z l' w' => ∃ (i : Nat) (gi : G) (Ri : List Nat) (Si : Nat → Prop), l' = [(0, .pointer (some ⟨be1, 0, none⟩)), (1, .pointer (some ⟨be2, 0, none⟩)), (52, .int .i64 ((nn13 : Nat) : Int)), (53, .int .i64 ((i : Nat) : Int))] ∧ z = nn13 - i ∧ Hs w L0 w' [PI Si Z T Ri gi] ∧ (argsX k gi (((kidsN g m1).zip (kidsN g n1)).drop i) = some (gr, tr)) ∧ (Pre R Ri) ∧ (Kept g gi)) _ [(0, .pointer (some ⟨be1, 0, none⟩)), (1, .pointer (some ⟨be2, 0, none⟩)), (52, .int .i64 ((nn13 : Nat) : Int)), (53, .int .i64 ((0 : Nat) : Int))] ⟨0, (lnk0 g n1 m1), R, S21, rfl, rfl, H71, hx, (Pre.refl R), ⟨rfl, rfl, rfl, rfl⟩⟩ (fun b2 z2 l2 w24 hI2 K2 hK2 => ?_)
  obtain ⟨i, gi, Ri, Si, rfl, rfl, H72, hxi, hpre, hkp⟩ := hI2
  refine Sx.br 6 (decide (((i : Nat) : Int) < ((nn13 : Nat) : Int))) (fun h_c54 => ?_) (fun h_c54 => ?_)
  · skip
    have p_c54 := of_decide_eq_true h_c54
    have hk2 := kidsN_le g m1
    obtain ⟨p, q, g2, t2, hp, hq, hsm, hr0, hr1⟩ := argsX_step hxi (by omega) hkl
    obtain ⟨pm9, hpm9, hzpm9, H73⟩ := P_open H72 0 (S := Si) (Z := Z) (T := T) (R := Ri) (g := gi) (by kernel_rfl)
    have hkm2 : gi.kind[m1]? = some 6 := by rw [hkp.kind]; exact hkm
    have hkn2 : gi.kind[n1]? = some 6 := by rw [hkp.kind]; exact hkn
    obtain ⟨io15, hio15⟩ := oB_at (T := T) (m := pm9) (n := m1)
    obtain ⟨rb15, hrb15⟩ : ∃ rb, rowB Ri gi m1 = rb := ⟨_, rfl⟩
    have hnl15 := (List.getElem?_eq_some_iff.1 hkm2).1
    obtain ⟨nA15, nn15, nc15, has15, hna15⟩ := P_nd hpm9 (H73.at 1 (by kernel_rfl)) (n := m1) hnl15
    have H74 := bank_take (ty := 78) (T := T) (C := (ndC T Ri gi pm9)) (hs := []) H73 0 (by kernel_rfl) (n := m1) (b := be1) hbe1 nz0 (ndC_eq hkm2 has15 (rb := rb15) hrb15 (io := io15) hio15)
    obtain ⟨io16, hio16⟩ := oB_at (T := T) (m := pm9) (n := n1)
    obtain ⟨rb16, hrb16⟩ : ∃ rb, rowB Ri gi n1 = rb := ⟨_, rfl⟩
    have hnl16 := (List.getElem?_eq_some_iff.1 hkn2).1
    obtain ⟨nA16, nn16, nc16, has16, hna16⟩ := P_nd hpm9 (H74.at 2 (by kernel_rfl)) (n := n1) hnl16
    have H75 := bank_take (ty := 78) (T := T) (C := (ndC T Ri gi pm9)) (hs := [m1]) H74 1 (by kernel_rfl) (n := n1) (b := be2) hbe2 (nz1 (Ne.symm hne)) (ndC_eq hkn2 has16 (rb := rb16) hrb16 (io := io16) hio16)
    have hp' : (kidsN gi m1)[i]? = some p := by rw [kidsN_kept hkp]; exact hp
    obtain ⟨bp1, hbp1⟩ := hpm9.kid hp'
    obtain ⟨abe1, habe1, hcbe1⟩ := kid_at (H75.at 3 (it := kidsI pm9.S1 pm9.as (ksL T gi)) (by kernel_rfl)) has15 hnl15 hp' hbp1
    have hltbe1 : i < nn15 := by rw [hna15, ksO_len, kidsN_kept hkp]; omega
    have hq' : (kidsN gi n1)[i]? = some q := by rw [kidsN_kept hkp]; exact hq
    obtain ⟨bp2, hbp2⟩ := hpm9.kid hq'
    obtain ⟨abe2, habe2, hcbe2⟩ := kid_at (H75.at 3 (it := kidsI pm9.S1 pm9.as (ksL T gi)) (by kernel_rfl)) has16 hnl16 hq' hbp2
    have hltbe2 : i < nn16 := by rw [hna16, ksO_len, kidsN_kept hkp]; omega
    refine Sx.dr 11 H75 [2, 3, 0] [14] (LJ := [.blk be1 (.cells #[.int .i64 6, .slice nA15 nn15 nc15, pB rb15, pB io15] 78), kidsI pm9.S1 pm9.as (ksL T gi), .blk be2 (.cells #[.int .i64 6, .slice nA16 nn16 nc16, pB rb16, pB io16] 78)]) (by kernel_rfl) fun w25 H76 => ?_
    refine Sx.tk [(0, none), (1, none), (2, none), (3, some (0, [5, 6, 14, 15])), (4, none)] (fun _ => (H76.sub [2, 2, 0] (by kernel_rfl))) ?_
    refine Sx.tvi 5 [6, 14, 15] abe1 i 1 nn15 nc15 habe1 hltbe1 (fun _ => (H76.sub [2, 2, 0] (by kernel_rfl))) ?_
    refine Sx.tvo (c := 1) (t := 52) 6 [14, 15] [.pointer (some ⟨bp1, 0, none⟩)] (.pointer (some ⟨bp1, 0, none⟩)) (fun w' hs => (kid_one (sp_at hs 1 (it := kidsI pm9.S1 pm9.as (ksL T gi)) (by kernel_rfl)) has15 hnl15 hp' hbp1 habe1)) (fun _ => (H76.sub [2, 2, 0] (by kernel_rfl))) ?_
    refine Sx.tk [(7, none), (8, none), (9, none), (10, some (2, [12, 13, 14, 15])), (11, none)] (fun _ => (H76.sub [2, 2, 0] (by kernel_rfl))) ?_
    refine Sx.tvi 12 [13, 14, 15] abe2 i 1 nn16 nc16 habe2 hltbe2 (fun _ => (H76.sub [2, 2, 0] (by kernel_rfl))) ?_
    refine Sx.tvo (c := 1) (t := 52) 13 [14, 15] [.pointer (some ⟨bp2, 0, none⟩)] (.pointer (some ⟨bp2, 0, none⟩)) (fun w' hs => (kid_one (sp_at hs 1 (it := kidsI pm9.S1 pm9.as (ksL T gi)) (by kernel_rfl)) has16 hnl16 hq' hbp2 habe2)) (fun _ => (H76.sub [2, 2, 0] (by kernel_rfl))) ?_
    refine Sx.nmx ?_
    intro zx2
    refine Sx.on 14 ?_
    have H77 := bank_put (ty := 78) (T := T) (C := (ndC T Ri gi pm9)) (C' := (ndC T Ri gi pm9)) (hs := [m1]) H76 [0, 0] (by kernel_rfl) (n := n1) (b := be2) hbe2 (nz1 (Ne.symm hne)) (ndC_eq hkn2 has16 (rb := rb16) hrb16 (io := io16) hio16) (fun _ _ _ => rfl)
    have H78 := bank_put (ty := 78) (T := T) (C := (ndC T Ri gi pm9)) (C' := (ndC T Ri gi pm9)) (hs := []) H77 [1, 0] (by kernel_rfl) (n := m1) (b := be1) hbe1 nz0 (ndC_eq hkm2 has15 (rb := rb15) hrb15 (io := io15) hio15) (fun _ _ _ => rfl)
    obtain ⟨S22, H79⟩ := P_close H78 [0, 0, 0, 0] (Z := Z) (T := T) (R := Ri) (g := gi) pm9 hpm9 hzpm9 (by kernel_rfl)
    refine Sx.c 0 [0] H79 (fun Hp14 R14 hR14 => ih S22 Z T Ri gi p q bp1 bp2 w25 R14 Hp14 g2 t2 hbp1 hbp2 hsm (fun S23 Rr2 w26 G14 hpre2 => hR14 _ _ _ G14 fun H80 => ?_))
    refine Sx.bk (x := zx2) 14 (fun h => Sx.nope h (by kernel_rfl)) ?_
    refine Sx.tk [(15, none)] (fun h => Sx.nope h (by kernel_rfl)) ?_
    refine Sx.dn ?_
    refine Sx.br 1 (!t2) (fun h_c71 => ?_) (fun h_c71 => ?_)
    · skip
      have ht2 : t2 = false := by simpa using h_c71
      obtain ⟨rfl, rfl⟩ := hr0 ht2
      obtain ⟨rfl, rfl⟩ := hx0 rfl
      refine Sx.rt 11 [] H80 (.bool false) ?_
      subst hL0
      exact hK S23 Rr2 _ (H80.pick (a := [PI S23 Z T Rr2 g2]) [0] (by kernel_rfl)) (hpre.trans hpre2)
    have ht2 : t2 = true := by simpa using h_c71
    refine Sx.v 4 (.int .i64 (IntKind.i64.wrap (((i : Nat) : Int) + (1 : Int)))) (.int .i64 ((i + 1 : Nat) : Int)) (congrArg (Value.int .i64) (Gx.i64n (by omega) (by omega))) ?_
    exact Sx.to 2 [(0, .pointer (some ⟨be1, 0, none⟩)), (1, .pointer (some ⟨be2, 0, none⟩)), (52, .int .i64 ((nn13 : Nat) : Int)), (53, .int .i64 (((i + 1) : Nat) : Int))] (hK2 _ _ _ _ (by omega) ⟨(i + 1), g2, Rr2, S23, rfl, rfl, H80, (hr1 ht2), (hpre.trans hpre2), (hkp.trans (sameX_kept hsm))⟩)
  have p_c54 := of_decide_eq_false h_c54
  obtain ⟨rfl, rfl⟩ := argsX_end hxi (by omega)
  have h7 := hx1 rfl
  obtain ⟨r, s, hrr, hrs, hsr⟩ := ((rwX_cases h7).resolve_left (fun h => h.1 rfl)).2
  obtain ⟨pm10, hpm10, hzpm10, H81⟩ := P_open H72 0 (S := Si) (Z := Z) (T := T) (R := Ri) (g := gi) (by kernel_rfl)
  have hkm2 : gi.kind[m1]? = some 6 := by rw [hkp.kind]; exact hkm
  have hkn2 : gi.kind[n1]? = some 6 := by rw [hkp.kind]; exact hkn
  obtain ⟨hr0', br1, hbr1⟩ := hpm10.row6 hkm2 hrr
  obtain ⟨hs0', br2, hbr2⟩ := hpm10.row6 hkn2 hrs
  obtain ⟨io17, hio17⟩ := oB_at (T := T) (m := pm10) (n := m1)
  have hnl17 := (List.getElem?_eq_some_iff.1 hkm2).1
  obtain ⟨nA17, nn17, nc17, has17, hna17⟩ := P_nd hpm10 (H81.at 1 (by kernel_rfl)) (n := m1) hnl17
  have H82 := bank_take (ty := 78) (T := T) (C := (ndC T Ri gi pm10)) (hs := []) H81 0 (by kernel_rfl) (n := m1) (b := be1) hbe1 nz0 (ndC_eq hkm2 has17 (rb := (some br1)) ((rowB_yes hkm2 hrr).trans hbr1) (io := io17) hio17)
  obtain ⟨io18, hio18⟩ := oB_at (T := T) (m := pm10) (n := n1)
  have hnl18 := (List.getElem?_eq_some_iff.1 hkn2).1
  obtain ⟨nA18, nn18, nc18, has18, hna18⟩ := P_nd hpm10 (H82.at 2 (by kernel_rfl)) (n := n1) hnl18
  have H83 := bank_take (ty := 78) (T := T) (C := (ndC T Ri gi pm10)) (hs := [m1]) H82 1 (by kernel_rfl) (n := n1) (b := be2) hbe2 (nz1 (Ne.symm hne)) (ndC_eq hkn2 has18 (rb := (some br2)) ((rowB_yes hkn2 hrs).trans hbr2) (io := io18) hio18)
  refine Sx.dr 6 H83 [2, 0] [14] (LJ := [.blk be1 (.cells #[.int .i64 6, .slice nA17 nn17 nc17, .pointer (some ⟨br1, 0, none⟩), pB io17] 78), .blk be2 (.cells #[.int .i64 6, .slice nA18 nn18 nc18, .pointer (some ⟨br2, 0, none⟩), pB io18] 78)]) (by kernel_rfl) fun w27 H84 => ?_
  refine Sx.tk [(0, none), (1, none), (2, none), (3, some (0, [4, 5, 6, 7, 8, 9, 10, 11, 12, 13, 14, 15, 16]))] (fun _ => (H84.sub [2, 0] (by kernel_rfl))) ?_
  refine Sx.tva 4 [5, 6, 7, 8, 9, 10, 11, 12, 13, 14, 15, 16] (.bool (((6 : Nat) : Int) != (6 : Int))) (.bool false) (rfl) (fun _ => (H84.sub [2, 0] (by kernel_rfl))) ?_
  refine Sx.tk [(5, none), (6, none), (7, none), (8, none), (9, some (0, [14, 15, 16])), (10, none), (11, none), (12, none), (13, some (1, [14, 15, 16]))] (fun _ => (H84.sub [2, 0] (by kernel_rfl))) ?_
  refine Sx.nmx ?_
  intro zx3
  refine Sx.on 14 ?_
  have H85 := bank_put (ty := 78) (T := T) (C := (ndC T Ri gi pm10)) (C' := (ndC T Ri gi pm10)) (hs := [m1]) H84 [0, 0] (by kernel_rfl) (n := n1) (b := be2) hbe2 (nz1 (Ne.symm hne)) (ndC_eq hkn2 has18 (rb := (some br2)) ((rowB_yes hkn2 hrs).trans hbr2) (io := io18) hio18) (fun _ _ _ => rfl)
  have H86 := bank_put (ty := 78) (T := T) (C := (ndC T Ri gi pm10)) (C' := (ndC T Ri gi pm10)) (hs := []) H85 [1, 0] (by kernel_rfl) (n := m1) (b := be1) hbe1 nz0 (ndC_eq hkm2 has17 (rb := (some br1)) ((rowB_yes hkm2 hrr).trans hbr1) (io := io17) hio17) (fun _ _ _ => rfl)
  obtain ⟨S24, H87⟩ := P_close H86 [0, 0, 0, 0] (Z := Z) (T := T) (R := Ri) (g := gi) pm10 hpm10 hzpm10 (by kernel_rfl)
  refine Sx.c 0 [0] H87 (fun Hp15 R15 hR15 => SameRow_p S24 Z T Ri gi _ r s br1 br2 w27 R15 Hp15 g' t hbr1 hr0' hbr2 hs0' hsr (fun S25 Rr3 w28 G15 hpre3 => hR15 _ _ _ G15 fun H88 => ?_))
  refine Sx.bk (x := zx3) 14 (fun h => Sx.nope h (by kernel_rfl)) ?_
  refine Sx.tk [(15, none), (16, none)] (fun h => Sx.nope h (by kernel_rfl)) ?_
  refine Sx.dn ?_
  refine Sx.rt 2 [] H88 (.bool t) ?_
  subst hL0
  exact hK S25 Rr3 _ (H88.pick (a := [PI S25 Z T Rr3 g']) [0] (by kernel_rfl)) (hpre.trans hpre3)
theorem Same_p (k : Nat) : ∀ (S : Nat → Prop) (Z : List Slot) (T R : List Nat) (g : G) (n m ba bb : Nat) (w : World) (K : Ending → World → Prop) (H0 : Sp w [PI S Z T R g]) (g' : G) (t : Bool) (hba : T[n]? = some ba) (hbb : T[m]? = some bb) (hf : sameX true k g n m = some (g', t)) (hK : ∀ (S' : Nat → Prop) (R' : List Nat) w', Hs w [PI S Z T R g] w' [PI S' Z T R' g'] → (Pre R R') → K (.returned (.bool t)) w'),
    Calls Try.prog 13 #[.pointer (some ⟨ba, 0, none⟩), .pointer (some ⟨bb, 0, none⟩)] w K := by
  induction k with
  | zero => intro S Z T R g n m ba bb w K H0 g' t hba hbb hf; exact absurd hf (by simp [sameX])
  | succ k ih => exact Same_p_s k ih
end Go.Proofs.Ytfkkocjheeoobaa
