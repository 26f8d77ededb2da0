/- A part of the proof (YtfkkocjheeoobaaSw1), printed by a program of ours. -/
import Derived.Test.YtfkkocjheeoobaaProg
import Derived.Test.YtfkkocjheeoobaaPm
set_option linter.unusedVariables false
set_option linter.unusedSimpArgs false
set_option linter.unusedVariables false
set_option linter.unusedSimpArgs false
namespace Go.Proofs.Ytfkkocjheeoobaa
open Go.RowKit Go.Sx Go.Inf Go.Slv
attribute [local irreducible] Go.wpOps Go.Code.wp Go.wpOp Go.wpAnyH Go.Calls Go.Sx.Goal
set_option maxRecDepth 20000
theorem Var_p  (w : World) (K : Ending → World → Prop) (H0 : Sp w []) (hK : ∀ (b : Nat) w', Hs w [] w' [.blk b (.cells #[.int .i64 0, .slice none 0 0, .pointer none, .pointer none] 78)] → K (.returned (bp b)) w') :
    Calls Try.prog 28 #[] w K := by
  obtain ⟨L0, hL0, H⟩ : ∃ L0, L0 = [] ∧ Hs w L0 w [] := ⟨_, rfl, Hs.refl H0⟩
  refine Sx.en (vs := []) 3 Try.func28 ?_
  refine Sx.nw 8 H fun k1 w1 H1 => ?_
  refine Sx.rt 4 [] H1 (.pointer (some ⟨k1, 0, none⟩)) ?_
  subst hL0
  exact hK k1 _ (H1.pick [0] (by kernel_rfl))
theorem Any_p  (w : World) (K : Ending → World → Prop) (H0 : Sp w []) (hK : ∀ (b : Nat) w', Hs w [] w' [.blk b (.cells #[.slice none 0 0, .pointer none, .bool true] 80)] → K (.returned (bp b)) w') :
    Calls Try.prog 29 #[] w K := by
  obtain ⟨L0, hL0, H⟩ : ∃ L0, L0 = [] ∧ Hs w L0 w [] := ⟨_, rfl, Hs.refl H0⟩
  refine Sx.en (vs := []) 3 Try.func29 ?_
  refine Sx.nw 8 H fun k1 w1 H1 => ?_
  refine Sx.rt 4 [] H1 (.pointer (some ⟨k1, 0, none⟩)) ?_
  subst hL0
  exact hK k1 _ (H1.pick [0] (by kernel_rfl))
theorem Now_p (S : Nat → Prop) (Z : List Slot) (T R : List Nat) (g : G) (n e ba be : Nat) (w : World) (K : Ending → World → Prop) (H0 : Sp w [PI S Z T R g]) (k : Nat) (hba : T[n]? = some ba) (hf : find k g n = some e) (hbe : T[e]? = some be) (hK : ∀ (S' : Nat → Prop) w', Hs w [PI S Z T R g] w' [PI S' Z T R g] → K (.returned (bp be)) w') :
    Calls Try.prog 30 #[.pointer (some ⟨ba, 0, none⟩)] w K := by
  obtain ⟨L0, hL0, H⟩ : ∃ L0, L0 = [PI S Z T R g] ∧ Hs w L0 w [PI S Z T R g] := ⟨_, rfl, Hs.refl H0⟩
  refine Sx.en (vs := [.pointer (some ⟨ba, 0, none⟩)]) 28 Try.func30 ?_
  obtain ⟨pm1, hpm1, hzpm1, H1⟩ := P_open H 0 (S := S) (Z := Z) (T := T) (R := R) (g := g) (by kernel_rfl)
  have hE0 := hpm1.en _ _ (find_En hf)
  obtain ⟨j0, hj0⟩ := hE0.k
  refine Sx.lp 13 (fun z l' w' => ∃ (j : Nat) (c : Nat) (bc : Nat), l' = [(0, .pointer (some ⟨ba, 0, none⟩)), (3, .pointer (some ⟨bc, 0, none⟩))] ∧ z = j ∧ Hs w L0 w' [bankI 78 T (ndC T R g pm1) [], kidsI pm1.S1 pm1.as (ksL T g), bankI 80 R (rwC R g pm1) [0], rowsI pm1.S2 pm1.sl g.ops] ∧ (T[c]? = some bc) ∧ (EnK pm1.il j c e)) _ [(0, .pointer (some ⟨ba, 0, none⟩)), (3, .pointer (some ⟨ba, 0, none⟩))] ⟨j0, n, ba, rfl, rfl, H1, hba, hj0⟩ (fun b1 z1 l1 w1 hI1 K1 hK1 => ?_)
  obtain ⟨j, c, bc, rfl, rfl, H2, hbc, hk⟩ := hI1
  rcases hk.cs with ⟨hx, hl, hz⟩ | ⟨j2, d, hx, hl, hq⟩
  · skip
    obtain rfl : be = bc := by rw [hz] at hbc; exact Option.some.inj (hbe.symm.trans hbc)
    have hcl : c < g.kind.length := by have := (List.getElem?_eq_some_iff.1 hbc).1; rw [hpm1.lT] at this; exact this
    obtain ⟨kd1, hkd1⟩ := tb (T := g.kind) (n := c) hcl
    obtain ⟨rb, hrb⟩ : ∃ rb, rowB R g c = rb := ⟨_, rfl⟩
    obtain ⟨nA1, nn1, nc1, has1, hna1⟩ := P_nd hpm1 (H2.at 1 (by kernel_rfl)) (n := c) hcl
    have H3 := bank_take (ty := 78) (T := T) (C := (ndC T R g pm1)) (hs := []) H2 0 (by kernel_rfl) (n := c) (b := be) hbc nz0 (ndC_eq hkd1 has1 (rb := rb) hrb (io := (none : Option Nat)) (il_none hl))
    refine Sx.l 6 0 H3 ?_
    have H4 := bank_put (ty := 78) (T := T) (C := (ndC T R g pm1)) (C' := (ndC T R g pm1)) (hs := []) H3 [0, 0] (by kernel_rfl) (n := c) (b := be) hbc nz0 (ndC_eq hkd1 has1 (rb := rb) hrb (io := (none : Option Nat)) (il_none hl)) (fun _ _ _ => rfl)
    clear hbc hl hk
    have H5 := H4.pick (a := [bankI 78 T (ndC T R g pm1) [], kidsI pm1.S1 pm1.as (ksL T g), bankI 80 R (rwC R g pm1) [0], rowsI pm1.S2 pm1.sl g.ops]) [0, 0, 0, 0] (by kernel_rfl)
    refine Sx.lp 11 (fun z l' w' => ∃ (j : Nat) (c : Nat) (bc : Nat) (mm : Pm), l' = [(0, .pointer (some ⟨bc, 0, none⟩)), (3, .pointer (some ⟨be, 0, none⟩))] ∧ z = j ∧ Hs w L0 w' [bankI 78 T (ndC T R g mm) [], kidsI mm.S1 mm.as (ksL T g), bankI 80 R (rwC R g mm) [0], rowsI mm.S2 mm.sl g.ops] ∧ (T[c]? = some bc) ∧ (EnK mm.il j c e) ∧ (PR T R g mm) ∧ (mm.as = Z)) _ [(0, .pointer (some ⟨ba, 0, none⟩)), (3, .pointer (some ⟨be, 0, none⟩))] ⟨j0, n, ba, pm1, rfl, rfl, H5, hba, hj0, hpm1, hzpm1⟩ (fun b2 z2 l2 w2 hI2 K2 hK2 => ?_)
    obtain ⟨j, c, bc, mm, rfl, rfl, H6, hbc, hk, hmm, hzm⟩ := hI2
    rcases hk.cs with ⟨hx, hl, hz⟩ | ⟨j2, d, hx, hl, hq⟩
    · skip
      obtain rfl : be = bc := by rw [hz] at hbc; exact Option.some.inj (hbe.symm.trans hbc)
      have hcl : c < g.kind.length := by have := (List.getElem?_eq_some_iff.1 hbc).1; rw [hmm.lT] at this; exact this
      obtain ⟨kd1, hkd1⟩ := tb (T := g.kind) (n := c) hcl
      obtain ⟨rb, hrb⟩ : ∃ rb, rowB R g c = rb := ⟨_, rfl⟩
      obtain ⟨nA2, nn2, nc2, has2, hna2⟩ := P_nd hmm (H6.at 1 (by kernel_rfl)) (n := c) hcl
      have H7 := bank_take (ty := 78) (T := T) (C := (ndC T R g mm)) (hs := []) H6 0 (by kernel_rfl) (n := c) (b := be) hbc nz0 (ndC_eq hkd1 has2 (rb := rb) hrb (io := (none : Option Nat)) (il_none hl))
      refine Sx.l 6 0 H7 ?_
      refine Sx.rt 16 [] H7 (.pointer (some ⟨be, 0, none⟩)) ?_
      have H8 := bank_put (ty := 78) (T := T) (C := (ndC T R g mm)) (C' := (ndC T R g mm)) (hs := []) H7 [0, 0] (by kernel_rfl) (n := c) (b := be) hbc nz0 (ndC_eq hkd1 has2 (rb := rb) hrb (io := (none : Option Nat)) (il_none hl)) (fun _ _ _ => rfl)
      obtain ⟨S1, H9⟩ := P_close H8 [0, 0, 0, 0] (Z := Z) (T := T) (R := R) (g := g) mm hmm hzm (by kernel_rfl)
      subst hL0
      exact hK S1 _ (H9.pick (a := [PI S1 Z T R g]) [0] (by kernel_rfl))
    subst hx
    obtain ⟨bd, hbd⟩ := tb (T := T) (n := d) (hmm.il_lt hq.en).1
    have hcl : c < g.kind.length := by have := (List.getElem?_eq_some_iff.1 hbc).1; rw [hmm.lT] at this; exact this
    obtain ⟨kd1, hkd1⟩ := tb (T := g.kind) (n := c) hcl
    obtain ⟨rb, hrb⟩ : ∃ rb, rowB R g c = rb := ⟨_, rfl⟩
    obtain ⟨nA3, nn3, nc3, has3, hna3⟩ := P_nd hmm (H6.at 1 (by kernel_rfl)) (n := c) hcl
    have H10 := bank_take (ty := 78) (T := T) (C := (ndC T R g mm)) (hs := []) H6 0 (by kernel_rfl) (n := c) (b := bc) hbc nz0 (ndC_eq hkd1 has3 (rb := rb) hrb (io := (some bd)) (il_some hl hbd))
    refine Sx.l 6 0 H10 ?_
    refine Sx.l 12 0 H10 ?_
    refine Sx.s 4 0 H10 fun w3 H11 => ?_
    have hcm : c < mm.il.length := (List.getElem?_eq_some_iff.1 hl).1
    have hEc : En mm.il c e := .on hl hq.en
    have hm2 : PR T R g { mm with il := mm.il.set c (some e) } := hmm.short hl hEc
    obtain ⟨j3, hj3, hq2⟩ := EnK.short hl hEc hq
    have H12 := bank_put (ty := 78) (T := T) (C := (ndC T R g mm)) (C' := (ndC T R g ({ mm with il := mm.il.set c (some e) }))) (hs := []) H11 [0, 0] (by kernel_rfl) (n := c) (b := bc) hbc nz0 (ndC_eq hkd1 has3 (rb := rb) hrb (io := some be) (il_set hcm hbe)) (fun i hi _ => ndC_il hi)
    have H14 := H12.pick (a := [bankI 78 T (ndC T R g ({ mm with il := mm.il.set c (some e) } : Pm)) [], kidsI ({ mm with il := mm.il.set c (some e) } : Pm).S1 ({ mm with il := mm.il.set c (some e) } : Pm).as (ksL T g), bankI 80 R (rwC R g ({ mm with il := mm.il.set c (some e) } : Pm)) [0], rowsI ({ mm with il := mm.il.set c (some e) } : Pm).S2 ({ mm with il := mm.il.set c (some e) } : Pm).sl g.ops]) [0, 0, 0, 0] (by kernel_rfl)
    exact Sx.to 2 [(0, .pointer (some ⟨bd, 0, none⟩)), (3, .pointer (some ⟨be, 0, none⟩))] (hK2 _ _ _ _ (by omega) ⟨j3, d, bd, ({ mm with il := mm.il.set c (some e) } : Pm), rfl, rfl, H14, hbd, hq2, hm2, hzm⟩)
  subst hx
  obtain ⟨bd, hbd⟩ := tb (T := T) (n := d) (hpm1.il_lt hq.en).1
  have hcl : c < g.kind.length := by have := (List.getElem?_eq_some_iff.1 hbc).1; rw [hpm1.lT] at this; exact this
  obtain ⟨kd1, hkd1⟩ := tb (T := g.kind) (n := c) hcl
  obtain ⟨rb, hrb⟩ : ∃ rb, rowB R g c = rb := ⟨_, rfl⟩
  obtain ⟨nA4, nn4, nc4, has4, hna4⟩ := P_nd hpm1 (H2.at 1 (by kernel_rfl)) (n := c) hcl
  have H15 := bank_take (ty := 78) (T := T) (C := (ndC T R g pm1)) (hs := []) H2 0 (by kernel_rfl) (n := c) (b := bc) hbc nz0 (ndC_eq hkd1 has4 (rb := rb) hrb (io := (some bd)) (il_some hl hbd))
  refine Sx.l 6 0 H15 ?_
  refine Sx.l 11 0 H15 ?_
  have H16 := bank_put (ty := 78) (T := T) (C := (ndC T R g pm1)) (C' := (ndC T R g pm1)) (hs := []) H15 [0, 0] (by kernel_rfl) (n := c) (b := bc) hbc nz0 (ndC_eq hkd1 has4 (rb := rb) hrb (io := (some bd)) (il_some hl hbd)) (fun _ _ _ => rfl)
  exact Sx.to 3 [(0, .pointer (some ⟨ba, 0, none⟩)), (3, .pointer (some ⟨bd, 0, none⟩))] (hK1 _ _ _ _ (by omega) ⟨j2, d, bd, rfl, rfl, H16, hbd, hq⟩)
end Go.Proofs.Ytfkkocjheeoobaa
