/- A part of the proof. -/
import Derived.Test.YtdmdecgoebnamaaGreatGraph
import Derived.Test.YtdmdecgoebnamaaGreatProg
import Derived.Test.YtdmdecgoebnamaaGreatRdL1
set_option linter.unusedVariables false
set_option linter.unusedSimpArgs false
namespace Go.Proofs.YtdmdecgoebnamaaGreat
open Go.RowKit Go.Sx Go.Inf Go.Syn
attribute [local irreducible] Go.wpOps Go.Code.wp Go.wpOp Go.wpAnyH Go.Calls Go.Sx.Goal
set_option maxRecDepth 20000
namespace Rd
/-- The reader. -/
abbrev rdI (b : Nat) (S : ByteArray) (q : Rs) : Sx.Item := .blk b (.cells #[.string S, .n q.k, .n q.a, .string q.t, .n q.n, .n q.e, .n q.fk, .n q.fa, .n q.x, .n q.y] 91)
theorem ok_c (b : Nat) (S : ByteArray) (q : Rs) (w : World) (K : Ending → World → Prop) (H0 : Sp w [rdI b S q]) (hK : K (.returned (.bool (okB q))) w) :
    Calls Tryz.prog 35 #[.p b] w K := by
  obtain ⟨L0, hL0, H⟩ := Sx.op0 H0
  refine Sx.en (vs := [.p b]) 9 Tryz.func35 <| Sx.l 11 0 H ?_
  exact Sx.rt 5 [] H (.bool (((q.fk : Nat) : Int) == (0 : Int))) (Gx.ret_as (v' := .bool (okB q)) (congrArg Value.bool (by rfl)) hK)
theorem is_c (b : Nat) (S : ByteArray) (q : Rs) (s : ByteArray) (w : World) (K : Ending → World → Prop) (H0 : Sp w [rdI b S q]) (hK : K (.returned (.bool (isB q s))) w) :
    Calls Tryz.prog 45 #[.p b, .string s] w K := by
  obtain ⟨L0, hL0, H⟩ := Sx.op0 H0
  refine Sx.en (vs := [.p b, .string s]) 32 Tryz.func45 ?_
  refine Sx.cut 5 (fun l' w' => l' = [(4, .bool (((okB q) && ((((q.k : Nat) : Int) == (3 : Int)) || (((q.k : Nat) : Int) == (4 : Int)))) && (q.t.toList == s.toList)))] ∧ w = w') (fun K1 hK1 => ?_) (fun b1 l1 w1 hI1 => ?_)
  · refine Sx.c 2 [0] H (fun Hp R hR => ok_c b S q w R Hp (hR _ _ _ (.refl Hp) fun _ => ?_))
    refine Sx.sp 1 7 (okB q) (fun h_g7 => ?_) (fun h_g7 => ?_)
    · refine Sx.l 4 0 H ?_
      refine Sx.sp 2 14 (((q.k : Nat) : Int) == (3 : Int)) (fun h_g14 => ?_) (fun h_g14 => ?_)
      · refine Sx.l 13 0 H ?_
        exact Sx.to 5 _ (hK1 _ _ _ ⟨rfl, rfl⟩) (h2 := (by rw [h_g7, h_g14]; try kernel_rfl))
      refine Sx.l 4 0 H ?_
      refine Sx.sp 4 23 (((q.k : Nat) : Int) == (4 : Int)) (fun h_g23 => ?_) (fun h_g23 => ?_)
      · refine Sx.l 4 0 H ?_
        exact Sx.to 5 _ (hK1 _ _ _ ⟨rfl, rfl⟩) (h2 := (by rw [h_g7, h_g14, h_g23]; try kernel_rfl))
      exact Sx.to 10 _ (hK1 _ _ _ ⟨rfl, rfl⟩) (h2 := (by rw [h_g7, h_g14, h_g23]; try kernel_rfl))
    exact Sx.to 26 _ (hK1 _ _ _ ⟨rfl, rfl⟩) (h2 := (by rw [h_g7]; try kernel_rfl))
  obtain ⟨rfl, rfl⟩ := hI1
  exact Sx.rt 1 [] H (.bool (((okB q) && ((((q.k : Nat) : Int) == (3 : Int)) || (((q.k : Nat) : Int) == (4 : Int)))) && (q.t.toList == s.toList))) (Gx.ret_as (v' := .bool (isB q s)) (congrArg Value.bool (by rfl)) hK)
theorem isName_c (b : Nat) (S : ByteArray) (q : Rs) (w : World) (K : Ending → World → Prop) (H0 : Sp w [rdI b S q]) (hK : K (.returned (.bool (isNameB q))) w) :
    Calls Tryz.prog 81 #[.p b] w K := by
  obtain ⟨L0, hL0, H⟩ := Sx.op0 H0
  refine Sx.en (vs := [.p b]) 13 Tryz.func81 ?_
  refine Sx.cut 5 (fun l' w' => l' = [(2, .bool ((okB q) && (((q.k : Nat) : Int) == (2 : Int))))] ∧ w = w') (fun K1 hK1 => ?_) (fun b1 l1 w1 hI1 => ?_)
  · refine Sx.c 2 [0] H (fun Hp R hR => ok_c b S q w R Hp (hR _ _ _ (.refl Hp) fun _ => ?_))
    refine Sx.sp 1 5 (okB q) (fun h_g5 => ?_) (fun h_g5 => ?_)
    · refine Sx.l 4 0 H ?_
      exact Sx.to 4 _ (hK1 _ _ _ ⟨rfl, rfl⟩) (h2 := (by rw [h_g5]; try kernel_rfl))
    exact Sx.to 9 _ (hK1 _ _ _ ⟨rfl, rfl⟩) (h2 := (by rw [h_g5]; try kernel_rfl))
  obtain ⟨rfl, rfl⟩ := hI1
  exact Sx.rt 1 [] H (.bool ((okB q) && (((q.k : Nat) : Int) == (2 : Int)))) (Gx.ret_as (v' := .bool (isNameB q)) (congrArg Value.bool (by rfl)) hK)
theorem begins_c (b : Nat) (S : ByteArray) (q : Rs) (w : World) (K : Ending → World → Prop) (H0 : Sp w [rdI b S q]) (hK : K (.returned (.bool (begB q))) w) :
    Calls Tryz.prog 139 #[.p b] w K := by
  obtain ⟨L0, hL0, H⟩ := Sx.op0 H0
  refine Sx.en (vs := [.p b]) 41 Tryz.func139 ?_
  refine Sx.cut 5 (fun l' w' => l' = [(2, .bool ((okB q) && (((((((((q.k : Nat) : Int) == (2 : Int)) || (((q.k : Nat) : Int) == (1 : Int))) || (isB q (⟨#[126]⟩ : ByteArray))) || (isB q (⟨#[116, 114, 117, 101]⟩ : ByteArray))) || (isB q (⟨#[102, 97, 108, 115, 101]⟩ : ByteArray))) || (isB q (⟨#[40]⟩ : ByteArray))) || (isB q (⟨#[91]⟩ : ByteArray)))))] ∧ w = w') (fun K1 hK1 => ?_) (fun b1 l1 w1 hI1 => ?_)
  · refine Sx.c 2 [0] H (fun Hp R hR => ok_c b S q w R Hp (hR _ _ _ (.refl Hp) fun _ => ?_))
    refine Sx.sp 1 5 (okB q) (fun h_g5 => ?_) (fun h_g5 => ?_)
    · refine Sx.l 4 0 H ?_
      refine Sx.sp 2 12 (((q.k : Nat) : Int) == (2 : Int)) (fun h_g12 => ?_) (fun h_g12 => ?_)
      · exact Sx.to 30 _ (hK1 _ _ _ ⟨rfl, rfl⟩) (h2 := (by rw [h_g5, h_g12]; try kernel_rfl))
      refine Sx.l 4 0 H ?_
      refine Sx.sp 3 20 (((q.k : Nat) : Int) == (1 : Int)) (fun h_g20 => ?_) (fun h_g20 => ?_)
      · exact Sx.to 22 _ (hK1 _ _ _ ⟨rfl, rfl⟩) (h2 := (by rw [h_g5, h_g12, h_g20]; try kernel_rfl))
      refine Sx.c 1 [0] H (fun Hp R hR => is_c b S q (⟨#[126]⟩ : ByteArray) w R Hp (hR _ _ _ (.refl Hp) fun _ => ?_))
      refine Sx.sp 2 24 (isB q (⟨#[126]⟩ : ByteArray)) (fun h_g24 => ?_) (fun h_g24 => ?_)
      · exact Sx.to 18 _ (hK1 _ _ _ ⟨rfl, rfl⟩) (h2 := (by rw [h_g5, h_g12, h_g20, h_g24]; try kernel_rfl))
      refine Sx.c 1 [0] H (fun Hp R hR => is_c b S q (⟨#[116, 114, 117, 101]⟩ : ByteArray) w R Hp (hR _ _ _ (.refl Hp) fun _ => ?_))
      refine Sx.sp 2 28 (isB q (⟨#[116, 114, 117, 101]⟩ : ByteArray)) (fun h_g28 => ?_) (fun h_g28 => ?_)
      · exact Sx.to 14 _ (hK1 _ _ _ ⟨rfl, rfl⟩) (h2 := (by rw [h_g5, h_g12, h_g20, h_g24, h_g28]; try kernel_rfl))
      refine Sx.c 1 [0] H (fun Hp R hR => is_c b S q (⟨#[102, 97, 108, 115, 101]⟩ : ByteArray) w R Hp (hR _ _ _ (.refl Hp) fun _ => ?_))
      refine Sx.sp 2 32 (isB q (⟨#[102, 97, 108, 115, 101]⟩ : ByteArray)) (fun h_g32 => ?_) (fun h_g32 => ?_)
      · exact Sx.to 10 _ (hK1 _ _ _ ⟨rfl, rfl⟩) (h2 := (by rw [h_g5, h_g12, h_g20, h_g24, h_g28, h_g32]; try kernel_rfl))
      refine Sx.c 1 [0] H (fun Hp R hR => is_c b S q (⟨#[40]⟩ : ByteArray) w R Hp (hR _ _ _ (.refl Hp) fun _ => ?_))
      refine Sx.sp 2 36 (isB q (⟨#[40]⟩ : ByteArray)) (fun h_g36 => ?_) (fun h_g36 => ?_)
      · exact Sx.to 6 _ (hK1 _ _ _ ⟨rfl, rfl⟩) (h2 := (by rw [h_g5, h_g12, h_g20, h_g24, h_g28, h_g32, h_g36]; try kernel_rfl))
      refine Sx.c 1 [0] H (fun Hp R hR => is_c b S q (⟨#[91]⟩ : ByteArray) w R Hp (hR _ _ _ (.refl Hp) fun _ => ?_))
      exact Sx.to 4 _ (hK1 _ _ _ ⟨rfl, rfl⟩) (h2 := (by rw [h_g5, h_g12, h_g20, h_g24, h_g28, h_g32, h_g36]; try kernel_rfl))
    exact Sx.to 37 _ (hK1 _ _ _ ⟨rfl, rfl⟩) (h2 := (by rw [h_g5]; try kernel_rfl))
  obtain ⟨rfl, rfl⟩ := hI1
  exact Sx.rt 1 [] H (.bool ((okB q) && (((((((((q.k : Nat) : Int) == (2 : Int)) || (((q.k : Nat) : Int) == (1 : Int))) || (isB q (⟨#[126]⟩ : ByteArray))) || (isB q (⟨#[116, 114, 117, 101]⟩ : ByteArray))) || (isB q (⟨#[102, 97, 108, 115, 101]⟩ : ByteArray))) || (isB q (⟨#[40]⟩ : ByteArray))) || (isB q (⟨#[91]⟩ : ByteArray))))) (Gx.ret_as (v' := .bool (begB q)) (congrArg Value.bool (by rfl)) hK)
theorem Next_s (s : ByteArray) (i : Nat) (w : World) (K : Ending → World → Prop) (H0 : Sp w []) (hs : s.size ≤ 3000) (hi : i ≤ s.size) (hK : ∀ w', Hs w [] w' [] → K (.returned (Go.Lex.Nx.V (Go.Lex.next s i))) w') : Calls Tryz.prog 43 #[.string s, .n i] w K :=
  Doc.rNext_c s i w K hs hi fun w' x => hK w' ((Hs.refl H0).ext x)
set_option maxHeartbeats 2000000 in
theorem next0_c (b : Nat) (S : ByteArray) (q : Rs) (w : World) (K : Ending → World → Prop) (H0 : Sp w [rdI b S q]) (hz : S.size ≤ 3000) (he : q.e ≤ S.size) (hK : ∀ (q' : Rs) (e : nextR S q = q') w', Hs w [rdI b S q] w' [rdI b S q'] → K (.returned (.tuple #[])) w') :
    Calls Tryz.prog 33 #[.p b] w K := by
  obtain ⟨L0, hL0, H⟩ := Sx.op0 H0
  refine Sx.en (vs := [.p b]) 36 Tryz.func33 <| Sx.l 7 0 H ?_
  refine Sx.br 3 (((q.fk : Nat) : Int) != (0 : Int)) (fun h_c10 => ?_) (fun h_c10 => ?_)
  · have p_c10 := h_c10; try simp [-List.getD_eq_getElem?_getD] at p_c10
    have e : nextR S q = q := by unfold nextR; rw [if_neg (by unfold okB; simpa using h_c10)]
    exact Sx.rt 2 [] H _ (hK _ e _ (H.pe hL0 [0]))
  refine Sx.cut 2 (fun l' w' => ∃ (k1 : Nat) (k2 : Nat), l' = [(0, .p b), (2, .p k1), (3, .int .i64 (((Go.Lex.next S q.e).nx : Nat) : Int)), (4, .p k2)] ∧ Hs w L0 w' [rdI b S q, .blk k1 (.cells #[.int .i64 (((Go.Lex.next S q.e).kind : Nat) : Int), .int .i64 (((Go.Lex.next S q.e).at_ : Nat) : Int), .string ((Go.Lex.next S q.e).text), .int .i64 (((Go.Lex.next S q.e).n : Nat) : Int)] 89), .blk k2 (.cells #[.int .i64 (((Go.Lex.next S q.e).fk : Nat) : Int), .int .i64 (((Go.Lex.next S q.e).fa : Nat) : Int)] 35)]) (fun K1 hK1 => ?_) (fun b1 l1 w1 hI1 => ?_)
  · refine Sx.dr 0 H [0] [] (LJ := [rdI b S q]) (by kernel_rfl) fun w2 H1 => ?_
    refine Sx.tk [(0, none), (1, none), (2, none), (3, some (0, [])), (4, none), (5, none), (6, none), (7, some (0, []))] (H1.sb [0]) <| Sx.nmx ?_
    intro zx1
    refine Sx.on3 8 13 14 ?_ ?_ ?_
    · have p_c10 := h_c10; try simp [-List.getD_eq_getElem?_getD] at p_c10
      refine Sx.c 0 [] H1 (fun Hp R hR => Next_s S q.e w2 R Hp hz he (fun w3 G1 => hR _ _ _ G1 fun H2 => ?_))
      refine Sx.bk (x := zx1) 8 (H2.sb [0]) <| Sx.tk [(9, none), (10, none), (11, none), (12, none)] (H2.sb [0]) <| Sx.nmx ?_
      intro zx2
      refine Sx.on2 13 14 ?_ ?_
      · refine Sx.nw 0 H2 fun k1 w4 H3 => ?_
        refine Sx.bk (x := zx2) 13 (H3.sb [0]) <| Sx.nmx ?_
        intro zx3
        refine Sx.on 14 <| Sx.nw 0 H3 fun k2 w5 H4 => Sx.bk (x := zx3) 14 (H4.sb [0]) <| Sx.nmx ?_
        intro zx4
        refine Sx.on 15 <| Sx.s 0 1 H4 fun w6 H5 => Sx.bk (x := zx4) 15 (H5.sb [0]) <| Sx.tk [(16, none)] (H5.sb [0]) <| Sx.nmx ?_
        intro zx5
        refine Sx.on 17 <| Sx.s 0 2 H5 fun w7 H6 => Sx.bk (x := zx5) 17 (H6.sb [0]) <| Sx.dn ?_
        exact Sx.to 0 _ (hK1 _ _ _ ⟨k1, k2, rfl, H6.pk [0, 0, 0]⟩)
      refine Sx.nw 0 H2 fun k3 w8 H8 => Sx.bk (x := zx2) 14 (H8.sb [0]) <| Sx.nmx ?_
      intro zx6
      refine Sx.on 13 <| Sx.nw 0 H8 fun k4 w9 H9 => Sx.bk (x := zx6) 13 (H9.sb [0]) <| Sx.nmx ?_
      intro zx7
      refine Sx.on 15 <| Sx.s 0 2 H9 fun w10 H10 => Sx.bk (x := zx7) 15 (H10.sb [0]) <| Sx.tk [(16, none)] (H10.sb [0]) <| Sx.nmx ?_
      intro zx8
      refine Sx.on 17 <| Sx.s 0 1 H10 fun w11 H11 => Sx.bk (x := zx8) 17 (H11.sb [0]) <| Sx.dn ?_
      exact Sx.to 0 _ (hK1 _ _ _ ⟨k4, k3, rfl, H11.pk [0, 1, 0]⟩)
    · refine Sx.nw 0 H1 fun k5 w12 H13 => ?_
      refine Sx.bk (x := zx1) 13 (H13.sb [0]) <| Sx.nmx ?_
      intro zx9
      refine Sx.on2 8 14 ?_ ?_
      · have p_c10 := h_c10; try simp [-List.getD_eq_getElem?_getD] at p_c10
        refine Sx.c 0 [] H13 (fun Hp R hR => Next_s S q.e w12 R Hp hz he (fun w13 G2 => hR _ _ _ G2 fun H14 => ?_))
        refine Sx.bk (x := zx9) 8 (H14.sb [0]) <| Sx.tk [(9, none), (10, none), (11, none), (12, none)] (H14.sb [0]) <| Sx.nmx ?_
        intro zx10
        refine Sx.on 14 <| Sx.nw 0 H14 fun k6 w14 H15 => Sx.bk (x := zx10) 14 (H15.sb [0]) <| Sx.nmx ?_
        intro zx11
        refine Sx.on 15 <| Sx.s 0 1 H15 fun w15 H16 => Sx.bk (x := zx11) 15 (H16.sb [0]) <| Sx.tk [(16, none)] (H16.sb [0]) <| Sx.nmx ?_
        intro zx12
        refine Sx.on 17 <| Sx.s 0 2 H16 fun w16 H17 => Sx.bk (x := zx12) 17 (H17.sb [0]) <| Sx.dn ?_
        exact Sx.to 0 _ (hK1 _ _ _ ⟨k5, k6, rfl, H17.pk [0, 0, 0]⟩)
      refine Sx.nw 0 H13 fun k7 w17 H19 => Sx.bk (x := zx9) 14 (H19.sb [0]) <| Sx.nmx ?_
      intro zx13
      refine Sx.on 8 ?_
      have p_c10 := h_c10; try simp [-List.getD_eq_getElem?_getD] at p_c10
      refine Sx.c 0 [] H19 (fun Hp R hR => Next_s S q.e w17 R Hp hz he (fun w18 G3 => hR _ _ _ G3 fun H20 => ?_))
      refine Sx.bk (x := zx13) 8 (H20.sb [0]) <| Sx.tk [(9, none), (10, none), (11, none), (12, none)] (H20.sb [0]) <| Sx.nmx ?_
      intro zx14
      refine Sx.on 15 <| Sx.s 0 1 H20 fun w19 H21 => Sx.bk (x := zx14) 15 (H21.sb [0]) <| Sx.tk [(16, none)] (H21.sb [0]) <| Sx.nmx ?_
      intro zx15
      refine Sx.on 17 <| Sx.s 0 2 H21 fun w20 H22 => Sx.bk (x := zx15) 17 (H22.sb [0]) <| Sx.dn ?_
      exact Sx.to 0 _ (hK1 _ _ _ ⟨k5, k7, rfl, H22.pk [0, 0, 0]⟩)
    refine Sx.nw 0 H1 fun k8 w21 H24 => Sx.bk (x := zx1) 14 (H24.sb [0]) <| Sx.nmx ?_
    intro zx16
    refine Sx.on2 8 13 ?_ ?_
    · have p_c10 := h_c10; try simp [-List.getD_eq_getElem?_getD] at p_c10
      refine Sx.c 0 [] H24 (fun Hp R hR => Next_s S q.e w21 R Hp hz he (fun w22 G4 => hR _ _ _ G4 fun H25 => ?_))
      refine Sx.bk (x := zx16) 8 (H25.sb [0]) <| Sx.tk [(9, none), (10, none), (11, none), (12, none)] (H25.sb [0]) <| Sx.nmx ?_
      intro zx17
      refine Sx.on 13 <| Sx.nw 0 H25 fun k9 w23 H26 => Sx.bk (x := zx17) 13 (H26.sb [0]) <| Sx.nmx ?_
      intro zx18
      refine Sx.on 15 <| Sx.s 0 2 H26 fun w24 H27 => Sx.bk (x := zx18) 15 (H27.sb [0]) <| Sx.tk [(16, none)] (H27.sb [0]) <| Sx.nmx ?_
      intro zx19
      refine Sx.on 17 <| Sx.s 0 1 H27 fun w25 H28 => Sx.bk (x := zx19) 17 (H28.sb [0]) <| Sx.dn ?_
      exact Sx.to 0 _ (hK1 _ _ _ ⟨k9, k8, rfl, H28.pk [0, 1, 0]⟩)
    refine Sx.nw 0 H24 fun k10 w26 H30 => Sx.bk (x := zx16) 13 (H30.sb [0]) <| Sx.nmx ?_
    intro zx20
    refine Sx.on 8 ?_
    have p_c10 := h_c10; try simp [-List.getD_eq_getElem?_getD] at p_c10
    refine Sx.c 0 [] H30 (fun Hp R hR => Next_s S q.e w26 R Hp hz he (fun w27 G5 => hR _ _ _ G5 fun H31 => ?_))
    refine Sx.bk (x := zx20) 8 (H31.sb [0]) <| Sx.tk [(9, none), (10, none), (11, none), (12, none)] (H31.sb [0]) <| Sx.nmx ?_
    intro zx21
    refine Sx.on 15 <| Sx.s 0 2 H31 fun w28 H32 => Sx.bk (x := zx21) 15 (H32.sb [0]) <| Sx.tk [(16, none)] (H32.sb [0]) <| Sx.nmx ?_
    intro zx22
    refine Sx.on 17 <| Sx.s 0 1 H32 fun w29 H33 => Sx.bk (x := zx22) 17 (H33.sb [0]) <| Sx.dn ?_
    exact Sx.to 0 _ (hK1 _ _ _ ⟨k10, k8, rfl, H33.pk [0, 1, 0]⟩)
  obtain ⟨k1, k2, rfl, H35⟩ := hI1
  refine Sx.l 3 1 H35 <| Sx.s 2 0 H35 fun w30 H36 => Sx.s 8 0 H36 fun w31 H37 => Sx.l 4 2 H37 <| Sx.s 2 0 H37 fun w32 H38 => ?_
  have p_c10 := h_c10; try simp [-List.getD_eq_getElem?_getD] at p_c10
  have e : nextR S q = (⟨(Go.Lex.next S q.e).kind, (Go.Lex.next S q.e).at_, (Go.Lex.next S q.e).text, (Go.Lex.next S q.e).n, (Go.Lex.next S q.e).nx, (Go.Lex.next S q.e).fk, (Go.Lex.next S q.e).fa, q.x, q.y⟩ : Rs) := by unfold nextR; rw [if_pos (by unfold okB; simpa using h_c10)]
  exact Sx.rt 1 [] H38 _ (hK _ e _ (H38.pe hL0 [0]))
theorem next_c (b : Nat) (S : ByteArray) (q : Rs) (w : World) (K : Ending → World → Prop) (H0 : Sp w [rdI b S q]) (ok : Ok S q) (hK : ∀ (q' : Rs) (e : nextR S q = q') (u : Up S q q' ∧ ∀ s, isB q s = true → M S q' < M S q) w', Hs w [rdI b S q] w' [rdI b S q'] → K (.returned (.tuple #[])) w') : Calls Tryz.prog 33 #[.p b] w K :=
  next0_c b S q w K H0 ok.size ok.e fun q' e w' H => hK q' e (up_next ok e) w' H
theorem no_c (b : Nat) (S : ByteArray) (q : Rs) (w : World) (K : Ending → World → Prop) (H0 : Sp w [rdI b S q]) (ok : Ok S q) (hK : ∀ (q' : Rs) (e : noR q = q') (u : Up S q q') w', Hs w [rdI b S q] w' [rdI b S q'] → K (.returned (.tuple #[])) w') :
    Calls Tryz.prog 36 #[.p b] w K := by
  obtain ⟨L0, hL0, H⟩ := Sx.op0 H0
  refine Sx.en (vs := [.p b]) 13 Tryz.func36 ?_
  refine Sx.c 3 [0] H (fun Hp R hR => ok_c b S q w R Hp (hR _ _ _ (.refl Hp) fun _ => ?_))
  refine Sx.br 2 (okB q) (fun h_c3 => ?_) (fun h_c3 => ?_)
  · refine Sx.l 6 0 H ?_
    refine Sx.s 3 0 H fun w1 H1 => ?_
    have e : noR q = (⟨q.k, q.a, q.t, q.n, q.e, 4, q.a, q.x, q.y⟩ : Rs) := by simp only [noR, *, s0, reduceIte]
    exact Sx.rt 1 [] H1 _ (hK _ e (up_no ok e) _ (H1.pe hL0 [0]))
  have e : noR q = q := by simp only [noR, *, s0, reduceIte]
  exact Sx.rt 1 [] H _ (hK _ e (up_no ok e) _ (H.pe hL0 [0]))
theorem has_c (b : Nat) (S : ByteArray) (q : Rs) (s : ByteArray) (w : World) (K : Ending → World → Prop) (H0 : Sp w [rdI b S q]) (ok : Ok S q) (hK : ∀ (q' : Rs) (e : hasR S q s = q') (u : Up S q q' ∧ (isB q s = true → M S q' < M S q)) w', Hs w [rdI b S q] w' [rdI b S q'] → K (.returned (.bool (isB q s))) w') :
    Calls Tryz.prog 50 #[.p b, .string s] w K := by
  obtain ⟨L0, hL0, H⟩ := Sx.op0 H0
  refine Sx.en (vs := [.p b, .string s]) 10 Tryz.func50 ?_
  refine Sx.c 10 [0] H (fun Hp R hR => is_c b S q s w R Hp (hR _ _ _ (.refl Hp) fun _ => ?_))
  refine Sx.br 2 (isB q s) (fun h_c7 => ?_) (fun h_c7 => ?_)
  · refine Sx.c 3 [0] H (fun Hp R hR => next_c b S q w R Hp ok (fun q1 e1 ⟨⟨ok1, m1, x1, y1⟩, l1⟩ w1 G1 => hR _ _ _ G1 fun H1 => ?_))
    have := l1 _ h_c7
    have e : hasR S q s = q1 := by simp only [hasR, *, s0, reduceIte]
    exact Sx.rt 9 [] H1 (.bool true) (Gx.ret_as (congrArg Value.bool h_c7) (hK _ e (up_has ok e) _ (H1.pe hL0 [0])))
  have e : hasR S q s = q := by simp only [hasR, *, s0, reduceIte]
  exact Sx.rt 8 [] H (.bool false) (Gx.ret_as (congrArg Value.bool h_c7) (hK _ e (up_has ok e) _ (H.pe hL0 [0])))
theorem must_c (b : Nat) (S : ByteArray) (q : Rs) (s : ByteArray) (w : World) (K : Ending → World → Prop) (H0 : Sp w [rdI b S q]) (ok : Ok S q) (hK : ∀ (q' : Rs) (e : mustR S q s = q') (u : Up S q q') w', Hs w [rdI b S q] w' [rdI b S q'] → K (.returned (.tuple #[])) w') :
    Calls Tryz.prog 47 #[.p b, .string s] w K := by
  obtain ⟨L0, hL0, H⟩ := Sx.op0 H0
  refine Sx.en (vs := [.p b, .string s]) 10 Tryz.func47 ?_
  refine Sx.c 4 [0] H (fun Hp R hR => has_c b S q s w R Hp ok (fun q1 e1 ⟨⟨ok1, m1, x1, y1⟩, l1⟩ w1 G1 => hR _ _ _ G1 fun H1 => ?_))
  refine Sx.br 3 (!(isB q s)) (fun h_c7 => ?_) (fun h_c7 => ?_)
  · have n_c7 := nt h_c7
    refine Sx.c 2 [0] H1 (fun Hp R hR => no_c b S q1 w1 R Hp ok1 (fun q2 e2 ⟨ok2, m2, x2, y2⟩ w2 G2 => hR _ _ _ G2 fun H2 => ?_))
    have e : mustR S q s = q2 := by unfold mustR; rw [if_neg (by rw [n_c7]; exact Bool.false_ne_true)]; unfold hasR at e1; rw [if_neg (by rw [n_c7]; exact Bool.false_ne_true)] at e1; subst e1; assumption
    exact Sx.rt 1 [] H2 _ (hK _ e (up_must ok e) _ (H2.pe hL0 [0]))
  have n_c7 := nf h_c7
  have lt1 := l1 n_c7
  have e : mustR S q s = q1 := by unfold mustR; rw [if_pos n_c7]; unfold hasR at e1; rw [if_pos n_c7] at e1; exact e1
  exact Sx.rt 1 [] H1 _ (hK _ e (up_must ok e) _ (H1.pe hL0 [0]))
theorem name_c (b : Nat) (S : ByteArray) (q : Rs) (w : World) (K : Ending → World → Prop) (H0 : Sp w [rdI b S q]) (ok : Ok S q) (hK : ∀ (x : ByteArray) (a : Nat) (q' : Rs) (e : nameR S q = ((x, a), q')) (u : Up S q q' ∧ (okB q' = true → M S q' < M S q)) w', Hs w [rdI b S q] w' [rdI b S q'] → K (.returned (.tuple #[.string x, .n a])) w') :
    Calls Tryz.prog 46 #[.p b] w K := by
  obtain ⟨L0, hL0, H⟩ := Sx.op0 H0
  refine Sx.en (vs := [.p b]) 25 Tryz.func46 <| Sx.l 11 0 H <| Sx.nw 0 H fun k1 w1 H1 => Sx.s 0 1 H1 fun w2 H2 => ?_
  refine Sx.cut 3 (fun l' w' => l' = [(0, .p b), (4, .p k1), (16, .bool ((!(okB q)) || (((q.k : Nat) : Int) != (2 : Int))))] ∧ w2 = w') (fun K1 hK1 => ?_) (fun b1 l1 w3 hI1 => ?_)
  · refine Sx.c 2 [0] H2 (fun Hp R hR => ok_c b S q w2 R Hp (hR _ _ _ (.refl Hp) fun _ => ?_))
    refine Sx.sp 2 12 (!(okB q)) (fun h_g12 => ?_) (fun h_g12 => ?_)
    · exact Sx.to 5 _ (hK1 _ _ _ ⟨rfl, rfl⟩) (h2 := (by rw [h_g12]; try kernel_rfl))
    refine Sx.l 1 1 H2 ?_
    exact Sx.to 3 _ (hK1 _ _ _ ⟨rfl, rfl⟩) (h2 := (by rw [h_g12]; try kernel_rfl))
  obtain ⟨rfl, rfl⟩ := hI1
  refine Sx.br 0 ((!(okB q)) || (((q.k : Nat) : Int) != (2 : Int))) (fun h_c16 => ?_) (fun h_c16 => ?_)
  · refine Sx.c 3 [0] H2 (fun Hp R hR => no_c b S q w2 R Hp ok (fun q1 e1 ⟨ok1, m1, x1, y1⟩ w4 G1 => hR _ _ _ G1 fun H3 => ?_))
    have hn := nm_t h_c16
    have e : nameR S q = (((⟨#[]⟩ : ByteArray), 0), q1) := by simp only [nameR, *, s0, reduceIte]
    exact Sx.rt 10 [] H3 _ (hK _ _ _ e (up_name ok e) _ (H3.pe hL0 [0]))
  refine Sx.c 5 [0] H2 (fun Hp R hR => next_c b S q w2 R Hp ok (fun q2 e2 ⟨⟨ok2, m2, x2, y2⟩, l2⟩ w5 G2 => hR _ _ _ G2 fun H4 => ?_))
  refine Sx.dr 3 H4 [1] [] (LJ := [.blk k1 (.cells #[.n q.k, .n q.a, .string q.t, .n q.n] 89)]) (by kernel_rfl) fun w6 H5 => Sx.tk [(0, none), (1, some (0, [])), (2, none), (3, some (0, [])), (4, none), (5, none)] (H5.sb [1]) <| Sx.dn ?_
  have hn := nm_f h_c16
  have e : nameR S q = ((q.t, q.a), q2) := by simp only [nameR, *, s0, reduceIte]
  exact Sx.rt 2 [] H5 _ (hK _ _ _ e (up_name ok e) _ (H5.pe hL0 [0]))
theorem Node_c (k a : Int) (A : Option Addr) (n c : Nat) (w : World) (K : Ending → World → Prop) (H0 : Sp w []) (l : Nat) (hl : n = l) (hK : ∀ w', Hs w [] w' [] → K (.returned (.agg #[.int .i64 k, .int .i64 a, .string (⟨#[]⟩ : ByteArray), .int .i64 0, .slice A l c])) w') :
    Calls Tryz.prog 44 #[.int .i64 k, .int .i64 a, .slice A n c] w K := by
  obtain ⟨L0, hL0, H⟩ := Sx.op0 H0
  refine Sx.en (vs := [.int .i64 k, .int .i64 a, .slice A n c]) 11 Tryz.func44 <| Sx.nw 2 H fun k1 w1 H1 => Sx.s 8 0 H1 fun w2 H2 => ?_
  subst hl
  exact Sx.rt 3 [0] H2 _ (hK _ (H2.pe hL0 []))
theorem named_c (k a : Int) (x : ByteArray) (A : Option Addr) (n c : Nat) (w : World) (K : Ending → World → Prop) (H0 : Sp w []) (l : Nat) (hl : n = l) (hK : ∀ w', Hs w [] w' [] → K (.returned (.agg #[.int .i64 k, .int .i64 a, .string x, .int .i64 0, .slice A l c])) w') :
    Calls Tryz.prog 49 #[.int .i64 k, .int .i64 a, .string x, .slice A n c] w K := by
  obtain ⟨L0, hL0, H⟩ := Sx.op0 H0
  refine Sx.en (vs := [.int .i64 k, .int .i64 a, .string x, .slice A n c]) 14 Tryz.func49 <| Sx.nw 2 H fun k1 w1 H1 => Sx.s 9 0 H1 fun w2 H2 => ?_
  subst hl
  exact Sx.rt 3 [0] H2 _ (hK _ (H2.pe hL0 []))
theorem two_c (x : ByteArray) (tu : Nd) (Au : Option Addr) (cu : Nat) (Pu : Nat → Prop) (tv : Nd) (Av : Option Addr) (cv : Nat) (Pv : Nat → Prop) (w : World) (K : Ending → World → Prop) (H0 : Sp w [kvI Pu tu.ks Au cu, kvI Pv tv.ks Av cv]) (hK : ∀ (Q : Nat → Prop) (A : Option Addr) w', Hs w [kvI Pu tu.ks Au cu, kvI Pv tv.ks Av cv] w' [kvI Q [tu, tv] A 2] → K (.returned (.agg #[.int .i64 18, .n tu.a, .string x, .int .i64 0, .slice A 2 2])) w') :
    Calls Tryz.prog 130 #[.string x, Sx.nA tu.k tu.a tu.nm tu.n Au tu.ks cu, Sx.nA tv.k tv.a tv.nm tv.n Av tv.ks cv] w K := by
  obtain ⟨L0, hL0, H⟩ := Sx.op0 H0
  refine Sx.en (vs := [.string x, Sx.nA tu.k tu.a tu.nm tu.n Au tu.ks cu, Sx.nA tv.k tv.a tv.nm tv.n Av tv.ks cv]) 14 Tryz.func130 <| Sx.nw 2 H fun k1 w1 H1 => Sx.nw 0 H1 fun k2 w2 H2 => Sx.nw 0 H2 fun k3 w3 H3 => Sx.l 5 2 H3 <| Sx.l 1 2 H3 ?_
  refine Sx.l 0 3 H3 <| Sx.nw 0 H3 fun k4 w4 H4 => kv_make H4 [5, 0, 0] k4 62 [.nd Pu tu Au cu, .nd Pv tv Av cv] fun Q1 H5 => ?_
  refine Sx.c 0 [] H5 (fun Hp R hR => named_c (18 : Int) ((tu.a : Nat) : Int) x (some ⟨k4, 0, none⟩) 2 2 w4 R Hp 2 rfl (fun w5 G1 => hR _ _ _ G1 fun H6 => ?_))
  refine Sx.s 0 3 H6 fun w6 H7 => ?_
  exact Sx.rt 3 [3] H7 _ (hK Q1 (some ⟨k4, 0, none⟩) _ (H7.pe hL0 [0]))
/-- What is promised of a function that reads a tree. -/
def RdX (X : ByteArray → Rs → Prop) (k : Nat) (nt : NT) (f : Nat) (vs : List Value) : Prop := ∀ (b : Nat) (S : ByteArray) (q : Rs) (w : World) (K : Ending → World → Prop), Sp w [rdI b S q] → Ok S q → X S q →
  (∀ Q t A c q', run S k nt q = (t, q') → Up S q q' → ∀ w', Hs w [rdI b S q] w' [rdI b S q', kvI Q t.ks A c] → K (.returned (.agg (ndC t A c).toArray)) w') → Calls Tryz.prog f (.p b :: vs).toArray w K
abbrev RdC (k : Nat) (nt : NT) (r f : Nat) (vs : List Value) : Prop := RdX (fun S q => 16 * M S q + r ≤ k) k nt f vs
theorem rdx {X : ByteArray → Rs → Prop} {k : Nat} {nt : NT} {f : Nat} {vs : List Value} (h : ∀ (b : Nat) (S : ByteArray) (q : Rs) (w : World) (K : Ending → World → Prop), Sp w [rdI b S q] → Ok S q → X S q →
  (∀ Q t A c q', run S k nt q = (t, q') → ∀ w', Hs w [rdI b S q] w' [rdI b S q', kvI Q t.ks A c] → K (.returned (.agg (ndC t A c).toArray)) w') → Calls Tryz.prog f (.p b :: vs).toArray w K) : RdX X k nt f vs :=
  fun b S q w K H0 ok hm hK => h b S q w K H0 ok hm fun Q t A c q' e w' H => hK Q t A c q' e (.of (run_facts ok e)) w' H
structure Spec (k : Nat) : Prop where
  f_typ : RdC k .typ 11 48 []
  f_pair : RdC k .pair 10 80 []
  f_some : RdC k .some 9 112 []
  f_expr : RdC k .expr 11 52 []
  f_any : RdC k .any 10 82 []
  f_params : ∀ (sign : ByteArray) (first : Bool), RdC k (.params sign first) 12 51 [.string sign, .bool first]
  f_letN : ∀ (at_ : Nat), RdC k (.letN at_) 13 113 [.n at_]
  f_cases : ∀ (at_ : Nat), RdC k (.cases at_) 13 114 [.n at_]
  f_handle : ∀ (at_ : Nat), RdX (fun S q => 16 * M S q + 9 ≤ k ∧ (isB q (⟨#[104, 97, 110, 100, 108, 101]⟩ : ByteArray) || isB q (⟨#[115, 104, 97, 108, 108, 111, 119]⟩ : ByteArray)) = true) k (.handle at_) 115 [.n at_]
  f_comp : RdC k .comp 9 116 []
  f_cons : RdC k .cons 8 129 []
  f_sum : RdC k .sum 7 133 []
  f_mul : RdC k .mul 6 136 []
  f_app : RdC k .app 5 137 []
  f_atom : RdC k .atom 3 138 []
  f_round : ∀ (at_ : Nat), RdC k (.round at_) 13 140 [.n at_]
  f_square : ∀ (at_ : Nat), RdC k (.square at_) 13 141 [.n at_]
  f_prog : RdC k .prog 14 34 []
theorem pair_c (k : Nat) (ih : ∀ j, j ≤ k → Spec j) : RdC (k + 1) .pair 10 80 [] := by
  refine rdx fun b S q w K H0 ok hm hK => ?_
  obtain ⟨L0, hL0, H⟩ := Sx.op0 H0
  refine Sx.en (vs := [.p b]) 18 Tryz.func80 ?_
  have f := ih k (Nat.le_refl k)
  refine Sx.nw 2 H fun k1 w1 H1 => ?_
  refine Sx.c 5 [0] H1 (fun Hp R hR => f.f_some b S q w1 R Hp ok (by omega) (fun Q1 t1 A1 c1 q1 e1 ⟨ok1, m1, x1, y1⟩ w2 G1 => hR _ _ _ G1 fun H2 => ?_))
  refine Sx.nw 0 H2 fun k2 w3 H3 => Sx.s 0 3 H3 fun w4 H4 => ?_
  refine Sx.c 6 [0] H4 (fun Hp R hR => has_c b S q1 (⟨#[42]⟩ : ByteArray) w4 R Hp ok1 (fun q2 e2 ⟨⟨ok2, m2, x2, y2⟩, l1⟩ w5 G2 => hR _ _ _ G2 fun H5 => ?_))
  refine Sx.br 2 (isB q1 (⟨#[42]⟩ : ByteArray)) (fun h_c8 => ?_) (fun h_c8 => ?_)
  · have lt1 := l1 h_c8
    refine Sx.c 3 [0] H5 (fun Hp R hR => f.f_pair b S q2 w5 R Hp ok2 (by omega) (fun Q2 t2 A2 c2 q3 e3 ⟨ok3, m3, x3, y3⟩ w6 G3 => hR _ _ _ G3 fun H6 => ?_))
    refine Sx.nw 0 H6 fun k3 w7 H7 => Sx.s 0 5 H7 fun w8 H8 => Sx.l 5 4 H8 <| Sx.l 0 4 H8 <| Sx.l 0 5 H8 <| Sx.nw 0 H8 fun k4 w9 H9 => ?_
    refine kv_make H9 [6, 2, 1] k4 62 [.nd Q1 t1 A1 c1, .nd Q2 t2 A2 c2] fun Q3 H10 => ?_
    refine Sx.c 0 [] H10 (fun Hp R hR => Node_c (28 : Int) ((t1.a : Nat) : Int) (some ⟨k4, 0, none⟩) 2 2 w9 R Hp 2 rfl (fun w10 G4 => hR _ _ _ G4 fun H11 => ?_))
    refine Sx.s 0 2 H11 fun w11 H12 => ?_
    exact Sx.rt 4 [2] H12 _ (hK Q3 (.mk 28 t1.a (⟨#[]⟩ : ByteArray) (0 : Int) [t1, t2]) (some ⟨k4, 0, none⟩) 2 q3 (by rw [run_succ]; simp only [stepN, pairS, *, s0, maps, decide_eq_true_eq, reduceIte]) _ (H12.pe hL0 [1, 0]))
  refine Sx.l 4 3 H5 <| Sx.s 0 2 H5 fun w12 H13 => ?_
  exact Sx.rt 3 [2] H13 _ (hK Q1 t1 A1 c1 q2 (by rw [run_succ]; simp only [stepN, pairS, *, s0, maps, decide_eq_true_eq, reduceIte]) _ (H13.pe hL0 [0, 0]))
theorem cons_c (k : Nat) (ih : ∀ j, j ≤ k → Spec j) : RdC (k + 1) .cons 8 129 [] := by
  refine rdx fun b S q w K H0 ok hm hK => ?_
  obtain ⟨L0, hL0, H⟩ := Sx.op0 H0
  refine Sx.en (vs := [.p b]) 18 Tryz.func129 ?_
  have f := ih k (Nat.le_refl k)
  refine Sx.nw 2 H fun k1 w1 H1 => ?_
  refine Sx.c 5 [0] H1 (fun Hp R hR => f.f_sum b S q w1 R Hp ok (by omega) (fun Q1 t1 A1 c1 q1 e1 ⟨ok1, m1, x1, y1⟩ w2 G1 => hR _ _ _ G1 fun H2 => ?_))
  refine Sx.nw 0 H2 fun k2 w3 H3 => Sx.s 0 3 H3 fun w4 H4 => ?_
  refine Sx.c 6 [0] H4 (fun Hp R hR => has_c b S q1 (⟨#[58, 58]⟩ : ByteArray) w4 R Hp ok1 (fun q2 e2 ⟨⟨ok2, m2, x2, y2⟩, l1⟩ w5 G2 => hR _ _ _ G2 fun H5 => ?_))
  refine Sx.br 2 (isB q1 (⟨#[58, 58]⟩ : ByteArray)) (fun h_c8 => ?_) (fun h_c8 => ?_)
  · have lt1 := l1 h_c8
    refine Sx.c 3 [0] H5 (fun Hp R hR => f.f_cons b S q2 w5 R Hp ok2 (by omega) (fun Q2 t2 A2 c2 q3 e3 ⟨ok3, m3, x3, y3⟩ w6 G3 => hR _ _ _ G3 fun H6 => ?_))
    refine Sx.nw 0 H6 fun k3 w7 H7 => Sx.s 0 5 H7 fun w8 H8 => Sx.l 5 4 H8 <| Sx.l 0 4 H8 <| Sx.l 0 5 H8 <| Sx.nw 0 H8 fun k4 w9 H9 => ?_
    refine kv_make H9 [6, 2, 1] k4 62 [.nd Q1 t1 A1 c1, .nd Q2 t2 A2 c2] fun Q3 H10 => ?_
    refine Sx.c 0 [] H10 (fun Hp R hR => Node_c (16 : Int) ((t1.a : Nat) : Int) (some ⟨k4, 0, none⟩) 2 2 w9 R Hp 2 rfl (fun w10 G4 => hR _ _ _ G4 fun H11 => ?_))
    refine Sx.s 0 2 H11 fun w11 H12 => ?_
    exact Sx.rt 4 [2] H12 _ (hK Q3 (.mk 16 t1.a (⟨#[]⟩ : ByteArray) (0 : Int) [t1, t2]) (some ⟨k4, 0, none⟩) 2 q3 (by rw [run_succ]; simp only [stepN, consS, *, s0, maps, decide_eq_true_eq, reduceIte]) _ (H12.pe hL0 [1, 0]))
  refine Sx.l 4 3 H5 <| Sx.s 0 2 H5 fun w12 H13 => ?_
  exact Sx.rt 3 [2] H13 _ (hK Q1 t1 A1 c1 q2 (by rw [run_succ]; simp only [stepN, consS, *, s0, maps, decide_eq_true_eq, reduceIte]) _ (H13.pe hL0 [0, 0]))
theorem some_c (k : Nat) (ih : ∀ j, j ≤ k → Spec j) : RdC (k + 1) .some 9 112 [] := by
  refine rdx fun b S q w K H0 ok hm hK => ?_
  obtain ⟨L0, hL0, H⟩ := Sx.op0 H0
  refine Sx.en (vs := [.p b]) 43 Tryz.func112 ?_
  have f := ih k (Nat.le_refl k)
  refine Sx.nw 2 H fun k1 w1 H1 => Sx.l 8 0 H1 <| Sx.nw 6 H1 fun k2 w2 H2 => Sx.s 0 2 H2 fun w3 H3 => ?_
  refine Sx.cut 2 (fun l' w' => ∃ (q9 : Rs) (Q9 : Nat → Prop) (a9 : Nd) (A9 : Option Addr) (c9 : Nat), l' = [(0, .p b), (2, .p k1), (4, .p k2)] ∧ Hs w L0 w' [rdI b S q9, .blk k2 (.cells #[.n a9.k, .n a9.a, .string a9.nm, .int .i64 a9.n, .slice A9 a9.ks.length c9] 62), kvI Q9 a9.ks A9 c9, .blk k1 (.cells #[.int .i64 0, .int .i64 0, .string (⟨#[]⟩ : ByteArray), .int .i64 0, .slice none 0 0] 62)] ∧ (run S (k + 1) .some q = run S k (.listL a9) q9) ∧ (Up S q q9)) (fun K1 hK1 => ?_) (fun b1 l1 w4 hI1 => ?_)
  · refine Sx.c 4 [0] H3 (fun Hp R hR => has_c b S q (⟨#[105, 110, 116]⟩ : ByteArray) w3 R Hp ok (fun q1 e1 ⟨⟨ok1, m1, x1, y1⟩, l2⟩ w5 G1 => hR _ _ _ G1 fun H4 => ?_))
    refine Sx.br 3 (isB q (⟨#[105, 110, 116]⟩ : ByteArray)) (fun h_c13 => ?_) (fun h_c13 => ?_)
    · have lt1 := l2 h_c13
      refine Sx.c 2 [] H4 (fun Hp R hR => Node_c (24 : Int) ((q.a : Nat) : Int) none 0 0 w5 R Hp 0 rfl (fun w6 G2 => hR _ _ _ G2 fun H5 => ?_))
      refine Sx.s 0 2 H5 fun w7 H6 => ?_
      have H7 := kv_nil H6
      exact Sx.to 2 _ (hK1 _ _ _ ⟨q1, (fun _ => False), (.mk 24 q.a (⟨#[]⟩ : ByteArray) (0 : Int) []), none, 0, rfl, H7.pk [0, 1, 1, 0], (by rw [run_succ]; simp only [stepN, someS, *, s0, reduceIte]), ⟨ok1, by omega, by omega, by omega⟩⟩)
    refine Sx.c 3 [0] H4 (fun Hp R hR => has_c b S q1 (⟨#[98, 111, 111, 108]⟩ : ByteArray) w5 R Hp ok1 (fun q2 e2 ⟨⟨ok2, m2, x2, y2⟩, l3⟩ w8 G3 => hR _ _ _ G3 fun H9 => ?_))
    refine Sx.br 3 (isB q1 (⟨#[98, 111, 111, 108]⟩ : ByteArray)) (fun h_c18 => ?_) (fun h_c18 => ?_)
    · have lt2 := l3 h_c18
      refine Sx.c 2 [] H9 (fun Hp R hR => Node_c (25 : Int) ((q.a : Nat) : Int) none 0 0 w8 R Hp 0 rfl (fun w9 G4 => hR _ _ _ G4 fun H10 => ?_))
      refine Sx.s 0 2 H10 fun w10 H11 => ?_
      have H12 := kv_nil H11
      exact Sx.to 2 _ (hK1 _ _ _ ⟨q2, (fun _ => False), (.mk 25 q.a (⟨#[]⟩ : ByteArray) (0 : Int) []), none, 0, rfl, H12.pk [0, 1, 1, 0], (by rw [run_succ]; simp only [stepN, someS, *, s0, reduceIte]), ⟨ok2, by omega, by omega, by omega⟩⟩)
    refine Sx.c 3 [0] H9 (fun Hp R hR => has_c b S q2 (⟨#[117, 110, 105, 116]⟩ : ByteArray) w8 R Hp ok2 (fun q3 e3 ⟨⟨ok3, m3, x3, y3⟩, l4⟩ w11 G5 => hR _ _ _ G5 fun H14 => ?_))
    refine Sx.br 3 (isB q2 (⟨#[117, 110, 105, 116]⟩ : ByteArray)) (fun h_c23 => ?_) (fun h_c23 => ?_)
    · have lt3 := l4 h_c23
      refine Sx.c 2 [] H14 (fun Hp R hR => Node_c (26 : Int) ((q.a : Nat) : Int) none 0 0 w11 R Hp 0 rfl (fun w12 G6 => hR _ _ _ G6 fun H15 => ?_))
      refine Sx.s 0 2 H15 fun w13 H16 => ?_
      have H17 := kv_nil H16
      exact Sx.to 2 _ (hK1 _ _ _ ⟨q3, (fun _ => False), (.mk 26 q.a (⟨#[]⟩ : ByteArray) (0 : Int) []), none, 0, rfl, H17.pk [0, 1, 1, 0], (by rw [run_succ]; simp only [stepN, someS, *, s0, reduceIte]), ⟨ok3, by omega, by omega, by omega⟩⟩)
    refine Sx.c 3 [0] H14 (fun Hp R hR => has_c b S q3 (⟨#[40]⟩ : ByteArray) w11 R Hp ok3 (fun q4 e4 ⟨⟨ok4, m4, x4, y4⟩, l5⟩ w14 G7 => hR _ _ _ G7 fun H19 => ?_))
    refine Sx.br 3 (isB q3 (⟨#[40]⟩ : ByteArray)) (fun h_c28 => ?_) (fun h_c28 => ?_)
    · have lt4 := l5 h_c28
      refine Sx.c 3 [0] H19 (fun Hp R hR => f.f_typ b S q4 w14 R Hp ok4 (by omega) (fun Q1 t1 A1 c1 q5 e5 ⟨ok5, m5, x5, y5⟩ w15 G8 => hR _ _ _ G8 fun H20 => ?_))
      refine Sx.s 0 3 H20 fun w16 H21 => ?_
      refine Sx.c 4 [0] H21 (fun Hp R hR => must_c b S q5 (⟨#[41]⟩ : ByteArray) w16 R Hp ok5 (fun q6 e6 ⟨ok6, m6, x6, y6⟩ w17 G9 => hR _ _ _ G9 fun H22 => ?_))
      exact Sx.to 2 _ (hK1 _ _ _ ⟨q6, Q1, t1, A1, c1, rfl, H22.pk [0, 2, 0, 0], (by rw [run_succ]; simp only [stepN, someS, *, s0, reduceIte]), ⟨ok6, by omega, by omega, by omega⟩⟩)
    refine Sx.c 2 [0] H19 (fun Hp R hR => no_c b S q4 w14 R Hp ok4 (fun q7 e7 ⟨ok7, m7, x7, y7⟩ w18 G10 => hR _ _ _ G10 fun H24 => ?_))
    have H25 := kv_nil H24
    exact Sx.to 2 _ (hK1 _ _ _ ⟨q7, (fun _ => False), nd0, none, 0, rfl, H25.pk [0, 1, 1, 0], (by rw [run_succ]; simp only [stepN, someS, *, s0, reduceIte]), ⟨ok7, by omega, by omega, by omega⟩⟩)
  obtain ⟨q9, Q9, a9, A9, c9, rfl, H27, hr9, ⟨ok9, m9, x9, y9⟩⟩ := hI1
  refine Sx.lp 2 (fun z l' w' => ∃ (j : Nat) (p : Rs) (Q : Nat → Prop) (a : Nd) (A : Option Addr) (c : Nat), l' = [(0, .p b), (2, .p k1), (4, .p k2)] ∧ z = M S p ∧ Hs w L0 w' [rdI b S p, .blk k2 (.cells #[.n a.k, .n a.a, .string a.nm, .int .i64 a.n, .slice A a.ks.length c] 62), kvI Q a.ks A c, .blk k1 (.cells #[.int .i64 0, .int .i64 0, .string (⟨#[]⟩ : ByteArray), .int .i64 0, .slice none 0 0] 62)] ∧ (j ≤ k) ∧ (16 * M S p + 3 ≤ j) ∧ (run S j (.listL a) p = run S (k + 1) .some q) ∧ (Up S q9 p)) _ _ ⟨k, q9, Q9, a9, A9, c9, rfl, rfl, H27.pk [0, 0, 0, 0], (Nat.le_refl _), (by omega), hr9.symm, ⟨ok9, Nat.le_refl _, rfl, rfl⟩⟩ (fun b2 z1 l6 w19 hI2 K2 hK2 => ?_)
  obtain ⟨j, p, Q, a, A, c, rfl, rfl, H29, hj, hm1, hr, ⟨ho, hM, hx, hy⟩⟩ := hI2
  obtain ⟨i, rfl⟩ : ∃ i, j = i + 1 := ⟨j - 1, by omega⟩
  have g := ih i (by omega)
  refine Sx.c 4 [0] H29 (fun Hp R hR => has_c b S p (⟨#[108, 105, 115, 116]⟩ : ByteArray) w19 R Hp ho (fun q8 e8 ⟨⟨ok8, m8, x8, y8⟩, l7⟩ w20 G11 => hR _ _ _ G11 fun H30 => ?_))
  refine Sx.br 2 (isB p (⟨#[108, 105, 115, 116]⟩ : ByteArray)) (fun h_c36 => ?_) (fun h_c36 => ?_)
  · refine Sx.l 5 1 H30 ?_
    refine Sx.l 0 1 H30 <| Sx.nw 0 H30 fun k3 w21 H31 => kv_make H31 [4, 2] k3 62 [.nd Q a A c] fun Q2 H32 => ?_
    have lt5 := l7 h_c36
    refine Sx.c 0 [] H32 (fun Hp R hR => Node_c (27 : Int) ((a.a : Nat) : Int) (some ⟨k3, 0, none⟩) 1 1 w21 R Hp 1 rfl (fun w22 G12 => hR _ _ _ G12 fun H33 => ?_))
    refine Sx.s 0 2 H33 fun w23 H34 => ?_
    exact Sx.to 2 _ (hK2 _ _ _ _ (by omega) ⟨i, q8, Q2, (.mk 27 a.a (⟨#[]⟩ : ByteArray) (0 : Int) [a]), (some ⟨k3, 0, none⟩), 1, rfl, rfl, H34.pk [1, 1, 0, 0], (by omega), (by omega), (by rw [← hr, run_succ]; simp only [stepN, listLS, *, s0, reduceIte]), ⟨ok8, by omega, by omega, by omega⟩⟩)
  have e9 : run S (k + 1) .some q = (a, q8) := by rw [← hr, run_succ]; simp only [stepN, listLS, *, s0, reduceIte]
  refine Sx.l 7 1 H30 <| Sx.s 0 3 H30 fun w24 H36 => ?_
  exact Sx.rt 3 [3] H36 _ (hK Q a A c q8 (e9) _ (H36.pe hL0 [0, 1]))
theorem mul_c (k : Nat) (ih : ∀ j, j ≤ k → Spec j) : RdC (k + 1) .mul 6 136 [] := by
  refine rdx fun b S q w K H0 ok hm hK => ?_
  obtain ⟨L0, hL0, H⟩ := Sx.op0 H0
  refine Sx.en (vs := [.p b]) 15 Tryz.func136 ?_
  have f := ih k (Nat.le_refl k)
  refine Sx.nw 2 H fun k1 w1 H1 => ?_
  refine Sx.c 5 [0] H1 (fun Hp R hR => f.f_app b S q w1 R Hp ok (by omega) (fun Q1 t1 A1 c1 q1 e1 ⟨ok1, m1, x1, y1⟩ w2 G1 => hR _ _ _ G1 fun H2 => ?_))
  refine Sx.nw 0 H2 fun k2 w3 H3 => Sx.s 0 3 H3 fun w4 H4 => ?_
  refine Sx.lp 4 (fun z l' w' => ∃ (j : Nat) (p : Rs) (Q : Nat → Prop) (a : Nd) (A : Option Addr) (c : Nat), l' = [(0, .p b), (2, .p k1), (3, .p k2)] ∧ z = M S p ∧ Hs w L0 w' [rdI b S p, .blk k2 (.cells #[.n a.k, .n a.a, .string a.nm, .int .i64 a.n, .slice A a.ks.length c] 62), kvI Q a.ks A c, .blk k1 (.cells #[.int .i64 0, .int .i64 0, .string (⟨#[]⟩ : ByteArray), .int .i64 0, .slice none 0 0] 62)] ∧ (j ≤ k) ∧ (16 * M S p + 5 ≤ j) ∧ (run S j (.mulL a) p = run S k (.mulL t1) q1) ∧ (Up S q1 p)) _ _ ⟨k, q1, Q1, t1, A1, c1, rfl, rfl, H4.pk [0, 2, 0, 0], (Nat.le_refl _), (by omega), rfl, ⟨ok1, by omega, by omega, by omega⟩⟩ (fun b1 z1 l1 w5 hI1 K1 hK1 => ?_)
  obtain ⟨j, p, Q, a, A, c, rfl, rfl, H6, hj, hm1, hr, ⟨ho, hM, hx, hy⟩⟩ := hI1
  obtain ⟨i, rfl⟩ : ∃ i, j = i + 1 := ⟨j - 1, by omega⟩
  have g := ih i (by omega)
  refine Sx.c 4 [0] H6 (fun Hp R hR => has_c b S p (⟨#[42]⟩ : ByteArray) w5 R Hp ho (fun q2 e2 ⟨⟨ok2, m2, x2, y2⟩, l2⟩ w6 G2 => hR _ _ _ G2 fun H7 => ?_))
  refine Sx.br 2 (isB p (⟨#[42]⟩ : ByteArray)) (fun h_c8 => ?_) (fun h_c8 => ?_)
  · have lt1 := l2 h_c8
    refine Sx.c 6 [0] H7 (fun Hp R hR => g.f_app b S q2 w6 R Hp ok2 (by omega) (fun Q2 t2 A2 c2 q3 e3 ⟨ok3, m3, x3, y3⟩ w7 G3 => hR _ _ _ G3 fun H8 => ?_))
    refine Sx.nw 0 H8 fun k3 w8 H9 => Sx.s 0 5 H9 fun w9 H10 => Sx.l 3 2 H10 <| Sx.l 0 5 H10 ?_
    refine Sx.c 0 [3, 1] H10 (fun Hp R hR => two_c (⟨#[42]⟩ : ByteArray) a A c Q t2 A2 c2 Q2 w9 R Hp  (fun Q3 A3 w10 G4 => hR _ _ _ G4 fun H11 => ?_))
    refine Sx.s 0 2 H11 fun w11 H12 => ?_
    exact Sx.to 2 _ (hK1 _ _ _ _ (by omega) ⟨i, q3, Q3, (.mk 18 a.a (⟨#[42]⟩ : ByteArray) (0 : Int) [a, t2]), A3, 2, rfl, rfl, H12.pk [1, 1, 0, 0], (by omega), (by omega), (by rw [← hr, run_succ]; simp only [stepN, mulLS, two, *, s0, reduceIte]), ⟨ok3, by omega, by omega, by omega⟩⟩)
  have e4 : run S k (.mulL t1) q1 = (a, q2) := by rw [← hr, run_succ]; simp only [stepN, mulLS, two, *, s0, reduceIte]
  refine Sx.l 7 1 H7 <| Sx.s 0 3 H7 fun w12 H14 => ?_
  exact Sx.rt 3 [3] H14 _ (hK Q a A c q2 (by rw [run_succ]; simp only [stepN, mulS, two, *, s0, maps, decide_eq_true_eq, reduceIte]) _ (H14.pe hL0 [0, 1]))
theorem sum_c (k : Nat) (ih : ∀ j, j ≤ k → Spec j) : RdC (k + 1) .sum 7 133 [] := by
  refine rdx fun b S q w K H0 ok hm hK => ?_
  obtain ⟨L0, hL0, H⟩ := Sx.op0 H0
  refine Sx.en (vs := [.p b]) 28 Tryz.func133 ?_
  have f := ih k (Nat.le_refl k)
  refine Sx.nw 2 H fun k1 w1 H1 => ?_
  refine Sx.c 5 [0] H1 (fun Hp R hR => f.f_mul b S q w1 R Hp ok (by omega) (fun Q1 t1 A1 c1 q1 e1 ⟨ok1, m1, x1, y1⟩ w2 G1 => hR _ _ _ G1 fun H2 => ?_))
  refine Sx.nw 0 H2 fun k2 w3 H3 => Sx.s 0 3 H3 fun w4 H4 => ?_
  refine Sx.lp 3 (fun z l' w' => ∃ (j : Nat) (p : Rs) (Q : Nat → Prop) (a : Nd) (A : Option Addr) (c : Nat), l' = [(0, .p b), (2, .p k1), (3, .p k2)] ∧ z = M S p ∧ Hs w L0 w' [rdI b S p, .blk k2 (.cells #[.n a.k, .n a.a, .string a.nm, .int .i64 a.n, .slice A a.ks.length c] 62), kvI Q a.ks A c, .blk k1 (.cells #[.int .i64 0, .int .i64 0, .string (⟨#[]⟩ : ByteArray), .int .i64 0, .slice none 0 0] 62)] ∧ (j ≤ k) ∧ (16 * M S p + 6 ≤ j) ∧ (run S j (.sumL a) p = run S k (.sumL t1) q1) ∧ (Up S q1 p)) _ _ ⟨k, q1, Q1, t1, A1, c1, rfl, rfl, H4.pk [0, 2, 0, 0], (Nat.le_refl _), (by omega), rfl, ⟨ok1, by omega, by omega, by omega⟩⟩ (fun b1 z1 l1 w5 hI1 K1 hK1 => ?_)
  obtain ⟨j, p, Q, a, A, c, rfl, rfl, H6, hj, hm1, hr, ⟨ho, hM, hx, hy⟩⟩ := hI1
  obtain ⟨i, rfl⟩ : ∃ i, j = i + 1 := ⟨j - 1, by omega⟩
  have g := ih i (by omega)
  refine Sx.l 7 0 H6 ?_
  refine Sx.c 7 [0] H6 (fun Hp R hR => has_c b S p (⟨#[43]⟩ : ByteArray) w5 R Hp ho (fun q2 e2 ⟨⟨ok2, m2, x2, y2⟩, l2⟩ w6 G2 => hR _ _ _ G2 fun H7 => ?_))
  refine Sx.sp 2 16 (!(isB p (⟨#[43]⟩ : ByteArray))) (fun h_g16 => ?_) (fun h_g16 => ?_)
  · have n_g16 := nt h_g16
    refine Sx.c 1 [0] H7 (fun Hp R hR => has_c b S q2 (⟨#[45]⟩ : ByteArray) w6 R Hp ok2 (fun q3 e3 ⟨⟨ok3, m3, x3, y3⟩, l3⟩ w7 G3 => hR _ _ _ G3 fun H8 => ?_))
    refine Sx.br 4 (!(isB q2 (⟨#[45]⟩ : ByteArray))) (fun h_c20 => ?_) (fun h_c20 => ?_)
    · have n_c20 := nt h_c20
      have e4 : run S k (.sumL t1) q1 = (a, q3) := by rw [← hr, run_succ]; simp only [stepN, sumLS, two, *, s0, reduceIte]
      refine Sx.l 2 1 H8 <| Sx.s 0 3 H8 fun w8 H9 => ?_
      exact Sx.rt 7 [3] H9 _ (hK Q a A c q3 (by rw [run_succ]; simp only [stepN, sumS, two, *, s0, maps, decide_eq_true_eq, reduceIte]) _ (H9.pe hL0 [0, 1]))
    have n_c20 := nf h_c20
    have lt1 := l3 n_c20
    refine Sx.c 5 [0] H8 (fun Hp R hR => g.f_mul b S q3 w7 R Hp ok3 (by omega) (fun Q2 t2 A2 c2 q4 e5 ⟨ok4, m4, x4, y4⟩ w9 G4 => hR _ _ _ G4 fun H10 => ?_))
    refine Sx.nw 0 H10 fun k3 w10 H11 => Sx.s 0 5 H11 fun w11 H12 => Sx.l 4 2 H12 <| Sx.l 0 5 H12 ?_
    refine Sx.c 0 [3, 1] H12 (fun Hp R hR => two_c p.t a A c Q t2 A2 c2 Q2 w11 R Hp  (fun Q3 A3 w12 G5 => hR _ _ _ G5 fun H13 => ?_))
    refine Sx.s 0 2 H13 fun w13 H14 => ?_
    exact Sx.to 2 _ (hK1 _ _ _ _ (by omega) ⟨i, q4, Q3, (.mk 18 a.a p.t (0 : Int) [a, t2]), A3, 2, rfl, rfl, H14.pk [1, 1, 0, 0], (by omega), (by omega), (by rw [← hr, run_succ]; simp only [stepN, sumLS, two, *, s0, reduceIte]), ⟨ok4, by omega, by omega, by omega⟩⟩)
  have n_g16 := nf h_g16
  have lt2 := l2 n_g16
  refine Sx.c 12 [0] H7 (fun Hp R hR => g.f_mul b S q2 w6 R Hp ok2 (by omega) (fun Q4 t3 A4 c3 q5 e6 ⟨ok5, m5, x5, y5⟩ w14 G6 => hR _ _ _ G6 fun H16 => ?_))
  refine Sx.nw 0 H16 fun k4 w15 H17 => Sx.s 0 5 H17 fun w16 H18 => Sx.l 4 2 H18 <| Sx.l 0 5 H18 ?_
  refine Sx.c 0 [3, 1] H18 (fun Hp R hR => two_c p.t a A c Q t3 A4 c3 Q4 w16 R Hp  (fun Q5 A5 w17 G7 => hR _ _ _ G7 fun H19 => ?_))
  refine Sx.s 0 2 H19 fun w18 H20 => ?_
  exact Sx.to 2 _ (hK1 _ _ _ _ (by omega) ⟨i, q5, Q5, (.mk 18 a.a p.t (0 : Int) [a, t3]), A5, 2, rfl, rfl, H20.pk [1, 1, 0, 0], (by omega), (by omega), (by rw [← hr, run_succ]; simp only [stepN, sumLS, two, *, s0, reduceIte]), ⟨ok5, by omega, by omega, by omega⟩⟩)
theorem expr_c (k : Nat) (ih : ∀ j, j ≤ k → Spec j) : RdC (k + 1) .expr 11 52 [] := by
  refine rdx fun b S q w K H0 ok hm hK => ?_
  obtain ⟨L0, hL0, H⟩ := Sx.op0 H0
  refine Sx.en (vs := [.p b]) 40 Tryz.func52 ?_
  have f := ih k (Nat.le_refl k)
  have okx := ok.x
  refine Sx.nw 2 H fun k1 w1 H1 => ?_
  refine Sx.c 6 [0] H1 (fun Hp R hR => ok_c b S q w1 R Hp (hR _ _ _ (.refl Hp) fun _ => ?_))
  refine Sx.br 3 (!(okB q)) (fun h_c6 => ?_) (fun h_c6 => ?_)
  · refine Sx.s 3 1 H1 fun w2 H2 => ?_
    have H3 := kv_nil H2
    have n_c6 := nt h_c6
    exact Sx.rt 4 [1] H3 _ (hK (fun _ => False) nd0 none 0 q (by rw [run_succ]; simp only [stepN, exprS, *, s0, maps, decide_eq_true_eq, reduceIte]) _ (H3.pe hL0 [0, 1]))
  refine Sx.l 8 0 H1 ?_
  refine Sx.br 3 (decide (((q.x : Nat) : Int) ≥ (200 : Int))) (fun h_c12 => ?_) (fun h_c12 => ?_)
  · refine Sx.l 7 0 H1 ?_
    refine Sx.s 3 0 H1 fun w3 H4 => Sx.s 5 1 H4 fun w4 H5 => ?_
    have H6 := kv_nil H5
    have n_c6 := nf h_c6
    have p_c12 := of_decide_eq_true h_c12
    exact Sx.rt 4 [1] H6 _ (hK (fun _ => False) nd0 none 0 ⟨q.k, q.a, q.t, q.n, q.e, 5, q.a, q.x, q.y⟩ (by rw [run_succ]; simp only [stepN, exprS, *, s0, maps, decide_eq_true_eq, reduceIte]) _ (H6.pe hL0 [0, 1]))
  refine Sx.l 7 0 H1 ?_
  have n_c6 := nf h_c6
  have p_c12 := of_decide_eq_false h_c12
  refine Sx.v 0 (.int .i64 (IntKind.i64.wrap (((q.x : Nat) : Int) + (1 : Int)))) (.int .i64 ((q.x + 1 : Nat) : Int)) (congrArg (Value.int .i64) (Gx.i64n (by omega) (by have := ok.x; omega))) <| Sx.s 2 0 H1 fun w5 H7 => ?_
  have ok1 := ok_xy ok (q.x + 1) q.y (by have := ok.x; omega) (by have := ok.y; omega)
  have mq1 : M S ⟨q.k, q.a, q.t, q.n, q.e, q.fk, q.fa, q.x + 1, q.y⟩ = M S q := rfl
  refine Sx.c 5 [0] H7 (fun Hp R hR => f.f_any b S ⟨q.k, q.a, q.t, q.n, q.e, q.fk, q.fa, q.x + 1, q.y⟩ w5 R Hp ok1 (by omega) (fun Q1 t1 A1 c1 q1 e1 ⟨ok1, m1, x1, y1⟩ w6 G1 => hR _ _ _ G1 fun H8 => ?_))
  dsimp only at x1 y1
  refine Sx.nw 0 H8 fun k2 w7 H9 => Sx.s 0 3 H9 fun w8 H10 => Sx.l 7 0 H10 <| Sx.v 0 (.int .i64 (IntKind.i64.wrap (((q1.x : Nat) : Int) - (1 : Int)))) (.int .i64 ((q1.x - 1 : Nat) : Int)) (congrArg (Value.int .i64) (by rw [IntWalk.i64_in _ (by omega)]; omega)) <| Sx.s 2 0 H10 fun w9 H11 => Sx.l 4 3 H11 ?_
  refine Sx.s 0 2 H11 fun w10 H12 => ?_
  exact Sx.rt 3 [2] H12 _ (hK Q1 t1 A1 c1 ⟨q1.k, q1.a, q1.t, q1.n, q1.e, q1.fk, q1.fa, q1.x - 1, q1.y⟩ (by rw [run_succ]; simp only [stepN, exprS, *, s0, maps, decide_eq_true_eq, reduceIte]) _ (H12.pe hL0 [0, 0]))
set_option maxHeartbeats 1000000 in
theorem any_c (k : Nat) (ih : ∀ j, j ≤ k → Spec j) : RdC (k + 1) .any 10 82 [] := by
  refine rdx fun b S q w K H0 ok hm hK => ?_
  obtain ⟨L0, hL0, H⟩ := Sx.op0 H0
  refine Sx.en (vs := [.p b]) 77 Tryz.func82 ?_
  have f := ih k (Nat.le_refl k)
  refine Sx.nw 2 H fun k1 w1 H1 => Sx.l 8 0 H1 ?_
  refine Sx.c 8 [0] H1 (fun Hp R hR => has_c b S q (⟨#[108, 101, 116]⟩ : ByteArray) w1 R Hp ok (fun q1 e1 ⟨⟨ok1, m1, x1, y1⟩, l1⟩ w2 G1 => hR _ _ _ G1 fun H2 => ?_))
  refine Sx.br 3 (isB q (⟨#[108, 101, 116]⟩ : ByteArray)) (fun h_c15 => ?_) (fun h_c15 => ?_)
  · have lt1 := l1 h_c15
    refine Sx.c 4 [0] H2 (fun Hp R hR => f.f_letN q.a b S q1 w2 R Hp ok1 (by omega) (fun Q1 t1 A1 c1 q2 e2 ⟨ok2, m2, x2, y2⟩ w3 G2 => hR _ _ _ G2 fun H3 => ?_))
    refine Sx.s 0 2 H3 fun w4 H4 => ?_
    exact Sx.rt 5 [2] H4 _ (hK Q1 t1 A1 c1 q2 (by rw [run_succ]; simp only [stepN, anyS, or_ite, *, s0, maps, decide_eq_true_eq, reduceIte]) _ (H4.pe hL0 [0, 0]))
  refine Sx.c 3 [0] H2 (fun Hp R hR => has_c b S q1 (⟨#[102, 110]⟩ : ByteArray) w2 R Hp ok1 (fun q3 e3 ⟨⟨ok3, m3, x3, y3⟩, l2⟩ w5 G3 => hR _ _ _ G3 fun H5 => ?_))
  refine Sx.br 3 (isB q1 (⟨#[102, 110]⟩ : ByteArray)) (fun h_c21 => ?_) (fun h_c21 => ?_)
  · have lt2 := l2 h_c21
    refine Sx.c 3 [0] H5 (fun Hp R hR => f.f_params (⟨#[61, 62]⟩ : ByteArray) true b S q3 w5 R Hp ok3 (by omega) (fun Q2 t2 A2 c2 q4 e4 ⟨ok4, m4, x4, y4⟩ w6 G4 => hR _ _ _ G4 fun H6 => ?_))
    refine Sx.nw 0 H6 fun k2 w7 H7 => Sx.s 0 3 H7 fun w8 H8 => Sx.s 6 3 H8 fun w9 H9 => Sx.l 4 3 H9 <| Sx.s 0 2 H9 fun w10 H10 => ?_
    exact Sx.rt 5 [2] H10 _ (hK Q2 (.mk t2.k q.a t2.nm t2.n t2.ks) A2 c2 q4 (by rw [run_succ]; simp only [stepN, anyS, or_ite, *, s0, maps, decide_eq_true_eq, reduceIte]) _ (H10.pe hL0 [0, 0]))
  refine Sx.c 3 [0] H5 (fun Hp R hR => has_c b S q3 (⟨#[105, 102]⟩ : ByteArray) w5 R Hp ok3 (fun q5 e5 ⟨⟨ok5, m5, x5, y5⟩, l3⟩ w11 G5 => hR _ _ _ G5 fun H11 => ?_))
  refine Sx.br 3 (isB q3 (⟨#[105, 102]⟩ : ByteArray)) (fun h_c29 => ?_) (fun h_c29 => ?_)
  · have lt3 := l3 h_c29
    refine Sx.c 3 [0] H11 (fun Hp R hR => f.f_expr b S q5 w11 R Hp ok5 (by omega) (fun Q3 t3 A3 c3 q6 e6 ⟨ok6, m6, x6, y6⟩ w12 G6 => hR _ _ _ G6 fun H12 => ?_))
    refine Sx.nw 0 H12 fun k3 w13 H13 => Sx.s 0 3 H13 fun w14 H14 => ?_
    refine Sx.c 5 [0] H14 (fun Hp R hR => must_c b S q6 (⟨#[116, 104, 101, 110]⟩ : ByteArray) w14 R Hp ok6 (fun q7 e7 ⟨ok7, m7, x7, y7⟩ w15 G7 => hR _ _ _ G7 fun H15 => ?_))
    refine Sx.c 5 [0] H15 (fun Hp R hR => f.f_expr b S q7 w15 R Hp ok7 (by omega) (fun Q4 t4 A4 c4 q8 e8 ⟨ok8, m8, x8, y8⟩ w16 G8 => hR _ _ _ G8 fun H16 => ?_))
    refine Sx.nw 0 H16 fun k4 w17 H17 => Sx.s 0 5 H17 fun w18 H18 => ?_
    refine Sx.c 5 [0] H18 (fun Hp R hR => must_c b S q8 (⟨#[101, 108, 115, 101]⟩ : ByteArray) w18 R Hp ok8 (fun q9 e9 ⟨ok9, m9, x9, y9⟩ w19 G9 => hR _ _ _ G9 fun H19 => ?_))
    refine Sx.c 5 [0] H19 (fun Hp R hR => f.f_expr b S q9 w19 R Hp ok9 (by omega) (fun Q5 t5 A5 c5 q10 e10 ⟨ok10, m10, x10, y10⟩ w20 G10 => hR _ _ _ G10 fun H20 => ?_))
    refine Sx.nw 0 H20 fun k5 w21 H21 => Sx.s 0 7 H21 fun w22 H22 => Sx.l 5 5 H22 <| Sx.l 0 6 H22 <| Sx.l 0 7 H22 <| Sx.nw 0 H22 fun k6 w23 H23 => ?_
    refine kv_make H23 [8, 3, 2, 1] k6 62 [.nd Q3 t3 A3 c3, .nd Q4 t4 A4 c4, .nd Q5 t5 A5 c5] fun Q6 H24 => ?_
    refine Sx.c 0 [] H24 (fun Hp R hR => Node_c (11 : Int) ((q.a : Nat) : Int) (some ⟨k6, 0, none⟩) 3 3 w23 R Hp 3 rfl (fun w24 G11 => hR _ _ _ G11 fun H25 => ?_))
    refine Sx.s 0 2 H25 fun w25 H26 => ?_
    exact Sx.rt 5 [2] H26 _ (hK Q6 (.mk 11 q.a (⟨#[]⟩ : ByteArray) (0 : Int) [t3, t4, t5]) (some ⟨k6, 0, none⟩) 3 q10 (by rw [run_succ]; simp only [stepN, anyS, or_ite, *, s0, maps, decide_eq_true_eq, reduceIte]) _ (H26.pe hL0 [1, 0]))
  refine Sx.c 3 [0] H11 (fun Hp R hR => has_c b S q5 (⟨#[99, 97, 115, 101]⟩ : ByteArray) w11 R Hp ok5 (fun q11 e11 ⟨⟨ok11, m11, x11, y11⟩, l4⟩ w26 G12 => hR _ _ _ G12 fun H27 => ?_))
  refine Sx.br 3 (isB q5 (⟨#[99, 97, 115, 101]⟩ : ByteArray)) (fun h_c48 => ?_) (fun h_c48 => ?_)
  · have lt4 := l4 h_c48
    refine Sx.c 4 [0] H27 (fun Hp R hR => f.f_cases q.a b S q11 w26 R Hp ok11 (by omega) (fun Q7 t6 A6 c6 q12 e12 ⟨ok12, m12, x12, y12⟩ w27 G13 => hR _ _ _ G13 fun H28 => ?_))
    refine Sx.s 0 2 H28 fun w28 H29 => ?_
    exact Sx.rt 5 [2] H29 _ (hK Q7 t6 A6 c6 q12 (by rw [run_succ]; simp only [stepN, anyS, or_ite, *, s0, maps, decide_eq_true_eq, reduceIte]) _ (H29.pe hL0 [0, 0]))
  refine Sx.cut 0 (fun l' w' => l' = [(0, .p b), (2, .p k1), (3, .n q.a), (54, .bool ((isB q11 (⟨#[104, 97, 110, 100, 108, 101]⟩ : ByteArray)) || (isB q11 (⟨#[115, 104, 97, 108, 108, 111, 119]⟩ : ByteArray))))] ∧ w26 = w') (fun K1 hK1 => ?_) (fun b1 l5 w29 hI1 => ?_)
  · refine Sx.c 2 [0] H27 (fun Hp R hR => is_c b S q11 (⟨#[104, 97, 110, 100, 108, 101]⟩ : ByteArray) w26 R Hp (hR _ _ _ (.refl Hp) fun _ => ?_))
    refine Sx.sp 1 57 (isB q11 (⟨#[104, 97, 110, 100, 108, 101]⟩ : ByteArray)) (fun h_g57 => ?_) (fun h_g57 => ?_)
    · exact Sx.to 5 _ (hK1 _ _ _ ⟨rfl, rfl⟩) (h2 := (by rw [h_g57]; try kernel_rfl))
    refine Sx.c 1 [0] H27 (fun Hp R hR => is_c b S q11 (⟨#[115, 104, 97, 108, 108, 111, 119]⟩ : ByteArray) w26 R Hp (hR _ _ _ (.refl Hp) fun _ => ?_))
    exact Sx.to 3 _ (hK1 _ _ _ ⟨rfl, rfl⟩) (h2 := (by rw [h_g57]; try kernel_rfl))
  obtain ⟨rfl, rfl⟩ := hI1
  refine Sx.br 0 ((isB q11 (⟨#[104, 97, 110, 100, 108, 101]⟩ : ByteArray)) || (isB q11 (⟨#[115, 104, 97, 108, 108, 111, 119]⟩ : ByteArray))) (fun h_c54 => ?_) (fun h_c54 => ?_)
  · refine Sx.c 4 [0] H27 (fun Hp R hR => f.f_handle q.a b S q11 w26 R Hp ok11 ⟨by omega, h_c54⟩ (fun Q8 t7 A7 c7 q13 e13 ⟨ok13, m13, x13, y13⟩ w30 G14 => hR _ _ _ G14 fun H30 => ?_))
    refine Sx.s 0 2 H30 fun w31 H31 => ?_
    exact Sx.rt 5 [2] H31 _ (hK Q8 t7 A7 c7 q13 (by rw [run_succ]; simp only [stepN, anyS, or_ite, *, s0, maps, decide_eq_true_eq, reduceIte]) _ (H31.pe hL0 [0, 0]))
  refine Sx.c 6 [0] H27 (fun Hp R hR => f.f_comp b S q11 w26 R Hp ok11 (by omega) (fun Q9 t8 A8 c8 q14 e14 ⟨ok14, m14, x14, y14⟩ w32 G15 => hR _ _ _ G15 fun H32 => ?_))
  refine Sx.nw 0 H32 fun k7 w33 H33 => Sx.s 0 3 H33 fun w34 H34 => ?_
  refine Sx.c 6 [0] H34 (fun Hp R hR => has_c b S q14 (⟨#[59]⟩ : ByteArray) w34 R Hp ok14 (fun q15 e15 ⟨⟨ok15, m15, x15, y15⟩, l6⟩ w35 G16 => hR _ _ _ G16 fun H35 => ?_))
  refine Sx.br 2 (isB q14 (⟨#[59]⟩ : ByteArray)) (fun h_c67 => ?_) (fun h_c67 => ?_)
  · have lt5 := l6 h_c67
    refine Sx.c 3 [0] H35 (fun Hp R hR => f.f_expr b S q15 w35 R Hp ok15 (by omega) (fun Q10 t9 A9 c9 q16 e16 ⟨ok16, m16, x16, y16⟩ w36 G17 => hR _ _ _ G17 fun H36 => ?_))
    refine Sx.nw 0 H36 fun k8 w37 H37 => Sx.s 0 5 H37 fun w38 H38 => Sx.l 5 4 H38 <| Sx.l 0 4 H38 <| Sx.l 0 5 H38 <| Sx.nw 0 H38 fun k9 w39 H39 => ?_
    refine kv_make H39 [6, 2, 1] k9 62 [.nd Q9 t8 A8 c8, .nd Q10 t9 A9 c9] fun Q11 H40 => ?_
    refine Sx.c 0 [] H40 (fun Hp R hR => Node_c (10 : Int) ((t8.a : Nat) : Int) (some ⟨k9, 0, none⟩) 2 2 w39 R Hp 2 rfl (fun w40 G18 => hR _ _ _ G18 fun H41 => ?_))
    refine Sx.s 0 2 H41 fun w41 H42 => ?_
    exact Sx.rt 4 [2] H42 _ (hK Q11 (.mk 10 t8.a (⟨#[]⟩ : ByteArray) (0 : Int) [t8, t9]) (some ⟨k9, 0, none⟩) 2 q16 (by rw [run_succ]; simp only [stepN, anyS, or_ite, *, s0, maps, decide_eq_true_eq, reduceIte]) _ (H42.pe hL0 [1, 0]))
  refine Sx.l 4 3 H35 <| Sx.s 0 2 H35 fun w42 H43 => ?_
  exact Sx.rt 3 [2] H43 _ (hK Q9 t8 A8 c8 q15 (by rw [run_succ]; simp only [stepN, anyS, or_ite, *, s0, maps, decide_eq_true_eq, reduceIte]) _ (H43.pe hL0 [0, 0]))
theorem params_c (k : Nat) (ih : ∀ j, j ≤ k → Spec j) : ∀ (sign : ByteArray) (first : Bool), RdC (k + 1) (.params sign first) 12 51 [.string sign, .bool first] := by
  intro sign first
  refine rdx fun b S q w K H0 ok hm hK => ?_
  obtain ⟨L0, hL0, H⟩ := Sx.op0 H0
  refine Sx.en (vs := [.p b, .string sign, .bool first]) 37 Tryz.func51 ?_
  have f := ih k (Nat.le_refl k)
  refine Sx.nw 2 H fun k1 w1 H1 => ?_
  refine Sx.cut 3 (fun l' w' => l' = [(0, .p b), (1, .string sign), (6, .p k1), (14, .bool (first || (isNameB q)))] ∧ w1 = w') (fun K1 hK1 => ?_) (fun b1 l1 w2 hI1 => ?_)
  · refine Sx.sp 3 11 first (fun h_g11 => ?_) (fun h_g11 => ?_)
    · exact Sx.to 4 _ (hK1 _ _ _ ⟨rfl, rfl⟩) (h2 := (by rw [h_g11]; try kernel_rfl))
    refine Sx.c 1 [0] H1 (fun Hp R hR => isName_c b S q w1 R Hp (hR _ _ _ (.refl Hp) fun _ => ?_))
    exact Sx.to 2 _ (hK1 _ _ _ ⟨rfl, rfl⟩) (h2 := (by rw [h_g11]; try kernel_rfl))
  obtain ⟨rfl, rfl⟩ := hI1
  refine Sx.br 0 (first || (isNameB q)) (fun h_c14 => ?_) (fun h_c14 => ?_)
  · refine Sx.c 3 [0] H1 (fun Hp R hR => name_c b S q w1 R Hp ok (fun nm1 na1 q1 e1 ⟨⟨ok1, m1, x1, y1⟩, l2⟩ w3 G1 => hR _ _ _ G1 fun H2 => ?_))
    refine Sx.c 11 [0] H2 (fun Hp R hR => ok_c b S q1 w3 R Hp (hR _ _ _ (.refl Hp) fun _ => ?_))
    refine Sx.br 3 (!(okB q1)) (fun h_c22 => ?_) (fun h_c22 => ?_)
    · refine Sx.s 3 1 H2 fun w4 H3 => ?_
      have H4 := kv_nil H3
      have n_c22 := nt h_c22
      exact Sx.rt 5 [1] H4 _ (hK (fun _ => False) nd0 none 0 q1 (by rw [run_succ]; simp only [stepN, paramsS, paramS, or_ite, *, s0, maps, decide_eq_true_eq, reduceIte]) _ (H4.pe hL0 [0, 1]))
    have n_c22 := nf h_c22
    have lt1 := l2 n_c22
    refine Sx.c 6 [0] H2 (fun Hp R hR => f.f_params sign false b S q1 w3 R Hp ok1 (by omega) (fun Q1 t1 A1 c1 q2 e2 ⟨ok2, m2, x2, y2⟩ w5 G2 => hR _ _ _ G2 fun H5 => ?_))
    refine Sx.nw 0 H5 fun k2 w6 H6 => Sx.s 0 3 H6 fun w7 H7 => Sx.l 6 3 H7 <| Sx.nw 0 H7 fun k3 w8 H8 => kv_make H8 [4, 1] k3 62 [.nd Q1 t1 A1 c1] fun Q2 H9 => ?_
    refine Sx.c 0 [] H9 (fun Hp R hR => named_c (7 : Int) ((na1 : Nat) : Int) nm1 (some ⟨k3, 0, none⟩) 1 1 w8 R Hp 1 rfl (fun w9 G3 => hR _ _ _ G3 fun H10 => ?_))
    refine Sx.s 0 2 H10 fun w10 H11 => ?_
    exact Sx.rt 4 [2] H11 _ (hK Q2 (.mk 7 na1 nm1 (0 : Int) [t1]) (some ⟨k3, 0, none⟩) 1 q2 (by rw [run_succ]; simp only [stepN, paramsS, paramS, or_ite, *, s0, maps, decide_eq_true_eq, reduceIte]) _ (H11.pe hL0 [1, 0]))
  refine Sx.c 6 [0] H1 (fun Hp R hR => must_c b S q sign w1 R Hp ok (fun q3 e3 ⟨ok3, m3, x3, y3⟩ w11 G4 => hR _ _ _ G4 fun H12 => ?_))
  refine Sx.c 5 [0] H12 (fun Hp R hR => f.f_expr b S q3 w11 R Hp ok3 (by omega) (fun Q3 t2 A2 c2 q4 e4 ⟨ok4, m4, x4, y4⟩ w12 G5 => hR _ _ _ G5 fun H13 => ?_))
  refine Sx.s 0 2 H13 fun w13 H14 => ?_
  exact Sx.rt 3 [2] H14 _ (hK Q3 t2 A2 c2 q4 (by rw [run_succ]; simp only [stepN, paramsS, paramS, or_ite, *, s0, maps, decide_eq_true_eq, reduceIte]) _ (H14.pe hL0 [0, 0]))
theorem letN_c (k : Nat) (ih : ∀ j, j ≤ k → Spec j) : ∀ (at_ : Nat), RdC (k + 1) (.letN at_) 13 113 [.n at_] := by
  intro at_
  refine rdx fun b S q w K H0 ok hm hK => ?_
  obtain ⟨L0, hL0, H⟩ := Sx.op0 H0
  refine Sx.en (vs := [.p b, .n at_]) 35 Tryz.func113 ?_
  have f := ih k (Nat.le_refl k)
  refine Sx.nw 2 H fun k1 w1 H1 => ?_
  refine Sx.c 11 [0] H1 (fun Hp R hR => has_c b S q (⟨#[114, 101, 99]⟩ : ByteArray) w1 R Hp ok (fun q1 e1 ⟨⟨ok1, m1, x1, y1⟩, l1⟩ w2 G1 => hR _ _ _ G1 fun H2 => ?_))
  refine Sx.br 2 (isB q (⟨#[114, 101, 99]⟩ : ByteArray)) (fun h_c12 => ?_) (fun h_c12 => ?_)
  · have lt1 := l1 h_c12
    refine Sx.c 7 [0] H2 (fun Hp R hR => name_c b S q1 w2 R Hp ok1 (fun nm1 na1 q2 e2 ⟨⟨ok2, m2, x2, y2⟩, l2⟩ w3 G2 => hR _ _ _ G2 fun H3 => ?_))
    refine Sx.c 12 [0] H3 (fun Hp R hR => f.f_params (⟨#[61]⟩ : ByteArray) true b S q2 w3 R Hp ok2 (by omega) (fun Q1 t1 A1 c1 q3 e3 ⟨ok3, m3, x3, y3⟩ w4 G3 => hR _ _ _ G3 fun H4 => ?_))
    refine Sx.nw 0 H4 fun k2 w5 H5 => Sx.s 0 3 H5 fun w6 H6 => ?_
    refine Sx.c 5 [0] H6 (fun Hp R hR => must_c b S q3 (⟨#[105, 110]⟩ : ByteArray) w6 R Hp ok3 (fun q4 e4 ⟨ok4, m4, x4, y4⟩ w7 G4 => hR _ _ _ G4 fun H7 => ?_))
    refine Sx.c 5 [0] H7 (fun Hp R hR => f.f_expr b S q4 w7 R Hp ok4 (by omega) (fun Q2 t2 A2 c2 q5 e5 ⟨ok5, m5, x5, y5⟩ w8 G5 => hR _ _ _ G5 fun H8 => ?_))
    refine Sx.nw 0 H8 fun k3 w9 H9 => Sx.s 0 5 H9 fun w10 H10 => Sx.l 6 4 H10 <| Sx.l 0 5 H10 <| Sx.nw 0 H10 fun k4 w11 H11 => kv_make H11 [6, 2, 1] k4 62 [.nd Q1 t1 A1 c1, .nd Q2 t2 A2 c2] fun Q3 H12 => ?_
    refine Sx.c 0 [] H12 (fun Hp R hR => named_c (9 : Int) ((at_ : Nat) : Int) nm1 (some ⟨k4, 0, none⟩) 2 2 w11 R Hp 2 rfl (fun w12 G6 => hR _ _ _ G6 fun H13 => ?_))
    refine Sx.nw 0 H13 fun k5 w13 H14 => Sx.s 0 5 H14 fun w14 H15 => Sx.s 6 5 H15 fun w15 H16 => Sx.l 4 5 H16 <| Sx.s 0 2 H16 fun w16 H17 => ?_
    exact Sx.rt 3 [2] H17 _ (hK Q3 (.mk 9 at_ nm1 (1 : Int) [t1, t2]) (some ⟨k4, 0, none⟩) 2 q5 (by rw [run_succ]; simp only [stepN, letS, letT, *, s0, maps, decide_eq_true_eq, reduceIte]) _ (H17.pe hL0 [1, 0]))
  refine Sx.c 5 [0] H2 (fun Hp R hR => name_c b S q1 w2 R Hp ok1 (fun nm2 na2 q6 e6 ⟨⟨ok6, m6, x6, y6⟩, l3⟩ w17 G7 => hR _ _ _ G7 fun H18 => ?_))
  refine Sx.c 12 [0] H18 (fun Hp R hR => f.f_params (⟨#[61]⟩ : ByteArray) false b S q6 w17 R Hp ok6 (by omega) (fun Q4 t3 A3 c3 q7 e7 ⟨ok7, m7, x7, y7⟩ w18 G8 => hR _ _ _ G8 fun H19 => ?_))
  refine Sx.nw 0 H19 fun k6 w19 H20 => Sx.s 0 3 H20 fun w20 H21 => ?_
  refine Sx.c 5 [0] H21 (fun Hp R hR => must_c b S q7 (⟨#[105, 110]⟩ : ByteArray) w20 R Hp ok7 (fun q8 e8 ⟨ok8, m8, x8, y8⟩ w21 G9 => hR _ _ _ G9 fun H22 => ?_))
  refine Sx.c 5 [0] H22 (fun Hp R hR => f.f_expr b S q8 w21 R Hp ok8 (by omega) (fun Q5 t4 A4 c4 q9 e9 ⟨ok9, m9, x9, y9⟩ w22 G10 => hR _ _ _ G10 fun H23 => ?_))
  refine Sx.nw 0 H23 fun k7 w23 H24 => Sx.s 0 5 H24 fun w24 H25 => Sx.l 6 4 H25 <| Sx.l 0 5 H25 <| Sx.nw 0 H25 fun k8 w25 H26 => kv_make H26 [6, 2, 1] k8 62 [.nd Q4 t3 A3 c3, .nd Q5 t4 A4 c4] fun Q6 H27 => ?_
  refine Sx.c 0 [] H27 (fun Hp R hR => named_c (9 : Int) ((at_ : Nat) : Int) nm2 (some ⟨k8, 0, none⟩) 2 2 w25 R Hp 2 rfl (fun w26 G11 => hR _ _ _ G11 fun H28 => ?_))
  refine Sx.nw 0 H28 fun k9 w27 H29 => Sx.s 0 5 H29 fun w28 H30 => Sx.s 6 5 H30 fun w29 H31 => Sx.l 4 5 H31 <| Sx.s 0 2 H31 fun w30 H32 => ?_
  exact Sx.rt 3 [2] H32 _ (hK Q6 (.mk 9 at_ nm2 (0 : Int) [t3, t4]) (some ⟨k8, 0, none⟩) 2 q9 (by rw [run_succ]; simp only [stepN, letS, letT, *, s0, maps, decide_eq_true_eq, reduceIte]) _ (H32.pe hL0 [1, 0]))
theorem cases_c (k : Nat) (ih : ∀ j, j ≤ k → Spec j) : ∀ (at_ : Nat), RdC (k + 1) (.cases at_) 13 114 [.n at_] := by
  intro at_
  refine rdx fun b S q w K H0 ok hm hK => ?_
  obtain ⟨L0, hL0, H⟩ := Sx.op0 H0
  refine Sx.en (vs := [.p b, .n at_]) 56 Tryz.func114 ?_
  have f := ih k (Nat.le_refl k)
  refine Sx.nw 2 H fun k1 w1 H1 => ?_
  refine Sx.c 5 [0] H1 (fun Hp R hR => f.f_expr b S q w1 R Hp ok (by omega) (fun Q1 t1 A1 c1 q1 e1 ⟨ok1, m1, x1, y1⟩ w2 G1 => hR _ _ _ G1 fun H2 => ?_))
  refine Sx.nw 0 H2 fun k2 w3 H3 => Sx.s 0 3 H3 fun w4 H4 => ?_
  refine Sx.c 5 [0] H4 (fun Hp R hR => must_c b S q1 (⟨#[111, 102]⟩ : ByteArray) w4 R Hp ok1 (fun q2 e2 ⟨ok2, m2, x2, y2⟩ w5 G2 => hR _ _ _ G2 fun H5 => ?_))
  refine Sx.c 5 [0] H5 (fun Hp R hR => must_c b S q2 (⟨#[91]⟩ : ByteArray) w5 R Hp ok2 (fun q3 e3 ⟨ok3, m3, x3, y3⟩ w6 G3 => hR _ _ _ G3 fun H6 => ?_))
  refine Sx.c 5 [0] H6 (fun Hp R hR => must_c b S q3 (⟨#[93]⟩ : ByteArray) w6 R Hp ok3 (fun q4 e4 ⟨ok4, m4, x4, y4⟩ w7 G4 => hR _ _ _ G4 fun H7 => ?_))
  refine Sx.c 5 [0] H7 (fun Hp R hR => must_c b S q4 (⟨#[61, 62]⟩ : ByteArray) w7 R Hp ok4 (fun q5 e5 ⟨ok5, m5, x5, y5⟩ w8 G5 => hR _ _ _ G5 fun H8 => ?_))
  refine Sx.c 5 [0] H8 (fun Hp R hR => f.f_expr b S q5 w8 R Hp ok5 (by omega) (fun Q2 t2 A2 c2 q6 e6 ⟨ok6, m6, x6, y6⟩ w9 G6 => hR _ _ _ G6 fun H9 => ?_))
  refine Sx.nw 0 H9 fun k3 w10 H10 => Sx.s 0 5 H10 fun w11 H11 => ?_
  refine Sx.c 5 [0] H11 (fun Hp R hR => must_c b S q6 (⟨#[124]⟩ : ByteArray) w11 R Hp ok6 (fun q7 e7 ⟨ok7, m7, x7, y7⟩ w12 G7 => hR _ _ _ G7 fun H12 => ?_))
  refine Sx.c 5 [0] H12 (fun Hp R hR => name_c b S q7 w12 R Hp ok7 (fun nm1 na1 q8 e8 ⟨⟨ok8, m8, x8, y8⟩, l1⟩ w13 G8 => hR _ _ _ G8 fun H13 => ?_))
  refine Sx.c 10 [0] H13 (fun Hp R hR => must_c b S q8 (⟨#[58, 58]⟩ : ByteArray) w13 R Hp ok8 (fun q9 e9 ⟨ok9, m9, x9, y9⟩ w14 G9 => hR _ _ _ G9 fun H14 => ?_))
  refine Sx.c 5 [0] H14 (fun Hp R hR => name_c b S q9 w14 R Hp ok9 (fun nm2 na2 q10 e10 ⟨⟨ok10, m10, x10, y10⟩, l2⟩ w15 G10 => hR _ _ _ G10 fun H15 => ?_))
  refine Sx.c 10 [0] H15 (fun Hp R hR => must_c b S q10 (⟨#[61, 62]⟩ : ByteArray) w15 R Hp ok10 (fun q11 e11 ⟨ok11, m11, x11, y11⟩ w16 G11 => hR _ _ _ G11 fun H16 => ?_))
  refine Sx.c 5 [0] H16 (fun Hp R hR => f.f_expr b S q11 w16 R Hp ok11 (by omega) (fun Q3 t3 A3 c3 q12 e12 ⟨ok12, m12, x12, y12⟩ w17 G12 => hR _ _ _ G12 fun H17 => ?_))
  refine Sx.nw 0 H17 fun k4 w18 H18 => Sx.s 0 7 H18 fun w19 H19 => ?_
  refine Sx.c 5 [0] H19 (fun Hp R hR => must_c b S q12 (⟨#[101, 110, 100]⟩ : ByteArray) w19 R Hp ok12 (fun q13 e13 ⟨ok13, m13, x13, y13⟩ w20 G13 => hR _ _ _ G13 fun H20 => ?_))
  refine Sx.dr 3 H20 [5, 6, 7] [] (LJ := [.blk k2 (.cells #[.n t1.k, .n t1.a, .string t1.nm, .int .i64 t1.n, .slice A1 t1.ks.length c1] 62), .blk k3 (.cells #[.n t2.k, .n t2.a, .string t2.nm, .int .i64 t2.n, .slice A2 t2.ks.length c2] 62), .blk k4 (.cells #[.n t3.k, .n t3.a, .string t3.nm, .int .i64 t3.n, .slice A3 t3.ks.length c3] 62)]) (by kernel_rfl) fun w21 H21 => Sx.tk [(0, none), (1, some (0, [])), (2, some (1, [])), (3, none), (4, none), (6, none), (7, none), (9, some (2, []))] (H21.sb [5, 5, 5]) <| Sx.nmx ?_
  intro zx1
  refine Sx.on 5 ?_
  refine Sx.c 0 [] H21 (fun Hp R hR => named_c (23 : Int) ((na1 : Nat) : Int) nm1 none 0 0 w21 R Hp 0 rfl (fun w22 G14 => hR _ _ _ G14 fun H22 => ?_))
  refine Sx.bk (x := zx1) 5 (H22.sb [5, 5, 5]) <| Sx.nmx ?_
  intro zx2
  refine Sx.on 8 ?_
  refine Sx.c 0 [] H22 (fun Hp R hR => named_c (23 : Int) ((na2 : Nat) : Int) nm2 none 0 0 w22 R Hp 0 rfl (fun w23 G15 => hR _ _ _ G15 fun H23 => ?_))
  refine Sx.bk (x := zx2) 8 (H23.sb [5, 5, 5]) <| Sx.nmx ?_
  intro zx3
  refine Sx.on 10 <| Sx.nw 0 H23 fun k5 w24 H24 => Sx.bk (x := zx3) 10 (H24.sb [5, 5, 5]) <| Sx.nmx ?_
  intro zx4
  refine Sx.on 11 <| kv_make H24 [8, 3, 2, 1] k5 62 [.nd Q1 t1 A1 c1, .nd Q2 t2 A2 c2, .lf 23 na1 nm1 (0 : Int), .lf 23 na2 nm2 (0 : Int), .nd Q3 t3 A3 c3] fun Q4 H25 => ?_
  refine Sx.c 0 [] H25 (fun Hp R hR => Node_c (17 : Int) ((at_ : Nat) : Int) (some ⟨k5, 0, none⟩) 5 5 w24 R Hp 5 rfl (fun w25 G16 => hR _ _ _ G16 fun H26 => ?_))
  refine Sx.bk (x := zx4) 11 (H26.sb [3, 3, 3]) <| Sx.nmx ?_
  intro zx5
  refine Sx.on 12 <| Sx.s 0 2 H26 fun w26 H27 => Sx.bk (x := zx5) 12 (H27.sb [3, 3, 3]) <| Sx.dn ?_
  exact Sx.rt 2 [2] H27 _ (hK Q4 (.mk 17 at_ (⟨#[]⟩ : ByteArray) (0 : Int) [t1, t2, (.mk 23 na1 nm1 (0 : Int) []), (.mk 23 na2 nm2 (0 : Int) []), t3]) (some ⟨k5, 0, none⟩) 5 q13 (by rw [run_succ]; simp only [stepN, casesS, *, s0, maps, decide_eq_true_eq, reduceIte]) _ (H27.pe hL0 [1, 0]))
theorem comp_c (k : Nat) (ih : ∀ j, j ≤ k → Spec j) : RdC (k + 1) .comp 9 116 [] := by
  refine rdx fun b S q w K H0 ok hm hK => ?_
  obtain ⟨L0, hL0, H⟩ := Sx.op0 H0
  refine Sx.en (vs := [.p b]) 26 Tryz.func116 ?_
  have f := ih k (Nat.le_refl k)
  refine Sx.nw 2 H fun k1 w1 H1 => ?_
  refine Sx.c 5 [0] H1 (fun Hp R hR => f.f_cons b S q w1 R Hp ok (by omega) (fun Q1 t1 A1 c1 q1 e1 ⟨ok1, m1, x1, y1⟩ w2 G1 => hR _ _ _ G1 fun H2 => ?_))
  refine Sx.nw 0 H2 fun k2 w3 H3 => Sx.s 0 3 H3 fun w4 H4 => Sx.nw 5 H4 fun k3 w5 H5 => ?_
  refine Sx.lp 5 (fun z l' w' => ∃ (i : Nat) (p : Rs), l' = [(0, .p b), (2, .p k1), (3, .p k2), (9, .slice (some ⟨k3, 0, none⟩) 2 2), (10, .int .i64 2), (11, .n i)] ∧ z = 2 - i ∧ Hs w L0 w' [rdI b S p, .blk k2 (.cells #[.n t1.k, .n t1.a, .string t1.nm, .int .i64 t1.n, .slice A1 t1.ks.length c1] 62), kvI Q1 t1.ks A1 c1, .blk k1 (.cells #[.int .i64 0, .int .i64 0, .string (⟨#[]⟩ : ByteArray), .int .i64 0, .slice none 0 0] 62), .blk k3 (.cells #[.string (⟨#[61, 61]⟩ : ByteArray), .string (⟨#[60]⟩ : ByteArray)] 9)] ∧ (i = 0 ∧ p = q1 ∨ i = 1 ∧ isB q1 (⟨#[61, 61]⟩ : ByteArray) = false ∧ hasR S q1 (⟨#[61, 61]⟩ : ByteArray) = p ∨ i = 2 ∧ ∃ q2, isB q1 (⟨#[61, 61]⟩ : ByteArray) = false ∧ hasR S q1 (⟨#[61, 61]⟩ : ByteArray) = q2 ∧ isB q2 (⟨#[60]⟩ : ByteArray) = false ∧ hasR S q2 (⟨#[60]⟩ : ByteArray) = p) ∧ (Up S q1 p)) _ _ ⟨0, q1, rfl, rfl, H5.pk [0, 2, 0, 0, 0], (.inl ⟨rfl, rfl⟩), ⟨ok1, by omega, by omega, by omega⟩⟩ (fun b1 z1 l1 w6 hI1 K1 hK1 => ?_)
  obtain ⟨i, p, rfl, rfl, H7, hi, ⟨ho, hM, hx, hy⟩⟩ := hI1
  rcases hi with ⟨rfl, rfl⟩ | ⟨rfl, he1, he2⟩ | ⟨rfl, q2, he1, he2, he3, he4⟩
  · refine Sx.l 14 4 H7 ?_
    refine Sx.c 7 [0] H7 (fun Hp R hR => has_c b S p (⟨#[61, 61]⟩ : ByteArray) w6 R Hp ho (fun q2 e2 ⟨⟨ok2, m2, x2, y2⟩, l2⟩ w7 G2 => hR _ _ _ G2 fun H8 => ?_))
    refine Sx.br 2 (isB p (⟨#[61, 61]⟩ : ByteArray)) (fun h_c17 => ?_) (fun h_c17 => ?_)
    · have lt1 := l2 h_c17
      refine Sx.c 3 [0] H8 (fun Hp R hR => f.f_cons b S q2 w7 R Hp ok2 (by omega) (fun Q2 t2 A2 c2 q3 e3 ⟨ok3, m3, x3, y3⟩ w8 G3 => hR _ _ _ G3 fun H9 => ?_))
      refine Sx.nw 0 H9 fun k4 w9 H10 => Sx.s 0 6 H10 fun w10 H11 => Sx.l 5 2 H11 <| Sx.l 0 6 H11 ?_
      refine Sx.c 0 [3, 1] H11 (fun Hp R hR => two_c (⟨#[61, 61]⟩ : ByteArray) t1 A1 c1 Q1 t2 A2 c2 Q2 w10 R Hp  (fun Q3 A3 w11 G4 => hR _ _ _ G4 fun H12 => ?_))
      refine Sx.s 0 3 H12 fun w12 H13 => ?_
      exact Sx.rt 8 [3] H13 _ (hK Q3 (.mk 18 t1.a (⟨#[61, 61]⟩ : ByteArray) (0 : Int) [t1, t2]) A3 2 q3 (by rw [run_succ]; simp only [stepN, compS, two, *, s0, maps, decide_eq_true_eq, reduceIte]) _ (H13.pe hL0 [1, 0]))
    exact Sx.to 7 _ (hK1 _ _ _ _ (by decide) ⟨1, q2, rfl, rfl, H8.pk [0, 0, 0, 0, 0], (.inr (.inl ⟨rfl, by assumption, by assumption⟩)), ⟨ok2, by omega, by omega, by omega⟩⟩)
  · refine Sx.l 14 4 H7 ?_
    refine Sx.c 7 [0] H7 (fun Hp R hR => has_c b S p (⟨#[60]⟩ : ByteArray) w6 R Hp ho (fun q4 e4 ⟨⟨ok4, m4, x4, y4⟩, l3⟩ w13 G5 => hR _ _ _ G5 fun H15 => ?_))
    refine Sx.br 2 (isB p (⟨#[60]⟩ : ByteArray)) (fun h_c17 => ?_) (fun h_c17 => ?_)
    · have lt2 := l3 h_c17
      refine Sx.c 3 [0] H15 (fun Hp R hR => f.f_cons b S q4 w13 R Hp ok4 (by omega) (fun Q4 t3 A4 c3 q5 e5 ⟨ok5, m5, x5, y5⟩ w14 G6 => hR _ _ _ G6 fun H16 => ?_))
      refine Sx.nw 0 H16 fun k5 w15 H17 => Sx.s 0 6 H17 fun w16 H18 => Sx.l 5 2 H18 <| Sx.l 0 6 H18 ?_
      refine Sx.c 0 [3, 1] H18 (fun Hp R hR => two_c (⟨#[60]⟩ : ByteArray) t1 A1 c1 Q1 t3 A4 c3 Q4 w16 R Hp  (fun Q5 A5 w17 G7 => hR _ _ _ G7 fun H19 => ?_))
      refine Sx.s 0 3 H19 fun w18 H20 => ?_
      exact Sx.rt 8 [3] H20 _ (hK Q5 (.mk 18 t1.a (⟨#[60]⟩ : ByteArray) (0 : Int) [t1, t3]) A5 2 q5 (by rw [run_succ]; simp only [stepN, compS, two, *, s0, maps, decide_eq_true_eq, reduceIte]) _ (H20.pe hL0 [1, 0]))
    exact Sx.to 7 _ (hK1 _ _ _ _ (by decide) ⟨2, q4, rfl, rfl, H15.pk [0, 0, 0, 0, 0], (.inr (.inr ⟨rfl, p, he1, he2, by assumption, by assumption⟩)), ⟨ok4, by omega, by omega, by omega⟩⟩)
  refine Sx.l 14 1 H7 <| Sx.s 0 3 H7 fun w19 H22 => ?_
  exact Sx.rt 3 [3] H22 _ (hK Q1 t1 A1 c1 p (by rw [run_succ]; simp only [stepN, compS, two, *, s0, maps, decide_eq_true_eq, reduceIte]) _ (H22.pe hL0 [0, 1]))
theorem app_c (k : Nat) (ih : ∀ j, j ≤ k → Spec j) : RdC (k + 1) .app 5 137 [] := by
  refine rdx fun b S q w K H0 ok hm hK => ?_
  obtain ⟨L0, hL0, H⟩ := Sx.op0 H0
  refine Sx.en (vs := [.p b]) 62 Tryz.func137 ?_
  have f := ih k (Nat.le_refl k)
  refine Sx.nw 2 H fun k1 w1 H1 => Sx.l 8 0 H1 ?_
  refine Sx.c 8 [0] H1 (fun Hp R hR => has_c b S q (⟨#[100, 111]⟩ : ByteArray) w1 R Hp ok (fun q1 e1 ⟨⟨ok1, m1, x1, y1⟩, l1⟩ w2 G1 => hR _ _ _ G1 fun H2 => ?_))
  refine Sx.br 3 (isB q (⟨#[100, 111]⟩ : ByteArray)) (fun h_c16 => ?_) (fun h_c16 => ?_)
  · have lt1 := l1 h_c16
    refine Sx.c 3 [0] H2 (fun Hp R hR => name_c b S q1 w2 R Hp ok1 (fun nm1 na1 q2 e2 ⟨⟨ok2, m2, x2, y2⟩, l2⟩ w3 G2 => hR _ _ _ G2 fun H3 => ?_))
    refine Sx.c 10 [0] H3 (fun Hp R hR => f.f_atom b S q2 w3 R Hp ok2 (by omega) (fun Q1 t1 A1 c1 q3 e3 ⟨ok3, m3, x3, y3⟩ w4 G3 => hR _ _ _ G3 fun H4 => ?_))
    refine Sx.nw 0 H4 fun k2 w5 H5 => Sx.s 0 3 H5 fun w6 H6 => Sx.l 6 3 H6 <| Sx.nw 0 H6 fun k3 w7 H7 => kv_make H7 [4, 1] k3 62 [.nd Q1 t1 A1 c1] fun Q2 H8 => ?_
    refine Sx.c 0 [] H8 (fun Hp R hR => named_c (19 : Int) ((q.a : Nat) : Int) nm1 (some ⟨k3, 0, none⟩) 1 1 w7 R Hp 1 rfl (fun w8 G4 => hR _ _ _ G4 fun H9 => ?_))
    refine Sx.s 0 2 H9 fun w9 H10 => ?_
    exact Sx.rt 5 [2] H10 _ (hK Q2 (.mk 19 q.a nm1 (0 : Int) [t1]) (some ⟨k3, 0, none⟩) 1 q3 (by rw [run_succ]; simp only [stepN, appS, *, s0, maps, decide_eq_true_eq, reduceIte]) _ (H10.pe hL0 [1, 0]))
  refine Sx.c 3 [0] H2 (fun Hp R hR => has_c b S q1 (⟨#[102, 115, 116]⟩ : ByteArray) w2 R Hp ok1 (fun q4 e4 ⟨⟨ok4, m4, x4, y4⟩, l3⟩ w10 G5 => hR _ _ _ G5 fun H11 => ?_))
  refine Sx.br 3 (isB q1 (⟨#[102, 115, 116]⟩ : ByteArray)) (fun h_c31 => ?_) (fun h_c31 => ?_)
  · have lt2 := l3 h_c31
    refine Sx.c 3 [0] H11 (fun Hp R hR => f.f_atom b S q4 w10 R Hp ok4 (by omega) (fun Q3 t2 A2 c2 q5 e5 ⟨ok5, m5, x5, y5⟩ w11 G6 => hR _ _ _ G6 fun H12 => ?_))
    refine Sx.nw 0 H12 fun k4 w12 H13 => Sx.s 0 3 H13 fun w13 H14 => Sx.l 5 3 H14 <| Sx.nw 0 H14 fun k5 w14 H15 => kv_make H15 [4, 1] k5 62 [.nd Q3 t2 A2 c2] fun Q4 H16 => ?_
    refine Sx.c 0 [] H16 (fun Hp R hR => Node_c (13 : Int) ((q.a : Nat) : Int) (some ⟨k5, 0, none⟩) 1 1 w14 R Hp 1 rfl (fun w15 G7 => hR _ _ _ G7 fun H17 => ?_))
    refine Sx.s 0 2 H17 fun w16 H18 => ?_
    exact Sx.rt 5 [2] H18 _ (hK Q4 (.mk 13 q.a (⟨#[]⟩ : ByteArray) (0 : Int) [t2]) (some ⟨k5, 0, none⟩) 1 q5 (by rw [run_succ]; simp only [stepN, appS, *, s0, maps, decide_eq_true_eq, reduceIte]) _ (H18.pe hL0 [1, 0]))
  refine Sx.c 3 [0] H11 (fun Hp R hR => has_c b S q4 (⟨#[115, 110, 100]⟩ : ByteArray) w10 R Hp ok4 (fun q6 e6 ⟨⟨ok6, m6, x6, y6⟩, l4⟩ w17 G8 => hR _ _ _ G8 fun H19 => ?_))
  refine Sx.br 3 (isB q4 (⟨#[115, 110, 100]⟩ : ByteArray)) (fun h_c40 => ?_) (fun h_c40 => ?_)
  · have lt3 := l4 h_c40
    refine Sx.c 3 [0] H19 (fun Hp R hR => f.f_atom b S q6 w17 R Hp ok6 (by omega) (fun Q5 t3 A3 c3 q7 e7 ⟨ok7, m7, x7, y7⟩ w18 G9 => hR _ _ _ G9 fun H20 => ?_))
    refine Sx.nw 0 H20 fun k6 w19 H21 => Sx.s 0 3 H21 fun w20 H22 => Sx.l 5 3 H22 <| Sx.nw 0 H22 fun k7 w21 H23 => kv_make H23 [4, 1] k7 62 [.nd Q5 t3 A3 c3] fun Q6 H24 => ?_
    refine Sx.c 0 [] H24 (fun Hp R hR => Node_c (14 : Int) ((q.a : Nat) : Int) (some ⟨k7, 0, none⟩) 1 1 w21 R Hp 1 rfl (fun w22 G10 => hR _ _ _ G10 fun H25 => ?_))
    refine Sx.s 0 2 H25 fun w23 H26 => ?_
    exact Sx.rt 5 [2] H26 _ (hK Q6 (.mk 14 q.a (⟨#[]⟩ : ByteArray) (0 : Int) [t3]) (some ⟨k7, 0, none⟩) 1 q7 (by rw [run_succ]; simp only [stepN, appS, *, s0, maps, decide_eq_true_eq, reduceIte]) _ (H26.pe hL0 [1, 0]))
  refine Sx.c 6 [0] H19 (fun Hp R hR => f.f_atom b S q6 w17 R Hp ok6 (by omega) (fun Q7 t4 A4 c4 q8 e8 ⟨ok8, m8, x8, y8⟩ w24 G11 => hR _ _ _ G11 fun H27 => ?_))
  refine Sx.nw 0 H27 fun k8 w25 H28 => Sx.s 0 3 H28 fun w26 H29 => ?_
  refine Sx.lp 4 (fun z l' w' => ∃ (j : Nat) (p : Rs) (Q : Nat → Prop) (a : Nd) (A : Option Addr) (c : Nat), l' = [(0, .p b), (2, .p k1), (9, .p k8)] ∧ z = M S p ∧ Hs w L0 w' [rdI b S p, .blk k8 (.cells #[.n a.k, .n a.a, .string a.nm, .int .i64 a.n, .slice A a.ks.length c] 62), kvI Q a.ks A c, .blk k1 (.cells #[.int .i64 0, .int .i64 0, .string (⟨#[]⟩ : ByteArray), .int .i64 0, .slice none 0 0] 62)] ∧ (j ≤ k) ∧ (16 * M S p + 4 ≤ j) ∧ (run S j (.appL a) p = run S k (.appL t4) q8) ∧ (Up S q8 p)) _ _ ⟨k, q8, Q7, t4, A4, c4, rfl, rfl, H29.pk [0, 2, 0, 0], (Nat.le_refl _), (by omega), rfl, ⟨ok8, by omega, by omega, by omega⟩⟩ (fun b1 z1 l5 w27 hI1 K1 hK1 => ?_)
  obtain ⟨j, p, Q, a, A, c, rfl, rfl, H31, hj, hm1, hr, ⟨ho, hM, hx, hy⟩⟩ := hI1
  obtain ⟨i, rfl⟩ : ∃ i, j = i + 1 := ⟨j - 1, by omega⟩
  have g := ih i (by omega)
  refine Sx.c 4 [0] H31 (fun Hp R hR => begins_c b S p w27 R Hp (hR _ _ _ (.refl Hp) fun _ => ?_))
  refine Sx.br 2 (begB p) (fun h_c52 => ?_) (fun h_c52 => ?_)
  · refine Sx.c 6 [0] H31 (fun Hp R hR => g.f_atom b S p w27 R Hp ho (by omega) (fun Q8 t5 A5 c5 q9 e9 ⟨ok9, m9, x9, y9⟩ w28 G12 => hR _ _ _ G12 fun H32 => ?_))
    have := atom_lt ho (by omega) h_c52 e9
    refine Sx.nw 0 H32 fun k9 w29 H33 => Sx.s 0 5 H33 fun w30 H34 => Sx.l 4 2 H34 <| Sx.l 0 2 H34 <| Sx.l 0 5 H34 <| Sx.nw 0 H34 fun k10 w31 H35 => ?_
    refine kv_make H35 [6, 3, 1] k10 62 [.nd Q a A c, .nd Q8 t5 A5 c5] fun Q9 H36 => ?_
    refine Sx.c 0 [] H36 (fun Hp R hR => Node_c (8 : Int) ((a.a : Nat) : Int) (some ⟨k10, 0, none⟩) 2 2 w31 R Hp 2 rfl (fun w32 G13 => hR _ _ _ G13 fun H37 => ?_))
    refine Sx.s 0 2 H37 fun w33 H38 => ?_
    exact Sx.to 2 _ (hK1 _ _ _ _ (by omega) ⟨i, q9, Q9, (.mk 8 a.a (⟨#[]⟩ : ByteArray) (0 : Int) [a, t5]), (some ⟨k10, 0, none⟩), 2, rfl, rfl, H38.pk [1, 1, 0, 0], (by omega), (by omega), (by rw [← hr, run_succ]; simp only [stepN, appLS, *, s0, reduceIte]), ⟨ok9, by omega, by omega, by omega⟩⟩)
  have e10 : run S k (.appL t4) q8 = (a, p) := by rw [← hr, run_succ]; simp only [stepN, appLS, *, s0, reduceIte]
  refine Sx.l 7 1 H31 <| Sx.s 0 3 H31 fun w34 H40 => ?_
  exact Sx.rt 3 [3] H40 _ (hK Q a A c p (by rw [run_succ]; simp only [stepN, appS, *, s0, maps, decide_eq_true_eq, reduceIte]) _ (H40.pe hL0 [0, 1]))
theorem atom_c (k : Nat) (ih : ∀ j, j ≤ k → Spec j) : RdC (k + 1) .atom 3 138 [] := by
  refine rdx fun b S q w K H0 ok hm hK => ?_
  obtain ⟨L0, hL0, H⟩ := Sx.op0 H0
  refine Sx.en (vs := [.p b]) 91 Tryz.func138 ?_
  have f := ih k (Nat.le_refl k)
  refine Sx.nw 2 H fun k1 w1 H1 => Sx.l 8 0 H1 <| Sx.l 8 0 H1 <| Sx.nw 0 H1 fun k2 w2 H2 => Sx.s 0 2 H2 fun w3 H3 => ?_
  refine Sx.c 7 [0] H3 (fun Hp R hR => ok_c b S q w3 R Hp (hR _ _ _ (.refl Hp) fun _ => ?_))
  refine Sx.br 4 (!(okB q)) (fun h_c15 => ?_) (fun h_c15 => ?_)
  · refine Sx.s 3 1 H3 fun w4 H4 => ?_
    have H5 := kv_nil H4
    have n_c15 := nt h_c15
    exact Sx.rt 5 [1] H5 _ (hK (fun _ => False) nd0 none 0 q (by rw [run_succ]; simp only [stepN, atomS, numS, and_ite, *, s0, maps, decide_eq_true_eq, reduceIte]) _ (H5.pe hL0 [0, 2]))
  refine Sx.l 3 2 H3 ?_
  refine Sx.br 4 (((q.k : Nat) : Int) == (2 : Int)) (fun h_c20 => ?_) (fun h_c20 => ?_)
  · have n_c15 := nf h_c15
    refine Sx.c 3 [0] H3 (fun Hp R hR => next_c b S q w3 R Hp ok (fun q1 e1 ⟨⟨ok1, m1, x1, y1⟩, l1⟩ w5 G1 => hR _ _ _ G1 fun H6 => ?_))
    refine Sx.l 6 2 H6 ?_
    refine Sx.c 0 [] H6 (fun Hp R hR => named_c (6 : Int) ((q.a : Nat) : Int) q.t none 0 0 w5 R Hp 0 rfl (fun w6 G2 => hR _ _ _ G2 fun H7 => ?_))
    refine Sx.s 0 1 H7 fun w7 H8 => ?_
    have H9 := kv_nil H8
    exact Sx.rt 5 [1] H9 _ (hK (fun _ => False) (.mk 6 q.a q.t (0 : Int) []) none 0 q1 (by rw [run_succ]; simp only [stepN, atomS, numS, and_ite, *, s0, maps, decide_eq_true_eq, reduceIte]) _ (H9.pe hL0 [0, 2]))
  refine Sx.l 3 2 H3 ?_
  refine Sx.br 4 (((q.k : Nat) : Int) == (1 : Int)) (fun h_c30 => ?_) (fun h_c30 => ?_)
  · have n_c15 := nf h_c15
    refine Sx.c 3 [0] H3 (fun Hp R hR => next_c b S q w3 R Hp ok (fun q2 e2 ⟨⟨ok2, m2, x2, y2⟩, l2⟩ w8 G3 => hR _ _ _ G3 fun H10 => ?_))
    refine Sx.l 6 2 H10 <| Sx.s 1 1 H10 fun w9 H11 => ?_
    have H12 := kv_nil H11
    exact Sx.rt 5 [1] H12 _ (hK (fun _ => False) (.mk 3 q.a (⟨#[]⟩ : ByteArray) ((q.n : Nat) : Int) []) none 0 q2 (by rw [run_succ]; simp only [stepN, atomS, numS, and_ite, *, s0, maps, decide_eq_true_eq, reduceIte]) _ (H12.pe hL0 [0, 2]))
  have n_c15 := nf h_c15
  refine Sx.c 3 [0] H3 (fun Hp R hR => has_c b S q (⟨#[126]⟩ : ByteArray) w3 R Hp ok (fun q3 e3 ⟨⟨ok3, m3, x3, y3⟩, l3⟩ w10 G4 => hR _ _ _ G4 fun H13 => ?_))
  refine Sx.br 3 (isB q (⟨#[126]⟩ : ByteArray)) (fun h_c40 => ?_) (fun h_c40 => ?_)
  · refine Sx.l 6 0 H13 ?_
    refine Sx.cut 4 (fun l' w' => l' = [(0, .p b), (2, .p k1), (3, .n q.a), (5, .n q3.n), (57, .bool ((okB q3) && (((q3.k : Nat) : Int) != (1 : Int))))] ∧ w10 = w') (fun K1 hK1 => ?_) (fun b1 l4 w11 hI1 => ?_)
    · refine Sx.c 2 [0] H13 (fun Hp R hR => ok_c b S q3 w10 R Hp (hR _ _ _ (.refl Hp) fun _ => ?_))
      refine Sx.sp 1 50 (okB q3) (fun h_g50 => ?_) (fun h_g50 => ?_)
      · refine Sx.l 4 0 H13 ?_
        exact Sx.to 3 _ (hK1 _ _ _ ⟨rfl, rfl⟩) (h2 := (by rw [h_g50]; try kernel_rfl))
      exact Sx.to 8 _ (hK1 _ _ _ ⟨rfl, rfl⟩) (h2 := (by rw [h_g50]; try kernel_rfl))
    obtain ⟨rfl, rfl⟩ := hI1
    refine Sx.br 0 ((okB q3) && (((q3.k : Nat) : Int) != (1 : Int))) (fun h_c57 => ?_) (fun h_c57 => ?_)
    · have lt1 := l3 h_c40
      refine Sx.c 2 [0] H13 (fun Hp R hR => no_c b S q3 w10 R Hp ok3 (fun q4 e4 ⟨ok4, m4, x4, y4⟩ w12 G5 => hR _ _ _ G5 fun H14 => ?_))
      refine Sx.c 5 [0] H14 (fun Hp R hR => next_c b S q4 w12 R Hp ok4 (fun q5 e5 ⟨⟨ok5, m5, x5, y5⟩, l5⟩ w13 G6 => hR _ _ _ G6 fun H15 => ?_))
      refine Sx.v 6 (.int .i64 (IntKind.i64.wrap (0 - ((q3.n : Nat) : Int)))) (.int .i64 (-((q3.n : Nat) : Int))) (congrArg (Value.int .i64) (by rw [IntWalk.i64_in _ (by have := ok3.n; omega)]; omega)) <| Sx.s 1 1 H15 fun w14 H16 => ?_
      have H17 := kv_nil H16
      exact Sx.rt 5 [1] H17 _ (hK (fun _ => False) (.mk 3 q.a (⟨#[]⟩ : ByteArray) (-((q3.n : Nat) : Int)) []) none 0 q5 (by rw [run_succ]; simp only [stepN, atomS, numS, and_ite, *, s0, maps, decide_eq_true_eq, reduceIte]) _ (H17.pe hL0 [0, 2]))
    have lt2 := l3 h_c40
    refine Sx.c 5 [0] H13 (fun Hp R hR => next_c b S q3 w10 R Hp ok3 (fun q6 e6 ⟨⟨ok6, m6, x6, y6⟩, l6⟩ w15 G7 => hR _ _ _ G7 fun H18 => ?_))
    refine Sx.v 6 (.int .i64 (IntKind.i64.wrap (0 - ((q3.n : Nat) : Int)))) (.int .i64 (-((q3.n : Nat) : Int))) (congrArg (Value.int .i64) (by rw [IntWalk.i64_in _ (by have := ok3.n; omega)]; omega)) <| Sx.s 1 1 H18 fun w16 H19 => ?_
    have H20 := kv_nil H19
    exact Sx.rt 5 [1] H20 _ (hK (fun _ => False) (.mk 3 q.a (⟨#[]⟩ : ByteArray) (-((q3.n : Nat) : Int)) []) none 0 q6 (by rw [run_succ]; simp only [stepN, atomS, numS, and_ite, *, s0, maps, decide_eq_true_eq, reduceIte]) _ (H20.pe hL0 [0, 2]))
  refine Sx.c 3 [0] H13 (fun Hp R hR => has_c b S q3 (⟨#[116, 114, 117, 101]⟩ : ByteArray) w10 R Hp ok3 (fun q7 e7 ⟨⟨ok7, m7, x7, y7⟩, l7⟩ w17 G8 => hR _ _ _ G8 fun H21 => ?_))
  refine Sx.br 3 (isB q3 (⟨#[116, 114, 117, 101]⟩ : ByteArray)) (fun h_c66 => ?_) (fun h_c66 => ?_)
  · refine Sx.s 4 1 H21 fun w18 H22 => ?_
    have H23 := kv_nil H22
    have lt3 := l7 h_c66
    exact Sx.rt 5 [1] H23 _ (hK (fun _ => False) (.mk 4 q.a (⟨#[]⟩ : ByteArray) (1 : Int) []) none 0 q7 (by rw [run_succ]; simp only [stepN, atomS, numS, and_ite, *, s0, maps, decide_eq_true_eq, reduceIte]) _ (H23.pe hL0 [0, 2]))
  refine Sx.c 3 [0] H21 (fun Hp R hR => has_c b S q7 (⟨#[102, 97, 108, 115, 101]⟩ : ByteArray) w17 R Hp ok7 (fun q8 e8 ⟨⟨ok8, m8, x8, y8⟩, l8⟩ w19 G9 => hR _ _ _ G9 fun H24 => ?_))
  refine Sx.br 3 (isB q7 (⟨#[102, 97, 108, 115, 101]⟩ : ByteArray)) (fun h_c71 => ?_) (fun h_c71 => ?_)
  · refine Sx.s 4 1 H24 fun w20 H25 => ?_
    have H26 := kv_nil H25
    have lt4 := l8 h_c71
    exact Sx.rt 5 [1] H26 _ (hK (fun _ => False) (.mk 4 q.a (⟨#[]⟩ : ByteArray) (0 : Int) []) none 0 q8 (by rw [run_succ]; simp only [stepN, atomS, numS, and_ite, *, s0, maps, decide_eq_true_eq, reduceIte]) _ (H26.pe hL0 [0, 2]))
  refine Sx.c 3 [0] H24 (fun Hp R hR => has_c b S q8 (⟨#[40]⟩ : ByteArray) w19 R Hp ok8 (fun q9 e9 ⟨⟨ok9, m9, x9, y9⟩, l9⟩ w21 G10 => hR _ _ _ G10 fun H27 => ?_))
  refine Sx.br 3 (isB q8 (⟨#[40]⟩ : ByteArray)) (fun h_c76 => ?_) (fun h_c76 => ?_)
  · have lt5 := l9 h_c76
    refine Sx.c 4 [0] H27 (fun Hp R hR => f.f_round q.a b S q9 w21 R Hp ok9 (by omega) (fun Q1 t1 A1 c1 q10 e10 ⟨ok10, m10, x10, y10⟩ w22 G11 => hR _ _ _ G11 fun H28 => ?_))
    refine Sx.s 0 2 H28 fun w23 H29 => ?_
    exact Sx.rt 5 [2] H29 _ (hK Q1 t1 A1 c1 q10 (by rw [run_succ]; simp only [stepN, atomS, numS, and_ite, *, s0, maps, decide_eq_true_eq, reduceIte]) _ (H29.pe hL0 [0, 0]))
  refine Sx.c 3 [0] H27 (fun Hp R hR => has_c b S q9 (⟨#[91]⟩ : ByteArray) w21 R Hp ok9 (fun q11 e11 ⟨⟨ok11, m11, x11, y11⟩, l10⟩ w24 G12 => hR _ _ _ G12 fun H30 => ?_))
  refine Sx.br 3 (isB q9 (⟨#[91]⟩ : ByteArray)) (fun h_c82 => ?_) (fun h_c82 => ?_)
  · have lt6 := l10 h_c82
    refine Sx.c 4 [0] H30 (fun Hp R hR => f.f_square q.a b S q11 w24 R Hp ok11 (by omega) (fun Q2 t2 A2 c2 q12 e12 ⟨ok12, m12, x12, y12⟩ w25 G13 => hR _ _ _ G13 fun H31 => ?_))
    refine Sx.s 0 2 H31 fun w26 H32 => ?_
    exact Sx.rt 5 [2] H32 _ (hK Q2 t2 A2 c2 q12 (by rw [run_succ]; simp only [stepN, atomS, numS, and_ite, *, s0, maps, decide_eq_true_eq, reduceIte]) _ (H32.pe hL0 [0, 0]))
  refine Sx.c 6 [0] H30 (fun Hp R hR => no_c b S q11 w24 R Hp ok11 (fun q13 e13 ⟨ok13, m13, x13, y13⟩ w27 G14 => hR _ _ _ G14 fun H33 => ?_))
  refine Sx.s 5 1 H33 fun w28 H34 => ?_
  have H35 := kv_nil H34
  exact Sx.rt 3 [1] H35 _ (hK (fun _ => False) nd0 none 0 q13 (by rw [run_succ]; simp only [stepN, atomS, numS, and_ite, *, s0, maps, decide_eq_true_eq, reduceIte]) _ (H35.pe hL0 [0, 2]))
theorem round_c (k : Nat) (ih : ∀ j, j ≤ k → Spec j) : ∀ (at_ : Nat), RdC (k + 1) (.round at_) 13 140 [.n at_] := by
  intro at_
  refine rdx fun b S q w K H0 ok hm hK => ?_
  obtain ⟨L0, hL0, H⟩ := Sx.op0 H0
  refine Sx.en (vs := [.p b, .n at_]) 27 Tryz.func140 ?_
  have f := ih k (Nat.le_refl k)
  refine Sx.nw 2 H fun k1 w1 H1 => ?_
  refine Sx.c 6 [0] H1 (fun Hp R hR => has_c b S q (⟨#[41]⟩ : ByteArray) w1 R Hp ok (fun q1 e1 ⟨⟨ok1, m1, x1, y1⟩, l1⟩ w2 G1 => hR _ _ _ G1 fun H2 => ?_))
  refine Sx.br 2 (isB q (⟨#[41]⟩ : ByteArray)) (fun h_c8 => ?_) (fun h_c8 => ?_)
  · have lt1 := l1 h_c8
    refine Sx.c 3 [] H2 (fun Hp R hR => Node_c (5 : Int) ((at_ : Nat) : Int) none 0 0 w2 R Hp 0 rfl (fun w3 G2 => hR _ _ _ G2 fun H3 => ?_))
    refine Sx.s 0 1 H3 fun w4 H4 => ?_
    have H5 := kv_nil H4
    exact Sx.rt 4 [1] H5 _ (hK (fun _ => False) (.mk 5 at_ (⟨#[]⟩ : ByteArray) (0 : Int) []) none 0 q1 (by rw [run_succ]; simp only [stepN, roundS, *, s0, maps, decide_eq_true_eq, reduceIte]) _ (H5.pe hL0 [0, 1]))
  refine Sx.c 5 [0] H2 (fun Hp R hR => f.f_expr b S q1 w2 R Hp ok1 (by omega) (fun Q1 t1 A1 c1 q2 e2 ⟨ok2, m2, x2, y2⟩ w5 G3 => hR _ _ _ G3 fun H6 => ?_))
  refine Sx.nw 0 H6 fun k2 w6 H7 => Sx.s 0 3 H7 fun w7 H8 => ?_
  refine Sx.c 6 [0] H8 (fun Hp R hR => has_c b S q2 (⟨#[44]⟩ : ByteArray) w7 R Hp ok2 (fun q3 e3 ⟨⟨ok3, m3, x3, y3⟩, l2⟩ w8 G4 => hR _ _ _ G4 fun H9 => ?_))
  refine Sx.br 2 (isB q2 (⟨#[44]⟩ : ByteArray)) (fun h_c14 => ?_) (fun h_c14 => ?_)
  · have lt2 := l2 h_c14
    refine Sx.c 3 [0] H9 (fun Hp R hR => f.f_expr b S q3 w8 R Hp ok3 (by omega) (fun Q2 t2 A2 c2 q4 e4 ⟨ok4, m4, x4, y4⟩ w9 G5 => hR _ _ _ G5 fun H10 => ?_))
    refine Sx.nw 0 H10 fun k3 w10 H11 => Sx.s 0 5 H11 fun w11 H12 => ?_
    refine Sx.c 5 [0] H12 (fun Hp R hR => must_c b S q4 (⟨#[41]⟩ : ByteArray) w11 R Hp ok4 (fun q5 e5 ⟨ok5, m5, x5, y5⟩ w12 G6 => hR _ _ _ G6 fun H13 => ?_))
    refine Sx.l 5 4 H13 <| Sx.l 0 5 H13 <| Sx.nw 0 H13 fun k4 w13 H14 => kv_make H14 [6, 2, 1] k4 62 [.nd Q1 t1 A1 c1, .nd Q2 t2 A2 c2] fun Q3 H15 => ?_
    refine Sx.c 0 [] H15 (fun Hp R hR => Node_c (12 : Int) ((at_ : Nat) : Int) (some ⟨k4, 0, none⟩) 2 2 w13 R Hp 2 rfl (fun w14 G7 => hR _ _ _ G7 fun H16 => ?_))
    refine Sx.s 0 2 H16 fun w15 H17 => ?_
    exact Sx.rt 4 [2] H17 _ (hK Q3 (.mk 12 at_ (⟨#[]⟩ : ByteArray) (0 : Int) [t1, t2]) (some ⟨k4, 0, none⟩) 2 q5 (by rw [run_succ]; simp only [stepN, roundS, *, s0, maps, decide_eq_true_eq, reduceIte]) _ (H17.pe hL0 [1, 0]))
  refine Sx.c 5 [0] H9 (fun Hp R hR => must_c b S q3 (⟨#[41]⟩ : ByteArray) w8 R Hp ok3 (fun q6 e6 ⟨ok6, m6, x6, y6⟩ w16 G8 => hR _ _ _ G8 fun H18 => ?_))
  refine Sx.l 4 3 H18 <| Sx.s 0 2 H18 fun w17 H19 => ?_
  exact Sx.rt 3 [2] H19 _ (hK Q1 t1 A1 c1 q6 (by rw [run_succ]; simp only [stepN, roundS, *, s0, maps, decide_eq_true_eq, reduceIte]) _ (H19.pe hL0 [0, 0]))
end Rd
end Go.Proofs.YtdmdecgoebnamaaGreat
