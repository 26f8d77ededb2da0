/- A part of the proof. -/
import Derived.Test.YtdmdecgoebnamaaGreatGraph
import Derived.Test.YtdmdecgoebnamaaGreatInf1
set_option linter.unusedVariables false
set_option linter.unusedSimpArgs false
namespace Go.Proofs.YtdmdecgoebnamaaGreat
open Go.RowKit Go.Sx Go.Inf
attribute [local irreducible] Go.wpOps Go.Code.wp Go.wpOp Go.wpAnyH Go.Calls Go.Sx.Goal
set_option maxRecDepth 20000
set_option maxHeartbeats 8000000 in
theorem Of_c_s (k : Nat) (ih : ∀ (S : Nat → Prop) (bg : Nat) (g : G) (Sy : Nat → Prop) (kd u row : Nat) (ops : List Nm) (args : List Ty) (p : Tv) (w : World) (K : Ending → World → Prop) (H0 : Sp w [GI S bg g, tyI Sy p (Ty.mk kd u row ops args)]) (g' : G) (m : Nat) (hf : ofT k g (Ty.mk kd u row ops args) = some (g', m)) (hK : ∀ (S' : Nat → Prop) w', Hs w [GI S bg g, tyI Sy p (Ty.mk kd u row ops args)] w' [GI S' bg g', tyI Sy p (Ty.mk kd u row ops args)] → K (.returned (.int .i64 (m : Int))) w'),
    Calls Tryz.prog 127 #[.p bg, .agg #[.n kd, .n u, .n row, .slice p.A p.na p.ca, .slice p.B p.nb p.cb]] w K) (S : Nat → Prop) (bg : Nat) (g : G) (Sy : Nat → Prop) (kd u row : Nat) (ops : List Nm) (args : List Ty) (p : Tv) (w : World) (K : Ending → World → Prop) (H0 : Sp w [GI S bg g, tyI Sy p (Ty.mk kd u row ops args)]) (g' : G) (m : Nat) (hf : ofT (k + 1) g (Ty.mk kd u row ops args) = some (g', m)) (hK : ∀ (S' : Nat → Prop) w', Hs w [GI S bg g, tyI Sy p (Ty.mk kd u row ops args)] w' [GI S' bg g', tyI Sy p (Ty.mk kd u row ops args)] → K (.returned (.int .i64 (m : Int))) w') :
    Calls Tryz.prog 127 #[.p bg, .agg #[.n kd, .n u, .n row, .slice p.A p.na p.ca, .slice p.B p.nb p.cb]] w K := by
  obtain ⟨L0, hL0, H⟩ := Sx.op0 H0
  refine Sx.en (vs := [.p bg, .agg #[.n kd, .n u, .n row, .slice p.A p.na p.ca, .slice p.B p.nb p.cb]]) 100 Tryz.func127 ?_
  obtain ⟨_, hna, hca, hnb, _⟩ := (ty_at (S := Sy) (p := p) (t := Ty.mk kd u row ops args) H 1 (by kernel_rfl)).open
  refine Sx.nw 2 H fun k1 w1 H1 => Sx.l 7 2 H1 ?_
  refine Sx.br 3 (((kd : Nat) : Int) == (0 : Int)) (fun h_c15 => ?_) (fun h_c15 => ?_)
  · have p_c15 := Gx.k1 h_c15
    have hk0 : kd = 0 := by omega
    have hf2 := ofT_var (by rw [hk0] at hf; exact hf)
    obtain ⟨⟨⟨kA, kC⟩, ⟨aA, aC⟩, ⟨bA, bC⟩, ⟨rA, rC⟩, ⟨lA, lC⟩, ⟨oA, oC⟩, ⟨nA, nC⟩, mbt, mbr, msl, mS, nk, no⟩, H2⟩ := G_open H1 0 (S := S) (bg := bg) (g := g) (by kernel_rfl)
    obtain ⟨lk, la, lb, lr, ll, lo, ln, ls⟩ := G_len H2
    simp only at lk la lb lr ll lo ln ls
    obtain ⟨o, ho⟩ : ∃ o, lookI (u : Int) g.tv = o := ⟨_, rfl⟩
    refine Sx.dr 1 H2 [0, 12, 8] [] (LJ := [.blk bg (.cells #[.slice kA nk kC, .slice aA nk aC, .slice bA nk bC, .slice rA nk rC, .slice lA nk lC, .slice oA no oC, .slice nA no nC, .map (some mbt), .map (some mbr)] 154), .blk k1 (.cells #[.n kd, .n u, .n row, .slice p.A p.na p.ca, .slice p.B p.nb p.cb] 96), mapN mbt g.tv]) (by kernel_rfl) fun w2 H3 => Sx.tk [(0, none), (1, none), (2, none), (3, some (0, [])), (4, none), (5, some (1, []))] (H3.sb [0, 11, 7]) <| tvki (t := 126) (kt := 3) (et := 3) 6 [] 2 mbt ((u : Nat) : Int) g.tv o ho (H3.sb [0, 11, 7]) <| Sx.tk [(7, none), (8, none), (9, none), (10, none), (11, none)] (H3.sb [0, 11, 7]) <| Sx.dn ?_
    refine Sx.br 8 (!o.isSome) (fun h_c27 => ?_) (fun h_c27 => ?_)
    · have ho' := isSome_f h_c27
      obtain ⟨hl0, g1, hv, rfl⟩ : lookI u g.tv = none ∧ ∃ g1, g.var = some (g1, m) ∧ { g1 with tv := g1.tv ++ [((u : Int), m)] } = g' := by
        rcases hf2 with ⟨q, hq, _⟩ | hq
        · rw [ho, ho'] at hq; cases hq
        · exact hq
      obtain ⟨S1, H4⟩ := G_close H3 [0, 0, 0, 0, 0, 0, 0, 0, 0, 0, 0] (bg := bg) (g := g) ⟨(kA, kC), (aA, aC), (bA, bC), (rA, rC), (lA, lC), (oA, oC), (nA, nC), mbt, mbr, msl, mS, nk, no⟩ (by kernel_rfl)
      refine Sx.c 3 [0] H4 (fun Hp R hZ => Var_c S1 bg g w2 R Hp g1 m hv (fun S2 w3 G1 => hZ _ _ _ G1 fun H5 => ?_))
      obtain ⟨⟨⟨kA1, kC1⟩, ⟨aA1, aC1⟩, ⟨bA1, bC1⟩, ⟨rA1, rC1⟩, ⟨lA1, lC1⟩, ⟨oA1, oC1⟩, ⟨nA1, nC1⟩, mbt1, mbr1, msl1, mS1, nk1, no1⟩, H6⟩ := G_open H5 0 (S := S2) (bg := bg) (g := g1) (by kernel_rfl)
      obtain ⟨lk1, la1, lb1, lr1, ll1, lo1, ln1, ls1⟩ := G_len H6
      simp only at lk1 la1 lb1 lr1 ll1 lo1 ln1 ls1
      refine Sx.dr 3 H6 [0, 12] [] (LJ := [.blk bg (.cells #[.slice kA1 nk1 kC1, .slice aA1 nk1 aC1, .slice bA1 nk1 bC1, .slice rA1 nk1 rC1, .slice lA1 nk1 lC1, .slice oA1 no1 oC1, .slice nA1 no1 nC1, .map (some mbt1), .map (some mbr1)] 154), .blk k1 (.cells #[.n kd, .n u, .n row, .slice p.A p.na p.ca, .slice p.B p.nb p.cb] 96)]) (by kernel_rfl) fun w4 H7 => Sx.tk [(0, none), (1, none), (2, none), (3, some (0, [])), (4, none), (5, some (1, [])), (6, none)] (H7.sb [0, 11]) <| Sx.nmx ?_
      intro zx1
      refine Sx.on 7 <| mui (t := 126) (kt := 3) (et := 3) 0 8 mbt1 ((u : Nat) : Int) m g1.tv (by rw [(put_tv hv).1]; exact hl0) H7 (by kernel_rfl) fun w5 H8 => Sx.bk (x := zx1) 7 (H8.sb [0, 11]) <| Sx.dn <| Sx.rt 9 [] H8 (.n m) ?_
      obtain ⟨S3, H9⟩ := G_close H8 [0, 0, 0, 0, 0, 0, 0, 0, 0, 0, 0] (bg := bg) (g := ({ g1 with tv := g1.tv ++ [((u : Int), m)] } : G)) ⟨(kA1, kC1), (aA1, aC1), (bA1, bC1), (rA1, rC1), (lA1, lC1), (oA1, oC1), (nA1, nC1), mbt1, mbr1, msl1, mS1, nk1, no1⟩ (by kernel_rfl)
      subst hL0
      exact Gx.ret_as (v' := .n m) (by rfl) (hK S3 _ (H9.pk [0, 0]))
    obtain ⟨q, hq⟩ := isSome_t h_c27
    obtain ⟨hl0, rfl, rfl⟩ : lookI u g.tv = some q ∧ g = g' ∧ q = m := by
      rcases hf2 with ⟨q', hq', h1, h2⟩ | ⟨hn, _⟩
      · rw [ho, hq] at hq'; cases hq'; exact ⟨ho.trans hq, h1, h2⟩
      · rw [ho, hq] at hn; cases hn
    refine Sx.rt 10 [] H3 (.int .i64 ((o.getD 0 : Nat) : Int)) ?_
    obtain ⟨S4, H10⟩ := G_close H3 [0, 0, 0, 0, 0, 0, 0, 0, 0, 0, 0] (bg := bg) (g := g) ⟨(kA, kC), (aA, aC), (bA, bC), (rA, rC), (lA, lC), (oA, oC), (nA, nC), mbt, mbr, msl, mS, nk, no⟩ (by kernel_rfl)
    subst hL0
    exact Gx.ret_as (v' := .int .i64 (q : Int)) (by rw [hq]; rfl) (hK S4 _ (H10.pk [0, 0]))
  have p_c15 := Gx.k0 h_c15
  have hk0 : kd ≠ 0 := by omega
  have hA := ofT_more hk0 hf
  refine Sx.cut 17 (fun l' w' => ∃ (ga : G) (Sa : Nat → Prop) (ra : Option Nat), l' = [(0, .p bg), (3, .p k1), (7, .int .i64 (eI ra)), (8, .int .i64 (-1)), (9, .int .i64 0)] ∧ Hs w L0 w' [GI Sa bg ga, .blk k1 (.cells #[.n kd, .n u, .n row, .slice p.A p.na p.ca, .slice p.B p.nb p.cb] 96), tyI Sy p (Ty.mk kd u row ops args)] ∧ (OB k kd row ops ga ra args[1]? g' m)) (fun K1 hK1 => ?_) (fun b1 l1 w6 hI1 => ?_)
  · refine Sx.l 3 2 H1 ?_
    refine Sx.br 4 (decide (((p.nb : Nat) : Int) > (0 : Int))) (fun h_c41 => ?_) (fun h_c41 => ?_)
    · obtain ⟨t0, ht0⟩ := some_at (l := args) (i := 0) (by have := of_decide_eq_true h_c41; omega)
      obtain ⟨g1, b0, hof0, hB⟩ := hA.2 _ ht0
      obtain ⟨kd0, u0, row0, ops0, args0⟩ := t0
      refine Sx.l 3 2 H1 ?_
      obtain ⟨q1, a1, ha1, hc1, hq1⟩ := (ty_at (S := Sy) (p := p) (t := Ty.mk kd u row ops args) H1 1 (by kernel_rfl)).open.2.2.2.2 0 _ ht0
      refine Sx.ia 0 a1 0 5 p.nb p.cb ha1 (by have := of_decide_eq_true h_c41; omega) <| Sx.lo (c := 5) (t := 96) 0 [.n kd0, .n u0, .n row0, .slice q1.A q1.na q1.ca, .slice q1.B q1.nb q1.cb] (.agg #[.n kd0, .n u0, .n row0, .slice q1.A q1.na q1.ca, .slice q1.B q1.nb q1.cb]) hc1 ?_
      have H11 := H1.ro 1 (S := Sy) (A := fun w => TyIn w Sy p (Ty.mk kd u row ops args)) (B := fun w => TyIn w Sy q1 (Ty.mk kd0 u0 row0 ops0 args0)) (by kernel_rfl) hq1 (tyI_loc _ _ _)
      refine Sx.c 0 [0, 2] H11 (fun Hp R hZ => ih S bg g Sy kd0 u0 row0 ops0 args0 q1 w1 R Hp g1 b0 hof0 (fun S5 w7 G2 => hZ _ _ _ G2 fun H12 => ?_))
      exact Sx.to 2 _ (hK1 _ _ _ ⟨g1, S5, (some b0), rfl, H12.pk [0, 2, 1], hB⟩)
    have hB := hA.1 (none_at (by have := of_decide_eq_false h_c41; omega))
    exact Sx.to 1 _ (hK1 _ _ _ ⟨g, S, none, rfl, H1.pk [0, 1, 0], hB⟩)
  obtain ⟨ga, Sa, ra, rfl, H15, hB⟩ := hI1
  refine Sx.cut 0 (fun l' w' => ∃ (gb : G) (Sb : Nat → Prop) (rb : Option Nat), l' = [(0, .p bg), (3, .p k1), (7, .int .i64 (eI ra)), (8, .int .i64 (eI rb)), (9, .int .i64 0)] ∧ Hs w L0 w' [GI Sb bg gb, .blk k1 (.cells #[.n kd, .n u, .n row, .slice p.A p.na p.ca, .slice p.B p.nb p.cb] 96), tyI Sy p (Ty.mk kd u row ops args)] ∧ (OR kd row ops gb ra rb g' m)) (fun K2 hK2 => ?_) (fun b2 l2 w8 hI2 => ?_)
  · refine Sx.l 3 1 H15 ?_
    refine Sx.br 4 (decide (((p.nb : Nat) : Int) > (1 : Int))) (fun h_c51 => ?_) (fun h_c51 => ?_)
    · obtain ⟨t1, ht1⟩ := some_at (l := args) (i := 1) (by have := of_decide_eq_true h_c51; omega)
      obtain ⟨g2, b1, hof1, hR⟩ := hB.2 _ ht1
      obtain ⟨kd1, u1, row1, ops1, args1⟩ := t1
      refine Sx.l 3 1 H15 ?_
      obtain ⟨q2, a2, ha2, hc2, hq2⟩ := (ty_at (S := Sy) (p := p) (t := Ty.mk kd u row ops args) H15 2 (by kernel_rfl)).open.2.2.2.2 1 _ ht1
      refine Sx.ia 0 a2 1 5 p.nb p.cb ha2 (by have := of_decide_eq_true h_c51; omega) <| Sx.lo (c := 5) (t := 96) 0 [.n kd1, .n u1, .n row1, .slice q2.A q2.na q2.ca, .slice q2.B q2.nb q2.cb] (.agg #[.n kd1, .n u1, .n row1, .slice q2.A q2.na q2.ca, .slice q2.B q2.nb q2.cb]) hc2 ?_
      have H16 := H15.ro 2 (S := Sy) (A := fun w => TyIn w Sy p (Ty.mk kd u row ops args)) (B := fun w => TyIn w Sy q2 (Ty.mk kd1 u1 row1 ops1 args1)) (by kernel_rfl) hq2 (tyI_loc _ _ _)
      refine Sx.c 0 [0, 2] H16 (fun Hp R hZ => ih Sa bg ga Sy kd1 u1 row1 ops1 args1 q2 w6 R Hp g2 b1 hof1 (fun S6 w9 G3 => hZ _ _ _ G3 fun H17 => ?_))
      exact Sx.to 2 _ (hK2 _ _ _ ⟨g2, S6, (some b1), rfl, H17.pk [0, 1, 1], hR⟩)
    have hR := hB.1 (none_at (by have := of_decide_eq_false h_c51; omega))
    exact Sx.to 1 _ (hK2 _ _ _ ⟨ga, Sa, none, rfl, H15, hR⟩)
  obtain ⟨gb, Sb, rb, rfl, H19, hR⟩ := hI2
  refine Sx.cut 0 (fun l' w' => ∃ (gd : G) (Sd : Nat → Prop) (rr : Nat), l' = [(0, .p bg), (3, .p k1), (7, .int .i64 (eI ra)), (8, .int .i64 (eI rb)), (9, .n rr)] ∧ Hs w L0 w' [GI Sd bg gd, .blk k1 (.cells #[.n kd, .n u, .n row, .slice p.A p.na p.ca, .slice p.B p.nb p.cb] 96), tyI Sy p (Ty.mk kd u row ops args)] ∧ (gd.put kd ra rb rr = some (g', m))) (fun K3 hK3 => ?_) (fun b3 l3 w10 hI3 => ?_)
  · refine Sx.l 3 1 H19 ?_
    refine Sx.br 3 (((kd : Nat) : Int) == (6 : Int)) (fun h_c60 => ?_) (fun h_c60 => ?_)
    · have p_c60 := Gx.k1 h_c60
      have h6 : kd = 6 := by omega
      obtain ⟨gx, x, hx, gr, r, hpr, hpu⟩ := hR.2 h6
      refine Sx.cut 5 (fun l' w' => ∃ (ge : G) (Se : Nat → Prop), l' = [(0, .p bg), (3, .p k1), (7, .int .i64 (eI ra)), (8, .int .i64 (eI rb)), (10, .n x)] ∧ Hs w L0 w' [GI Se bg ge, .blk k1 (.cells #[.n kd, .n u, .n row, .slice p.A p.na p.ca, .slice p.B p.nb p.cb] 96), tyI Sy p (Ty.mk kd u row ops args)] ∧ (ge.putRow ops (some x) = some (gr, r))) (fun K4 hK4 => ?_) (fun b4 l4 w11 hI4 => ?_)
      · refine Sx.l 3 1 H19 ?_
        refine Sx.br 3 (decide (((row : Nat) : Int) > (0 : Int))) (fun h_c63 => ?_) (fun h_c63 => ?_)
        · have p_c63 := of_decide_eq_true h_c63
          have hx' : (lookI row gb.rv = some x ∧ gb = gx) ∨ (lookI row gb.rv = none ∧ ∃ g2, gb.opn = some (g2, x) ∧ { g2 with rv := g2.rv ++ [((row : Int), x)] } = gx) := by
            rcases hx with ⟨h0, _⟩ | ⟨_, h1⟩ | ⟨_, h1⟩
            · omega
            · exact .inl h1
            · exact .inr h1
          obtain ⟨⟨⟨kA2, kC2⟩, ⟨aA2, aC2⟩, ⟨bA2, bC2⟩, ⟨rA2, rC2⟩, ⟨lA2, lC2⟩, ⟨oA2, oC2⟩, ⟨nA2, nC2⟩, mbt2, mbr2, msl2, mS2, nk2, no2⟩, H20⟩ := G_open H19 0 (S := Sb) (bg := bg) (g := gb) (by kernel_rfl)
          obtain ⟨lk2, la2, lb2, lr2, ll2, lo2, ln2, ls2⟩ := G_len H20
          simp only at lk2 la2 lb2 lr2 ll2 lo2 ln2 ls2
          obtain ⟨o, ho⟩ : ∃ o, lookI (row : Int) gb.rv = o := ⟨_, rfl⟩
          refine Sx.dr 1 H20 [0, 11, 9] [] (LJ := [.blk bg (.cells #[.slice kA2 nk2 kC2, .slice aA2 nk2 aC2, .slice bA2 nk2 bC2, .slice rA2 nk2 rC2, .slice lA2 nk2 lC2, .slice oA2 no2 oC2, .slice nA2 no2 nC2, .map (some mbt2), .map (some mbr2)] 154), .blk k1 (.cells #[.n kd, .n u, .n row, .slice p.A p.na p.ca, .slice p.B p.nb p.cb] 96), mapN mbr2 gb.rv]) (by kernel_rfl) fun w12 H21 => Sx.tk [(0, none), (1, none), (2, none), (3, some (0, [])), (4, none), (5, some (1, []))] (H21.sb [0, 10, 8]) <| tvki (t := 126) (kt := 3) (et := 3) 6 [] 2 mbr2 ((row : Nat) : Int) gb.rv o ho (H21.sb [0, 10, 8]) <| Sx.tk [(7, none), (8, none), (9, none), (10, none), (11, none)] (H21.sb [0, 10, 8]) <| Sx.dn ?_
          refine Sx.br 8 (!o.isSome) (fun h_c75 => ?_) (fun h_c75 => ?_)
          · have ho' := isSome_f h_c75
            obtain ⟨hl0, g2, hv, rfl⟩ : lookI row gb.rv = none ∧ ∃ g2, gb.opn = some (g2, x) ∧ { g2 with rv := g2.rv ++ [((row : Int), x)] } = gx := by
              rcases hx' with ⟨hq, _⟩ | hq
              · rw [ho, ho'] at hq; cases hq
              · exact hq
            obtain ⟨S7, H22⟩ := G_close H21 [0, 0, 0, 0, 0, 0, 0, 0, 0, 0, 0] (bg := bg) (g := gb) ⟨(kA2, kC2), (aA2, aC2), (bA2, bC2), (rA2, rC2), (lA2, lC2), (oA2, oC2), (nA2, nC2), mbt2, mbr2, msl2, mS2, nk2, no2⟩ (by kernel_rfl)
            refine Sx.c 3 [0] H22 (fun Hp R hZ => Open_c S7 bg gb w12 R Hp g2 x hv (fun S8 w13 G4 => hZ _ _ _ G4 fun H23 => ?_))
            obtain ⟨⟨⟨kA3, kC3⟩, ⟨aA3, aC3⟩, ⟨bA3, bC3⟩, ⟨rA3, rC3⟩, ⟨lA3, lC3⟩, ⟨oA3, oC3⟩, ⟨nA3, nC3⟩, mbt3, mbr3, msl3, mS3, nk3, no3⟩, H24⟩ := G_open H23 0 (S := S8) (bg := bg) (g := g2) (by kernel_rfl)
            obtain ⟨lk3, la3, lb3, lr3, ll3, lo3, ln3, ls3⟩ := G_len H24
            simp only at lk3 la3 lb3 lr3 ll3 lo3 ln3 ls3
            refine Sx.dr 3 H24 [0, 11] [] (LJ := [.blk bg (.cells #[.slice kA3 nk3 kC3, .slice aA3 nk3 aC3, .slice bA3 nk3 bC3, .slice rA3 nk3 rC3, .slice lA3 nk3 lC3, .slice oA3 no3 oC3, .slice nA3 no3 nC3, .map (some mbt3), .map (some mbr3)] 154), .blk k1 (.cells #[.n kd, .n u, .n row, .slice p.A p.na p.ca, .slice p.B p.nb p.cb] 96)]) (by kernel_rfl) fun w14 H25 => Sx.tk [(0, none), (1, none), (2, none), (3, some (0, [])), (4, none), (5, some (1, [])), (6, none)] (H25.sb [0, 10]) <| Sx.nmx ?_
            intro zx2
            refine Sx.on 7 <| mui (t := 126) (kt := 3) (et := 3) 0 9 mbr3 ((row : Nat) : Int) x g2.rv (by rw [opn_rv hv]; exact hl0) H25 (by kernel_rfl) fun w15 H26 => Sx.bk (x := zx2) 7 (H26.sb [0, 10]) <| Sx.dn ?_
            obtain ⟨S9, H27⟩ := G_close H26 [0, 0, 0, 0, 0, 0, 0, 0, 0, 0, 0] (bg := bg) (g := ({ g2 with rv := g2.rv ++ [((row : Int), x)] } : G)) ⟨(kA3, kC3), (aA3, aC3), (bA3, bC3), (rA3, rC3), (lA3, lC3), (oA3, oC3), (nA3, nC3), mbt3, mbr3, msl3, mS3, nk3, no3⟩ (by kernel_rfl)
            exact Sx.to 5 _ (hK4 _ _ _ ⟨({ g2 with rv := g2.rv ++ [((row : Int), x)] } : G), S9, rfl, H27, hpr⟩)
          obtain ⟨q, hq⟩ := isSome_t h_c75
          obtain ⟨hl0, rfl⟩ : o = some x ∧ gb = gx := by
            rcases hx' with ⟨hq', h1⟩ | ⟨hn, _⟩
            · exact ⟨ho.symm.trans hq', h1⟩
            · rw [ho, hq] at hn; cases hn
          subst hl0
          obtain ⟨S10, H28⟩ := G_close H21 [0, 0, 0, 0, 0, 0, 0, 0, 0, 0, 0] (bg := bg) (g := gb) ⟨(kA2, kC2), (aA2, aC2), (bA2, bC2), (rA2, rC2), (lA2, lC2), (oA2, oC2), (nA2, nC2), mbt2, mbr2, msl2, mS2, nk2, no2⟩ (by kernel_rfl)
          exact Sx.to 6 _ (hK4 _ _ _ ⟨gb, S10, rfl, H28, hpr⟩)
        have p_c63 := of_decide_eq_false h_c63
        obtain ⟨rfl, rfl⟩ : gb = gx ∧ 0 = x := by
          rcases hx with ⟨_, h1, h2⟩ | ⟨h0, _⟩ | ⟨h0, _⟩
          · exact ⟨h1, h2⟩
          all_goals omega
        exact Sx.to 1 _ (hK4 _ _ _ ⟨gb, Sb, rfl, H19, hpr⟩)
      obtain ⟨ge, Se, rfl, H29, hpr⟩ := hI4
      refine Sx.nw 2 H29 fun k2 w16 H30 => Sx.l 1 1 H30 ?_
      have H31 := Hs.toOwn (k := k2) (e := 9) (cs := #[]) H30 3 1 0 (by kernel_rfl) (by rfl) (by omega)
      have hst := (ty_at (S := Sy) (p := p) (t := Ty.mk kd u row ops args) H31 2 (by kernel_rfl)).open.1
      refine Sx.aps 0 3 16 p.na 9 1 30 p.ca p.A (some ⟨k2, 0, none⟩) 0 0 [] (strs ops) H31 (fun h => by have := hst; rw [h] at this; have := this.nil; rw [hna, this]; rfl) (fun a ha => hst.cell ha) (by rw [strs, List.length_map]; omega) (strs_one _) (by omega) (by omega) (Nat.le_refl 0) (xs' := strs ops) rfl fun A1 cap1 w17 H32 => ?_
      have H33 := Hs.toStr H32 3 (e := 9) (n := 0 + p.na) (cap := cap1) (A := A1) (l := ops) (by kernel_rfl)
      refine Sx.c 1 [0, 2] H33 (fun Hp R hZ => PutRow_c Se bg ge (fun c => (Value.slice A1 (0 + p.na) cap1).ownBlock = some c) A1 (0 + p.na) cap1 ops ((x : Nat) : Int) (some x) w17 R Hp gr r (by omega) rfl hpr (fun S11 w18 G5 => hZ _ _ _ G5 fun H34 => ?_))
      exact Sx.to 2 _ (hK3 _ _ _ ⟨gr, S11, r, rfl, H34, hpu⟩)
    have p_c60 := Gx.k0 h_c60
    have hpu := hR.1 (by omega)
    exact Sx.to 1 _ (hK3 _ _ _ ⟨gb, Sb, 0, rfl, H19, hpu⟩)
  obtain ⟨gd, Sd, rr, rfl, H35, hpu⟩ := hI3
  refine Sx.l 4 1 H35 ?_
  refine Sx.c 3 [0] H35 (fun Hp R hZ => Put_c Sd bg gd kd (eI ra) ra (eI rb) rb rr w10 R Hp g' m rfl rfl hpu (fun S12 w19 G6 => hZ _ _ _ G6 fun H36 => ?_))
  refine Sx.rt 4 [] H36 (.n m) ?_
  subst hL0
  exact Gx.ret_as (v' := .n m) (by rfl) (hK S12 _ (H36.pk [0, 1]))
theorem Of_c (k : Nat) : ∀ (S : Nat → Prop) (bg : Nat) (g : G) (Sy : Nat → Prop) (kd u row : Nat) (ops : List Nm) (args : List Ty) (p : Tv) (w : World) (K : Ending → World → Prop) (H0 : Sp w [GI S bg g, tyI Sy p (Ty.mk kd u row ops args)]) (g' : G) (m : Nat) (hf : ofT k g (Ty.mk kd u row ops args) = some (g', m)) (hK : ∀ (S' : Nat → Prop) w', Hs w [GI S bg g, tyI Sy p (Ty.mk kd u row ops args)] w' [GI S' bg g', tyI Sy p (Ty.mk kd u row ops args)] → K (.returned (.int .i64 (m : Int))) w'),
    Calls Tryz.prog 127 #[.p bg, .agg #[.n kd, .n u, .n row, .slice p.A p.na p.ca, .slice p.B p.nb p.cb]] w K := by
  induction k with
  | zero => intro S bg g Sy kd u row ops args p w K H0 g' m hf; exact absurd hf (by simp [ofT])
  | succ k ih => exact Of_c_s k ih
theorem ok_c (bc bg : Nat) (eA : Option Addr) (en ec : Nat) (oA : Option Addr) (on oc : Nat) (fk : Nat) (fa : Int) (w : World) (K : Ending → World → Prop) (H0 : Sp w [Sx.cB bc bg eA en ec oA on oc fk fa]) (hK : ∀ w', Hs w [Sx.cB bc bg eA en ec oA on oc fk fa] w' [Sx.cB bc bg eA en ec oA on oc fk fa] → K (.returned (.bool (fk == 0))) w') :
    Calls Tryz.prog 55 #[.p bc] w K := by
  obtain ⟨L0, hL0, H⟩ := Sx.op0 H0
  refine Sx.en (vs := [.p bc]) 9 Tryz.func55 <| Sx.l 11 0 H <| Sx.rt 5 [] H (.bool (((fk : Nat) : Int) == (0 : Int))) ?_
  subst hL0
  exact Gx.ret_as (v' := .bool (fk == 0)) (by rw [nat0]) (hK  _ (H.pk [0]))
theorem no_c (bc bg : Nat) (eA : Option Addr) (en ec : Nat) (oA : Option Addr) (on oc : Nat) (fk : Nat) (fa : Int) (kd : Nat) (at_ : Int) (w : World) (K : Ending → World → Prop) (H0 : Sp w [Sx.cB bc bg eA en ec oA on oc fk fa]) (hK : ∀ w', Hs w [Sx.cB bc bg eA en ec oA on oc fk fa] w' [.blk bc (.cells #[.p bg, .slice eA en ec, .slice oA on oc, .n (if fk = 0 then kd else fk), .int .i64 (if fk = 0 then at_ else fa)] 115)] → K (.returned (.tuple #[])) w') :
    Calls Tryz.prog 56 #[.p bc, .n kd, .int .i64 at_] w K := by
  obtain ⟨L0, hL0, H⟩ := Sx.op0 H0
  refine Sx.en (vs := [.p bc, .n kd, .int .i64 at_]) 14 Tryz.func56 ?_
  refine Sx.c 3 [0] H (fun Hp R hZ => ok_c bc bg eA en ec oA on oc fk fa w R Hp  (fun w1 G1 => hZ _ _ _ G1 fun H1 => ?_))
  refine Sx.br 2 (fk == 0) (fun h_c7 => ?_) (fun h_c7 => ?_)
  · have h0 : fk = 0 := by simpa using h_c7
    rw [if_pos h0, if_pos h0] at hK
    refine Sx.s 7 0 H1 fun w2 H2 => Sx.rt 1 [] H2 (.tuple #[]) ?_
    subst hL0
    exact Gx.ret_as (v' := .tuple #[]) (by rfl) (hK  _ (H2.pk [0]))
  have h0 : fk ≠ 0 := by simpa using h_c7
  rw [if_neg h0, if_neg h0] at hK
  refine Sx.rt 1 [] H1 (.tuple #[]) ?_
  subst hL0
  exact Gx.ret_as (v' := .tuple #[]) (by rfl) (hK  _ (H1.pk [0]))
theorem row_c (bc bg : Nat) (eA : Option Addr) (en ec : Nat) (oA : Option Addr) (on oc : Nat) (m n : Nat) (at_ : Int) (S : Nat → Prop) (c : Ck) (w : World) (K : Ending → World → Prop) (H0 : Sp w [Sx.cB bc bg eA en ec oA on oc c.fk c.fa, GI S bg c.g]) (k : Nat) (c' : Ck) (hf : c.row k m n at_ = some c') (hK : ∀ (S' : Nat → Prop) w', Hs w [Sx.cB bc bg eA en ec oA on oc c.fk c.fa, GI S bg c.g] w' [Sx.cB bc bg eA en ec oA on oc c'.fk c'.fa, GI S' bg c'.g] → K (.returned (.tuple #[])) w') :
    Calls Tryz.prog 125 #[.p bc, .n m, .n n, .int .i64 at_] w K := by
  obtain ⟨L0, hL0, H⟩ := Sx.op0 H0
  refine Sx.en (vs := [.p bc, .n m, .n n, .int .i64 at_]) 24 Tryz.func125 ?_
  obtain ⟨hc0, hc1⟩ := row_ck hf
  refine Sx.c 4 [0] H (fun Hp R hZ => ok_c bc bg eA en ec oA on oc c.fk c.fa w R Hp  (fun w1 G1 => hZ _ _ _ G1 fun H1 => ?_))
  refine Sx.br 3 (!(c.fk == 0)) (fun h_c11 => ?_) (fun h_c11 => ?_)
  · have h0 : c.fk ≠ 0 := by simpa using h_c11
    obtain rfl := hc0 h0
    refine Sx.rt 2 [] H1 (.tuple #[]) ?_
    subst hL0
    exact Gx.ret_as (v' := .tuple #[]) (by rfl) (hK S _ (H1.pk [0, 0]))
  have h0 : c.fk = 0 := by simpa using h_c11
  obtain ⟨g2, s, hsr, hn1, hn2⟩ := hc1 h0
  refine Sx.l 7 0 H1 ?_
  refine Sx.c 2 [1] H1 (fun Hp R hZ => SameRow_c S bg c.g m n w1 R Hp _ g2 s hsr (fun S1 w2 G2 => hZ _ _ _ G2 fun H2 => ?_))
  refine Sx.br 9 (!s) (fun h_c20 => ?_) (fun h_c20 => ?_)
  · have hs : s = false := by simpa using h_c20
    obtain rfl := hn1 hs
    refine Sx.c 3 [1] H2 (fun Hp R hZ => no_c bc bg eA en ec oA on oc c.fk c.fa 9 at_ w2 R Hp  (fun w3 G3 => hZ _ _ _ G3 fun H4 => ?_))
    rw [if_pos h0, if_pos h0] at H4
    refine Sx.rt 1 [] H4 (.tuple #[]) ?_
    subst hL0
    exact Gx.ret_as (v' := .tuple #[]) (by rfl) (hK S1 _ (H4.pk [0, 0]))
  have hs : s = true := by simpa using h_c20
  obtain rfl := hn2 hs
  refine Sx.rt 1 [] H2 (.tuple #[]) ?_
  subst hL0
  exact Gx.ret_as (v' := .tuple #[]) (by rfl) (hK S1 _ (H2.pk [1, 0]))
theorem same_c (bc bg : Nat) (eA : Option Addr) (en ec : Nat) (oA : Option Addr) (on oc : Nat) (m n : Nat) (at_ : Int) (S : Nat → Prop) (c : Ck) (w : World) (K : Ending → World → Prop) (H0 : Sp w [Sx.cB bc bg eA en ec oA on oc c.fk c.fa, GI S bg c.g]) (k : Nat) (c' : Ck) (hf : c.same k m n at_ = some c') (hK : ∀ (S' : Nat → Prop) w', Hs w [Sx.cB bc bg eA en ec oA on oc c.fk c.fa, GI S bg c.g] w' [Sx.cB bc bg eA en ec oA on oc c'.fk c'.fa, GI S' bg c'.g] → K (.returned (.tuple #[])) w') :
    Calls Tryz.prog 90 #[.p bc, .n m, .n n, .int .i64 at_] w K := by
  obtain ⟨L0, hL0, H⟩ := Sx.op0 H0
  refine Sx.en (vs := [.p bc, .n m, .n n, .int .i64 at_]) 40 Tryz.func90 ?_
  obtain ⟨hc0, hc1⟩ := same_ck hf
  refine Sx.c 4 [0] H (fun Hp R hZ => ok_c bc bg eA en ec oA on oc c.fk c.fa w R Hp  (fun w1 G1 => hZ _ _ _ G1 fun H1 => ?_))
  refine Sx.br 3 (!(c.fk == 0)) (fun h_c11 => ?_) (fun h_c11 => ?_)
  · have h0 : c.fk ≠ 0 := by simpa using h_c11
    obtain rfl := hc0 h0
    refine Sx.rt 2 [] H1 (.tuple #[]) ?_
    subst hL0
    exact Gx.ret_as (v' := .tuple #[]) (by rfl) (hK S _ (H1.pk [0, 0]))
  have h0 : c.fk = 0 := by simpa using h_c11
  obtain ⟨g2, s, hsm, hn1, hn2⟩ := hc1 h0
  refine Sx.l 7 0 H1 ?_
  refine Sx.c 2 [1] H1 (fun Hp R hZ => (Same_c _) S bg c.g m n w1 R Hp g2 s hsm (fun S1 w2 G2 => hZ _ _ _ G2 fun H2 => ?_))
  refine Sx.sp 8 21 (!s) (fun h_g21 => ?_) (fun h_g21 => ?_)
  · have hs : s = false := by simpa using h_g21
    obtain rfl := hn1 hs
    refine Sx.c 21 [1] H2 (fun Hp R hZ => no_c bc bg eA en ec oA on oc c.fk c.fa 8 at_ w2 R Hp  (fun w3 G3 => hZ _ _ _ G3 fun H4 => ?_))
    rw [if_pos h0, if_pos h0] at H4
    refine Sx.rt 1 [] H4 (.tuple #[]) ?_
    subst hL0
    exact Gx.ret_as (v' := .tuple #[]) (by rfl) (hK S1 _ (H4.pk [0, 0]))
  have hs : s = true := by simpa using h_g21
  obtain ⟨r1, z1, hr1, hn3, hn4⟩ := hn2 hs
  refine Sx.l 3 1 H2 ?_
  refine Sx.c 1 [0] H2 (fun Hp R hZ => Round_c S1 bg g2 m w2 R Hp _ r1 z1 hr1 (fun S2 w4 G4 => hZ _ _ _ G4 fun H5 => ?_))
  refine Sx.sp 2 29 r1 (fun h_g29 => ?_) (fun h_g29 => ?_)
  · obtain rfl := hn3 h_g29
    refine Sx.c 13 [1] H5 (fun Hp R hZ => no_c bc bg eA en ec oA on oc c.fk c.fa 8 at_ w4 R Hp  (fun w5 G5 => hZ _ _ _ G5 fun H7 => ?_))
    rw [if_pos h0, if_pos h0] at H7
    refine Sx.rt 1 [] H7 (.tuple #[]) ?_
    subst hL0
    exact Gx.ret_as (v' := .tuple #[]) (by rfl) (hK S2 _ (H7.pk [0, 0]))
  obtain ⟨r2, z2, hr2, hn5, hn6⟩ := hn4 h_g29
  refine Sx.l 3 1 H5 ?_
  refine Sx.c 1 [0] H5 (fun Hp R hZ => Round_c S2 bg g2 n w4 R Hp _ r2 z2 hr2 (fun S3 w6 G6 => hZ _ _ _ G6 fun H8 => ?_))
  refine Sx.br 3 r2 (fun h_c36 => ?_) (fun h_c36 => ?_)
  · obtain rfl := hn5 h_c36
    refine Sx.c 3 [1] H8 (fun Hp R hZ => no_c bc bg eA en ec oA on oc c.fk c.fa 8 at_ w6 R Hp  (fun w7 G7 => hZ _ _ _ G7 fun H10 => ?_))
    rw [if_pos h0, if_pos h0] at H10
    refine Sx.rt 1 [] H10 (.tuple #[]) ?_
    subst hL0
    exact Gx.ret_as (v' := .tuple #[]) (by rfl) (hK S3 _ (H10.pk [0, 0]))
  obtain rfl := hn6 h_c36
  refine Sx.rt 1 [] H8 (.tuple #[]) ?_
  subst hL0
  exact Gx.ret_as (v' := .tuple #[]) (by rfl) (hK S3 _ (H8.pk [1, 0]))
theorem big_c (bc bg : Nat) (eA : Option Addr) (en ec : Nat) (oA : Option Addr) (on oc : Nat) (n : Nat) (at_ : Int) (S : Nat → Prop) (c : Ck) (w : World) (K : Ending → World → Prop) (H0 : Sp w [Sx.cB bc bg eA en ec oA on oc c.fk c.fa, GI S bg c.g]) (k : Nat) (c' : Ck) (hf : c.bigC k n at_ = some c') (hK : ∀ (S' : Nat → Prop) w', Hs w [Sx.cB bc bg eA en ec oA on oc c.fk c.fa, GI S bg c.g] w' [Sx.cB bc bg eA en ec oA on oc c'.fk c'.fa, GI S' bg c'.g] → K (.returned (.tuple #[])) w') :
    Calls Tryz.prog 58 #[.p bc, .n n, .int .i64 at_] w K := by
  obtain ⟨L0, hL0, H⟩ := Sx.op0 H0
  refine Sx.en (vs := [.p bc, .n n, .int .i64 at_]) 20 Tryz.func58 ?_
  obtain ⟨hc0, hc1⟩ := big_ck hf
  refine Sx.c 3 [0] H (fun Hp R hZ => ok_c bc bg eA en ec oA on oc c.fk c.fa w R Hp  (fun w1 G1 => hZ _ _ _ G1 fun H1 => ?_))
  refine Sx.sp 1 8 (c.fk == 0) (fun h_g8 => ?_) (fun h_g8 => ?_)
  · have h0 : c.fk = 0 := by simpa using h_g8
    obtain ⟨p, z, hp, hn1, hn2⟩ := hc1 h0
    refine Sx.l 3 0 H1 ?_
    refine Sx.c 1 [1] H1 (fun Hp R hZ => Parts_c S bg c.g n w1 R Hp _ p z hp (fun S1 w2 G2 => hZ _ _ _ G2 fun H2 => ?_))
    refine Sx.br 4 (decide (((p : Nat) : Int) > (300 : Int))) (fun h_c16 => ?_) (fun h_c16 => ?_)
    · have p_c16 := of_decide_eq_true h_c16
      obtain rfl := hn1 (by omega)
      refine Sx.c 3 [1] H2 (fun Hp R hZ => no_c bc bg eA en ec oA on oc c.fk c.fa 10 at_ w2 R Hp  (fun w3 G3 => hZ _ _ _ G3 fun H4 => ?_))
      rw [if_pos h0, if_pos h0] at H4
      refine Sx.rt 1 [] H4 (.tuple #[]) ?_
      subst hL0
      exact Gx.ret_as (v' := .tuple #[]) (by rfl) (hK S1 _ (H4.pk [0, 0]))
    have p_c16 := of_decide_eq_false h_c16
    obtain rfl := hn2 (by omega)
    refine Sx.rt 1 [] H2 (.tuple #[]) ?_
    subst hL0
    exact Gx.ret_as (v' := .tuple #[]) (by rfl) (hK S1 _ (H2.pk [1, 0]))
  have h0 : c.fk ≠ 0 := by simpa using h_g8
  obtain rfl := hc0 h0
  refine Sx.rt 12 [] H1 (.tuple #[]) ?_
  subst hL0
  exact Gx.ret_as (v' := .tuple #[]) (by rfl) (hK S _ (H1.pk [0, 0]))
set_option maxHeartbeats 4000000 in
theorem partsT_c_s (k : Nat) (ih : ∀ (Sy : Nat → Prop) (kd u row : Nat) (ops : List Nm) (args : List Ty) (p : Tv) (w : World) (K : Ending → World → Prop) (H0 : Sp w [tyI Sy p (Ty.mk kd u row ops args)]) (m : Nat) (hf : partsT k (Ty.mk kd u row ops args) = some m) (hK : ∀ w', Hs w [tyI Sy p (Ty.mk kd u row ops args)] w' [tyI Sy p (Ty.mk kd u row ops args)] → K (.returned (.int .i64 (m : Int))) w'),
    Calls Tryz.prog 86 #[.agg #[.n kd, .n u, .n row, .slice p.A p.na p.ca, .slice p.B p.nb p.cb]] w K) (Sy : Nat → Prop) (kd u row : Nat) (ops : List Nm) (args : List Ty) (p : Tv) (w : World) (K : Ending → World → Prop) (H0 : Sp w [tyI Sy p (Ty.mk kd u row ops args)]) (m : Nat) (hf : partsT (k + 1) (Ty.mk kd u row ops args) = some m) (hK : ∀ w', Hs w [tyI Sy p (Ty.mk kd u row ops args)] w' [tyI Sy p (Ty.mk kd u row ops args)] → K (.returned (.int .i64 (m : Int))) w') :
    Calls Tryz.prog 86 #[.agg #[.n kd, .n u, .n row, .slice p.A p.na p.ca, .slice p.B p.nb p.cb]] w K := by
  obtain ⟨L0, hL0, H⟩ := Sx.op0 H0
  refine Sx.en (vs := [.agg #[.n kd, .n u, .n row, .slice p.A p.na p.ca, .slice p.B p.nb p.cb]]) 25 Tryz.func86 ?_
  obtain ⟨_, hna, hca, hnb, _⟩ := (ty_at (S := Sy) (p := p) (t := Ty.mk kd u row ops args) H 0 (by kernel_rfl)).open
  have hf0 := partsT_eq hf
  refine Sx.nw 2 H fun k1 w1 H1 => Sx.l 6 1 H1 <| Sx.v 1 (.int .i64 (IntKind.i64.wrap ((1 : Int) + ((p.na : Nat) : Int)))) (.int .i64 ((1 + p.na : Nat) : Int)) (congrArg (Value.int .i64) (Gx.i64n (by omega) (by omega))) ?_
  refine Sx.lp 10 (fun z l' w' => ∃ (i : Nat) (c : Nat), l' = [(1, .p k1), (3, .n c), (4, .n i)] ∧ z = args.length - i ∧ Hs w L0 w' [tyI Sy p (Ty.mk kd u row ops args), .blk k1 (.cells #[.n kd, .n u, .n row, .slice p.A p.na p.ca, .slice p.B p.nb p.cb] 96)] ∧ (i ≤ args.length) ∧ ((args.drop i).foldl (pF k) (some c) = some m)) _ _ ⟨0, (1 + p.na), rfl, rfl, H1, (Nat.zero_le _), (by rw [hna]; exact hf0)⟩ (fun b1 z1 l1 w2 hI1 K1 hK1 => ?_)
  obtain ⟨i, c, rfl, rfl, H2, hi, hfo⟩ := hI1
  refine Sx.l 5 1 H2 ?_
  refine Sx.br 4 (decide (((i : Nat) : Int) < ((p.nb : Nat) : Int))) (fun h_c13 => ?_) (fun h_c13 => ?_)
  · have p_c13 := of_decide_eq_true h_c13
    obtain ⟨t, j, ht, hpj, hle, hfo'⟩ := pF_step hfo (by omega)
    obtain ⟨kd1, u1, row1, ops1, args1⟩ := t
    refine Sx.l 7 1 H2 ?_
    obtain ⟨q1, a1, ha1, hc1, hq1⟩ := (ty_at (S := Sy) (p := p) (t := Ty.mk kd u row ops args) H2 0 (by kernel_rfl)).open.2.2.2.2 i _ ht
    refine Sx.ia 1 a1 i 5 p.nb p.cb ha1 (by omega) <| Sx.lo (c := 5) (t := 96) 0 [.n kd1, .n u1, .n row1, .slice q1.A q1.na q1.ca, .slice q1.B q1.nb q1.cb] (.agg #[.n kd1, .n u1, .n row1, .slice q1.A q1.na q1.ca, .slice q1.B q1.nb q1.cb]) hc1 ?_
    have H3 := H2.ro 0 (S := Sy) (A := fun w => TyIn w Sy p (Ty.mk kd u row ops args)) (B := fun w => TyIn w Sy q1 (Ty.mk kd1 u1 row1 ops1 args1)) (by kernel_rfl) hq1 (tyI_loc _ _ _)
    refine Sx.c 0 [2] H3 (fun Hp R hZ => ih Sy kd1 u1 row1 ops1 args1 q1 w2 R Hp j hpj (fun w3 G1 => hZ _ _ _ G1 fun H4 => ?_))
    refine Sx.v 0 (.int .i64 (IntKind.i64.wrap (((c : Nat) : Int) + ((j : Nat) : Int)))) (.int .i64 ((c + j : Nat) : Int)) (congrArg (Value.int .i64) (Gx.i64n (by omega) (by omega))) <| Sx.v 6 (.int .i64 (IntKind.i64.wrap (((i : Nat) : Int) + (1 : Int)))) (.int .i64 ((i + 1 : Nat) : Int)) (congrArg (Value.int .i64) (Gx.i64n (by omega) (by omega))) ?_
    exact Sx.to 2 _ (hK1 _ _ _ _ (by omega) ⟨(i + 1), (c + j), rfl, rfl, H4.pk [1, 1], (by omega), hfo'⟩)
  have p_c13 := of_decide_eq_false h_c13
  rw [List.drop_of_length_le (by omega)] at hfo
  obtain rfl : c = m := by simpa using hfo
  refine Sx.rt 12 [] H2 (.n c) ?_
  subst hL0
  exact Gx.ret_as (v' := .n c) (by rfl) (hK  _ (H2.pk [0]))
theorem partsT_c (k : Nat) : ∀ (Sy : Nat → Prop) (kd u row : Nat) (ops : List Nm) (args : List Ty) (p : Tv) (w : World) (K : Ending → World → Prop) (H0 : Sp w [tyI Sy p (Ty.mk kd u row ops args)]) (m : Nat) (hf : partsT k (Ty.mk kd u row ops args) = some m) (hK : ∀ w', Hs w [tyI Sy p (Ty.mk kd u row ops args)] w' [tyI Sy p (Ty.mk kd u row ops args)] → K (.returned (.int .i64 (m : Int))) w'),
    Calls Tryz.prog 86 #[.agg #[.n kd, .n u, .n row, .slice p.A p.na p.ca, .slice p.B p.nb p.cb]] w K := by
  induction k with
  | zero => intro Sy kd u row ops args p w K H0 m hf; exact absurd hf (by simp [partsT])
  | succ k ih => exact partsT_c_s k ih
end Go.Proofs.YtdmdecgoebnamaaGreat
namespace Go.Proofs.YtdmdecgoebnamaaGreat
open Go.RowKit Go.Sx Go.Inf Go.Syn
attribute [local irreducible] Go.wpOps Go.Code.wp Go.wpOp Go.wpAnyH Go.Calls Go.Sx.Goal
set_option maxRecDepth 20000
theorem value_c (kd na : Nat) (nm : Nm) (nn : Int) (ks : List Nd) (nA : Option Addr) (nc : Nat) (w : World) (K : Ending → World → Prop) (H0 : Sp w []) (hK : ∀ w', Hs w [] w' [] → K (.returned (.bool (value (.mk kd na nm nn ks)))) w') :
    Calls Tryz.prog 126 #[Sx.nA kd na nm nn nA ks nc] w K := by
  obtain ⟨L0, hL0, H⟩ := Sx.op0 H0
  refine Sx.en (vs := [Sx.nA kd na nm nn nA ks nc]) 31 Tryz.func126 <| Sx.nw 2 H fun k1 w1 H1 => ?_
  refine Sx.cut 3 (fun l' w' => l' = [(2, .bool ((((((((kd : Nat) : Int) == (3 : Int)) || (((kd : Nat) : Int) == (4 : Int))) || (((kd : Nat) : Int) == (5 : Int))) || (((kd : Nat) : Int) == (15 : Int))) || (((kd : Nat) : Int) == (6 : Int))) || (((kd : Nat) : Int) == (7 : Int))))] ∧ w1 = w') (fun K1 hK1 => ?_) (fun b1 l1 w2 hI1 => ?_)
  · refine Sx.l 2 0 H1 ?_
    refine Sx.sp 2 6 (((kd : Nat) : Int) == (3 : Int)) (fun h_g6 => ?_) (fun h_g6 => ?_)
    · exact Sx.to 26 _ (hK1 _ _ _ ⟨rfl, rfl⟩) (h2 := (by rw [h_g6]; try kernel_rfl))
    refine Sx.l 1 0 H1 ?_
    refine Sx.sp 3 11 (((kd : Nat) : Int) == (4 : Int)) (fun h_g11 => ?_) (fun h_g11 => ?_)
    · exact Sx.to 21 _ (hK1 _ _ _ ⟨rfl, rfl⟩) (h2 := (by rw [h_g6, h_g11]; try kernel_rfl))
    refine Sx.l 1 0 H1 ?_
    refine Sx.sp 3 16 (((kd : Nat) : Int) == (5 : Int)) (fun h_g16 => ?_) (fun h_g16 => ?_)
    · exact Sx.to 16 _ (hK1 _ _ _ ⟨rfl, rfl⟩) (h2 := (by rw [h_g6, h_g11, h_g16]; try kernel_rfl))
    refine Sx.l 1 0 H1 ?_
    refine Sx.sp 3 21 (((kd : Nat) : Int) == (15 : Int)) (fun h_g21 => ?_) (fun h_g21 => ?_)
    · exact Sx.to 11 _ (hK1 _ _ _ ⟨rfl, rfl⟩) (h2 := (by rw [h_g6, h_g11, h_g16, h_g21]; try kernel_rfl))
    refine Sx.l 1 0 H1 ?_
    refine Sx.sp 3 26 (((kd : Nat) : Int) == (6 : Int)) (fun h_g26 => ?_) (fun h_g26 => ?_)
    · exact Sx.to 6 _ (hK1 _ _ _ ⟨rfl, rfl⟩) (h2 := (by rw [h_g6, h_g11, h_g16, h_g21, h_g26]; try kernel_rfl))
    refine Sx.l 1 0 H1 ?_
    exact Sx.to 4 _ (hK1 _ _ _ ⟨rfl, rfl⟩) (h2 := (by rw [h_g6, h_g11, h_g16, h_g21, h_g26]; try kernel_rfl))
  obtain ⟨rfl, rfl⟩ := hI1
  refine Sx.rt 1 [] H1 (.bool ((((((((kd : Nat) : Int) == (3 : Int)) || (((kd : Nat) : Int) == (4 : Int))) || (((kd : Nat) : Int) == (5 : Int))) || (((kd : Nat) : Int) == (15 : Int))) || (((kd : Nat) : Int) == (6 : Int))) || (((kd : Nat) : Int) == (7 : Int)))) ?_
  subst hL0
  exact Gx.ret_as (v' := .bool (value (.mk kd na nm nn ks))) (by show Value.bool (kd == 3 || kd == 4 || kd == 5 || kd == 15 || kd == 6 || kd == 7) = _; rw [natk kd 3 3 rfl, natk kd 4 4 rfl, natk kd 5 5 rfl, natk kd 15 15 rfl, natk kd 6 6 rfl, natk kd 7 7 rfl]) (hK _ (H1.pk []))
set_option maxHeartbeats 8000000 in
theorem Type_c_s (k : Nat) (ih : ∀ (Q : Nat → Prop) (kd na : Nat) (nm : Nm) (nn : Int) (ks : List Nd) (nA : Option Addr) (nc : Nat) (w : World) (K : Ending → World → Prop) (H0 : Sp w [kvI Q ks nA nc]) (t : Ty) (hf : typ k (.mk kd na nm nn ks) = some t) (hK : ∀ (Sy : Nat → Prop) (p : Tv) w', Hs w [kvI Q ks nA nc] w' [kvI Q ks nA nc, tyI Sy p t] → K (.returned (.agg (tvC t p).toArray)) w'),
    Calls Tryz.prog 85 #[Sx.nA kd na nm nn nA ks nc] w K) (Q : Nat → Prop) (kd na : Nat) (nm : Nm) (nn : Int) (ks : List Nd) (nA : Option Addr) (nc : Nat) (w : World) (K : Ending → World → Prop) (H0 : Sp w [kvI Q ks nA nc]) (t : Ty) (hf : typ (k + 1) (.mk kd na nm nn ks) = some t) (hK : ∀ (Sy : Nat → Prop) (p : Tv) w', Hs w [kvI Q ks nA nc] w' [kvI Q ks nA nc, tyI Sy p t] → K (.returned (.agg (tvC t p).toArray)) w') :
    Calls Tryz.prog 85 #[Sx.nA kd na nm nn nA ks nc] w K := by
  obtain ⟨L0, hL0, H⟩ := Sx.op0 H0
  refine Sx.en (vs := [Sx.nA kd na nm nn nA ks nc]) 69 Tryz.func85 ?_
  obtain ⟨hy1, hy2, hy3, hy4, hy5⟩ := typ_cases hf
  refine Sx.nw 2 H fun k1 w1 H1 => Sx.nw 0 H1 fun k2 w2 H2 => Sx.l 6 1 H2 ?_
  refine Sx.br 9 (((kd : Nat) : Int) == (24 : Int)) (fun h_c7 => ?_) (fun h_c7 => ?_)
  · have p_c7 := Gx.k1 h_c7
    obtain rfl := hy1 (by omega)
    refine Sx.s 3 2 H2 fun w3 H3 => Sx.rt 5 [2] H3 (.agg #[.int .i64 1, .int .i64 0, .int .i64 0, .slice none 0 0, .slice none 0 0]) ?_
    have H4 := H3.add (Gx.Ext.refl _) (it := .own 96 5 none 0 0 []) (World.ownsRow_nil _ _ _ _) (fun _ h => by cases h)
    have H5 := H4.add (Gx.Ext.refl _) (it := strI (fun _ => False) none []) strI_nil (fun _ h => h.elim)
    obtain ⟨S1, H6⟩ := ty_make (e := 96) (cap := 0) (n := 0) (A := none) (B := none) (Sa := (fun _ => False)) (l := []) (ops := []) (na := 0) (ca := 0) H5 [3, 3] 1 0 0 (by kernel_rfl) rfl ⟨Nat.le_refl _, by simp, by simp⟩ rfl
    subst hL0
    exact Gx.ret_as (by rfl) (hK S1 ⟨none, 0, 0, none, 0, 0⟩ _ (H6.pk [1, 0]))
  refine Sx.br 6 (((kd : Nat) : Int) == (25 : Int)) (fun h_c10 => ?_) (fun h_c10 => ?_)
  · have p_c7 := Gx.k0 h_c7
    have p_c10 := Gx.k1 h_c10
    obtain rfl := hy2 (by omega)
    refine Sx.s 3 2 H2 fun w4 H7 => Sx.rt 5 [2] H7 (.agg #[.int .i64 2, .int .i64 0, .int .i64 0, .slice none 0 0, .slice none 0 0]) ?_
    have H8 := H7.add (Gx.Ext.refl _) (it := .own 96 5 none 0 0 []) (World.ownsRow_nil _ _ _ _) (fun _ h => by cases h)
    have H9 := H8.add (Gx.Ext.refl _) (it := strI (fun _ => False) none []) strI_nil (fun _ h => h.elim)
    obtain ⟨S2, H10⟩ := ty_make (e := 96) (cap := 0) (n := 0) (A := none) (B := none) (Sa := (fun _ => False)) (l := []) (ops := []) (na := 0) (ca := 0) H9 [3, 3] 2 0 0 (by kernel_rfl) rfl ⟨Nat.le_refl _, by simp, by simp⟩ rfl
    subst hL0
    exact Gx.ret_as (by rfl) (hK S2 ⟨none, 0, 0, none, 0, 0⟩ _ (H10.pk [1, 0]))
  refine Sx.br 6 (((kd : Nat) : Int) == (26 : Int)) (fun h_c13 => ?_) (fun h_c13 => ?_)
  · have p_c7 := Gx.k0 h_c7
    have p_c10 := Gx.k0 h_c10
    have p_c13 := Gx.k1 h_c13
    obtain rfl := hy3 (by omega)
    refine Sx.s 3 2 H2 fun w5 H11 => Sx.rt 5 [2] H11 (.agg #[.int .i64 3, .int .i64 0, .int .i64 0, .slice none 0 0, .slice none 0 0]) ?_
    have H12 := H11.add (Gx.Ext.refl _) (it := .own 96 5 none 0 0 []) (World.ownsRow_nil _ _ _ _) (fun _ h => by cases h)
    have H13 := H12.add (Gx.Ext.refl _) (it := strI (fun _ => False) none []) strI_nil (fun _ h => h.elim)
    obtain ⟨S3, H14⟩ := ty_make (e := 96) (cap := 0) (n := 0) (A := none) (B := none) (Sa := (fun _ => False)) (l := []) (ops := []) (na := 0) (ca := 0) H13 [3, 3] 3 0 0 (by kernel_rfl) rfl ⟨Nat.le_refl _, by simp, by simp⟩ rfl
    subst hL0
    exact Gx.ret_as (by rfl) (hK S3 ⟨none, 0, 0, none, 0, 0⟩ _ (H14.pk [1, 0]))
  refine Sx.br 6 (((kd : Nat) : Int) == (27 : Int)) (fun h_c16 => ?_) (fun h_c16 => ?_)
  · have p_c7 := Gx.k0 h_c7
    have p_c10 := Gx.k0 h_c10
    have p_c13 := Gx.k0 h_c13
    have p_c16 := Gx.k1 h_c16
    obtain ⟨dP, tX, hdP, hfX, rfl⟩ := hy4 (by omega) (by omega) (by omega) (by omega)
    obtain ⟨kddP, nadP, nmdP, nndP, ksdP⟩ := dP
    obtain ⟨B1, cb1, a1, ha1, H15⟩ := nd_kid (Q := Q) (ks := ks) (A := nA) (c := nc) (i := 0) H2 0 (by kernel_rfl) hdP
    obtain ⟨ktX, utX, rtX, otX, atX⟩ := tX
    refine Sx.l 3 1 H15 <| Sx.ia 0 a1 0 5 ks.length nc ha1 (at_lt hdP) <| Sx.lo (c := 5) (t := 62) 0 (Sx.nC kddP nadP nmdP nndP B1 ksdP cb1) (Sx.nA kddP nadP nmdP nndP B1 ksdP cb1) (cel_at (Q := Q) (a := a1.add (0 * 5)) (n := 5) (cs := (Sx.nC kddP nadP nmdP nndP B1 ksdP cb1)) H15 3 (by kernel_rfl)) ?_
    refine Sx.c 0 [4] H15 (fun Hp R hZ => ih Q kddP nadP nmdP nndP ksdP B1 cb1 w2 R Hp _ hfX (fun S4 p1 w6 G1 => hZ _ _ _ G1 fun H16 => ?_))
    refine Sx.nw 0 H16 fun k3 w7 H17 => Sx.s 1 4 H17 fun w8 H18 => Sx.rt 5 [4] H18 (.agg #[.int .i64 4, .int .i64 0, .int .i64 0, .slice none 0 0, .slice (some ⟨k3, 0, none⟩) 1 1]) ?_
    have H19 := Hs.toOwn (k := k3) (e := 96) (cs := #[.n ktX, .n utX, .n rtX, .slice p1.A p1.na p1.ca, .slice p1.B p1.nb p1.cb]) H18 6 5 1 (by kernel_rfl) (by rfl) (by omega)
    have H20 := H19.add (Gx.Ext.refl _) (it := strI (fun _ => False) none []) strI_nil (fun _ h => h.elim)
    obtain ⟨S5, H21⟩ := ty_make (e := 96) (cap := 1) (n := 1) (A := none) (B := (some ⟨k3, 0, none⟩)) (Sa := (fun _ => False)) (l := [(p1, Ty.mk ktX utX rtX otX atX, S4)]) (ops := []) (na := 0) (ca := 0) H20 [6, 6, 1] 4 0 0 (by kernel_rfl) rfl ⟨Nat.le_refl _, by simp, by simp⟩ rfl
    subst hL0
    exact Gx.ret_as (by rfl) (hK S5 ⟨none, 0, 0, (some ⟨k3, 0, none⟩), 1, 1⟩ _ (H21.pk [2, 0]))
  refine Sx.br 6 (((kd : Nat) : Int) == (28 : Int)) (fun h_c25 => ?_) (fun h_c25 => ?_)
  · have p_c7 := Gx.k0 h_c7
    have p_c10 := Gx.k0 h_c10
    have p_c13 := Gx.k0 h_c13
    have p_c16 := Gx.k0 h_c16
    have p_c25 := Gx.k1 h_c25
    obtain ⟨dP, dR, tX, tY, hdP, hdR, hfX, hfY, hp5, hp6⟩ := hy5 (by omega) (by omega) (by omega) (by omega)
    obtain ⟨kddP, nadP, nmdP, nndP, ksdP⟩ := dP
    obtain ⟨B2, cb2, a2, ha2, H22⟩ := nd_kid (Q := Q) (ks := ks) (A := nA) (c := nc) (i := 0) H2 0 (by kernel_rfl) hdP
    obtain ⟨kddR, nadR, nmdR, nndR, ksdR⟩ := dR
    obtain ⟨B3, cb3, a3, ha3, H23⟩ := nd_kid (Q := Q) (ks := ks) (A := nA) (c := nc) (i := 1) H22 0 (by kernel_rfl) hdR
    obtain ⟨ktX, utX, rtX, otX, atX⟩ := tX
    obtain ⟨ktY, utY, rtY, otY, atY⟩ := tY
    obtain rfl := hp5 (by omega)
    refine Sx.dr 1 H23 [1, 3, 5] [] (LJ := [.blk k1 (.cells #[.n kd, .n na, .string nm, .int .i64 nn, .slice nA ks.length nc] 62), celI Q (a2.add (0 * 5)) 5 (Sx.nC kddP nadP nmdP nndP B2 ksdP cb2), celI Q (a3.add (1 * 5)) 5 (Sx.nC kddR nadR nmdR nndR B3 ksdR cb3)]) (by kernel_rfl) fun w9 H24 => Sx.tk [(0, none), (1, some (0, []))] (H24.sb [1, 2, 3]) <| Sx.tvi 2 [] a2 0 5 ks.length nc ha2 (at_lt hdP) (H24.sb [1, 2, 3]) <| Sx.tvo (c := 5) (t := 62) 3 [] (Sx.nC kddP nadP nmdP nndP B2 ksdP cb2) (Sx.nA kddP nadP nmdP nndP B2 ksdP cb2) (fun w' hs => (cel_sp (Q := Q) (a := a2.add (0 * 5)) (n := 5) (cs := (Sx.nC kddP nadP nmdP nndP B2 ksdP cb2)) hs 1 (by kernel_rfl))) (H24.sb [1, 2, 3]) <| Sx.tk [(5, none), (6, some (0, []))] (H24.sb [1, 2, 3]) <| Sx.tvi 7 [] a3 1 5 ks.length nc ha3 (at_lt hdR) (H24.sb [1, 2, 3]) ?_
    refine Sx.tvo (c := 5) (t := 62) 8 [] (Sx.nC kddR nadR nmdR nndR B3 ksdR cb3) (Sx.nA kddR nadR nmdR nndR B3 ksdR cb3) (fun w' hs => (cel_sp (Q := Q) (a := a3.add (1 * 5)) (n := 5) (cs := (Sx.nC kddR nadR nmdR nndR B3 ksdR cb3)) hs 2 (by kernel_rfl))) (H24.sb [1, 2, 3]) <| Sx.nmx ?_
    intro zx1
    refine Sx.on 4 ?_
    refine Sx.c 0 [4] H24 (fun Hp R hZ => ih Q kddP nadP nmdP nndP ksdP B2 cb2 w9 R Hp _ hfX (fun S6 p2 w10 G2 => hZ _ _ _ G2 fun H25 => ?_))
    refine Sx.bk (x := zx1) 4 (H25.sb [3, 4, 4]) <| Sx.nmx ?_
    intro zx2
    refine Sx.on 9 ?_
    refine Sx.c 0 [7] H25 (fun Hp R hZ => ih Q kddR nadR nmdR nndR ksdR B3 cb3 w10 R Hp _ hfY (fun S7 p3 w11 G3 => hZ _ _ _ G3 fun H26 => ?_))
    refine Sx.bk (x := zx2) 9 (H26.sb [5, 6, 6]) <| Sx.nmx ?_
    intro zx3
    refine Sx.on 10 <| Sx.nw 0 H26 fun k4 w12 H27 => Sx.bk (x := zx3) 10 (H27.sb [5, 6, 6]) <| Sx.tk [(11, none)] (H27.sb [5, 6, 6]) <| Sx.nmx ?_
    intro zx4
    refine Sx.on 12 <| Sx.s 0 6 H27 fun w13 H28 => Sx.bk (x := zx4) 12 (H28.sb [5, 6, 6]) <| Sx.dn <| Sx.rt 4 [6] H28 (.agg #[.int .i64 5, .int .i64 0, .int .i64 0, .slice none 0 0, .slice (some ⟨k4, 0, none⟩) 2 2]) ?_
    have H29 := Hs.toOwn (k := k4) (e := 96) (cs := #[.n ktX, .n utX, .n rtX, .slice p2.A p2.na p2.ca, .slice p2.B p2.nb p2.cb, .n ktY, .n utY, .n rtY, .slice p3.A p3.na p3.ca, .slice p3.B p3.nb p3.cb]) H28 9 5 2 (by kernel_rfl) (by rfl) (by omega)
    have H30 := H29.add (Gx.Ext.refl _) (it := strI (fun _ => False) none []) strI_nil (fun _ h => h.elim)
    obtain ⟨S8, H31⟩ := ty_make (e := 96) (cap := 2) (n := 2) (A := none) (B := (some ⟨k4, 0, none⟩)) (Sa := (fun _ => False)) (l := [(p2, Ty.mk ktX utX rtX otX atX, S6), (p3, Ty.mk ktY utY rtY otY atY, S7)]) (ops := []) (na := 0) (ca := 0) H30 [9, 9, 3, 1] 5 0 0 (by kernel_rfl) rfl ⟨Nat.le_refl _, by simp, by simp⟩ rfl
    subst hL0
    exact Gx.ret_as (by rfl) (hK S8 ⟨none, 0, 0, (some ⟨k4, 0, none⟩), 2, 2⟩ _ (H31.pk [3, 0]))
  have p_c7 := Gx.k0 h_c7
  have p_c10 := Gx.k0 h_c10
  have p_c13 := Gx.k0 h_c13
  have p_c16 := Gx.k0 h_c16
  have p_c25 := Gx.k0 h_c25
  obtain ⟨dP, dR, tX, tY, hdP, hdR, hfX, hfY, hp5, hp6⟩ := hy5 (by omega) (by omega) (by omega) (by omega)
  obtain ⟨kddP, nadP, nmdP, nndP, ksdP⟩ := dP
  obtain ⟨B4, cb4, a4, ha4, H32⟩ := nd_kid (Q := Q) (ks := ks) (A := nA) (c := nc) (i := 0) H2 0 (by kernel_rfl) hdP
  obtain ⟨kddR, nadR, nmdR, nndR, ksdR⟩ := dR
  obtain ⟨B5, cb5, a5, ha5, H33⟩ := nd_kid (Q := Q) (ks := ks) (A := nA) (c := nc) (i := 1) H32 0 (by kernel_rfl) hdR
  obtain ⟨ktX, utX, rtX, otX, atX⟩ := tX
  obtain ⟨ktY, utY, rtY, otY, atY⟩ := tY
  obtain ⟨hkl, rfl⟩ := hp6 (by omega)
  refine Sx.cut 3 (fun l' w' => ∃ (b3 : Nat) (ab : Nat) (SX : Nat → Prop) (pX : Tv) (SY : Nat → Prop) (pY : Tv), l' = [(1, .p k1), (2, .p k2), (3, .p b3)] ∧ Hs w L0 w' [kvI Q ks nA nc, .blk k1 (.cells #[.n kd, .n na, .string nm, .int .i64 nn, .slice nA ks.length nc] 62), .blk k2 (.cells #[.int .i64 0, .int .i64 0, .int .i64 0, .slice none 0 0, .slice none 0 0] 96), .blk ab (.cells #[.n ktX, .n utX, .n rtX, .slice pX.A pX.na pX.ca, .slice pX.B pX.nb pX.cb, .n ktY, .n utY, .n rtY, .slice pY.A pY.na pY.ca, .slice pY.B pY.nb pY.cb] 96), tyI SX pX (Ty.mk ktX utX rtX otX atX), tyI SY pY (Ty.mk ktY utY rtY otY atY), .blk b3 (.cells #[.int .i64 6, .int .i64 0, .int .i64 0, .slice none 0 0, .slice (some ⟨ab, 0, none⟩) 2 2] 96)]) (fun K1 hK1 => ?_) (fun b1 l1 w14 hI1 => ?_)
  · refine Sx.dr 0 H33 [1, 3, 5] [] (LJ := [.blk k1 (.cells #[.n kd, .n na, .string nm, .int .i64 nn, .slice nA ks.length nc] 62), celI Q (a4.add (0 * 5)) 5 (Sx.nC kddP nadP nmdP nndP B4 ksdP cb4), celI Q (a5.add (1 * 5)) 5 (Sx.nC kddR nadR nmdR nndR B5 ksdR cb5)]) (by kernel_rfl) fun w15 H34 => ?_
    refine Sx.tk [(0, none), (1, some (0, []))] (H34.sb [1, 2, 3]) <| Sx.tvi 2 [] a4 0 5 ks.length nc ha4 (at_lt hdP) (H34.sb [1, 2, 3]) <| Sx.tvo (c := 5) (t := 62) 3 [] (Sx.nC kddP nadP nmdP nndP B4 ksdP cb4) (Sx.nA kddP nadP nmdP nndP B4 ksdP cb4) (fun w' hs => (cel_sp (Q := Q) (a := a4.add (0 * 5)) (n := 5) (cs := (Sx.nC kddP nadP nmdP nndP B4 ksdP cb4)) hs 1 (by kernel_rfl))) (H34.sb [1, 2, 3]) <| Sx.tk [(5, none), (6, some (0, []))] (H34.sb [1, 2, 3]) <| Sx.tvi 7 [] a5 1 5 ks.length nc ha5 (at_lt hdR) (H34.sb [1, 2, 3]) <| Sx.tvo (c := 5) (t := 62) 8 [] (Sx.nC kddR nadR nmdR nndR B5 ksdR cb5) (Sx.nA kddR nadR nmdR nndR B5 ksdR cb5) (fun w' hs => (cel_sp (Q := Q) (a := a5.add (1 * 5)) (n := 5) (cs := (Sx.nC kddR nadR nmdR nndR B5 ksdR cb5)) hs 2 (by kernel_rfl))) (H34.sb [1, 2, 3]) ?_
    refine Sx.nmx ?_
    intro zx5
    refine Sx.on2 4 12 ?_ ?_
    · refine Sx.c 0 [4] H34 (fun Hp R hZ => ih Q kddP nadP nmdP nndP ksdP B4 cb4 w15 R Hp _ hfX (fun S9 p4 w16 G4 => hZ _ _ _ G4 fun H35 => ?_))
      refine Sx.bk (x := zx5) 4 (H35.sb [3, 4, 4]) <| Sx.nmx ?_
      intro zx6
      refine Sx.on2 9 12 ?_ ?_
      · refine Sx.c 0 [7] H35 (fun Hp R hZ => ih Q kddR nadR nmdR nndR ksdR B5 cb5 w16 R Hp _ hfY (fun S10 p5 w17 G5 => hZ _ _ _ G5 fun H36 => ?_))
        refine Sx.bk (x := zx6) 9 (H36.sb [5, 6, 6]) <| Sx.nmx ?_
        intro zx7
        refine Sx.on2 10 12 ?_ ?_
        · refine Sx.nw 0 H36 fun k5 w18 H37 => ?_
          refine Sx.bk (x := zx7) 10 (H37.sb [5, 6, 6]) <| Sx.tk [(11, none)] (H37.sb [5, 6, 6]) <| Sx.nmx ?_
          intro zx8
          refine Sx.on 12 <| Sx.nw 0 H37 fun k6 w19 H38 => Sx.bk (x := zx8) 12 (H38.sb [5, 6, 6]) <| Sx.nmx ?_
          intro zx9
          refine Sx.on 13 <| Sx.s 0 10 H38 fun w20 H39 => Sx.bk (x := zx9) 13 (H39.sb [5, 6, 6]) <| Sx.dn ?_
          exact Sx.to 0 _ (hK1 _ _ _ ⟨k6, k5, S9, p4, S10, p5, rfl, H39.pk [4, 4, 4, 6, 3, 1, 4]⟩)
        refine Sx.nw 0 H36 fun k7 w21 H41 => Sx.bk (x := zx7) 12 (H41.sb [5, 6, 6]) <| Sx.nmx ?_
        intro zx10
        refine Sx.on 10 <| Sx.nw 0 H41 fun k8 w22 H42 => Sx.bk (x := zx10) 10 (H42.sb [5, 6, 6]) <| Sx.tk [(11, none)] (H42.sb [5, 6, 6]) <| Sx.nmx ?_
        intro zx11
        refine Sx.on 13 <| Sx.s 0 9 H42 fun w23 H43 => Sx.bk (x := zx11) 13 (H43.sb [5, 6, 6]) <| Sx.dn ?_
        exact Sx.to 0 _ (hK1 _ _ _ ⟨k7, k8, S9, p4, S10, p5, rfl, H43.pk [4, 4, 4, 7, 3, 1, 4]⟩)
      refine Sx.nw 0 H35 fun k9 w24 H45 => Sx.bk (x := zx6) 12 (H45.sb [3, 4, 4]) <| Sx.nmx ?_
      intro zx12
      refine Sx.on 9 ?_
      refine Sx.c 0 [7] H45 (fun Hp R hZ => ih Q kddR nadR nmdR nndR ksdR B5 cb5 w24 R Hp _ hfY (fun S11 p6 w25 G6 => hZ _ _ _ G6 fun H46 => ?_))
      refine Sx.bk (x := zx12) 9 (H46.sb [5, 6, 6]) <| Sx.nmx ?_
      intro zx13
      refine Sx.on 10 <| Sx.nw 0 H46 fun k10 w26 H47 => Sx.bk (x := zx13) 10 (H47.sb [5, 6, 6]) <| Sx.tk [(11, none)] (H47.sb [5, 6, 6]) <| Sx.nmx ?_
      intro zx14
      refine Sx.on 13 <| Sx.s 0 9 H47 fun w27 H48 => Sx.bk (x := zx14) 13 (H48.sb [5, 6, 6]) <| Sx.dn ?_
      exact Sx.to 0 _ (hK1 _ _ _ ⟨k9, k10, S9, p4, S11, p6, rfl, H48.pk [4, 4, 4, 7, 3, 1, 4]⟩)
    refine Sx.nw 0 H34 fun k11 w28 H50 => Sx.bk (x := zx5) 12 (H50.sb [1, 2, 3]) <| Sx.nmx ?_
    intro zx15
    refine Sx.on 4 ?_
    refine Sx.c 0 [4] H50 (fun Hp R hZ => ih Q kddP nadP nmdP nndP ksdP B4 cb4 w28 R Hp _ hfX (fun S12 p7 w29 G7 => hZ _ _ _ G7 fun H51 => ?_))
    refine Sx.bk (x := zx15) 4 (H51.sb [3, 4, 4]) <| Sx.nmx ?_
    intro zx16
    refine Sx.on 9 ?_
    refine Sx.c 0 [7] H51 (fun Hp R hZ => ih Q kddR nadR nmdR nndR ksdR B5 cb5 w29 R Hp _ hfY (fun S13 p8 w30 G8 => hZ _ _ _ G8 fun H52 => ?_))
    refine Sx.bk (x := zx16) 9 (H52.sb [5, 6, 6]) <| Sx.nmx ?_
    intro zx17
    refine Sx.on 10 <| Sx.nw 0 H52 fun k12 w31 H53 => Sx.bk (x := zx17) 10 (H53.sb [5, 6, 6]) <| Sx.tk [(11, none)] (H53.sb [5, 6, 6]) <| Sx.nmx ?_
    intro zx18
    refine Sx.on 13 <| Sx.s 0 9 H53 fun w32 H54 => Sx.bk (x := zx18) 13 (H54.sb [5, 6, 6]) <| Sx.dn ?_
    exact Sx.to 0 _ (hK1 _ _ _ ⟨k11, k12, S12, p7, S13, p8, rfl, H54.pk [4, 4, 4, 7, 3, 1, 4]⟩)
  obtain ⟨b3, ab, SX, pX, SY, pY, rfl, H56⟩ := hI1
  have H57 := H56.add (Gx.Ext.refl _) (it := strI (fun _ => False) none []) strI_nil (fun _ h => h.elim)
  refine Sx.lp 7 (fun z l' w' => ∃ (i : Nat) (A4 : Option Addr) (n4 : Nat) (c4 : Nat) (S4 : Nat → Prop) (acc : List Nm), l' = [(1, .p k1), (2, .p k2), (3, .p b3), (4, .n i)] ∧ z = ks.length - i ∧ Hs w L0 w' [kvI Q ks nA nc, .blk k1 (.cells #[.n kd, .n na, .string nm, .int .i64 nn, .slice nA ks.length nc] 62), .blk k2 (.cells #[.int .i64 0, .int .i64 0, .int .i64 0, .slice none 0 0, .slice none 0 0] 96), .blk ab (.cells #[.n ktX, .n utX, .n rtX, .slice pX.A pX.na pX.ca, .slice pX.B pX.nb pX.cb, .n ktY, .n utY, .n rtY, .slice pY.A pY.na pY.ca, .slice pY.B pY.nb pY.cb] 96), tyI SX pX (Ty.mk ktX utX rtX otX atX), tyI SY pY (Ty.mk ktY utY rtY otY atY), .blk b3 (.cells #[.int .i64 6, .int .i64 0, .int .i64 0, .slice A4 n4 c4, .slice (some ⟨ab, 0, none⟩) 2 2] 96), strI S4 A4 acc] ∧ (2 ≤ i) ∧ (i ≤ ks.length) ∧ (n4 = acc.length) ∧ (n4 ≤ c4) ∧ (acc.length + 2 ≤ i) ∧ ((ks.drop i).foldl opsF acc = (ks.drop 2).foldl opsF [])) _ _ ⟨2, none, 0, 0, (fun _ => False), [], rfl, rfl, H57.pk [0, 0, 0, 0, 0, 0, 0, 0], (Nat.le_refl _), (at_lt hdR), rfl, (Nat.le_refl _), (by decide), rfl⟩ (fun b2 z1 l2 w33 hI2 K2 hK2 => ?_)
  obtain ⟨i, A4, n4, c4, S4, acc, rfl, rfl, H59, hi2, hil, hn4, hc4, hal, hac⟩ := hI2
  refine Sx.l 5 1 H59 ?_
  refine Sx.br 4 (decide (((i : Nat) : Int) < ((ks.length : Nat) : Int))) (fun h_c55 => ?_) (fun h_c55 => ?_)
  · have p_c55 := of_decide_eq_true h_c55
    obtain ⟨dZ, hdZ⟩ := some_at (l := ks) (i := i) (by omega)
    obtain ⟨kddZ, nadZ, nmdZ, nndZ, ksdZ⟩ := dZ
    obtain ⟨B6, cb6, a6, ha6, H60⟩ := nd_kid (Q := Q) (ks := ks) (A := nA) (c := nc) (i := i) H59 0 (by kernel_rfl) hdZ
    refine Sx.dr 4 H60 [6, 1, 8] [10] (LJ := [.blk b3 (.cells #[.int .i64 6, .int .i64 0, .int .i64 0, .slice A4 n4 c4, .slice (some ⟨ab, 0, none⟩) 2 2] 96), .blk k1 (.cells #[.n kd, .n na, .string nm, .int .i64 nn, .slice nA ks.length nc] 62), celI Q (a6.add (i * 5)) 5 (Sx.nC kddZ nadZ nmdZ nndZ B6 ksdZ cb6)]) (by kernel_rfl) fun w34 H61 => Sx.tk [(0, none), (1, some (0, [8, 9, 10])), (2, none), (3, some (1, [5, 6, 7, 8, 9, 10])), (4, none)] (H61.sb [6, 1, 6]) <| Sx.tvi 5 [6, 7, 8, 9, 10] a6 i 5 ks.length nc ha6 (at_lt hdZ) (H61.sb [6, 1, 6]) <| Sx.tvf 6 [7, 8, 9, 10] (a6.add (i * 5)) 2 (H61.sb [6, 1, 6]) <| Sx.tvo (c := 1) (t := 9) 7 [8, 9, 10] [.string nmdZ] (.string nmdZ) (fun w' hs => (cells_sub (i := 2) (m := 1) (cel_sp (Q := Q) (a := a6.add (i * 5)) (n := 5) (cs := (Sx.nC kddZ nadZ nmdZ nndZ B6 ksdZ cb6)) hs 2 (by kernel_rfl)) (by decide))) (H61.sb [6, 1, 6]) <| Sx.nmx ?_
    intro zx19
    refine Sx.on 8 ?_
    refine Sx.c 0 [7] H61 (fun Hp R hZ => insert_c S4 A4 n4 c4 acc nmdZ w34 R Hp (by omega) (by omega) (by omega) (fun S14 A1 n1 c1 w35 G9 hn1 hc1 => hZ _ _ _ G9 fun H62 => ?_))
    refine Sx.bk (x := zx19) 8 (H62.sb [8, 3, 7]) <| Sx.tk [(9, none)] (H62.sb [8, 3, 7]) <| Sx.nmx ?_
    intro zx20
    refine Sx.on 10 <| Sx.s 0 8 H62 fun w36 H63 => Sx.bk (x := zx20) 10 Sx.np <| Sx.dn <| Sx.v 4 (.int .i64 (IntKind.i64.wrap (((i : Nat) : Int) + (1 : Int)))) (.int .i64 ((i + 1 : Nat) : Int)) (congrArg (Value.int .i64) (Gx.i64n (by omega) (by omega))) ?_
    exact Sx.to 2 _ (hK2 _ _ _ _ (by omega) ⟨(i + 1), A1, n1, c1, S14, (putN acc nmdZ), rfl, rfl, H63.pk [2, 2, 2, 2, 2, 2, 2, 1], (by omega), (by omega), hn1, hc1, (by rw [putN_len]; omega), (by rw [← opsF_step hdZ]; exact hac)⟩)
  refine Sx.l 7 6 H59 <| Sx.s 0 2 H59 fun w37 H65 => Sx.rt 3 [2] H65 (.agg #[.int .i64 6, .int .i64 0, .int .i64 0, .slice A4 n4 c4, .slice (some ⟨ab, 0, none⟩) 2 2]) ?_
  have H66 := Hs.toOwn (k := ab) (e := 96) (cs := #[.n ktX, .n utX, .n rtX, .slice pX.A pX.na pX.ca, .slice pX.B pX.nb pX.cb, .n ktY, .n utY, .n rtY, .slice pY.A pY.na pY.ca, .slice pY.B pY.nb pY.cb]) H65 3 5 2 (by kernel_rfl) (by rfl) (by omega)
  have p_c55 := of_decide_eq_false h_c55
  have hfin : acc = (ks.drop 2).foldl opsF [] := by have := hac; rw [List.drop_of_length_le (by omega)] at this; exact this
  rw [← hfin] at hK
  obtain ⟨S15, H67⟩ := ty_make (e := 96) (cap := 2) (n := 2) (A := A4) (B := (some ⟨ab, 0, none⟩)) (Sa := S4) (l := [(pX, Ty.mk ktX utX rtX otX atX, SX), (pY, Ty.mk ktY utY rtY otY atY, SY)]) (ops := acc) (na := n4) (ca := c4) H66 [3, 6, 3, 3] 6 0 0 (by kernel_rfl) hn4 ⟨hc4, by omega, by simp⟩ rfl
  subst hL0
  exact Gx.ret_as (by rfl) (hK S15 ⟨A4, n4, c4, (some ⟨ab, 0, none⟩), 2, 2⟩ _ (H67.pk [1, 0]))
theorem Type_c (k : Nat) : ∀ (Q : Nat → Prop) (kd na : Nat) (nm : Nm) (nn : Int) (ks : List Nd) (nA : Option Addr) (nc : Nat) (w : World) (K : Ending → World → Prop) (H0 : Sp w [kvI Q ks nA nc]) (t : Ty) (hf : typ k (.mk kd na nm nn ks) = some t) (hK : ∀ (Sy : Nat → Prop) (p : Tv) w', Hs w [kvI Q ks nA nc] w' [kvI Q ks nA nc, tyI Sy p t] → K (.returned (.agg (tvC t p).toArray)) w'),
    Calls Tryz.prog 85 #[Sx.nA kd na nm nn nA ks nc] w K := by
  induction k with
  | zero => intro Q kd na nm nn ks nA nc w K H0 t hf; exact absurd hf (by simp [typ])
  | succ k ih => exact Type_c_s k ih
end Go.Proofs.YtdmdecgoebnamaaGreat
