/- A part of the proof (YtfkkocjheeoobaaInf8), printed by a program of ours. -/
import Derived.Test.YtfkkocjheeoobaaInf4
import Derived.Test.YtfkkocjheeoobaaPu
import Derived.Test.YtfkkocjheeoobaaPx
import Derived.Test.YtfkkocjheeoobaaShelf
set_option linter.unusedVariables false
set_option linter.unusedSimpArgs false
set_option linter.unusedVariables false
set_option linter.unusedSimpArgs false
namespace Go.Proofs.Ytfkkocjheeoobaa
open Go.RowKit Go.Sx Go.Inf
attribute [local irreducible] Go.wpOps Go.Code.wp Go.wpOp Go.wpAnyH Go.Calls Go.Sx.Goal
set_option maxRecDepth 20000
set_option maxHeartbeats 8000000 in
theorem Of_c_s (k : Nat) (ih : ∀ (S : Nat → Prop) (bg : Nat) (g : G) (Sy : Nat → Prop) (kd u row : Nat) (ops : List Nm) (args : List Ty) (p : Tv) (w : World) (K : Ending → World → Prop) (H0 : Sp w [GI S bg g, tyI Sy p (Ty.mk kd u row ops args)]) (g' : G) (m : Nat) (hf : ofT k g (Ty.mk kd u row ops args) = some (g', m)) (hK : ∀ (S' : Nat → Prop) w', Hs w [GI S bg g, tyI Sy p (Ty.mk kd u row ops args)] w' [GI S' bg g', tyI Sy p (Ty.mk kd u row ops args)] → K (.returned (.int .i64 (m : Int))) w'),
    Calls Try.prog 18 #[.pointer (some ⟨bg, 0, none⟩), .agg #[.int .i64 ((kd : Nat) : Int), .int .i64 ((u : Nat) : Int), .int .i64 ((row : Nat) : Int), .slice p.A p.na p.ca, .slice p.B p.nb p.cb]] w K) (S : Nat → Prop) (bg : Nat) (g : G) (Sy : Nat → Prop) (kd u row : Nat) (ops : List Nm) (args : List Ty) (p : Tv) (w : World) (K : Ending → World → Prop) (H0 : Sp w [GI S bg g, tyI Sy p (Ty.mk kd u row ops args)]) (g' : G) (m : Nat) (hf : ofT (k + 1) g (Ty.mk kd u row ops args) = some (g', m)) (hK : ∀ (S' : Nat → Prop) w', Hs w [GI S bg g, tyI Sy p (Ty.mk kd u row ops args)] w' [GI S' bg g', tyI Sy p (Ty.mk kd u row ops args)] → K (.returned (.int .i64 (m : Int))) w') :
    Calls Try.prog 18 #[.pointer (some ⟨bg, 0, none⟩), .agg #[.int .i64 ((kd : Nat) : Int), .int .i64 ((u : Nat) : Int), .int .i64 ((row : Nat) : Int), .slice p.A p.na p.ca, .slice p.B p.nb p.cb]] w K := by
  obtain ⟨L0, hL0, H⟩ : ∃ L0, L0 = [GI S bg g, tyI Sy p (Ty.mk kd u row ops args)] ∧ Hs w L0 w [GI S bg g, tyI Sy p (Ty.mk kd u row ops args)] := ⟨_, rfl, Hs.refl H0⟩
  refine Sx.en (vs := [.pointer (some ⟨bg, 0, none⟩), .agg #[.int .i64 ((kd : Nat) : Int), .int .i64 ((u : Nat) : Int), .int .i64 ((row : Nat) : Int), .slice p.A p.na p.ca, .slice p.B p.nb p.cb]]) 100 Try.func18 ?_
  obtain ⟨_, hna, hca, hnb, _⟩ := (ty_at (S := Sy) (p := p) (t := Ty.mk kd u row ops args) H 1 (by kernel_rfl)).open
  refine Sx.nw 2 H fun k1 w1 H1 => ?_
  refine Sx.l 7 2 H1 ?_
  refine Sx.br 3 (((kd : Nat) : Int) == (0 : Int)) (fun h_c15 => ?_) (fun h_c15 => ?_)
  · skip
    have p_c15 := Gx.k1 h_c15
    have hk0 : kd = 0 := by omega
    have hf2 := ofT_var (by rw [hk0] at hf; exact hf)
    obtain ⟨⟨⟨kA, kC⟩, ⟨aA, aC⟩, ⟨bA, bC⟩, ⟨rA, rC⟩, ⟨lA, lC⟩, ⟨oA, oC⟩, ⟨nA, nC⟩, mbt, mbr, msl, mS, nk, no⟩, H2⟩ := G_open H1 0 (S := S) (bg := bg) (g := g) (by kernel_rfl)
    obtain ⟨lk, la, lb, lr, ll, lo, ln, ls⟩ := G_len H2
    simp only at lk la lb lr ll lo ln ls
    obtain ⟨o, ho⟩ : ∃ o, lookI (u : Int) g.tv = o := ⟨_, rfl⟩
    refine Sx.dr 1 H2 [0, 12, 8] [] (LJ := [.blk bg (.cells #[.slice kA nk kC, .slice aA nk aC, .slice bA nk bC, .slice rA nk rC, .slice lA nk lC, .slice oA no oC, .slice nA no nC, .map (some mbt), .map (some mbr)] 94), .blk k1 (.cells #[.int .i64 ((kd : Nat) : Int), .int .i64 ((u : Nat) : Int), .int .i64 ((row : Nat) : Int), .slice p.A p.na p.ca, .slice p.B p.nb p.cb] 32), mapN mbt g.tv]) (by kernel_rfl) fun w2 H3 => ?_
    refine Sx.tk [(0, none), (1, none), (2, none), (3, some (0, [])), (4, none), (5, some (1, []))] (fun _ => (H3.sub [0, 11, 7] (by kernel_rfl))) ?_
    refine tvki (t := 66) (kt := 3) (et := 3) 6 [] 2 mbt ((u : Nat) : Int) g.tv o ho (fun _ => (H3.sub [0, 11, 7] (by kernel_rfl))) ?_
    refine Sx.tk [(7, none), (8, none), (9, none), (10, none), (11, none)] (fun _ => (H3.sub [0, 11, 7] (by kernel_rfl))) ?_
    refine Sx.dn ?_
    refine Sx.br 8 (!o.isSome) (fun h_c27 => ?_) (fun h_c27 => ?_)
    · skip
      have ho' := isSome_f h_c27
      obtain ⟨hl0, g1, hv, rfl⟩ : lookI u g.tv = none ∧ ∃ g1, g.var = some (g1, m) ∧ { g1 with tv := g1.tv ++ [((u : Int), m)] } = g' := by
        rcases hf2 with ⟨q, hq, _⟩ | hq
        · rw [ho, ho'] at hq; cases hq
        · exact hq
      obtain ⟨S1, H4⟩ := G_close H3 [0, 0, 0, 0, 0, 0, 0, 0, 0, 0, 0] (bg := bg) (g := g) ⟨(kA, kC), (aA, aC), (bA, bC), (rA, rC), (lA, lC), (oA, oC), (nA, nC), mbt, mbr, msl, mS, nk, no⟩ (by kernel_rfl)
      refine Sx.c 3 [0] H4 (fun Hp1 R1 hR1 => Var_c S1 bg g w2 R1 Hp1 g1 m hv (fun S2 w3 G1 => hR1 _ _ _ G1 fun H5 => ?_))
      obtain ⟨⟨⟨kA1, kC1⟩, ⟨aA1, aC1⟩, ⟨bA1, bC1⟩, ⟨rA1, rC1⟩, ⟨lA1, lC1⟩, ⟨oA1, oC1⟩, ⟨nA1, nC1⟩, mbt1, mbr1, msl1, mS1, nk1, no1⟩, H6⟩ := G_open H5 0 (S := S2) (bg := bg) (g := g1) (by kernel_rfl)
      obtain ⟨lk1, la1, lb1, lr1, ll1, lo1, ln1, ls1⟩ := G_len H6
      simp only at lk1 la1 lb1 lr1 ll1 lo1 ln1 ls1
      refine Sx.dr 3 H6 [0, 12] [] (LJ := [.blk bg (.cells #[.slice kA1 nk1 kC1, .slice aA1 nk1 aC1, .slice bA1 nk1 bC1, .slice rA1 nk1 rC1, .slice lA1 nk1 lC1, .slice oA1 no1 oC1, .slice nA1 no1 nC1, .map (some mbt1), .map (some mbr1)] 94), .blk k1 (.cells #[.int .i64 ((kd : Nat) : Int), .int .i64 ((u : Nat) : Int), .int .i64 ((row : Nat) : Int), .slice p.A p.na p.ca, .slice p.B p.nb p.cb] 32)]) (by kernel_rfl) fun w4 H7 => ?_
      refine Sx.tk [(0, none), (1, none), (2, none), (3, some (0, [])), (4, none), (5, some (1, [])), (6, none)] (fun _ => (H7.sub [0, 11] (by kernel_rfl))) ?_
      refine Sx.nmx ?_
      intro zx1
      refine Sx.on 7 ?_
      refine mui (t := 66) (kt := 3) (et := 3) 0 8 mbt1 ((u : Nat) : Int) m g1.tv (by rw [(put_tv hv).1]; exact hl0) H7 (by kernel_rfl) fun w5 H8 => ?_
      refine Sx.bk (x := zx1) 7 (fun _ => (H8.sub [0, 11] (by kernel_rfl))) ?_
      refine Sx.dn ?_
      refine Sx.rt 9 [] H8 (.int .i64 ((m : Nat) : Int)) ?_
      obtain ⟨S3, H9⟩ := G_close H8 [0, 0, 0, 0, 0, 0, 0, 0, 0, 0, 0] (bg := bg) (g := ({ g1 with tv := g1.tv ++ [((u : Int), m)] } : G)) ⟨(kA1, kC1), (aA1, aC1), (bA1, bC1), (rA1, rC1), (lA1, lC1), (oA1, oC1), (nA1, nC1), mbt1, mbr1, msl1, mS1, nk1, no1⟩ (by kernel_rfl)
      subst hL0
      exact Gx.ret_as (v' := .int .i64 ((m : Nat) : Int)) (by rfl) (hK S3 _ (H9.pick (a := [GI S3 bg _, tyI Sy p (Ty.mk kd u row ops args)]) [0, 0] (by kernel_rfl)))
    obtain ⟨q, hq⟩ := isSome_t h_c27
    obtain ⟨hl0, rfl, rfl⟩ : lookI u g.tv = some q ∧ g = g' ∧ q = m := by
      rcases hf2 with ⟨q', hq', h1, h2⟩ | ⟨hn, _⟩
      · rw [ho, hq] at hq'; cases hq'; exact ⟨ho.trans hq, h1, h2⟩
      · rw [ho, hq] at hn; cases hn
    refine Sx.rt 10 [] H3 (.int .i64 ((o.getD 0 : Nat) : Int)) ?_
    obtain ⟨S4, H10⟩ := G_close H3 [0, 0, 0, 0, 0, 0, 0, 0, 0, 0, 0] (bg := bg) (g := g) ⟨(kA, kC), (aA, aC), (bA, bC), (rA, rC), (lA, lC), (oA, oC), (nA, nC), mbt, mbr, msl, mS, nk, no⟩ (by kernel_rfl)
    subst hL0
    exact Gx.ret_as (v' := .int .i64 (q : Int)) (by rw [hq]; rfl) (hK S4 _ (H10.pick (a := [GI S4 bg g, tyI Sy p (Ty.mk kd u row ops args)]) [0, 0] (by kernel_rfl)))
  have p_c15 := Gx.k0 h_c15
  have hk0 : kd ≠ 0 := by omega
  have hA := ofT_more hk0 hf
  refine Sx.cut 17 (fun l' w' => ∃ (ga : G) (Sa : Nat → Prop) (ra : Option Nat), l' = [(0, .pointer (some ⟨bg, 0, none⟩)), (3, .pointer (some ⟨k1, 0, none⟩)), (7, .int .i64 (eI ra)), (8, .int .i64 (-1)), (9, .int .i64 0)] ∧ Hs w L0 w' [GI Sa bg ga, .blk k1 (.cells #[.int .i64 ((kd : Nat) : Int), .int .i64 ((u : Nat) : Int), .int .i64 ((row : Nat) : Int), .slice p.A p.na p.ca, .slice p.B p.nb p.cb] 32), tyI Sy p (Ty.mk kd u row ops args)] ∧ (OB k kd row ops ga ra args[1]? g' m)) (fun K1 hK1 => ?_) (fun b1 l1 w6 hI1 => ?_)
  · skip
    refine Sx.l 3 2 H1 ?_
    refine Sx.br 4 (decide (((p.nb : Nat) : Int) > (0 : Int))) (fun h_c41 => ?_) (fun h_c41 => ?_)
    · skip
      obtain ⟨t0, ht0⟩ := some_at (l := args) (i := 0) (by have := of_decide_eq_true h_c41; omega)
      obtain ⟨g1, b0, hof0, hB⟩ := hA.2 _ ht0
      obtain ⟨kd0, u0, row0, ops0, args0⟩ := t0
      refine Sx.l 3 2 H1 ?_
      obtain ⟨q1, a1, ha1, hc1, hq1⟩ := (ty_at (S := Sy) (p := p) (t := Ty.mk kd u row ops args) H1 1 (by kernel_rfl)).open.2.2.2.2 0 _ ht0
      refine Sx.ia 0 a1 0 5 p.nb p.cb ha1 (by have := of_decide_eq_true h_c41; omega) ?_
      refine Sx.lo (c := 5) (t := 32) 0 [.int .i64 ((kd0 : Nat) : Int), .int .i64 ((u0 : Nat) : Int), .int .i64 ((row0 : Nat) : Int), .slice q1.A q1.na q1.ca, .slice q1.B q1.nb q1.cb] (.agg #[.int .i64 ((kd0 : Nat) : Int), .int .i64 ((u0 : Nat) : Int), .int .i64 ((row0 : Nat) : Int), .slice q1.A q1.na q1.ca, .slice q1.B q1.nb q1.cb]) hc1 ?_
      have H11 := H1.ro 1 (S := Sy) (A := fun w => TyIn w Sy p (Ty.mk kd u row ops args)) (B := fun w => TyIn w Sy q1 (Ty.mk kd0 u0 row0 ops0 args0)) (by kernel_rfl) hq1 (tyI_loc _ _ _)
      refine Sx.c 0 [0, 2] H11 (fun Hp2 R2 hR2 => ih S bg g Sy kd0 u0 row0 ops0 args0 q1 w1 R2 Hp2 g1 b0 hof0 (fun S5 w7 G2 => hR2 _ _ _ G2 fun H12 => ?_))
      have H13 := H12.pick (a := [GI S5 bg g1, .blk k1 (.cells #[.int .i64 ((kd : Nat) : Int), .int .i64 ((u : Nat) : Int), .int .i64 ((row : Nat) : Int), .slice p.A p.na p.ca, .slice p.B p.nb p.cb] 32), tyI Sy p (Ty.mk kd u row ops args)]) [0, 2, 1] (by kernel_rfl)
      exact Sx.to 2 [(0, .pointer (some ⟨bg, 0, none⟩)), (3, .pointer (some ⟨k1, 0, none⟩)), (7, .int .i64 ((b0 : Nat) : Int)), (8, .int .i64 (-1)), (9, .int .i64 0)] (hK1 _ _ _ ⟨g1, S5, (some b0), rfl, H13, hB⟩)
    have hB := hA.1 (none_at (by have := of_decide_eq_false h_c41; omega))
    have H14 := H1.pick (a := [GI S bg g, .blk k1 (.cells #[.int .i64 ((kd : Nat) : Int), .int .i64 ((u : Nat) : Int), .int .i64 ((row : Nat) : Int), .slice p.A p.na p.ca, .slice p.B p.nb p.cb] 32), tyI Sy p (Ty.mk kd u row ops args)]) [0, 1, 0] (by kernel_rfl)
    exact Sx.to 1 [(0, .pointer (some ⟨bg, 0, none⟩)), (3, .pointer (some ⟨k1, 0, none⟩)), (7, .int .i64 (-1)), (8, .int .i64 (-1)), (9, .int .i64 0)] (hK1 _ _ _ ⟨g, S, none, rfl, H14, hB⟩)
  obtain ⟨ga, Sa, ra, rfl, H15, hB⟩ := hI1
  refine Sx.cut 0 (fun l' w' => ∃ (gb : G) (Sb : Nat → Prop) (rb : Option Nat), l' = [(0, .pointer (some ⟨bg, 0, none⟩)), (3, .pointer (some ⟨k1, 0, none⟩)), (7, .int .i64 (eI ra)), (8, .int .i64 (eI rb)), (9, .int .i64 0)] ∧ Hs w L0 w' [GI Sb bg gb, .blk k1 (.cells #[.int .i64 ((kd : Nat) : Int), .int .i64 ((u : Nat) : Int), .int .i64 ((row : Nat) : Int), .slice p.A p.na p.ca, .slice p.B p.nb p.cb] 32), tyI Sy p (Ty.mk kd u row ops args)] ∧ (OR kd row ops gb ra rb g' m)) (fun K2 hK2 => ?_) (fun b2 l2 w8 hI2 => ?_)
  · skip
    refine Sx.l 3 1 H15 ?_
    refine Sx.br 4 (decide (((p.nb : Nat) : Int) > (1 : Int))) (fun h_c51 => ?_) (fun h_c51 => ?_)
    · skip
      obtain ⟨t1, ht1⟩ := some_at (l := args) (i := 1) (by have := of_decide_eq_true h_c51; omega)
      obtain ⟨g2, b1, hof1, hR⟩ := hB.2 _ ht1
      obtain ⟨kd1, u1, row1, ops1, args1⟩ := t1
      refine Sx.l 3 1 H15 ?_
      obtain ⟨q2, a2, ha2, hc2, hq2⟩ := (ty_at (S := Sy) (p := p) (t := Ty.mk kd u row ops args) H15 2 (by kernel_rfl)).open.2.2.2.2 1 _ ht1
      refine Sx.ia 0 a2 1 5 p.nb p.cb ha2 (by have := of_decide_eq_true h_c51; omega) ?_
      refine Sx.lo (c := 5) (t := 32) 0 [.int .i64 ((kd1 : Nat) : Int), .int .i64 ((u1 : Nat) : Int), .int .i64 ((row1 : Nat) : Int), .slice q2.A q2.na q2.ca, .slice q2.B q2.nb q2.cb] (.agg #[.int .i64 ((kd1 : Nat) : Int), .int .i64 ((u1 : Nat) : Int), .int .i64 ((row1 : Nat) : Int), .slice q2.A q2.na q2.ca, .slice q2.B q2.nb q2.cb]) hc2 ?_
      have H16 := H15.ro 2 (S := Sy) (A := fun w => TyIn w Sy p (Ty.mk kd u row ops args)) (B := fun w => TyIn w Sy q2 (Ty.mk kd1 u1 row1 ops1 args1)) (by kernel_rfl) hq2 (tyI_loc _ _ _)
      refine Sx.c 0 [0, 2] H16 (fun Hp3 R3 hR3 => ih Sa bg ga Sy kd1 u1 row1 ops1 args1 q2 w6 R3 Hp3 g2 b1 hof1 (fun S6 w9 G3 => hR3 _ _ _ G3 fun H17 => ?_))
      have H18 := H17.pick (a := [GI S6 bg g2, .blk k1 (.cells #[.int .i64 ((kd : Nat) : Int), .int .i64 ((u : Nat) : Int), .int .i64 ((row : Nat) : Int), .slice p.A p.na p.ca, .slice p.B p.nb p.cb] 32), tyI Sy p (Ty.mk kd u row ops args)]) [0, 1, 1] (by kernel_rfl)
      exact Sx.to 2 [(0, .pointer (some ⟨bg, 0, none⟩)), (3, .pointer (some ⟨k1, 0, none⟩)), (7, .int .i64 (eI ra)), (8, .int .i64 ((b1 : Nat) : Int)), (9, .int .i64 0)] (hK2 _ _ _ ⟨g2, S6, (some b1), rfl, H18, hR⟩)
    have hR := hB.1 (none_at (by have := of_decide_eq_false h_c51; omega))
    exact Sx.to 1 [(0, .pointer (some ⟨bg, 0, none⟩)), (3, .pointer (some ⟨k1, 0, none⟩)), (7, .int .i64 (eI ra)), (8, .int .i64 (-1)), (9, .int .i64 0)] (hK2 _ _ _ ⟨ga, Sa, none, rfl, H15, hR⟩)
  obtain ⟨gb, Sb, rb, rfl, H19, hR⟩ := hI2
  refine Sx.cut 0 (fun l' w' => ∃ (gd : G) (Sd : Nat → Prop) (rr : Nat), l' = [(0, .pointer (some ⟨bg, 0, none⟩)), (3, .pointer (some ⟨k1, 0, none⟩)), (7, .int .i64 (eI ra)), (8, .int .i64 (eI rb)), (9, .int .i64 ((rr : Nat) : Int))] ∧ Hs w L0 w' [GI Sd bg gd, .blk k1 (.cells #[.int .i64 ((kd : Nat) : Int), .int .i64 ((u : Nat) : Int), .int .i64 ((row : Nat) : Int), .slice p.A p.na p.ca, .slice p.B p.nb p.cb] 32), tyI Sy p (Ty.mk kd u row ops args)] ∧ (gd.put kd ra rb rr = some (g', m))) (fun K3 hK3 => ?_) (fun b3 l3 w10 hI3 => ?_)
  · skip
    refine Sx.l 3 1 H19 ?_
    refine Sx.br 3 (((kd : Nat) : Int) == (6 : Int)) (fun h_c60 => ?_) (fun h_c60 => ?_)
    · skip
      have p_c60 := Gx.k1 h_c60
      have h6 : kd = 6 := by omega
      obtain ⟨gx, x, hx, gr, r, hpr, hpu⟩ := hR.2 h6
      refine Sx.cut 5 (fun l' w' => ∃ (ge : G) (Se : Nat → Prop), l' = [(0, .pointer (some ⟨bg, 0, none⟩)), (3, .pointer (some ⟨k1, 0, none⟩)), (7, .int .i64 (eI ra)), (8, .int .i64 (eI rb)), (10, .int .i64 ((x : Nat) : Int))] ∧ Hs w L0 w' [GI Se bg ge, .blk k1 (.cells #[.int .i64 ((kd : Nat) : Int), .int .i64 ((u : Nat) : Int), .int .i64 ((row : Nat) : Int), .slice p.A p.na p.ca, .slice p.B p.nb p.cb] 32), tyI Sy p (Ty.mk kd u row ops args)] ∧ (ge.putRow ops (some x) = some (gr, r))) (fun K4 hK4 => ?_) (fun b4 l4 w11 hI4 => ?_)
      · skip
        refine Sx.l 3 1 H19 ?_
        refine Sx.br 3 (decide (((row : Nat) : Int) > (0 : Int))) (fun h_c63 => ?_) (fun h_c63 => ?_)
        · skip
          have p_c63 := of_decide_eq_true h_c63
          have hx' : (lookI row gb.rv = some x ∧ gb = gx) ∨ (lookI row gb.rv = none ∧ ∃ g2, gb.opn = some (g2, x) ∧ { g2 with rv := g2.rv ++ [((row : Int), x)] } = gx) := by
            rcases hx with ⟨h0, _⟩ | ⟨_, h1⟩ | ⟨_, h1⟩
            · omega
            · exact .inl h1
            · exact .inr h1
          obtain ⟨⟨⟨kA2, kC2⟩, ⟨aA2, aC2⟩, ⟨bA2, bC2⟩, ⟨rA2, rC2⟩, ⟨lA2, lC2⟩, ⟨oA2, oC2⟩, ⟨nA2, nC2⟩, mbt2, mbr2, msl2, mS2, nk2, no2⟩, H20⟩ := G_open H19 0 (S := Sb) (bg := bg) (g := gb) (by kernel_rfl)
          obtain ⟨lk2, la2, lb2, lr2, ll2, lo2, ln2, ls2⟩ := G_len H20
          simp only at lk2 la2 lb2 lr2 ll2 lo2 ln2 ls2
          obtain ⟨o, ho⟩ : ∃ o, lookI (row : Int) gb.rv = o := ⟨_, rfl⟩
          refine Sx.dr 1 H20 [0, 11, 9] [] (LJ := [.blk bg (.cells #[.slice kA2 nk2 kC2, .slice aA2 nk2 aC2, .slice bA2 nk2 bC2, .slice rA2 nk2 rC2, .slice lA2 nk2 lC2, .slice oA2 no2 oC2, .slice nA2 no2 nC2, .map (some mbt2), .map (some mbr2)] 94), .blk k1 (.cells #[.int .i64 ((kd : Nat) : Int), .int .i64 ((u : Nat) : Int), .int .i64 ((row : Nat) : Int), .slice p.A p.na p.ca, .slice p.B p.nb p.cb] 32), mapN mbr2 gb.rv]) (by kernel_rfl) fun w12 H21 => ?_
          refine Sx.tk [(0, none), (1, none), (2, none), (3, some (0, [])), (4, none), (5, some (1, []))] (fun _ => (H21.sub [0, 10, 8] (by kernel_rfl))) ?_
          refine tvki (t := 66) (kt := 3) (et := 3) 6 [] 2 mbr2 ((row : Nat) : Int) gb.rv o ho (fun _ => (H21.sub [0, 10, 8] (by kernel_rfl))) ?_
          refine Sx.tk [(7, none), (8, none), (9, none), (10, none), (11, none)] (fun _ => (H21.sub [0, 10, 8] (by kernel_rfl))) ?_
          refine Sx.dn ?_
          refine Sx.br 8 (!o.isSome) (fun h_c75 => ?_) (fun h_c75 => ?_)
          · skip
            have ho' := isSome_f h_c75
            obtain ⟨hl0, g2, hv, rfl⟩ : lookI row gb.rv = none ∧ ∃ g2, gb.opn = some (g2, x) ∧ { g2 with rv := g2.rv ++ [((row : Int), x)] } = gx := by
              rcases hx' with ⟨hq, _⟩ | hq
              · rw [ho, ho'] at hq; cases hq
              · exact hq
            obtain ⟨S7, H22⟩ := G_close H21 [0, 0, 0, 0, 0, 0, 0, 0, 0, 0, 0] (bg := bg) (g := gb) ⟨(kA2, kC2), (aA2, aC2), (bA2, bC2), (rA2, rC2), (lA2, lC2), (oA2, oC2), (nA2, nC2), mbt2, mbr2, msl2, mS2, nk2, no2⟩ (by kernel_rfl)
            refine Sx.c 3 [0] H22 (fun Hp4 R4 hR4 => Open_c S7 bg gb w12 R4 Hp4 g2 x hv (fun S8 w13 G4 => hR4 _ _ _ G4 fun H23 => ?_))
            obtain ⟨⟨⟨kA3, kC3⟩, ⟨aA3, aC3⟩, ⟨bA3, bC3⟩, ⟨rA3, rC3⟩, ⟨lA3, lC3⟩, ⟨oA3, oC3⟩, ⟨nA3, nC3⟩, mbt3, mbr3, msl3, mS3, nk3, no3⟩, H24⟩ := G_open H23 0 (S := S8) (bg := bg) (g := g2) (by kernel_rfl)
            obtain ⟨lk3, la3, lb3, lr3, ll3, lo3, ln3, ls3⟩ := G_len H24
            simp only at lk3 la3 lb3 lr3 ll3 lo3 ln3 ls3
            refine Sx.dr 3 H24 [0, 11] [] (LJ := [.blk bg (.cells #[.slice kA3 nk3 kC3, .slice aA3 nk3 aC3, .slice bA3 nk3 bC3, .slice rA3 nk3 rC3, .slice lA3 nk3 lC3, .slice oA3 no3 oC3, .slice nA3 no3 nC3, .map (some mbt3), .map (some mbr3)] 94), .blk k1 (.cells #[.int .i64 ((kd : Nat) : Int), .int .i64 ((u : Nat) : Int), .int .i64 ((row : Nat) : Int), .slice p.A p.na p.ca, .slice p.B p.nb p.cb] 32)]) (by kernel_rfl) fun w14 H25 => ?_
            refine Sx.tk [(0, none), (1, none), (2, none), (3, some (0, [])), (4, none), (5, some (1, [])), (6, none)] (fun _ => (H25.sub [0, 10] (by kernel_rfl))) ?_
            refine Sx.nmx ?_
            intro zx2
            refine Sx.on 7 ?_
            refine mui (t := 66) (kt := 3) (et := 3) 0 9 mbr3 ((row : Nat) : Int) x g2.rv (by rw [opn_rv hv]; exact hl0) H25 (by kernel_rfl) fun w15 H26 => ?_
            refine Sx.bk (x := zx2) 7 (fun _ => (H26.sub [0, 10] (by kernel_rfl))) ?_
            refine Sx.dn ?_
            obtain ⟨S9, H27⟩ := G_close H26 [0, 0, 0, 0, 0, 0, 0, 0, 0, 0, 0] (bg := bg) (g := ({ g2 with rv := g2.rv ++ [((row : Int), x)] } : G)) ⟨(kA3, kC3), (aA3, aC3), (bA3, bC3), (rA3, rC3), (lA3, lC3), (oA3, oC3), (nA3, nC3), mbt3, mbr3, msl3, mS3, nk3, no3⟩ (by kernel_rfl)
            exact Sx.to 5 [(0, .pointer (some ⟨bg, 0, none⟩)), (3, .pointer (some ⟨k1, 0, none⟩)), (7, .int .i64 (eI ra)), (8, .int .i64 (eI rb)), (10, .int .i64 ((x : Nat) : Int))] (hK4 _ _ _ ⟨({ g2 with rv := g2.rv ++ [((row : Int), x)] } : G), S9, rfl, H27, hpr⟩)
          obtain ⟨q, hq⟩ := isSome_t h_c75
          obtain ⟨hl0, rfl⟩ : o = some x ∧ gb = gx := by
            rcases hx' with ⟨hq', h1⟩ | ⟨hn, _⟩
            · exact ⟨ho.symm.trans hq', h1⟩
            · rw [ho, hq] at hn; cases hn
          subst hl0
          obtain ⟨S10, H28⟩ := G_close H21 [0, 0, 0, 0, 0, 0, 0, 0, 0, 0, 0] (bg := bg) (g := gb) ⟨(kA2, kC2), (aA2, aC2), (bA2, bC2), (rA2, rC2), (lA2, lC2), (oA2, oC2), (nA2, nC2), mbt2, mbr2, msl2, mS2, nk2, no2⟩ (by kernel_rfl)
          exact Sx.to 6 [(0, .pointer (some ⟨bg, 0, none⟩)), (3, .pointer (some ⟨k1, 0, none⟩)), (7, .int .i64 (eI ra)), (8, .int .i64 (eI rb)), (10, .int .i64 ((x : Nat) : Int))] (hK4 _ _ _ ⟨gb, S10, rfl, H28, hpr⟩)
        have p_c63 := of_decide_eq_false h_c63
        obtain ⟨rfl, rfl⟩ : gb = gx ∧ 0 = x := by
          rcases hx with ⟨_, h1, h2⟩ | ⟨h0, _⟩ | ⟨h0, _⟩
          · exact ⟨h1, h2⟩
          all_goals omega
        exact Sx.to 1 [(0, .pointer (some ⟨bg, 0, none⟩)), (3, .pointer (some ⟨k1, 0, none⟩)), (7, .int .i64 (eI ra)), (8, .int .i64 (eI rb)), (10, .int .i64 0)] (hK4 _ _ _ ⟨gb, Sb, rfl, H19, hpr⟩)
      obtain ⟨ge, Se, rfl, H29, hpr⟩ := hI4
      refine Sx.nw 2 H29 fun k2 w16 H30 => ?_
      refine Sx.l 1 1 H30 ?_
      have H31 := Hs.toOwn (k := k2) (e := 9) (cs := #[]) H30 3 1 0 (by kernel_rfl) (by rfl) (by omega)
      have hst := (ty_at (S := Sy) (p := p) (t := Ty.mk kd u row ops args) H31 2 (by kernel_rfl)).open.1
      refine Sx.aps 0 3 16 p.na 9 1 30 p.ca p.A (some ⟨k2, 0, none⟩) 0 0 [] (strs ops) H31 (fun h => by have := hst; rw [h] at this; have := this.nil; rw [hna, this]; rfl) (fun a ha => hst.cell ha) (by rw [strs, List.length_map]; omega) (strs_one _) (by omega) (by omega) (Nat.le_refl 0) (xs' := strs ops) rfl fun A1 cap1 w17 H32 => ?_
      have H33 := Hs.toStr H32 3 (e := 9) (n := 0 + p.na) (cap := cap1) (A := A1) (l := ops) (by kernel_rfl)
      refine Sx.c 1 [0, 2] H33 (fun Hp5 R5 hR5 => PutRow_c Se bg ge (fun c => (Value.slice A1 (0 + p.na) cap1).ownBlock = some c) A1 (0 + p.na) cap1 ops ((x : Nat) : Int) (some x) w17 R5 Hp5 gr r (by omega) rfl hpr (fun S11 w18 G5 => hR5 _ _ _ G5 fun H34 => ?_))
      exact Sx.to 2 [(0, .pointer (some ⟨bg, 0, none⟩)), (3, .pointer (some ⟨k1, 0, none⟩)), (7, .int .i64 (eI ra)), (8, .int .i64 (eI rb)), (9, .int .i64 ((r : Nat) : Int))] (hK3 _ _ _ ⟨gr, S11, r, rfl, H34, hpu⟩)
    have p_c60 := Gx.k0 h_c60
    have hpu := hR.1 (by omega)
    exact Sx.to 1 [(0, .pointer (some ⟨bg, 0, none⟩)), (3, .pointer (some ⟨k1, 0, none⟩)), (7, .int .i64 (eI ra)), (8, .int .i64 (eI rb)), (9, .int .i64 0)] (hK3 _ _ _ ⟨gb, Sb, 0, rfl, H19, hpu⟩)
  obtain ⟨gd, Sd, rr, rfl, H35, hpu⟩ := hI3
  refine Sx.l 4 1 H35 ?_
  refine Sx.c 3 [0] H35 (fun Hp6 R6 hR6 => Put_c Sd bg gd kd (eI ra) ra (eI rb) rb rr w10 R6 Hp6 g' m rfl rfl hpu (fun S12 w19 G6 => hR6 _ _ _ G6 fun H36 => ?_))
  refine Sx.rt 4 [] H36 (.int .i64 ((m : Nat) : Int)) ?_
  subst hL0
  exact Gx.ret_as (v' := .int .i64 ((m : Nat) : Int)) (by rfl) (hK S12 _ (H36.pick (a := [GI S12 bg _, tyI Sy p (Ty.mk kd u row ops args)]) [0, 1] (by kernel_rfl)))
theorem Of_c (k : Nat) : ∀ (S : Nat → Prop) (bg : Nat) (g : G) (Sy : Nat → Prop) (kd u row : Nat) (ops : List Nm) (args : List Ty) (p : Tv) (w : World) (K : Ending → World → Prop) (H0 : Sp w [GI S bg g, tyI Sy p (Ty.mk kd u row ops args)]) (g' : G) (m : Nat) (hf : ofT k g (Ty.mk kd u row ops args) = some (g', m)) (hK : ∀ (S' : Nat → Prop) w', Hs w [GI S bg g, tyI Sy p (Ty.mk kd u row ops args)] w' [GI S' bg g', tyI Sy p (Ty.mk kd u row ops args)] → K (.returned (.int .i64 (m : Int))) w'),
    Calls Try.prog 18 #[.pointer (some ⟨bg, 0, none⟩), .agg #[.int .i64 ((kd : Nat) : Int), .int .i64 ((u : Nat) : Int), .int .i64 ((row : Nat) : Int), .slice p.A p.na p.ca, .slice p.B p.nb p.cb]] w K := by
  induction k with
  | zero => intro S bg g Sy kd u row ops args p w K H0 g' m hf; exact absurd hf (by simp [ofT])
  | succ k ih => exact Of_c_s k ih
end Go.Proofs.Ytfkkocjheeoobaa
set_option linter.unusedVariables false
set_option linter.unusedSimpArgs false
namespace Go.Inf
open Go.RowKit Go.Sx Go.Gx Go.Syn
/-! ### What is not new joins those in sight -/
def MF (a x : List Nat) (t : List Nat) : List Nat := (a.filter fun n => !x.contains n).foldl add t
/-- Between: what is in the set now, and what is left. -/
def Mid (x left now a t : List Nat) : Prop := ∀ n, (n ∈ now ∨ (n ∈ left ∧ n ∉ x)) ↔ n ∈ MF a x t
theorem Mid.hit {x left lf now a t : List Nat} {q : Nat} (h : Mid x left now a t) (p : left.Perm (q :: lf)) (hq : (!x.contains q) = true) : Mid x lf (add now q) a t := fun n => by
  rw [← h n, mem_add, p.mem_iff, List.mem_cons]
  have hq' : q ∉ x := by simpa using hq
  constructor
  · rintro ((h1 | rfl) | h2)
    · exact .inl h1
    · exact .inr ⟨.inl rfl, hq'⟩
    · exact .inr ⟨.inr h2.1, h2.2⟩
  · rintro (h1 | ⟨rfl | h1, h2⟩)
    · exact .inl (.inl h1)
    · exact .inl (.inr rfl)
    · exact .inr ⟨h1, h2⟩
theorem Mid.done {x now a t left : List Nat} (h : Mid x left now a t) (e : left = []) : Mem2 now (MF a x t) := fun n => by rw [← h n, e]; simp
/-! ### What is in sight leaves -/
def Wo (a t : List Nat) : List Nat := t.filter fun v => !a.contains v
def MidD (left now a t : List Nat) : Prop := ∀ n, (n ∈ now ∧ n ∉ left) ↔ n ∈ Wo a t
theorem MidD.step {left lf now a t : List Nat} {q : Nat} (h : MidD left now a t) (p : left.Perm (q :: lf)) : MidD lf (now.filter fun n => n != q) a t := fun n => by
  rw [← h n, List.mem_filter, p.mem_iff, List.mem_cons]
  constructor
  · rintro ⟨⟨h1, h2⟩, h3⟩
    exact ⟨h1, fun h => h.elim (by simpa using h2) h3⟩
  · rintro ⟨h1, h2⟩
    exact ⟨⟨h1, by have : n ≠ q := fun e => h2 (.inl e); simpa using this⟩, fun h => h2 (.inr h)⟩
theorem MidD.done {now a t left : List Nat} (h : MidD left now a t) (e : left = []) : Mem2 now (Wo a t) := fun n => by rw [← h n, e]; simp
/-! ### In sight -/
section
variable {w0 w : World} {L0 L : List Sx.Item}
end
theorem look_seen (s : Seen) (n : Nat) : lookI (n : Int) (seenI s) = s.get n := by
  induction s with
  | nil => rfl
  | cons p s ih =>
    obtain ⟨m, v⟩ := p
    rw [show seenI ((m, v) :: s) = ((m : Int), v) :: seenI s from rfl, lookI, Seen.get, ih]
    by_cases e : m = n
    · subst e; simp
    · rw [if_neg (by omega), if_neg e]
/-! ### Kinds stay -/
def Kin (g g' : G) : Prop := ∀ i kd : Nat, g.kind[i]? = some kd → g'.kind[i]? = some kd
theorem Kin.trans {a b c : G} (h : Kin a b) (k : Kin b c) : Kin a c := fun i kd q => k i kd (h i kd q)
theorem pr {α β : Type} {a a' : α} {b b' : β} (h : some (a, b) = some (a', b')) : a = a' ∧ b = b' := by simpa using h
section
variable {c c1 : Ck} {g0 : G} {e : List Nam} {o : List Opr} {fk : Nat} {fa : Int} {n : Nat}
end
section
variable {k a row : Nat} {c : Ck} {nm : Nm} {n : Int} {ks : List Nd}
end
/-! ### Names in sight, taken back -/
/-! ### A name is looked for from the end -/
/-! ### Two kids, one after the other -/
/-! ### The names of a handler's operations -/
def Same3 (a b : Ck) : Prop := a.g = b.g ∧ a.env = b.env ∧ a.ops = b.ops
theorem Same3.no {a b : Ck} (h : Same3 a b) (kd : Nat) (x : Int) : Same3 (a.no kd x) b := ⟨ck_no.2.2.1.trans h.1, ck_no.2.2.2.1.trans h.2.1, ck_no.2.2.2.2.trans h.2.2⟩
/-! ### The clauses -/
theorem ops_nil {k i : Nat} {all : List Nm} {c c' : Ck} {r : List Nd} (h : opsLoop k all i r c = some c') (hr : r = []) : c = c' := by subst hr; unfold opsLoop at h; simpa using h
section
variable {w0 w : World} {L0 L : List Sx.Item}
end
/-! ### Told -/
def TC (k : Nat) (g : G) (u kd : Nat) (args : List Ty) (ops : List Nm) (c : Nat) (l : Nams) (t : Ty) (l' : Nams) : Prop :=
  ∃ y, g.b[u]? = some y ∧ (y = none → .mk kd 0 c ops args = t ∧ l = l') ∧ ∀ p, y = some p → ∃ t2 l2, told k g p l = some (t2, l2) ∧ .mk kd 0 c ops (args ++ [t2]) = t ∧ l2 = l'
def TB (k : Nat) (g : G) (u kd : Nat) (args : List Ty) (l : Nams) (t : Ty) (l' : Nams) : Prop :=
  (kd ≠ 6 → TC k g u kd args [] 0 l t l') ∧ (kd = 6 → ∃ q ops v, g.row[u]? = some q ∧ whole k g q [] = some (ops, v) ∧ (v = 0 → TC k g u kd args ops 0 l t l') ∧ (v ≠ 0 → l.r.length < 1000000000 ∧ TC k g u kd args ops (numb l.r v).2 ⟨l.t, (numb l.r v).1⟩ t l'))
def TA (k : Nat) (g : G) (u kd : Nat) (l : Nams) (t : Ty) (l' : Nams) : Prop :=
  ∃ y, g.a[u]? = some y ∧ (y = none → TB k g u kd [] l t l') ∧ ∀ p, y = some p → ∃ t1 l1, told k g p l = some (t1, l1) ∧ TB k g u kd [t1] l1 t l'
theorem told_cases {k n : Nat} {g : G} {l l' : Nams} {t : Ty} (h : told (k + 1) g n l = some (t, l')) :
    ∃ u kd, find k g n = some u ∧ g.kind[u]? = some kd ∧ (kd = 0 → l.t.length < 1000000000 ∧ (.mk 0 (numb l.t u).2 0 [] [] : Ty) = t ∧ (⟨(numb l.t u).1, l.r⟩ : Nams) = l') ∧ (kd ≠ 0 → TA k g u kd l t l') := by
  unfold told at h
  split at h <;> try contradiction
  rename_i u hu
  cases hk : g.kind[u]? with
  | none => simp [hk] at h
  | some kd =>
    rw [hk] at h
    refine ⟨u, kd, hu, hk, fun e0 => ?_, fun e0 => ?_⟩
    · subst e0
      simp only at h
      split at h <;> try contradiction
      rename_i hb
      have h := pr h
      exact ⟨hb, h.1, h.2⟩
    · let arg (x : Option (Option Nat)) (l : Nams) : Option (List Ty × Nams) := match x with
          | some none => some ([], l)
          | some (some m) => match told k g m l with
            | some (t, l) => some ([t], l)
            | none => none
          | none => none
      have h : (match arg g.a[u]? l with
        | some (ta, l) =>
          let rw : Option (List Nm × Nat × Nams) := if kd = 6 then (match g.row[u]? with
            | some r => (match whole k g r [] with
              | some (ops, 0) => some (ops, 0, l)
              | some (ops, v + 1) => if l.r.length < big then (let (t, c) := numb l.r (v + 1); some (ops, c, { l with r := t })) else none
              | none => none)
            | none => none) else some ([], 0, l)
          (match rw with
          | some (ops, c, l) => (match arg g.b[u]? l with
            | some (tb, l) => some (Ty.mk kd 0 c ops (ta ++ tb), l)
            | none => none)
          | none => none)
        | none => none) = some (t, l') := by
        cases kd with
        | zero => exact absurd rfl e0
        | succ kd => exact h
      have hx : ∀ (x : Option (Option Nat)) (l : Nams) (ta : List Ty) (l1 : Nams), arg x l = some (ta, l1) → ∃ y, x = some y ∧ (y = none → ta = [] ∧ l = l1) ∧ ∀ p, y = some p → ∃ t1, told k g p l = some (t1, l1) ∧ ta = [t1] := by
        intro x l ta l1 hh
        simp only [arg] at hh
        split at hh <;> try contradiction
        · cases hh; exact ⟨none, rfl, fun _ => ⟨rfl, rfl⟩, fun p e => by cases e⟩
        · rename_i m
          split at hh <;> try contradiction
          rename_i t1 l2 ht
          cases hh
          exact ⟨some m, rfl, fun e => (by cases e), fun p e => by cases e; exact ⟨t1, ht, rfl⟩⟩
      have hTC : ∀ (ta : List Ty) (ops : List Nm) (c : Nat) (l : Nams), (match arg g.b[u]? l with
            | some (tb, l) => some (Ty.mk kd 0 c ops (ta ++ tb), l)
            | none => none) = some (t, l') → TC k g u kd ta ops c l t l' := by
        intro ta ops c l hh
        split at hh <;> try contradiction
        rename_i tb l2 hb
        obtain ⟨y, hy, h1, h2⟩ := hx _ _ _ _ hb
        have q := pr hh
        refine ⟨y, hy, fun e => ?_, fun p e => ?_⟩
        · obtain ⟨rfl, rfl⟩ := h1 e
          rw [List.append_nil] at q; exact ⟨q.1, q.2⟩
        · obtain ⟨t1, ht, rfl⟩ := h2 p e
          exact ⟨t1, l2, ht, q.1, q.2⟩
      split at h <;> try contradiction
      rename_i ta l1 hA
      have hTB : TB k g u kd ta l1 t l' := by
        refine ⟨fun e6 => ?_, fun e6 => ?_⟩
        · simp only [if_neg e6] at h; exact hTC _ _ _ _ h
        · simp only [if_pos e6] at h
          cases hr : g.row[u]? with
          | none => simp [hr] at h
          | some q =>
            simp only [hr] at h
            cases hw : whole k g q [] with
            | none => simp [hw] at h
            | some ov =>
              obtain ⟨ops, v⟩ := ov
              cases v with
              | zero => simp only [hw] at h; exact ⟨q, ops, 0, rfl, hw, fun _ => hTC _ _ _ _ h, fun e => absurd rfl e⟩
              | succ v =>
                simp only [hw] at h
                by_cases hb : l1.r.length < big
                · simp only [if_pos hb] at h; exact ⟨q, ops, v + 1, rfl, hw, fun e => by omega, fun _ => ⟨hb, hTC _ _ _ _ h⟩⟩
                · simp only [if_neg hb] at h; cases h
      obtain ⟨y, hy, h1, h2⟩ := hx _ _ _ _ hA
      exact ⟨y, hy, fun e => by obtain ⟨rfl, rfl⟩ := h1 e; exact hTB, fun p e => by obtain ⟨t1, ht, rfl⟩ := h2 p e; exact ⟨t1, l1, ht, hTB⟩⟩
end Go.Inf
set_option linter.unusedVariables false
set_option linter.unusedSimpArgs false
namespace Go.Proofs.Ytfkkocjheeoobaa
open Go.RowKit Go.Sx Go.Inf Go.Syn
attribute [local irreducible] Go.wpOps Go.Code.wp Go.wpOp Go.wpAnyH Go.Calls Go.Sx.Goal
set_option maxRecDepth 20000
set_option maxHeartbeats 16000000 in
theorem Told_c_s (k : Nat) (ih : ∀ (S : Nat → Prop) (bg : Nat) (g : G) (n : Nat) (bt br : Nat) (l : Nams) (w : World) (K : Ending → World → Prop) (H0 : Sp w [GI S bg g, mapN bt l.t, mapN br l.r]) (t : Ty) (l' : Nams) (hf : told k g n l = some (t, l')) (hK : ∀ (S' : Nat → Prop) (Sy : Nat → Prop) (p : Tv) w', Hs w [GI S bg g, mapN bt l.t, mapN br l.r] w' [GI S' bg g, mapN bt l'.t, mapN br l'.r, tyI Sy p t] → K (.returned (.agg (tvC t p).toArray)) w'),
    Calls Try.prog 23 #[.pointer (some ⟨bg, 0, none⟩), .int .i64 ((n : Nat) : Int), .agg #[.map (some bt), .map (some br)]] w K) (S : Nat → Prop) (bg : Nat) (g : G) (n : Nat) (bt br : Nat) (l : Nams) (w : World) (K : Ending → World → Prop) (H0 : Sp w [GI S bg g, mapN bt l.t, mapN br l.r]) (t : Ty) (l' : Nams) (hf : told (k + 1) g n l = some (t, l')) (hK : ∀ (S' : Nat → Prop) (Sy : Nat → Prop) (p : Tv) w', Hs w [GI S bg g, mapN bt l.t, mapN br l.r] w' [GI S' bg g, mapN bt l'.t, mapN br l'.r, tyI Sy p t] → K (.returned (.agg (tvC t p).toArray)) w') :
    Calls Try.prog 23 #[.pointer (some ⟨bg, 0, none⟩), .int .i64 ((n : Nat) : Int), .agg #[.map (some bt), .map (some br)]] w K := by
  obtain ⟨L0, hL0, H⟩ : ∃ L0, L0 = [GI S bg g, mapN bt l.t, mapN br l.r] ∧ Hs w L0 w [GI S bg g, mapN bt l.t, mapN br l.r] := ⟨_, rfl, Hs.refl H0⟩
  refine Sx.en (vs := [.pointer (some ⟨bg, 0, none⟩), .int .i64 ((n : Nat) : Int), .agg #[.map (some bt), .map (some br)]]) 101 Try.func23 ?_
  obtain ⟨u1, kd, hn, hkd, ht0, ht1⟩ := told_cases hf
  refine Sx.nw 2 H fun k1 w1 H1 => ?_
  refine Sx.nw 0 H1 fun k2 w2 H2 => ?_
  refine Sx.c 6 [0] H2 (fun Hp1 R1 hR1 => Find_c S bg g n w2 R1 Hp1 _ u1 hn (fun S1 w3 G1 => hR1 _ _ _ G1 fun H3 => ?_))
  obtain ⟨⟨⟨kA1, kC1⟩, ⟨aA1, aC1⟩, ⟨bA1, bC1⟩, ⟨rA1, rC1⟩, ⟨lA1, lC1⟩, ⟨oA1, oC1⟩, ⟨nA1, nC1⟩, mbt1, mbr1, msl1, mS1, nk1, no1⟩, H4⟩ := G_open H3 0 (S := S1) (bg := bg) (g := g) (by kernel_rfl)
  obtain ⟨lk1, la1, lb1, lr1, ll1, lo1, ln1, ls1⟩ := G_len H4
  simp only at lk1 la1 lb1 lr1 ll1 lo1 ln1 ls1
  have hnlk1 : u1 < nk1 := by rw [← lk1]; exact at_lt hkd
  obtain ⟨wk1, rfl⟩ := H4.row 1 (A := kA1) (e := 3) (sz := 1) (cap := kC1) (n := nk1) (xs := (nats (g.kind))) (by kernel_rfl) (by omega)
  refine Sx.l 8 0 H4 ?_
  refine Sx.ir 1 wk1 u1 1 nk1 kC1 (by omega) ?_
  refine Sx.lr 0 1 3 1 3 wk1 kC1 nk1 (u1 * 1) (nats (g.kind)) H4 (.int .i64 ((kd : Nat) : Int)) (nats_at hkd) ?_
  refine Sx.nw 1 H4 fun k3 w4 H5 => ?_
  refine Sx.s 0 15 H5 fun w5 H6 => ?_
  refine Sx.nz 2 (.code (Sx.cat [1, 1, 1] (Sx.bodyOf Try.f23))) [] [(0, .pointer (some ⟨bg, 0, none⟩)), (1, .int .i64 ((u1 : Nat) : Int)), (5, .pointer (some ⟨k1, 0, none⟩)), (6, .pointer (some ⟨k2, 0, none⟩)), (7, .pointer (some ⟨k3, 0, none⟩))] fun b1 => ?_
  refine Sx.l 4 15 H6 ?_
  refine Sx.br 3 (((kd : Nat) : Int) == (0 : Int)) (fun h_c23 => ?_) (fun h_c23 => ?_)
  · skip
    have p_c23 := Gx.k1 h_c23
    obtain ⟨S2, H7⟩ := G_close H6 [0, 0, 0, 0, 0, 0, 0, 0, 0, 0, 0] (bg := bg) (g := g) ⟨((some ⟨wk1, 0, none⟩), kC1), (aA1, aC1), (bA1, bC1), (rA1, rC1), (lA1, lC1), (oA1, oC1), (nA1, nC1), mbt1, mbr1, msl1, mS1, nk1, no1⟩ (by kernel_rfl)
    have hk00 : kd = 0 := by omega
    obtain ⟨hlz, rfl, rfl⟩ := ht0 hk00
    refine Sx.l 3 3 H7 ?_
    refine Sx.c 1 [1] H7 (fun Hp2 R2 hR2 => number_c bt l.t u1 w5 R2 Hp2 hlz (fun w6 G2 => hR2 _ _ _ G2 fun H8 => ?_))
    refine Sx.s 1 5 H8 fun w7 H9 => ?_
    refine Sx.l 4 5 H9 ?_
    refine Sx.s 0 4 H9 fun w8 H10 => ?_
    refine Sx.rt 4 [4] H10 (.agg #[.int .i64 ((kd : Nat) : Int), .int .i64 (((numb l.t u1).2 : Nat) : Int), .int .i64 0, .slice none 0 0, .slice none 0 0]) ?_
    have H11 := H10.add (Gx.Ext.refl _) (it := .own 32 5 none 0 0 []) (World.ownsRow_nil _ _ _ _) (fun _ h => by cases h)
    have H12 := H11.add (Gx.Ext.refl _) (it := strI (fun _ => False) none []) strI_nil (fun _ h => h.elim)
    obtain ⟨S3, H13⟩ := ty_make (e := 32) (cap := 0) (n := 0) (A := none) (B := none) (Sa := (fun _ => False)) (l := []) (ops := []) (na := 0) (ca := 0) H12 [6, 6] 0 ((numb l.t u1).2) 0 (by kernel_rfl) rfl ⟨Nat.le_refl _, by simp, by simp⟩ rfl
    subst hL0
    exact Gx.ret_as (by rw [hk00]; rfl) (hK S2 S3 ⟨none, 0, 0, none, 0, 0⟩ _ (H13.pick (a := [GI S2 bg g, mapN bt _, mapN br _, tyI S3 _ _]) [2, 1, 1, 0] (by kernel_rfl)))
  have p_c23 := Gx.k0 h_c23
  obtain ⟨S4, H14⟩ := G_close H6 [0, 0, 0, 0, 0, 0, 0, 0, 0, 0, 0] (bg := bg) (g := g) ⟨((some ⟨wk1, 0, none⟩), kC1), (aA1, aC1), (bA1, bC1), (rA1, rC1), (lA1, lC1), (oA1, oC1), (nA1, nC1), mbt1, mbr1, msl1, mS1, nk1, no1⟩ (by kernel_rfl)
  obtain ⟨ya, hya, hA0, hA1⟩ := ht1 (by omega)
  refine Sx.nz 2 (.code (Sx.cat [1, 1, 1, 1] (Sx.bodyOf Try.f23))) [] [(0, .pointer (some ⟨bg, 0, none⟩)), (1, .int .i64 ((u1 : Nat) : Int)), (5, .pointer (some ⟨k1, 0, none⟩)), (6, .pointer (some ⟨k2, 0, none⟩)), (7, .pointer (some ⟨k3, 0, none⟩))] fun b2 => ?_
  obtain ⟨⟨⟨kA2, kC2⟩, ⟨aA2, aC2⟩, ⟨bA2, bC2⟩, ⟨rA2, rC2⟩, ⟨lA2, lC2⟩, ⟨oA2, oC2⟩, ⟨nA2, nC2⟩, mbt2, mbr2, msl2, mS2, nk2, no2⟩, H15⟩ := G_open H14 0 (S := S4) (bg := bg) (g := g) (by kernel_rfl)
  obtain ⟨lk2, la2, lb2, lr2, ll2, lo2, ln2, ls2⟩ := G_len H15
  simp only at lk2 la2 lb2 lr2 ll2 lo2 ln2 ls2
  have hnla2 : u1 < nk2 := by rw [← la2]; exact at_lt hya
  obtain ⟨wa2, rfl⟩ := H15.row 2 (A := aA2) (e := 3) (sz := 1) (cap := aC2) (n := nk2) (xs := (onats (g.a))) (by kernel_rfl) (by omega)
  refine Sx.l 6 0 H15 ?_
  refine Sx.ir 1 wa2 u1 1 nk2 aC2 (by omega) ?_
  refine Sx.lr 0 2 3 1 3 wa2 aC2 nk2 (u1 * 1) (onats (g.a)) H15 (.int .i64 (eI ya)) (onats_at hya) ?_
  refine Sx.br 3 (decide ((eI ya) ≥ (0 : Int))) (fun h_c37 => ?_) (fun h_c37 => ?_)
  · skip
    obtain ⟨pa, rfl⟩ := eI_ge1 h_c37
    obtain ⟨tA, l1, htA, hB⟩ := hA1 pa rfl
    refine Sx.dr 0 H15 [15, 13] [15] (LJ := [.blk k3 (.cells #[.int .i64 ((kd : Nat) : Int), .int .i64 0, .int .i64 0, .slice none 0 0, .slice none 0 0] 32), .blk k1 (.cells #[.map (some bt), .map (some br)] 68)]) (by kernel_rfl) fun w9 H16 => ?_
    refine Sx.tk [(0, none), (1, some (0, [13, 14, 15])), (2, none), (3, none), (4, none), (5, none), (7, none), (10, some (1, [11, 12, 13, 14, 15]))] (fun _ => (H16.sub [15, 13] (by kernel_rfl))) ?_
    refine Sx.nmx ?_
    intro zx1
    refine Sx.on 6 ?_
    refine Sx.l 0 0 H16 ?_
    refine Sx.bk (x := zx1) 6 (fun _ => (H16.sub [15, 13] (by kernel_rfl))) ?_
    refine Sx.tvg 8 [9, 11, 12, 13, 14, 15] wa2 u1 1 nk2 aC2 (by omega) (fun _ => (H16.sub [15, 13] (by kernel_rfl))) ?_
    refine Sx.nmx ?_
    intro zx2
    refine Sx.on 9 ?_
    refine Sx.lr 0 2 3 1 3 wa2 aC2 nk2 (u1 * 1) (onats (g.a)) H16 (.int .i64 ((pa : Nat) : Int)) (onats_some hya) ?_
    refine Sx.bk (x := zx2) 9 (fun _ => (H16.sub [15, 13] (by kernel_rfl))) ?_
    refine Sx.nmx ?_
    intro zx3
    refine Sx.on 11 ?_
    obtain ⟨S5, H17⟩ := G_close H16 [0, 0, 0, 0, 0, 0, 0, 0, 0, 0, 0] (bg := bg) (g := g) ⟨(kA2, kC2), ((some ⟨wa2, 0, none⟩), aC2), (bA2, bC2), (rA2, rC2), (lA2, lC2), (oA2, oC2), (nA2, nC2), mbt2, mbr2, msl2, mS2, nk2, no2⟩ (by kernel_rfl)
    obtain ⟨ktA, utA, rtA, otA, atA⟩ := tA
    refine Sx.c 0 [0, 0, 0] H17 (fun Hp3 R3 hR3 => ih S5 bg g pa bt br l w9 R3 Hp3 _ l1 htA (fun S6 S7 p1 w10 G3 => hR3 _ _ _ G3 fun H18 => ?_))
    refine Sx.bk (x := zx3) 11 (fun _ => (H18.sub [6, 4] (by kernel_rfl))) ?_
    refine Sx.nmx ?_
    intro zx4
    refine Sx.on 12 ?_
    refine Sx.nw 0 H18 fun k4 w11 H19 => ?_
    refine Sx.bk (x := zx4) 12 (fun _ => (H19.sub [6, 4] (by kernel_rfl))) ?_
    refine Sx.nmx ?_
    intro zx5
    refine Sx.on 13 ?_
    have H20 := H19.add (Gx.Ext.refl _) (it := .own 32 5 none 0 0 []) (World.ownsRow_nil _ _ _ _) (fun _ h => by cases h)
    refine Sx.ap 0 8 7 72 1 0 32 5 23 1 k4 none 0 0 ([]) [.int .i64 ((ktA : Nat) : Int), .int .i64 ((utA : Nat) : Int), .int .i64 ((rtA : Nat) : Int), .slice p1.A p1.na p1.ca, .slice p1.B p1.nb p1.cb] H20 (by omega) (by omega) rfl fun A1 cap1 w12 H21 => ?_
    refine Sx.bk (x := zx5) 13 (fun _ => (H21.sub [6, 4] (by kernel_rfl))) ?_
    refine Sx.tk [(14, none)] (fun _ => (H21.sub [6, 4] (by kernel_rfl))) ?_
    refine Sx.nmx ?_
    intro zx6
    refine Sx.on 15 ?_
    refine Sx.s 0 6 H21 fun w13 H22 => ?_
    refine Sx.bk (x := zx6) 15 (fun h => Sx.nope h (by kernel_rfl)) ?_
    refine Sx.dn ?_
    refine Sx.nz 1 (.code (Sx.cat [1, 1, 1, 1, 1] (Sx.bodyOf Try.f23))) [] [(0, .pointer (some ⟨bg, 0, none⟩)), (1, .int .i64 ((u1 : Nat) : Int)), (5, .pointer (some ⟨k1, 0, none⟩)), (6, .pointer (some ⟨k2, 0, none⟩)), (7, .pointer (some ⟨k3, 0, none⟩))] fun b3 => ?_
    refine Sx.l 4 6 H22 ?_
    refine Sx.br 3 (((kd : Nat) : Int) == (6 : Int)) (fun h_c55 => ?_) (fun h_c55 => ?_)
    · skip
      have p_c55 := Gx.k1 h_c55
      obtain ⟨q, ops, v, hq, hw, hv0, hv1⟩ := hB.2 (by omega)
      obtain ⟨⟨⟨kA3, kC3⟩, ⟨aA3, aC3⟩, ⟨bA3, bC3⟩, ⟨rA3, rC3⟩, ⟨lA3, lC3⟩, ⟨oA3, oC3⟩, ⟨nA3, nC3⟩, mbt3, mbr3, msl3, mS3, nk3, no3⟩, H23⟩ := G_open H22 0 (S := S6) (bg := bg) (g := g) (by kernel_rfl)
      obtain ⟨lk3, la3, lb3, lr3, ll3, lo3, ln3, ls3⟩ := G_len H23
      simp only at lk3 la3 lb3 lr3 ll3 lo3 ln3 ls3
      have hnlr3 : u1 < nk3 := by rw [← lr3]; exact at_lt hq
      obtain ⟨wr3, rfl⟩ := H23.row 4 (A := rA3) (e := 3) (sz := 1) (cap := rC3) (n := nk3) (xs := (nats (g.row))) (by kernel_rfl) (by omega)
      refine Sx.l 6 0 H23 ?_
      refine Sx.ir 1 wr3 u1 1 nk3 rC3 (by omega) ?_
      refine Sx.lr 0 4 3 1 3 wr3 rC3 nk3 (u1 * 1) (nats (g.row)) H23 (.int .i64 ((q : Nat) : Int)) (nats_at hq) ?_
      obtain ⟨S8, H24⟩ := G_close H23 [0, 0, 0, 0, 0, 0, 0, 0, 0, 0, 0] (bg := bg) (g := g) ⟨(kA3, kC3), (aA3, aC3), (bA3, bC3), ((some ⟨wr3, 0, none⟩), rC3), (lA3, lC3), (oA3, oC3), (nA3, nC3), mbt3, mbr3, msl3, mS3, nk3, no3⟩ (by kernel_rfl)
      refine Sx.c 0 [0] H24 (fun Hp4 R4 hR4 => Whole_c S8 bg g q w13 R4 Hp4 _ v ops hw (fun S9 S10 A2 n1 c1 w14 G4 hn1 hc1 => hR4 _ _ _ G4 fun H25 => ?_))
      refine Sx.nz 7 (.code (Sx.cat [1, 1, 1, 1, 1, 0, 1, 0, 1] (Sx.bodyOf Try.f23))) [.code (Sx.cat [1, 1, 1, 1, 1, 1] (Sx.bodyOf Try.f23))] [(0, .pointer (some ⟨bg, 0, none⟩)), (1, .int .i64 ((u1 : Nat) : Int)), (5, .pointer (some ⟨k1, 0, none⟩)), (6, .pointer (some ⟨k2, 0, none⟩)), (7, .pointer (some ⟨k3, 0, none⟩)), (8, .slice A2 n1 c1), (9, .int .i64 ((v : Nat) : Int))] fun b4 => ?_
      refine Sx.s 4 7 H25 fun w15 H26 => ?_
      refine Sx.br 8 (decide (((v : Nat) : Int) > (0 : Int))) (fun h_c71 => ?_) (fun h_c71 => ?_)
      · skip
        have p_c71 := of_decide_eq_true h_c71
        obtain ⟨hlz, yb, hyb, hC0, hC1⟩ := hv1 (by omega)
        refine Sx.l 2 5 H26 ?_
        refine Sx.c 1 [3] H26 (fun Hp5 R5 hR5 => number_c br l1.r v w15 R5 Hp5 hlz (fun w16 G5 => hR5 _ _ _ G5 fun H27 => ?_))
        refine Sx.s 1 7 H27 fun w17 H28 => ?_
        obtain ⟨⟨⟨kA4, kC4⟩, ⟨aA4, aC4⟩, ⟨bA4, bC4⟩, ⟨rA4, rC4⟩, ⟨lA4, lC4⟩, ⟨oA4, oC4⟩, ⟨nA4, nC4⟩, mbt4, mbr4, msl4, mS4, nk4, no4⟩, H29⟩ := G_open H28 1 (S := S9) (bg := bg) (g := g) (by kernel_rfl)
        obtain ⟨lk4, la4, lb4, lr4, ll4, lo4, ln4, ls4⟩ := G_len H29
        simp only at lk4 la4 lb4 lr4 ll4 lo4 ln4 ls4
        have hnlb4 : u1 < nk4 := by rw [← lb4]; exact at_lt hyb
        obtain ⟨wb4, rfl⟩ := H29.row 3 (A := bA4) (e := 3) (sz := 1) (cap := bC4) (n := nk4) (xs := (onats (g.b))) (by kernel_rfl) (by omega)
        refine Sx.l 8 0 H29 ?_
        refine Sx.ir 1 wb4 u1 1 nk4 bC4 (by omega) ?_
        refine Sx.lr 0 3 3 1 3 wb4 bC4 nk4 (u1 * 1) (onats (g.b)) H29 (.int .i64 (eI yb)) (onats_at hyb) ?_
        refine Sx.nz 3 (.code (Sx.cat [1, 1, 1, 1, 1, 1, 0, 1] (Sx.bodyOf Try.f23))) [.code (Sx.cat [1, 1, 1, 1, 1, 1, 1] (Sx.bodyOf Try.f23))] [(0, .pointer (some ⟨bg, 0, none⟩)), (1, .int .i64 ((u1 : Nat) : Int)), (5, .pointer (some ⟨k1, 0, none⟩)), (6, .pointer (some ⟨k2, 0, none⟩)), (7, .pointer (some ⟨k3, 0, none⟩)), (84, .bool (decide ((eI yb) ≥ (0 : Int))))] fun b5 => ?_
        refine Sx.br 0 (decide ((eI yb) ≥ (0 : Int))) (fun h_c84 => ?_) (fun h_c84 => ?_)
        · skip
          obtain ⟨pb, rfl⟩ := eI_ge1 h_c84
          obtain ⟨tB, l2, htB, rfl, rfl⟩ := hC1 pb rfl
          refine Sx.dr 0 H29 [17, 15] [15] (LJ := [.blk k3 (.cells #[.int .i64 ((kd : Nat) : Int), .int .i64 0, .int .i64 (((numb l1.r v).2 : Nat) : Int), .slice A2 n1 c1, .slice A1 (0 + 1) cap1] 32), .blk k1 (.cells #[.map (some bt), .map (some br)] 68)]) (by kernel_rfl) fun w18 H30 => ?_
          refine Sx.tk [(0, none), (1, some (0, [13, 14, 15])), (2, none), (3, none), (4, none), (5, none), (7, none), (10, some (1, [11, 12, 13, 14, 15]))] (fun _ => (H30.sub [17, 15] (by kernel_rfl))) ?_
          refine Sx.nmx ?_
          intro zx7
          refine Sx.on 6 ?_
          refine Sx.l 0 0 H30 ?_
          refine Sx.bk (x := zx7) 6 (fun _ => (H30.sub [17, 15] (by kernel_rfl))) ?_
          refine Sx.tvg 8 [9, 11, 12, 13, 14, 15] wb4 u1 1 nk4 bC4 (by omega) (fun _ => (H30.sub [17, 15] (by kernel_rfl))) ?_
          refine Sx.nmx ?_
          intro zx8
          refine Sx.on 9 ?_
          refine Sx.lr 0 3 3 1 3 wb4 bC4 nk4 (u1 * 1) (onats (g.b)) H30 (.int .i64 ((pb : Nat) : Int)) (onats_some hyb) ?_
          refine Sx.bk (x := zx8) 9 (fun _ => (H30.sub [17, 15] (by kernel_rfl))) ?_
          refine Sx.nmx ?_
          intro zx9
          refine Sx.on 11 ?_
          obtain ⟨S11, H31⟩ := G_close H30 [0, 0, 0, 0, 0, 0, 0, 0, 0, 0, 0] (bg := bg) (g := g) ⟨(kA4, kC4), (aA4, aC4), ((some ⟨wb4, 0, none⟩), bC4), (rA4, rC4), (lA4, lC4), (oA4, oC4), (nA4, nC4), mbt4, mbr4, msl4, mS4, nk4, no4⟩ (by kernel_rfl)
          obtain ⟨ktB, utB, rtB, otB, atB⟩ := tB
          refine Sx.c 0 [0, 2, 0] H31 (fun Hp6 R6 hR6 => ih S11 bg g pb bt br (⟨l1.t, (numb l1.r v).1⟩ : Nams) w18 R6 Hp6 _ l2 htB (fun S12 S13 p2 w19 G6 => hR6 _ _ _ G6 fun H32 => ?_))
          refine Sx.bk (x := zx9) 11 (fun _ => (H32.sub [8, 6] (by kernel_rfl))) ?_
          refine Sx.nmx ?_
          intro zx10
          refine Sx.on 12 ?_
          refine Sx.nw 0 H32 fun k5 w20 H33 => ?_
          refine Sx.bk (x := zx10) 12 (fun _ => (H33.sub [8, 6] (by kernel_rfl))) ?_
          refine Sx.nmx ?_
          intro zx11
          refine Sx.on 13 ?_
          refine Sx.ap 0 10 11 72 1 0 32 5 23 1 k5 A1 cap1 (0 + 1) ([] ++ [.int .i64 ((ktA : Nat) : Int), .int .i64 ((utA : Nat) : Int), .int .i64 ((rtA : Nat) : Int), .slice p1.A p1.na p1.ca, .slice p1.B p1.nb p1.cb]) [.int .i64 ((ktB : Nat) : Int), .int .i64 ((utB : Nat) : Int), .int .i64 ((rtB : Nat) : Int), .slice p2.A p2.na p2.ca, .slice p2.B p2.nb p2.cb] H33 (by omega) (by omega) rfl fun A3 cap2 w21 H34 => ?_
          refine Sx.bk (x := zx11) 13 (fun _ => (H34.sub [8, 6] (by kernel_rfl))) ?_
          refine Sx.tk [(14, none)] (fun _ => (H34.sub [8, 6] (by kernel_rfl))) ?_
          refine Sx.nmx ?_
          intro zx12
          refine Sx.on 15 ?_
          refine Sx.s 0 8 H34 fun w22 H35 => ?_
          refine Sx.bk (x := zx12) 15 (fun h => Sx.nope h (by kernel_rfl)) ?_
          refine Sx.dn ?_
          refine Sx.nz 1 (.code (Sx.cat [1, 1, 1, 1, 1, 1, 1] (Sx.bodyOf Try.f23))) [] [(6, .pointer (some ⟨k2, 0, none⟩)), (7, .pointer (some ⟨k3, 0, none⟩))] fun b6 => ?_
          refine Sx.l 2 8 H35 ?_
          refine Sx.s 0 7 H35 fun w23 H36 => ?_
          refine Sx.rt 3 [7] H36 (.agg #[.int .i64 ((kd : Nat) : Int), .int .i64 0, .int .i64 (((numb l1.r v).2 : Nat) : Int), .slice A2 n1 c1, .slice A3 (0 + 1 + 1) cap2]) ?_
          obtain ⟨S14, H37⟩ := ty_make (e := 32) (cap := cap2) (n := (0 + 1 + 1)) (A := A2) (B := A3) (Sa := S10) (l := [(p1, Ty.mk ktA utA rtA otA atA, S7), (p2, Ty.mk ktB utB rtB otB atB, S13)]) (ops := ops) (na := n1) (ca := c1) H36 [10, 4, 4, 3] kd 0 ((numb l1.r v).2) (by kernel_rfl) hn1 ⟨hc1, by have := whole_len hw; omega, by simp⟩ rfl
          subst hL0
          exact Gx.ret_as (by rfl) (hK S12 S14 ⟨A2, n1, c1, A3, 0 + 1 + 1, cap2⟩ _ (H37.pick (a := [GI S12 bg g, mapN bt _, mapN br _, tyI S14 _ _]) [1, 1, 1, 0] (by kernel_rfl)))
        obtain ⟨rfl, rfl⟩ := hC0 (eI_ge0 h_c84)
        obtain ⟨S15, H38⟩ := G_close H29 [0, 0, 0, 0, 0, 0, 0, 0, 0, 0, 0] (bg := bg) (g := g) ⟨(kA4, kC4), (aA4, aC4), ((some ⟨wb4, 0, none⟩), bC4), (rA4, rC4), (lA4, lC4), (oA4, oC4), (nA4, nC4), mbt4, mbr4, msl4, mS4, nk4, no4⟩ (by kernel_rfl)
        refine Sx.nz 2 (.code (Sx.cat [1, 1, 1, 1, 1, 1, 1] (Sx.bodyOf Try.f23))) [] [(6, .pointer (some ⟨k2, 0, none⟩)), (7, .pointer (some ⟨k3, 0, none⟩))] fun b7 => ?_
        refine Sx.l 2 7 H38 ?_
        refine Sx.s 0 6 H38 fun w24 H39 => ?_
        refine Sx.rt 3 [6] H39 (.agg #[.int .i64 ((kd : Nat) : Int), .int .i64 0, .int .i64 (((numb l1.r v).2 : Nat) : Int), .slice A2 n1 c1, .slice A1 (0 + 1) cap1]) ?_
        obtain ⟨S16, H40⟩ := ty_make (e := 32) (cap := cap1) (n := (0 + 1)) (A := A2) (B := A1) (Sa := S10) (l := [(p1, Ty.mk ktA utA rtA otA atA, S7)]) (ops := ops) (na := n1) (ca := c1) H39 [9, 2, 3] kd 0 ((numb l1.r v).2) (by kernel_rfl) hn1 ⟨hc1, by have := whole_len hw; omega, by simp⟩ rfl
        subst hL0
        exact Gx.ret_as (by rfl) (hK S15 S16 ⟨A2, n1, c1, A1, 0 + 1, cap1⟩ _ (H40.pick (a := [GI S15 bg g, mapN bt _, mapN br _, tyI S16 _ _]) [1, 2, 1, 0] (by kernel_rfl)))
      have p_c71 := of_decide_eq_false h_c71
      obtain ⟨yb, hyb, hC0, hC1⟩ := hv0 (by omega)
      refine Sx.nz 2 (.code (Sx.cat [1, 1, 1, 1, 1, 1] (Sx.bodyOf Try.f23))) [] [(0, .pointer (some ⟨bg, 0, none⟩)), (1, .int .i64 ((u1 : Nat) : Int)), (5, .pointer (some ⟨k1, 0, none⟩)), (6, .pointer (some ⟨k2, 0, none⟩)), (7, .pointer (some ⟨k3, 0, none⟩))] fun b8 => ?_
      obtain ⟨⟨⟨kA5, kC5⟩, ⟨aA5, aC5⟩, ⟨bA5, bC5⟩, ⟨rA5, rC5⟩, ⟨lA5, lC5⟩, ⟨oA5, oC5⟩, ⟨nA5, nC5⟩, mbt5, mbr5, msl5, mS5, nk5, no5⟩, H41⟩ := G_open H26 0 (S := S9) (bg := bg) (g := g) (by kernel_rfl)
      obtain ⟨lk5, la5, lb5, lr5, ll5, lo5, ln5, ls5⟩ := G_len H41
      simp only at lk5 la5 lb5 lr5 ll5 lo5 ln5 ls5
      have hnlb5 : u1 < nk5 := by rw [← lb5]; exact at_lt hyb
      obtain ⟨wb5, rfl⟩ := H41.row 3 (A := bA5) (e := 3) (sz := 1) (cap := bC5) (n := nk5) (xs := (onats (g.b))) (by kernel_rfl) (by omega)
      refine Sx.l 6 0 H41 ?_
      refine Sx.ir 1 wb5 u1 1 nk5 bC5 (by omega) ?_
      refine Sx.lr 0 3 3 1 3 wb5 bC5 nk5 (u1 * 1) (onats (g.b)) H41 (.int .i64 (eI yb)) (onats_at hyb) ?_
      refine Sx.br 3 (decide ((eI yb) ≥ (0 : Int))) (fun h_c84 => ?_) (fun h_c84 => ?_)
      · skip
        obtain ⟨pb, rfl⟩ := eI_ge1 h_c84
        obtain ⟨tB, l2, htB, rfl, rfl⟩ := hC1 pb rfl
        refine Sx.dr 0 H41 [17, 15] [15] (LJ := [.blk k3 (.cells #[.int .i64 ((kd : Nat) : Int), .int .i64 0, .int .i64 0, .slice A2 n1 c1, .slice A1 (0 + 1) cap1] 32), .blk k1 (.cells #[.map (some bt), .map (some br)] 68)]) (by kernel_rfl) fun w25 H42 => ?_
        refine Sx.tk [(0, none), (1, some (0, [13, 14, 15])), (2, none), (3, none), (4, none), (5, none), (7, none), (10, some (1, [11, 12, 13, 14, 15]))] (fun _ => (H42.sub [17, 15] (by kernel_rfl))) ?_
        refine Sx.nmx ?_
        intro zx13
        refine Sx.on 6 ?_
        refine Sx.l 0 0 H42 ?_
        refine Sx.bk (x := zx13) 6 (fun _ => (H42.sub [17, 15] (by kernel_rfl))) ?_
        refine Sx.tvg 8 [9, 11, 12, 13, 14, 15] wb5 u1 1 nk5 bC5 (by omega) (fun _ => (H42.sub [17, 15] (by kernel_rfl))) ?_
        refine Sx.nmx ?_
        intro zx14
        refine Sx.on 9 ?_
        refine Sx.lr 0 3 3 1 3 wb5 bC5 nk5 (u1 * 1) (onats (g.b)) H42 (.int .i64 ((pb : Nat) : Int)) (onats_some hyb) ?_
        refine Sx.bk (x := zx14) 9 (fun _ => (H42.sub [17, 15] (by kernel_rfl))) ?_
        refine Sx.nmx ?_
        intro zx15
        refine Sx.on 11 ?_
        obtain ⟨S17, H43⟩ := G_close H42 [0, 0, 0, 0, 0, 0, 0, 0, 0, 0, 0] (bg := bg) (g := g) ⟨(kA5, kC5), (aA5, aC5), ((some ⟨wb5, 0, none⟩), bC5), (rA5, rC5), (lA5, lC5), (oA5, oC5), (nA5, nC5), mbt5, mbr5, msl5, mS5, nk5, no5⟩ (by kernel_rfl)
        obtain ⟨ktB, utB, rtB, otB, atB⟩ := tB
        refine Sx.c 0 [0, 1, 1] H43 (fun Hp7 R7 hR7 => ih S17 bg g pb bt br l1 w25 R7 Hp7 _ l2 htB (fun S18 S19 p3 w26 G7 => hR7 _ _ _ G7 fun H44 => ?_))
        refine Sx.bk (x := zx15) 11 (fun _ => (H44.sub [8, 6] (by kernel_rfl))) ?_
        refine Sx.nmx ?_
        intro zx16
        refine Sx.on 12 ?_
        refine Sx.nw 0 H44 fun k6 w27 H45 => ?_
        refine Sx.bk (x := zx16) 12 (fun _ => (H45.sub [8, 6] (by kernel_rfl))) ?_
        refine Sx.nmx ?_
        intro zx17
        refine Sx.on 13 ?_
        refine Sx.ap 0 10 11 72 1 0 32 5 23 1 k6 A1 cap1 (0 + 1) ([] ++ [.int .i64 ((ktA : Nat) : Int), .int .i64 ((utA : Nat) : Int), .int .i64 ((rtA : Nat) : Int), .slice p1.A p1.na p1.ca, .slice p1.B p1.nb p1.cb]) [.int .i64 ((ktB : Nat) : Int), .int .i64 ((utB : Nat) : Int), .int .i64 ((rtB : Nat) : Int), .slice p3.A p3.na p3.ca, .slice p3.B p3.nb p3.cb] H45 (by omega) (by omega) rfl fun A4 cap3 w28 H46 => ?_
        refine Sx.bk (x := zx17) 13 (fun _ => (H46.sub [8, 6] (by kernel_rfl))) ?_
        refine Sx.tk [(14, none)] (fun _ => (H46.sub [8, 6] (by kernel_rfl))) ?_
        refine Sx.nmx ?_
        intro zx18
        refine Sx.on 15 ?_
        refine Sx.s 0 8 H46 fun w29 H47 => ?_
        refine Sx.bk (x := zx18) 15 (fun h => Sx.nope h (by kernel_rfl)) ?_
        refine Sx.dn ?_
        refine Sx.nz 1 (.code (Sx.cat [1, 1, 1, 1, 1, 1, 1] (Sx.bodyOf Try.f23))) [] [(6, .pointer (some ⟨k2, 0, none⟩)), (7, .pointer (some ⟨k3, 0, none⟩))] fun b9 => ?_
        refine Sx.l 2 8 H47 ?_
        refine Sx.s 0 7 H47 fun w30 H48 => ?_
        refine Sx.rt 3 [7] H48 (.agg #[.int .i64 ((kd : Nat) : Int), .int .i64 0, .int .i64 0, .slice A2 n1 c1, .slice A4 (0 + 1 + 1) cap3]) ?_
        obtain ⟨S20, H49⟩ := ty_make (e := 32) (cap := cap3) (n := (0 + 1 + 1)) (A := A2) (B := A4) (Sa := S10) (l := [(p1, Ty.mk ktA utA rtA otA atA, S7), (p3, Ty.mk ktB utB rtB otB atB, S19)]) (ops := ops) (na := n1) (ca := c1) H48 [10, 4, 4, 3] kd 0 0 (by kernel_rfl) hn1 ⟨hc1, by have := whole_len hw; omega, by simp⟩ rfl
        subst hL0
        exact Gx.ret_as (by rfl) (hK S18 S20 ⟨A2, n1, c1, A4, 0 + 1 + 1, cap3⟩ _ (H49.pick (a := [GI S18 bg g, mapN bt _, mapN br _, tyI S20 _ _]) [1, 1, 1, 0] (by kernel_rfl)))
      obtain ⟨rfl, rfl⟩ := hC0 (eI_ge0 h_c84)
      obtain ⟨S21, H50⟩ := G_close H41 [0, 0, 0, 0, 0, 0, 0, 0, 0, 0, 0] (bg := bg) (g := g) ⟨(kA5, kC5), (aA5, aC5), ((some ⟨wb5, 0, none⟩), bC5), (rA5, rC5), (lA5, lC5), (oA5, oC5), (nA5, nC5), mbt5, mbr5, msl5, mS5, nk5, no5⟩ (by kernel_rfl)
      refine Sx.nz 2 (.code (Sx.cat [1, 1, 1, 1, 1, 1, 1] (Sx.bodyOf Try.f23))) [] [(6, .pointer (some ⟨k2, 0, none⟩)), (7, .pointer (some ⟨k3, 0, none⟩))] fun b10 => ?_
      refine Sx.l 2 7 H50 ?_
      refine Sx.s 0 6 H50 fun w31 H51 => ?_
      refine Sx.rt 3 [6] H51 (.agg #[.int .i64 ((kd : Nat) : Int), .int .i64 0, .int .i64 0, .slice A2 n1 c1, .slice A1 (0 + 1) cap1]) ?_
      obtain ⟨S22, H52⟩ := ty_make (e := 32) (cap := cap1) (n := (0 + 1)) (A := A2) (B := A1) (Sa := S10) (l := [(p1, Ty.mk ktA utA rtA otA atA, S7)]) (ops := ops) (na := n1) (ca := c1) H51 [9, 1, 3] kd 0 0 (by kernel_rfl) hn1 ⟨hc1, by have := whole_len hw; omega, by simp⟩ rfl
      subst hL0
      exact Gx.ret_as (by rfl) (hK S21 S22 ⟨A2, n1, c1, A1, 0 + 1, cap1⟩ _ (H52.pick (a := [GI S21 bg g, mapN bt _, mapN br _, tyI S22 _ _]) [1, 1, 1, 0] (by kernel_rfl)))
    have p_c55 := Gx.k0 h_c55
    have hC := hB.1 (by omega)
    obtain ⟨yb, hyb, hC0, hC1⟩ := hC
    refine Sx.nz 2 (.code (Sx.cat [1, 1, 1, 1, 1, 1] (Sx.bodyOf Try.f23))) [] [(0, .pointer (some ⟨bg, 0, none⟩)), (1, .int .i64 ((u1 : Nat) : Int)), (5, .pointer (some ⟨k1, 0, none⟩)), (6, .pointer (some ⟨k2, 0, none⟩)), (7, .pointer (some ⟨k3, 0, none⟩))] fun b11 => ?_
    obtain ⟨⟨⟨kA6, kC6⟩, ⟨aA6, aC6⟩, ⟨bA6, bC6⟩, ⟨rA6, rC6⟩, ⟨lA6, lC6⟩, ⟨oA6, oC6⟩, ⟨nA6, nC6⟩, mbt6, mbr6, msl6, mS6, nk6, no6⟩, H53⟩ := G_open H22 0 (S := S6) (bg := bg) (g := g) (by kernel_rfl)
    obtain ⟨lk6, la6, lb6, lr6, ll6, lo6, ln6, ls6⟩ := G_len H53
    simp only at lk6 la6 lb6 lr6 ll6 lo6 ln6 ls6
    have hnlb6 : u1 < nk6 := by rw [← lb6]; exact at_lt hyb
    obtain ⟨wb6, rfl⟩ := H53.row 3 (A := bA6) (e := 3) (sz := 1) (cap := bC6) (n := nk6) (xs := (onats (g.b))) (by kernel_rfl) (by omega)
    refine Sx.l 6 0 H53 ?_
    refine Sx.ir 1 wb6 u1 1 nk6 bC6 (by omega) ?_
    refine Sx.lr 0 3 3 1 3 wb6 bC6 nk6 (u1 * 1) (onats (g.b)) H53 (.int .i64 (eI yb)) (onats_at hyb) ?_
    refine Sx.br 3 (decide ((eI yb) ≥ (0 : Int))) (fun h_c84 => ?_) (fun h_c84 => ?_)
    · skip
      obtain ⟨pb, rfl⟩ := eI_ge1 h_c84
      obtain ⟨tB, l2, htB, rfl, rfl⟩ := hC1 pb rfl
      refine Sx.dr 0 H53 [16, 14] [15] (LJ := [.blk k3 (.cells #[.int .i64 ((kd : Nat) : Int), .int .i64 0, .int .i64 0, .slice none 0 0, .slice A1 (0 + 1) cap1] 32), .blk k1 (.cells #[.map (some bt), .map (some br)] 68)]) (by kernel_rfl) fun w32 H54 => ?_
      refine Sx.tk [(0, none), (1, some (0, [13, 14, 15])), (2, none), (3, none), (4, none), (5, none), (7, none), (10, some (1, [11, 12, 13, 14, 15]))] (fun _ => (H54.sub [16, 14] (by kernel_rfl))) ?_
      refine Sx.nmx ?_
      intro zx19
      refine Sx.on 6 ?_
      refine Sx.l 0 0 H54 ?_
      refine Sx.bk (x := zx19) 6 (fun _ => (H54.sub [16, 14] (by kernel_rfl))) ?_
      refine Sx.tvg 8 [9, 11, 12, 13, 14, 15] wb6 u1 1 nk6 bC6 (by omega) (fun _ => (H54.sub [16, 14] (by kernel_rfl))) ?_
      refine Sx.nmx ?_
      intro zx20
      refine Sx.on 9 ?_
      refine Sx.lr 0 3 3 1 3 wb6 bC6 nk6 (u1 * 1) (onats (g.b)) H54 (.int .i64 ((pb : Nat) : Int)) (onats_some hyb) ?_
      refine Sx.bk (x := zx20) 9 (fun _ => (H54.sub [16, 14] (by kernel_rfl))) ?_
      refine Sx.nmx ?_
      intro zx21
      refine Sx.on 11 ?_
      obtain ⟨S23, H55⟩ := G_close H54 [0, 0, 0, 0, 0, 0, 0, 0, 0, 0, 0] (bg := bg) (g := g) ⟨(kA6, kC6), (aA6, aC6), ((some ⟨wb6, 0, none⟩), bC6), (rA6, rC6), (lA6, lC6), (oA6, oC6), (nA6, nC6), mbt6, mbr6, msl6, mS6, nk6, no6⟩ (by kernel_rfl)
      obtain ⟨ktB, utB, rtB, otB, atB⟩ := tB
      refine Sx.c 0 [0, 0, 0] H55 (fun Hp8 R8 hR8 => ih S23 bg g pb bt br l1 w32 R8 Hp8 _ l2 htB (fun S24 S25 p4 w33 G8 => hR8 _ _ _ G8 fun H56 => ?_))
      refine Sx.bk (x := zx21) 11 (fun _ => (H56.sub [7, 5] (by kernel_rfl))) ?_
      refine Sx.nmx ?_
      intro zx22
      refine Sx.on 12 ?_
      refine Sx.nw 0 H56 fun k7 w34 H57 => ?_
      refine Sx.bk (x := zx22) 12 (fun _ => (H57.sub [7, 5] (by kernel_rfl))) ?_
      refine Sx.nmx ?_
      intro zx23
      refine Sx.on 13 ?_
      refine Sx.ap 0 9 10 72 1 0 32 5 23 1 k7 A1 cap1 (0 + 1) ([] ++ [.int .i64 ((ktA : Nat) : Int), .int .i64 ((utA : Nat) : Int), .int .i64 ((rtA : Nat) : Int), .slice p1.A p1.na p1.ca, .slice p1.B p1.nb p1.cb]) [.int .i64 ((ktB : Nat) : Int), .int .i64 ((utB : Nat) : Int), .int .i64 ((rtB : Nat) : Int), .slice p4.A p4.na p4.ca, .slice p4.B p4.nb p4.cb] H57 (by omega) (by omega) rfl fun A5 cap4 w35 H58 => ?_
      refine Sx.bk (x := zx23) 13 (fun _ => (H58.sub [7, 5] (by kernel_rfl))) ?_
      refine Sx.tk [(14, none)] (fun _ => (H58.sub [7, 5] (by kernel_rfl))) ?_
      refine Sx.nmx ?_
      intro zx24
      refine Sx.on 15 ?_
      refine Sx.s 0 7 H58 fun w36 H59 => ?_
      refine Sx.bk (x := zx24) 15 (fun h => Sx.nope h (by kernel_rfl)) ?_
      refine Sx.dn ?_
      refine Sx.nz 1 (.code (Sx.cat [1, 1, 1, 1, 1, 1, 1] (Sx.bodyOf Try.f23))) [] [(6, .pointer (some ⟨k2, 0, none⟩)), (7, .pointer (some ⟨k3, 0, none⟩))] fun b12 => ?_
      refine Sx.l 2 7 H59 ?_
      refine Sx.s 0 6 H59 fun w37 H60 => ?_
      refine Sx.rt 3 [6] H60 (.agg #[.int .i64 ((kd : Nat) : Int), .int .i64 0, .int .i64 0, .slice none 0 0, .slice A5 (0 + 1 + 1) cap4]) ?_
      have H61 := H60.add (Gx.Ext.refl _) (it := strI (fun _ => False) none []) strI_nil (fun _ h => h.elim)
      obtain ⟨S26, H62⟩ := ty_make (e := 32) (cap := cap4) (n := (0 + 1 + 1)) (A := none) (B := A5) (Sa := (fun _ => False)) (l := [(p1, Ty.mk ktA utA rtA otA atA, S7), (p4, Ty.mk ktB utB rtB otB atB, S25)]) (ops := []) (na := 0) (ca := 0) H61 [9, 10, 4, 3] kd 0 0 (by kernel_rfl) rfl ⟨Nat.le_refl _, by simp, by simp⟩ rfl
      subst hL0
      exact Gx.ret_as (by rfl) (hK S24 S26 ⟨none, 0, 0, A5, 0 + 1 + 1, cap4⟩ _ (H62.pick (a := [GI S24 bg g, mapN bt _, mapN br _, tyI S26 _ _]) [1, 1, 1, 0] (by kernel_rfl)))
    obtain ⟨rfl, rfl⟩ := hC0 (eI_ge0 h_c84)
    obtain ⟨S27, H63⟩ := G_close H53 [0, 0, 0, 0, 0, 0, 0, 0, 0, 0, 0] (bg := bg) (g := g) ⟨(kA6, kC6), (aA6, aC6), ((some ⟨wb6, 0, none⟩), bC6), (rA6, rC6), (lA6, lC6), (oA6, oC6), (nA6, nC6), mbt6, mbr6, msl6, mS6, nk6, no6⟩ (by kernel_rfl)
    refine Sx.nz 2 (.code (Sx.cat [1, 1, 1, 1, 1, 1, 1] (Sx.bodyOf Try.f23))) [] [(6, .pointer (some ⟨k2, 0, none⟩)), (7, .pointer (some ⟨k3, 0, none⟩))] fun b13 => ?_
    refine Sx.l 2 6 H63 ?_
    refine Sx.s 0 5 H63 fun w38 H64 => ?_
    refine Sx.rt 3 [5] H64 (.agg #[.int .i64 ((kd : Nat) : Int), .int .i64 0, .int .i64 0, .slice none 0 0, .slice A1 (0 + 1) cap1]) ?_
    have H65 := H64.add (Gx.Ext.refl _) (it := strI (fun _ => False) none []) strI_nil (fun _ h => h.elim)
    obtain ⟨S28, H66⟩ := ty_make (e := 32) (cap := cap1) (n := (0 + 1)) (A := none) (B := A1) (Sa := (fun _ => False)) (l := [(p1, Ty.mk ktA utA rtA otA atA, S7)]) (ops := []) (na := 0) (ca := 0) H65 [8, 8, 3] kd 0 0 (by kernel_rfl) rfl ⟨Nat.le_refl _, by simp, by simp⟩ rfl
    subst hL0
    exact Gx.ret_as (by rfl) (hK S27 S28 ⟨none, 0, 0, A1, 0 + 1, cap1⟩ _ (H66.pick (a := [GI S27 bg g, mapN bt _, mapN br _, tyI S28 _ _]) [1, 1, 1, 0] (by kernel_rfl)))
  have hB := hA0 (eI_ge0 h_c37)
  obtain ⟨S29, H67⟩ := G_close H15 [0, 0, 0, 0, 0, 0, 0, 0, 0, 0, 0] (bg := bg) (g := g) ⟨(kA2, kC2), ((some ⟨wa2, 0, none⟩), aC2), (bA2, bC2), (rA2, rC2), (lA2, lC2), (oA2, oC2), (nA2, nC2), mbt2, mbr2, msl2, mS2, nk2, no2⟩ (by kernel_rfl)
  refine Sx.nz 2 (.code (Sx.cat [1, 1, 1, 1, 1] (Sx.bodyOf Try.f23))) [] [(0, .pointer (some ⟨bg, 0, none⟩)), (1, .int .i64 ((u1 : Nat) : Int)), (5, .pointer (some ⟨k1, 0, none⟩)), (6, .pointer (some ⟨k2, 0, none⟩)), (7, .pointer (some ⟨k3, 0, none⟩))] fun b14 => ?_
  refine Sx.l 4 5 H67 ?_
  refine Sx.br 3 (((kd : Nat) : Int) == (6 : Int)) (fun h_c55 => ?_) (fun h_c55 => ?_)
  · skip
    have p_c55 := Gx.k1 h_c55
    obtain ⟨q, ops, v, hq, hw, hv0, hv1⟩ := hB.2 (by omega)
    obtain ⟨⟨⟨kA7, kC7⟩, ⟨aA7, aC7⟩, ⟨bA7, bC7⟩, ⟨rA7, rC7⟩, ⟨lA7, lC7⟩, ⟨oA7, oC7⟩, ⟨nA7, nC7⟩, mbt7, mbr7, msl7, mS7, nk7, no7⟩, H68⟩ := G_open H67 0 (S := S29) (bg := bg) (g := g) (by kernel_rfl)
    obtain ⟨lk7, la7, lb7, lr7, ll7, lo7, ln7, ls7⟩ := G_len H68
    simp only at lk7 la7 lb7 lr7 ll7 lo7 ln7 ls7
    have hnlr7 : u1 < nk7 := by rw [← lr7]; exact at_lt hq
    obtain ⟨wr7, rfl⟩ := H68.row 4 (A := rA7) (e := 3) (sz := 1) (cap := rC7) (n := nk7) (xs := (nats (g.row))) (by kernel_rfl) (by omega)
    refine Sx.l 6 0 H68 ?_
    refine Sx.ir 1 wr7 u1 1 nk7 rC7 (by omega) ?_
    refine Sx.lr 0 4 3 1 3 wr7 rC7 nk7 (u1 * 1) (nats (g.row)) H68 (.int .i64 ((q : Nat) : Int)) (nats_at hq) ?_
    obtain ⟨S30, H69⟩ := G_close H68 [0, 0, 0, 0, 0, 0, 0, 0, 0, 0, 0] (bg := bg) (g := g) ⟨(kA7, kC7), (aA7, aC7), (bA7, bC7), ((some ⟨wr7, 0, none⟩), rC7), (lA7, lC7), (oA7, oC7), (nA7, nC7), mbt7, mbr7, msl7, mS7, nk7, no7⟩ (by kernel_rfl)
    refine Sx.c 0 [0] H69 (fun Hp9 R9 hR9 => Whole_c S30 bg g q w5 R9 Hp9 _ v ops hw (fun S31 S32 A6 n2 c2 w39 G9 hn2 hc2 => hR9 _ _ _ G9 fun H70 => ?_))
    refine Sx.nz 7 (.code (Sx.cat [1, 1, 1, 1, 1, 0, 1, 0, 1] (Sx.bodyOf Try.f23))) [.code (Sx.cat [1, 1, 1, 1, 1, 1] (Sx.bodyOf Try.f23))] [(0, .pointer (some ⟨bg, 0, none⟩)), (1, .int .i64 ((u1 : Nat) : Int)), (5, .pointer (some ⟨k1, 0, none⟩)), (6, .pointer (some ⟨k2, 0, none⟩)), (7, .pointer (some ⟨k3, 0, none⟩)), (8, .slice A6 n2 c2), (9, .int .i64 ((v : Nat) : Int))] fun b15 => ?_
    refine Sx.s 4 6 H70 fun w40 H71 => ?_
    refine Sx.br 8 (decide (((v : Nat) : Int) > (0 : Int))) (fun h_c71 => ?_) (fun h_c71 => ?_)
    · skip
      have p_c71 := of_decide_eq_true h_c71
      obtain ⟨hlz, yb, hyb, hC0, hC1⟩ := hv1 (by omega)
      refine Sx.l 2 4 H71 ?_
      refine Sx.c 1 [3] H71 (fun Hp10 R10 hR10 => number_c br l.r v w40 R10 Hp10 hlz (fun w41 G10 => hR10 _ _ _ G10 fun H72 => ?_))
      refine Sx.s 1 6 H72 fun w42 H73 => ?_
      obtain ⟨⟨⟨kA8, kC8⟩, ⟨aA8, aC8⟩, ⟨bA8, bC8⟩, ⟨rA8, rC8⟩, ⟨lA8, lC8⟩, ⟨oA8, oC8⟩, ⟨nA8, nC8⟩, mbt8, mbr8, msl8, mS8, nk8, no8⟩, H74⟩ := G_open H73 1 (S := S31) (bg := bg) (g := g) (by kernel_rfl)
      obtain ⟨lk8, la8, lb8, lr8, ll8, lo8, ln8, ls8⟩ := G_len H74
      simp only at lk8 la8 lb8 lr8 ll8 lo8 ln8 ls8
      have hnlb8 : u1 < nk8 := by rw [← lb8]; exact at_lt hyb
      obtain ⟨wb8, rfl⟩ := H74.row 3 (A := bA8) (e := 3) (sz := 1) (cap := bC8) (n := nk8) (xs := (onats (g.b))) (by kernel_rfl) (by omega)
      refine Sx.l 8 0 H74 ?_
      refine Sx.ir 1 wb8 u1 1 nk8 bC8 (by omega) ?_
      refine Sx.lr 0 3 3 1 3 wb8 bC8 nk8 (u1 * 1) (onats (g.b)) H74 (.int .i64 (eI yb)) (onats_at hyb) ?_
      refine Sx.nz 3 (.code (Sx.cat [1, 1, 1, 1, 1, 1, 0, 1] (Sx.bodyOf Try.f23))) [.code (Sx.cat [1, 1, 1, 1, 1, 1, 1] (Sx.bodyOf Try.f23))] [(0, .pointer (some ⟨bg, 0, none⟩)), (1, .int .i64 ((u1 : Nat) : Int)), (5, .pointer (some ⟨k1, 0, none⟩)), (6, .pointer (some ⟨k2, 0, none⟩)), (7, .pointer (some ⟨k3, 0, none⟩)), (84, .bool (decide ((eI yb) ≥ (0 : Int))))] fun b16 => ?_
      refine Sx.br 0 (decide ((eI yb) ≥ (0 : Int))) (fun h_c84 => ?_) (fun h_c84 => ?_)
      · skip
        obtain ⟨pb, rfl⟩ := eI_ge1 h_c84
        obtain ⟨tB, l2, htB, rfl, rfl⟩ := hC1 pb rfl
        refine Sx.dr 0 H74 [16, 14] [15] (LJ := [.blk k3 (.cells #[.int .i64 ((kd : Nat) : Int), .int .i64 0, .int .i64 (((numb l.r v).2 : Nat) : Int), .slice A6 n2 c2, .slice none 0 0] 32), .blk k1 (.cells #[.map (some bt), .map (some br)] 68)]) (by kernel_rfl) fun w43 H75 => ?_
        refine Sx.tk [(0, none), (1, some (0, [13, 14, 15])), (2, none), (3, none), (4, none), (5, none), (7, none), (10, some (1, [11, 12, 13, 14, 15]))] (fun _ => (H75.sub [16, 14] (by kernel_rfl))) ?_
        refine Sx.nmx ?_
        intro zx25
        refine Sx.on 6 ?_
        refine Sx.l 0 0 H75 ?_
        refine Sx.bk (x := zx25) 6 (fun _ => (H75.sub [16, 14] (by kernel_rfl))) ?_
        refine Sx.tvg 8 [9, 11, 12, 13, 14, 15] wb8 u1 1 nk8 bC8 (by omega) (fun _ => (H75.sub [16, 14] (by kernel_rfl))) ?_
        refine Sx.nmx ?_
        intro zx26
        refine Sx.on 9 ?_
        refine Sx.lr 0 3 3 1 3 wb8 bC8 nk8 (u1 * 1) (onats (g.b)) H75 (.int .i64 ((pb : Nat) : Int)) (onats_some hyb) ?_
        refine Sx.bk (x := zx26) 9 (fun _ => (H75.sub [16, 14] (by kernel_rfl))) ?_
        refine Sx.nmx ?_
        intro zx27
        refine Sx.on 11 ?_
        obtain ⟨S33, H76⟩ := G_close H75 [0, 0, 0, 0, 0, 0, 0, 0, 0, 0, 0] (bg := bg) (g := g) ⟨(kA8, kC8), (aA8, aC8), ((some ⟨wb8, 0, none⟩), bC8), (rA8, rC8), (lA8, lC8), (oA8, oC8), (nA8, nC8), mbt8, mbr8, msl8, mS8, nk8, no8⟩ (by kernel_rfl)
        obtain ⟨ktB, utB, rtB, otB, atB⟩ := tB
        refine Sx.c 0 [0, 2, 0] H76 (fun Hp11 R11 hR11 => ih S33 bg g pb bt br (⟨l.t, (numb l.r v).1⟩ : Nams) w43 R11 Hp11 _ l2 htB (fun S34 S35 p5 w44 G11 => hR11 _ _ _ G11 fun H77 => ?_))
        refine Sx.bk (x := zx27) 11 (fun _ => (H77.sub [7, 5] (by kernel_rfl))) ?_
        refine Sx.nmx ?_
        intro zx28
        refine Sx.on 12 ?_
        refine Sx.nw 0 H77 fun k8 w45 H78 => ?_
        refine Sx.bk (x := zx28) 12 (fun _ => (H78.sub [7, 5] (by kernel_rfl))) ?_
        refine Sx.nmx ?_
        intro zx29
        refine Sx.on 13 ?_
        have H79 := H78.add (Gx.Ext.refl _) (it := .own 32 5 none 0 0 []) (World.ownsRow_nil _ _ _ _) (fun _ h => by cases h)
        refine Sx.ap 0 9 8 72 1 0 32 5 23 1 k8 none 0 0 ([]) [.int .i64 ((ktB : Nat) : Int), .int .i64 ((utB : Nat) : Int), .int .i64 ((rtB : Nat) : Int), .slice p5.A p5.na p5.ca, .slice p5.B p5.nb p5.cb] H79 (by omega) (by omega) rfl fun A7 cap5 w46 H80 => ?_
        refine Sx.bk (x := zx29) 13 (fun _ => (H80.sub [7, 5] (by kernel_rfl))) ?_
        refine Sx.tk [(14, none)] (fun _ => (H80.sub [7, 5] (by kernel_rfl))) ?_
        refine Sx.nmx ?_
        intro zx30
        refine Sx.on 15 ?_
        refine Sx.s 0 7 H80 fun w47 H81 => ?_
        refine Sx.bk (x := zx30) 15 (fun h => Sx.nope h (by kernel_rfl)) ?_
        refine Sx.dn ?_
        refine Sx.nz 1 (.code (Sx.cat [1, 1, 1, 1, 1, 1, 1] (Sx.bodyOf Try.f23))) [] [(6, .pointer (some ⟨k2, 0, none⟩)), (7, .pointer (some ⟨k3, 0, none⟩))] fun b17 => ?_
        refine Sx.l 2 7 H81 ?_
        refine Sx.s 0 6 H81 fun w48 H82 => ?_
        refine Sx.rt 3 [6] H82 (.agg #[.int .i64 ((kd : Nat) : Int), .int .i64 0, .int .i64 (((numb l.r v).2 : Nat) : Int), .slice A6 n2 c2, .slice A7 (0 + 1) cap5]) ?_
        obtain ⟨S36, H83⟩ := ty_make (e := 32) (cap := cap5) (n := (0 + 1)) (A := A6) (B := A7) (Sa := S32) (l := [(p5, Ty.mk ktB utB rtB otB atB, S35)]) (ops := ops) (na := n2) (ca := c2) H82 [9, 4, 3] kd 0 ((numb l.r v).2) (by kernel_rfl) hn2 ⟨hc2, by have := whole_len hw; omega, by simp⟩ rfl
        subst hL0
        exact Gx.ret_as (by rfl) (hK S34 S36 ⟨A6, n2, c2, A7, 0 + 1, cap5⟩ _ (H83.pick (a := [GI S34 bg g, mapN bt _, mapN br _, tyI S36 _ _]) [1, 1, 1, 0] (by kernel_rfl)))
      obtain ⟨rfl, rfl⟩ := hC0 (eI_ge0 h_c84)
      obtain ⟨S37, H84⟩ := G_close H74 [0, 0, 0, 0, 0, 0, 0, 0, 0, 0, 0] (bg := bg) (g := g) ⟨(kA8, kC8), (aA8, aC8), ((some ⟨wb8, 0, none⟩), bC8), (rA8, rC8), (lA8, lC8), (oA8, oC8), (nA8, nC8), mbt8, mbr8, msl8, mS8, nk8, no8⟩ (by kernel_rfl)
      refine Sx.nz 2 (.code (Sx.cat [1, 1, 1, 1, 1, 1, 1] (Sx.bodyOf Try.f23))) [] [(6, .pointer (some ⟨k2, 0, none⟩)), (7, .pointer (some ⟨k3, 0, none⟩))] fun b18 => ?_
      refine Sx.l 2 6 H84 ?_
      refine Sx.s 0 5 H84 fun w49 H85 => ?_
      refine Sx.rt 3 [5] H85 (.agg #[.int .i64 ((kd : Nat) : Int), .int .i64 0, .int .i64 (((numb l.r v).2 : Nat) : Int), .slice A6 n2 c2, .slice none 0 0]) ?_
      have H86 := H85.add (Gx.Ext.refl _) (it := .own 32 5 none 0 0 []) (World.ownsRow_nil _ _ _ _) (fun _ h => by cases h)
      obtain ⟨S38, H87⟩ := ty_make (e := 32) (cap := 0) (n := 0) (A := A6) (B := none) (Sa := S32) (l := []) (ops := ops) (na := n2) (ca := c2) H86 [7, 2] kd 0 ((numb l.r v).2) (by kernel_rfl) hn2 ⟨hc2, by have := whole_len hw; omega, by simp⟩ rfl
      subst hL0
      exact Gx.ret_as (by rfl) (hK S37 S38 ⟨A6, n2, c2, none, 0, 0⟩ _ (H87.pick (a := [GI S37 bg g, mapN bt _, mapN br _, tyI S38 _ _]) [1, 2, 1, 0] (by kernel_rfl)))
    have p_c71 := of_decide_eq_false h_c71
    obtain ⟨yb, hyb, hC0, hC1⟩ := hv0 (by omega)
    refine Sx.nz 2 (.code (Sx.cat [1, 1, 1, 1, 1, 1] (Sx.bodyOf Try.f23))) [] [(0, .pointer (some ⟨bg, 0, none⟩)), (1, .int .i64 ((u1 : Nat) : Int)), (5, .pointer (some ⟨k1, 0, none⟩)), (6, .pointer (some ⟨k2, 0, none⟩)), (7, .pointer (some ⟨k3, 0, none⟩))] fun b19 => ?_
    obtain ⟨⟨⟨kA9, kC9⟩, ⟨aA9, aC9⟩, ⟨bA9, bC9⟩, ⟨rA9, rC9⟩, ⟨lA9, lC9⟩, ⟨oA9, oC9⟩, ⟨nA9, nC9⟩, mbt9, mbr9, msl9, mS9, nk9, no9⟩, H88⟩ := G_open H71 0 (S := S31) (bg := bg) (g := g) (by kernel_rfl)
    obtain ⟨lk9, la9, lb9, lr9, ll9, lo9, ln9, ls9⟩ := G_len H88
    simp only at lk9 la9 lb9 lr9 ll9 lo9 ln9 ls9
    have hnlb9 : u1 < nk9 := by rw [← lb9]; exact at_lt hyb
    obtain ⟨wb9, rfl⟩ := H88.row 3 (A := bA9) (e := 3) (sz := 1) (cap := bC9) (n := nk9) (xs := (onats (g.b))) (by kernel_rfl) (by omega)
    refine Sx.l 6 0 H88 ?_
    refine Sx.ir 1 wb9 u1 1 nk9 bC9 (by omega) ?_
    refine Sx.lr 0 3 3 1 3 wb9 bC9 nk9 (u1 * 1) (onats (g.b)) H88 (.int .i64 (eI yb)) (onats_at hyb) ?_
    refine Sx.br 3 (decide ((eI yb) ≥ (0 : Int))) (fun h_c84 => ?_) (fun h_c84 => ?_)
    · skip
      obtain ⟨pb, rfl⟩ := eI_ge1 h_c84
      obtain ⟨tB, l2, htB, rfl, rfl⟩ := hC1 pb rfl
      refine Sx.dr 0 H88 [16, 14] [15] (LJ := [.blk k3 (.cells #[.int .i64 ((kd : Nat) : Int), .int .i64 0, .int .i64 0, .slice A6 n2 c2, .slice none 0 0] 32), .blk k1 (.cells #[.map (some bt), .map (some br)] 68)]) (by kernel_rfl) fun w50 H89 => ?_
      refine Sx.tk [(0, none), (1, some (0, [13, 14, 15])), (2, none), (3, none), (4, none), (5, none), (7, none), (10, some (1, [11, 12, 13, 14, 15]))] (fun _ => (H89.sub [16, 14] (by kernel_rfl))) ?_
      refine Sx.nmx ?_
      intro zx31
      refine Sx.on 6 ?_
      refine Sx.l 0 0 H89 ?_
      refine Sx.bk (x := zx31) 6 (fun _ => (H89.sub [16, 14] (by kernel_rfl))) ?_
      refine Sx.tvg 8 [9, 11, 12, 13, 14, 15] wb9 u1 1 nk9 bC9 (by omega) (fun _ => (H89.sub [16, 14] (by kernel_rfl))) ?_
      refine Sx.nmx ?_
      intro zx32
      refine Sx.on 9 ?_
      refine Sx.lr 0 3 3 1 3 wb9 bC9 nk9 (u1 * 1) (onats (g.b)) H89 (.int .i64 ((pb : Nat) : Int)) (onats_some hyb) ?_
      refine Sx.bk (x := zx32) 9 (fun _ => (H89.sub [16, 14] (by kernel_rfl))) ?_
      refine Sx.nmx ?_
      intro zx33
      refine Sx.on 11 ?_
      obtain ⟨S39, H90⟩ := G_close H89 [0, 0, 0, 0, 0, 0, 0, 0, 0, 0, 0] (bg := bg) (g := g) ⟨(kA9, kC9), (aA9, aC9), ((some ⟨wb9, 0, none⟩), bC9), (rA9, rC9), (lA9, lC9), (oA9, oC9), (nA9, nC9), mbt9, mbr9, msl9, mS9, nk9, no9⟩ (by kernel_rfl)
      obtain ⟨ktB, utB, rtB, otB, atB⟩ := tB
      refine Sx.c 0 [0, 1, 1] H90 (fun Hp12 R12 hR12 => ih S39 bg g pb bt br l w50 R12 Hp12 _ l2 htB (fun S40 S41 p6 w51 G12 => hR12 _ _ _ G12 fun H91 => ?_))
      refine Sx.bk (x := zx33) 11 (fun _ => (H91.sub [7, 5] (by kernel_rfl))) ?_
      refine Sx.nmx ?_
      intro zx34
      refine Sx.on 12 ?_
      refine Sx.nw 0 H91 fun k9 w52 H92 => ?_
      refine Sx.bk (x := zx34) 12 (fun _ => (H92.sub [7, 5] (by kernel_rfl))) ?_
      refine Sx.nmx ?_
      intro zx35
      refine Sx.on 13 ?_
      have H93 := H92.add (Gx.Ext.refl _) (it := .own 32 5 none 0 0 []) (World.ownsRow_nil _ _ _ _) (fun _ h => by cases h)
      refine Sx.ap 0 9 8 72 1 0 32 5 23 1 k9 none 0 0 ([]) [.int .i64 ((ktB : Nat) : Int), .int .i64 ((utB : Nat) : Int), .int .i64 ((rtB : Nat) : Int), .slice p6.A p6.na p6.ca, .slice p6.B p6.nb p6.cb] H93 (by omega) (by omega) rfl fun A8 cap6 w53 H94 => ?_
      refine Sx.bk (x := zx35) 13 (fun _ => (H94.sub [7, 5] (by kernel_rfl))) ?_
      refine Sx.tk [(14, none)] (fun _ => (H94.sub [7, 5] (by kernel_rfl))) ?_
      refine Sx.nmx ?_
      intro zx36
      refine Sx.on 15 ?_
      refine Sx.s 0 7 H94 fun w54 H95 => ?_
      refine Sx.bk (x := zx36) 15 (fun h => Sx.nope h (by kernel_rfl)) ?_
      refine Sx.dn ?_
      refine Sx.nz 1 (.code (Sx.cat [1, 1, 1, 1, 1, 1, 1] (Sx.bodyOf Try.f23))) [] [(6, .pointer (some ⟨k2, 0, none⟩)), (7, .pointer (some ⟨k3, 0, none⟩))] fun b20 => ?_
      refine Sx.l 2 7 H95 ?_
      refine Sx.s 0 6 H95 fun w55 H96 => ?_
      refine Sx.rt 3 [6] H96 (.agg #[.int .i64 ((kd : Nat) : Int), .int .i64 0, .int .i64 0, .slice A6 n2 c2, .slice A8 (0 + 1) cap6]) ?_
      obtain ⟨S42, H97⟩ := ty_make (e := 32) (cap := cap6) (n := (0 + 1)) (A := A6) (B := A8) (Sa := S32) (l := [(p6, Ty.mk ktB utB rtB otB atB, S41)]) (ops := ops) (na := n2) (ca := c2) H96 [9, 4, 3] kd 0 0 (by kernel_rfl) hn2 ⟨hc2, by have := whole_len hw; omega, by simp⟩ rfl
      subst hL0
      exact Gx.ret_as (by rfl) (hK S40 S42 ⟨A6, n2, c2, A8, 0 + 1, cap6⟩ _ (H97.pick (a := [GI S40 bg g, mapN bt _, mapN br _, tyI S42 _ _]) [1, 1, 1, 0] (by kernel_rfl)))
    obtain ⟨rfl, rfl⟩ := hC0 (eI_ge0 h_c84)
    obtain ⟨S43, H98⟩ := G_close H88 [0, 0, 0, 0, 0, 0, 0, 0, 0, 0, 0] (bg := bg) (g := g) ⟨(kA9, kC9), (aA9, aC9), ((some ⟨wb9, 0, none⟩), bC9), (rA9, rC9), (lA9, lC9), (oA9, oC9), (nA9, nC9), mbt9, mbr9, msl9, mS9, nk9, no9⟩ (by kernel_rfl)
    refine Sx.nz 2 (.code (Sx.cat [1, 1, 1, 1, 1, 1, 1] (Sx.bodyOf Try.f23))) [] [(6, .pointer (some ⟨k2, 0, none⟩)), (7, .pointer (some ⟨k3, 0, none⟩))] fun b21 => ?_
    refine Sx.l 2 6 H98 ?_
    refine Sx.s 0 5 H98 fun w56 H99 => ?_
    refine Sx.rt 3 [5] H99 (.agg #[.int .i64 ((kd : Nat) : Int), .int .i64 0, .int .i64 0, .slice A6 n2 c2, .slice none 0 0]) ?_
    have H100 := H99.add (Gx.Ext.refl _) (it := .own 32 5 none 0 0 []) (World.ownsRow_nil _ _ _ _) (fun _ h => by cases h)
    obtain ⟨S44, H101⟩ := ty_make (e := 32) (cap := 0) (n := 0) (A := A6) (B := none) (Sa := S32) (l := []) (ops := ops) (na := n2) (ca := c2) H100 [7, 1] kd 0 0 (by kernel_rfl) hn2 ⟨hc2, by have := whole_len hw; omega, by simp⟩ rfl
    subst hL0
    exact Gx.ret_as (by rfl) (hK S43 S44 ⟨A6, n2, c2, none, 0, 0⟩ _ (H101.pick (a := [GI S43 bg g, mapN bt _, mapN br _, tyI S44 _ _]) [1, 1, 1, 0] (by kernel_rfl)))
  have p_c55 := Gx.k0 h_c55
  have hC := hB.1 (by omega)
  obtain ⟨yb, hyb, hC0, hC1⟩ := hC
  refine Sx.nz 2 (.code (Sx.cat [1, 1, 1, 1, 1, 1] (Sx.bodyOf Try.f23))) [] [(0, .pointer (some ⟨bg, 0, none⟩)), (1, .int .i64 ((u1 : Nat) : Int)), (5, .pointer (some ⟨k1, 0, none⟩)), (6, .pointer (some ⟨k2, 0, none⟩)), (7, .pointer (some ⟨k3, 0, none⟩))] fun b22 => ?_
  obtain ⟨⟨⟨kA10, kC10⟩, ⟨aA10, aC10⟩, ⟨bA10, bC10⟩, ⟨rA10, rC10⟩, ⟨lA10, lC10⟩, ⟨oA10, oC10⟩, ⟨nA10, nC10⟩, mbt10, mbr10, msl10, mS10, nk10, no10⟩, H102⟩ := G_open H67 0 (S := S29) (bg := bg) (g := g) (by kernel_rfl)
  obtain ⟨lk10, la10, lb10, lr10, ll10, lo10, ln10, ls10⟩ := G_len H102
  simp only at lk10 la10 lb10 lr10 ll10 lo10 ln10 ls10
  have hnlb10 : u1 < nk10 := by rw [← lb10]; exact at_lt hyb
  obtain ⟨wb10, rfl⟩ := H102.row 3 (A := bA10) (e := 3) (sz := 1) (cap := bC10) (n := nk10) (xs := (onats (g.b))) (by kernel_rfl) (by omega)
  refine Sx.l 6 0 H102 ?_
  refine Sx.ir 1 wb10 u1 1 nk10 bC10 (by omega) ?_
  refine Sx.lr 0 3 3 1 3 wb10 bC10 nk10 (u1 * 1) (onats (g.b)) H102 (.int .i64 (eI yb)) (onats_at hyb) ?_
  refine Sx.br 3 (decide ((eI yb) ≥ (0 : Int))) (fun h_c84 => ?_) (fun h_c84 => ?_)
  · skip
    obtain ⟨pb, rfl⟩ := eI_ge1 h_c84
    obtain ⟨tB, l2, htB, rfl, rfl⟩ := hC1 pb rfl
    refine Sx.dr 0 H102 [15, 13] [15] (LJ := [.blk k3 (.cells #[.int .i64 ((kd : Nat) : Int), .int .i64 0, .int .i64 0, .slice none 0 0, .slice none 0 0] 32), .blk k1 (.cells #[.map (some bt), .map (some br)] 68)]) (by kernel_rfl) fun w57 H103 => ?_
    refine Sx.tk [(0, none), (1, some (0, [13, 14, 15])), (2, none), (3, none), (4, none), (5, none), (7, none), (10, some (1, [11, 12, 13, 14, 15]))] (fun _ => (H103.sub [15, 13] (by kernel_rfl))) ?_
    refine Sx.nmx ?_
    intro zx37
    refine Sx.on 6 ?_
    refine Sx.l 0 0 H103 ?_
    refine Sx.bk (x := zx37) 6 (fun _ => (H103.sub [15, 13] (by kernel_rfl))) ?_
    refine Sx.tvg 8 [9, 11, 12, 13, 14, 15] wb10 u1 1 nk10 bC10 (by omega) (fun _ => (H103.sub [15, 13] (by kernel_rfl))) ?_
    refine Sx.nmx ?_
    intro zx38
    refine Sx.on 9 ?_
    refine Sx.lr 0 3 3 1 3 wb10 bC10 nk10 (u1 * 1) (onats (g.b)) H103 (.int .i64 ((pb : Nat) : Int)) (onats_some hyb) ?_
    refine Sx.bk (x := zx38) 9 (fun _ => (H103.sub [15, 13] (by kernel_rfl))) ?_
    refine Sx.nmx ?_
    intro zx39
    refine Sx.on 11 ?_
    obtain ⟨S45, H104⟩ := G_close H103 [0, 0, 0, 0, 0, 0, 0, 0, 0, 0, 0] (bg := bg) (g := g) ⟨(kA10, kC10), (aA10, aC10), ((some ⟨wb10, 0, none⟩), bC10), (rA10, rC10), (lA10, lC10), (oA10, oC10), (nA10, nC10), mbt10, mbr10, msl10, mS10, nk10, no10⟩ (by kernel_rfl)
    obtain ⟨ktB, utB, rtB, otB, atB⟩ := tB
    refine Sx.c 0 [0, 0, 0] H104 (fun Hp13 R13 hR13 => ih S45 bg g pb bt br l w57 R13 Hp13 _ l2 htB (fun S46 S47 p7 w58 G13 => hR13 _ _ _ G13 fun H105 => ?_))
    refine Sx.bk (x := zx39) 11 (fun _ => (H105.sub [6, 4] (by kernel_rfl))) ?_
    refine Sx.nmx ?_
    intro zx40
    refine Sx.on 12 ?_
    refine Sx.nw 0 H105 fun k10 w59 H106 => ?_
    refine Sx.bk (x := zx40) 12 (fun _ => (H106.sub [6, 4] (by kernel_rfl))) ?_
    refine Sx.nmx ?_
    intro zx41
    refine Sx.on 13 ?_
    have H107 := H106.add (Gx.Ext.refl _) (it := .own 32 5 none 0 0 []) (World.ownsRow_nil _ _ _ _) (fun _ h => by cases h)
    refine Sx.ap 0 8 7 72 1 0 32 5 23 1 k10 none 0 0 ([]) [.int .i64 ((ktB : Nat) : Int), .int .i64 ((utB : Nat) : Int), .int .i64 ((rtB : Nat) : Int), .slice p7.A p7.na p7.ca, .slice p7.B p7.nb p7.cb] H107 (by omega) (by omega) rfl fun A9 cap7 w60 H108 => ?_
    refine Sx.bk (x := zx41) 13 (fun _ => (H108.sub [6, 4] (by kernel_rfl))) ?_
    refine Sx.tk [(14, none)] (fun _ => (H108.sub [6, 4] (by kernel_rfl))) ?_
    refine Sx.nmx ?_
    intro zx42
    refine Sx.on 15 ?_
    refine Sx.s 0 6 H108 fun w61 H109 => ?_
    refine Sx.bk (x := zx42) 15 (fun h => Sx.nope h (by kernel_rfl)) ?_
    refine Sx.dn ?_
    refine Sx.nz 1 (.code (Sx.cat [1, 1, 1, 1, 1, 1, 1] (Sx.bodyOf Try.f23))) [] [(6, .pointer (some ⟨k2, 0, none⟩)), (7, .pointer (some ⟨k3, 0, none⟩))] fun b23 => ?_
    refine Sx.l 2 6 H109 ?_
    refine Sx.s 0 5 H109 fun w62 H110 => ?_
    refine Sx.rt 3 [5] H110 (.agg #[.int .i64 ((kd : Nat) : Int), .int .i64 0, .int .i64 0, .slice none 0 0, .slice A9 (0 + 1) cap7]) ?_
    have H111 := H110.add (Gx.Ext.refl _) (it := strI (fun _ => False) none []) strI_nil (fun _ h => h.elim)
    obtain ⟨S48, H112⟩ := ty_make (e := 32) (cap := cap7) (n := (0 + 1)) (A := none) (B := A9) (Sa := (fun _ => False)) (l := [(p7, Ty.mk ktB utB rtB otB atB, S47)]) (ops := []) (na := 0) (ca := 0) H111 [8, 8, 3] kd 0 0 (by kernel_rfl) rfl ⟨Nat.le_refl _, by simp, by simp⟩ rfl
    subst hL0
    exact Gx.ret_as (by rfl) (hK S46 S48 ⟨none, 0, 0, A9, 0 + 1, cap7⟩ _ (H112.pick (a := [GI S46 bg g, mapN bt _, mapN br _, tyI S48 _ _]) [1, 1, 1, 0] (by kernel_rfl)))
  obtain ⟨rfl, rfl⟩ := hC0 (eI_ge0 h_c84)
  obtain ⟨S49, H113⟩ := G_close H102 [0, 0, 0, 0, 0, 0, 0, 0, 0, 0, 0] (bg := bg) (g := g) ⟨(kA10, kC10), (aA10, aC10), ((some ⟨wb10, 0, none⟩), bC10), (rA10, rC10), (lA10, lC10), (oA10, oC10), (nA10, nC10), mbt10, mbr10, msl10, mS10, nk10, no10⟩ (by kernel_rfl)
  refine Sx.nz 2 (.code (Sx.cat [1, 1, 1, 1, 1, 1, 1] (Sx.bodyOf Try.f23))) [] [(6, .pointer (some ⟨k2, 0, none⟩)), (7, .pointer (some ⟨k3, 0, none⟩))] fun b24 => ?_
  refine Sx.l 2 5 H113 ?_
  refine Sx.s 0 4 H113 fun w63 H114 => ?_
  refine Sx.rt 3 [4] H114 (.agg #[.int .i64 ((kd : Nat) : Int), .int .i64 0, .int .i64 0, .slice none 0 0, .slice none 0 0]) ?_
  have H115 := H114.add (Gx.Ext.refl _) (it := .own 32 5 none 0 0 []) (World.ownsRow_nil _ _ _ _) (fun _ h => by cases h)
  have H116 := H115.add (Gx.Ext.refl _) (it := strI (fun _ => False) none []) strI_nil (fun _ h => h.elim)
  obtain ⟨S50, H117⟩ := ty_make (e := 32) (cap := 0) (n := 0) (A := none) (B := none) (Sa := (fun _ => False)) (l := []) (ops := []) (na := 0) (ca := 0) H116 [6, 6] kd 0 0 (by kernel_rfl) rfl ⟨Nat.le_refl _, by simp, by simp⟩ rfl
  subst hL0
  exact Gx.ret_as (by rfl) (hK S49 S50 ⟨none, 0, 0, none, 0, 0⟩ _ (H117.pick (a := [GI S49 bg g, mapN bt _, mapN br _, tyI S50 _ _]) [1, 1, 1, 0] (by kernel_rfl)))
theorem Told_c (k : Nat) : ∀ (S : Nat → Prop) (bg : Nat) (g : G) (n : Nat) (bt br : Nat) (l : Nams) (w : World) (K : Ending → World → Prop) (H0 : Sp w [GI S bg g, mapN bt l.t, mapN br l.r]) (t : Ty) (l' : Nams) (hf : told k g n l = some (t, l')) (hK : ∀ (S' : Nat → Prop) (Sy : Nat → Prop) (p : Tv) w', Hs w [GI S bg g, mapN bt l.t, mapN br l.r] w' [GI S' bg g, mapN bt l'.t, mapN br l'.r, tyI Sy p t] → K (.returned (.agg (tvC t p).toArray)) w'),
    Calls Try.prog 23 #[.pointer (some ⟨bg, 0, none⟩), .int .i64 ((n : Nat) : Int), .agg #[.map (some bt), .map (some br)]] w K := by
  induction k with
  | zero => intro S bg g n bt br l w K H0 t l' hf; exact absurd hf (by simp [told])
  | succ k ih => exact Told_c_s k ih
end Go.Proofs.Ytfkkocjheeoobaa
