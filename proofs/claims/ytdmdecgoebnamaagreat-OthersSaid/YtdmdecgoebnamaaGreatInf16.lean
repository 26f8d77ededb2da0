/- A part of the proof. -/
import Derived.Test.YtdmdecgoebnamaaGreatGraph
import Derived.Test.YtdmdecgoebnamaaGreatInfEnv
import Derived.Test.YtdmdecgoebnamaaGreatSx4
set_option linter.unusedVariables false
set_option linter.unusedSimpArgs false
namespace Go.Proofs.YtdmdecgoebnamaaGreat
open Go.RowKit Go.Sx Go.Inf Go.Syn
attribute [local irreducible] Go.wpOps Go.Code.wp Go.wpOp Go.wpAnyH Go.Calls Go.Sx.Goal
set_option maxRecDepth 20000
set_option maxHeartbeats 16000000 in
theorem copied_c_s (k : Nat) (ih : ∀ (bc bg : Nat) (eA : Option Addr) (en ec : Nat) (oA : Option Addr) (on oc : Nat) (fk : Nat) (fa : Int) (S : Nat → Prop) (g : G) (n : Nat) (Sv : Nat → Prop) (x : Nv) (bd : Nat) (d : Seen) (br : Nat) (r : Seen) (w : World) (K : Ending → World → Prop) (H0 : Sp w [Sx.cB bc bg eA en ec oA on oc fk fa, GI S bg g, seenM bd d, seenM br r, mapsI Sv ([x])]) (g' : G) (m : Nat) (d' r' : Seen) (hf : copied k g n x.1 d r = some (g', m, d', r')) (hK : ∀ (S' : Nat → Prop) w', Hs w [Sx.cB bc bg eA en ec oA on oc fk fa, GI S bg g, seenM bd d, seenM br r, mapsI Sv ([x])] w' [Sx.cB bc bg eA en ec oA on oc fk fa, GI S' bg g', seenM bd d', seenM br r', mapsI Sv ([x])] → K (.returned (.int .i64 (m : Int))) w'),
    Calls Tryz.prog 123 #[.p bc, .n n, .agg #[.string x.1.nm, .n x.1.t, .bool x.1.all, .map x.2.1, .map x.2.2, .bool x.1.opn], .map (some bd), .map (some br)] w K) (bc bg : Nat) (eA : Option Addr) (en ec : Nat) (oA : Option Addr) (on oc : Nat) (fk : Nat) (fa : Int) (S : Nat → Prop) (g : G) (n : Nat) (Sv : Nat → Prop) (x : Nv) (bd : Nat) (d : Seen) (br : Nat) (r : Seen) (w : World) (K : Ending → World → Prop) (H0 : Sp w [Sx.cB bc bg eA en ec oA on oc fk fa, GI S bg g, seenM bd d, seenM br r, mapsI Sv ([x])]) (g' : G) (m : Nat) (d' r' : Seen) (hf : copied (k + 1) g n x.1 d r = some (g', m, d', r')) (hK : ∀ (S' : Nat → Prop) w', Hs w [Sx.cB bc bg eA en ec oA on oc fk fa, GI S bg g, seenM bd d, seenM br r, mapsI Sv ([x])] w' [Sx.cB bc bg eA en ec oA on oc fk fa, GI S' bg g', seenM bd d', seenM br r', mapsI Sv ([x])] → K (.returned (.int .i64 (m : Int))) w') :
    Calls Tryz.prog 123 #[.p bc, .n n, .agg #[.string x.1.nm, .n x.1.t, .bool x.1.all, .map x.2.1, .map x.2.2, .bool x.1.opn], .map (some bd), .map (some br)] w K := by
  obtain ⟨L0, hL0, H⟩ := Sx.op0 H0
  refine Sx.en (vs := [.p bc, .n n, .agg #[.string x.1.nm, .n x.1.t, .bool x.1.all, .map x.2.1, .map x.2.2, .bool x.1.opn], .map (some bd), .map (some br)]) 205 Tryz.func123 ?_
  obtain ⟨u1, hn, hs0, hs1⟩ := copied_cases hf
  refine Sx.nw 2 H fun k1 w1 H1 => Sx.l 8 0 H1 ?_
  refine Sx.c 1 [1] H1 (fun Hp R hZ => Find_c S bg g n w1 R Hp _ u1 hn (fun S1 w2 G1 => hZ _ _ _ G1 fun H2 => ?_))
  refine lki (t := 126) (kt := 3) (et := 3) 7 2 bd ((u1 : Nat) : Int) (seenI d) (Seen.get d u1) (look_seen _ _) H2 (by kernel_rfl) ?_
  refine Sx.br 13 ((Seen.get d u1).isSome) (fun h_c32 => ?_) (fun h_c32 => ?_)
  · obtain ⟨q, hq⟩ := Option.isSome_iff_exists.1 h_c32
    obtain ⟨rfl, rfl, rfl, rfl⟩ : g = g' ∧ q = m ∧ d = d' ∧ r = r' := by have := hs0 q hq; simpa using this
    have hq2 : (Seen.get d u1).getD 0 = q := by rw [hq]; rfl
    refine Sx.rt 8 [] H2 (.int .i64 (((Seen.get d u1).getD 0 : Nat) : Int)) ?_
    subst hL0
    exact Gx.ret_as (v' := .int .i64 (q : Int)) (by rw [hq2]) (hK S1 _ (H2.pk [1, 0, 0, 0, 0]))
  obtain ⟨kd, hkd, hk0, hk1⟩ := hs1 (by cases hz : Seen.get d u1 with | none => rfl | some z => rw [hz] at h_c32; cases h_c32)
  refine Sx.cut 2 (fun l' w' => ∃ (ge : G) (Se : Nat → Prop) (de : Seen) (we : Seen) (me : Nat), l' = [(1, .n u1), (3, .map (some bd)), (11, .n me)] ∧ Hs w L0 w' [Sx.cB bc bg eA en ec oA on oc fk fa, GI Se bg ge, seenM bd de, seenM br we, mapsI Sv ([x])] ∧ (ge = g') ∧ (Seen.put de u1 me = d') ∧ (me = m) ∧ (we = r')) (fun K1 hK1 => ?_) (fun b1 l1 w3 hI1 => ?_)
  · obtain ⟨⟨⟨kA1, kC1⟩, ⟨aA1, aC1⟩, ⟨bA1, bC1⟩, ⟨rA1, rC1⟩, ⟨lA1, lC1⟩, ⟨oA1, oC1⟩, ⟨nA1, nC1⟩, mbt1, mbr1, msl1, mS1, nk1, no1⟩, H3⟩ := G_open H2 0 (S := S1) (bg := bg) (g := g) (by kernel_rfl)
    obtain ⟨lk1, la1, lb1, lr1, ll1, lo1, ln1, ls1⟩ := G_len H3
    simp only at lk1 la1 lb1 lr1 ll1 lo1 ln1 ls1
    have hnlk1 : u1 < nk1 := by rw [← lk1]; exact at_lt hkd
    obtain ⟨wk1, rfl⟩ := H3.row 1 (A := kA1) (e := 3) (sz := 1) (cap := kC1) (n := nk1) (xs := (nats (g.kind))) (by kernel_rfl) (by omega)
    refine Sx.cut 1 (fun l' w' => l' = [(0, .p bc), (1, .n u1), (3, .map (some bd)), (4, .map (some br)), (7, .p k1), (165, .bool ((((kd : Nat) : Int) == (0 : Int)) && (List.contains x.1.tv u1)))] ∧ w2 = w') (fun K2 hK2 => ?_) (fun b2 l2 w4 hI2 => ?_)
    · refine Sx.l 4 11 H3 ?_
      refine Sx.l 2 0 H3 <| Sx.ir 1 wk1 u1 1 nk1 kC1 (by omega) <| Sx.lr 0 1 3 1 3 wk1 kC1 nk1 (u1 * 1) (nats (g.kind)) H3 (.n kd) (nats_at hkd) ?_
      refine Sx.sp 2 177 (((kd : Nat) : Int) == (0 : Int)) (fun h_g177 => ?_) (fun h_g177 => ?_)
      · refine Sx.l 1 15 H3 ?_
        refine lkr (S := Sv) (t := 120) (kt := 3) (et := 4) (o := x.2.1) 1 u1 x.1.tv (maps_at H3 14 (S := Sv) (l := [x]) (by kernel_rfl) _ (.head _)).1 ?_
        exact Sx.to 3 _ (hK2 _ _ _ ⟨rfl, rfl⟩) (h2 := (by rw [h_g177]; try kernel_rfl))
      exact Sx.to 7 _ (hK2 _ _ _ ⟨rfl, rfl⟩) (h2 := (by rw [h_g177]; try kernel_rfl))
    obtain ⟨rfl, rfl⟩ := hI2
    refine Sx.br 0 ((((kd : Nat) : Int) == (0 : Int)) && (List.contains x.1.tv u1)) (fun h_c165 => ?_) (fun h_c165 => ?_)
    · obtain ⟨pa, pb⟩ := and2 h_c165
      have hk00 : kd = 0 := by have := Gx.k1 pa; omega
      obtain ⟨gx, mx, hv, hR⟩ := (hk0 hk00).1 pb
      obtain ⟨rfl, rfl, hd', hr'⟩ : gx = g' ∧ mx = m ∧ Seen.put d u1 mx = d' ∧ r = r' := by simpa using hR
      obtain ⟨S2, H4⟩ := G_close H3 [0, 0, 0, 0, 0, 0, 0, 0, 0, 0, 0] (bg := bg) (g := g) ⟨((some ⟨wk1, 0, none⟩), kC1), (aA1, aC1), (bA1, bC1), (rA1, rC1), (lA1, lC1), (oA1, oC1), (nA1, nC1), mbt1, mbr1, msl1, mS1, nk1, no1⟩ (by kernel_rfl)
      refine Sx.l 4 1 H4 ?_
      refine Sx.c 0 [0] H4 (fun Hp R hZ => Var_c S2 bg g w2 R Hp gx mx hv (fun S3 w5 G2 => hZ _ _ _ G2 fun H5 => ?_))
      exact Sx.to 3 _ (hK1 _ _ _ ⟨gx, S3, d, r, mx, rfl, H5.pk [1, 0, 0, 0, 0], rfl, (by first | exact hd' | rfl), rfl, (by first | exact hr' | rfl)⟩)
    refine Sx.l 5 11 H3 <| Sx.l 2 0 H3 <| Sx.ir 1 wk1 u1 1 nk1 kC1 (by omega) <| Sx.lr 0 1 3 1 3 wk1 kC1 nk1 (u1 * 1) (nats (g.kind)) H3 (.n kd) (nats_at hkd) ?_
    refine Sx.br 4 (((kd : Nat) : Int) == (0 : Int)) (fun h_c188 => ?_) (fun h_c188 => ?_)
    · have p_c188 := Gx.k1 h_c188
      obtain ⟨S4, H7⟩ := G_close H3 [0, 0, 0, 0, 0, 0, 0, 0, 0, 0, 0] (bg := bg) (g := g) ⟨((some ⟨wk1, 0, none⟩), kC1), (aA1, aC1), (bA1, bC1), (rA1, rC1), (lA1, lC1), (oA1, oC1), (nA1, nC1), mbt1, mbr1, msl1, mS1, nk1, no1⟩ (by kernel_rfl)
      have hk00 : kd = 0 := by omega
      have hcf : List.contains x.1.tv u1 = false := by rcases and0 h_c165 with q | q; exact absurd q (by rw [hk00]; decide); exact q
      obtain ⟨rfl, rfl, hd', hr'⟩ : g = g' ∧ u1 = m ∧ Seen.put d u1 u1 = d' ∧ r = r' := by have := (hk0 hk00).2 hcf; simpa using this
      exact Sx.to 5 _ (hK1 _ _ _ ⟨g, S4, d, r, u1, rfl, H7.pk [1, 0, 0, 0, 0], rfl, (by first | exact hd' | rfl), rfl, (by first | exact hr' | rfl)⟩)
    have p_c188 := Gx.k0 h_c188
    obtain ⟨S5, H9⟩ := G_close H3 [0, 0, 0, 0, 0, 0, 0, 0, 0, 0, 0] (bg := bg) (g := g) ⟨((some ⟨wk1, 0, none⟩), kC1), (aA1, aC1), (bA1, bC1), (rA1, rC1), (lA1, lC1), (oA1, oC1), (nA1, nC1), mbt1, mbr1, msl1, mS1, nk1, no1⟩ (by kernel_rfl)
    obtain ⟨y, hy, hy0, hy1⟩ := hk1 (by omega)
    refine Sx.cut 15 (fun l' w' => ∃ (ga : G) (Sa : Nat → Prop) (da : Seen) (wa : Seen) (ra : Option Nat), l' = [(0, .p bc), (1, .n u1), (3, .map (some bd)), (4, .map (some br)), (7, .p k1), (13, .int .i64 (eI ra)), (14, .int .i64 (-1)), (15, .int .i64 0)] ∧ Hs w L0 w' [Sx.cB bc bg eA en ec oA on oc fk fa, GI Sa bg ga, seenM bd da, seenM br wa, mapsI Sv ([x]), .blk k1 (.cells #[.string x.1.nm, .n x.1.t, .bool x.1.all, .map x.2.1, .map x.2.2, .bool x.1.opn] 122)] ∧ (CB k ga u1 kd x.1 ra da wa (g', m, d', r')) ∧ (ga.kind[u1]? = some kd)) (fun K3 hK3 => ?_) (fun b3 l3 w6 hI3 => ?_)
    · obtain ⟨⟨⟨kA2, kC2⟩, ⟨aA2, aC2⟩, ⟨bA2, bC2⟩, ⟨rA2, rC2⟩, ⟨lA2, lC2⟩, ⟨oA2, oC2⟩, ⟨nA2, nC2⟩, mbt2, mbr2, msl2, mS2, nk2, no2⟩, H10⟩ := G_open H9 0 (S := S5) (bg := bg) (g := g) (by kernel_rfl)
      obtain ⟨lk2, la2, lb2, lr2, ll2, lo2, ln2, ls2⟩ := G_len H10
      simp only at lk2 la2 lb2 lr2 ll2 lo2 ln2 ls2
      have hnla2 : u1 < nk2 := by rw [← la2]; exact at_lt hy
      obtain ⟨wa2, rfl⟩ := H10.row 2 (A := aA2) (e := 3) (sz := 1) (cap := aC2) (n := nk2) (xs := (onats (g.a))) (by kernel_rfl) (by omega)
      refine Sx.l 5 11 H10 <| Sx.l 2 0 H10 <| Sx.ir 1 wa2 u1 1 nk2 aC2 (by omega) <| Sx.lr 0 2 3 1 3 wa2 aC2 nk2 (u1 * 1) (onats (g.a)) H10 (.int .i64 (eI y)) (onats_at hy) ?_
      refine Sx.br 3 (decide ((eI y) ≥ (0 : Int))) (fun h_c44 => ?_) (fun h_c44 => ?_)
      · obtain ⟨p, rfl⟩ := eI_ge1 h_c44
        obtain ⟨g2, q, d2, r2, hsm, hr1⟩ := hy1 p rfl
        have hkin := copied_kin hsm
        refine Sx.dr 0 H10 [11, 0, 2, 15] [14] (LJ := [Sx.cB bc bg eA en ec oA on oc fk fa, .blk bg (.cells #[.slice kA2 nk2 kC2, .slice (some ⟨wa2, 0, none⟩) nk2 aC2, .slice bA2 nk2 bC2, .slice rA2 nk2 rC2, .slice lA2 nk2 lC2, .slice oA2 no2 oC2, .slice nA2 no2 nC2, .map (some mbt2), .map (some mbr2)] 154), .own 3 1 (some ⟨wa2, 0, none⟩) aC2 nk2 (onats (g.a)), .blk k1 (.cells #[.string x.1.nm, .n x.1.t, .bool x.1.all, .map x.2.1, .map x.2.2, .bool x.1.opn] 122)]) (by kernel_rfl) fun w7 H11 => Sx.tk [(0, none), (1, none), (2, none), (3, none), (4, some (0, [5, 6, 7, 9, 10, 14, 15])), (5, none), (6, none), (7, some (1, [9, 10, 14, 15])), (8, none)] (H11.sb [11, 0, 1, 12]) <| Sx.tvg 9 [10, 14, 15] wa2 u1 1 nk2 aC2 (by omega) (H11.sb [11, 0, 1, 12]) <| Sx.tvl 10 [14, 15] 2 3 1 3 wa2 aC2 nk2 (u1 * 1) (onats (g.a)) (.n p) (onats_some hy) (H11.sb [11, 0, 1, 12]) <| Sx.tk [(11, some (3, [14, 15])), (12, none), (13, none)] (H11.sb [11, 0, 1, 12]) <| Sx.nmx ?_
        intro zx1
        refine Sx.on 14 ?_
        obtain ⟨S6, H12⟩ := G_close H11 [0, 0, 0, 0, 0, 0, 0, 0, 0, 0, 0] (bg := bg) (g := g) ⟨(kA2, kC2), ((some ⟨wa2, 0, none⟩), aC2), (bA2, bC2), (rA2, rC2), (lA2, lC2), (oA2, oC2), (nA2, nC2), mbt2, mbr2, msl2, mS2, nk2, no2⟩ (by kernel_rfl)
        refine Sx.c 0 [1, 0, 0, 0, 0] H12 (fun Hp R hZ => ih bc bg eA en ec oA on oc fk fa S6 g p Sv x bd d br r w7 R Hp g2 q d2 r2 hsm (fun S7 w8 G3 => hZ _ _ _ G3 fun H13 => ?_))
        refine Sx.bk (x := zx1) 14 Sx.np <| Sx.tk [(15, none)] Sx.np <| Sx.dn ?_
        exact Sx.to 0 _ (hK3 _ _ _ ⟨g2, S7, d2, r2, (some q), rfl, H13, hr1, (hkin _ _ hkd)⟩)
      have hnone := eI_ge0 h_c44
      obtain ⟨S8, H14⟩ := G_close H10 [0, 0, 0, 0, 0, 0, 0, 0, 0, 0, 0] (bg := bg) (g := g) ⟨(kA2, kC2), ((some ⟨wa2, 0, none⟩), aC2), (bA2, bC2), (rA2, rC2), (lA2, lC2), (oA2, oC2), (nA2, nC2), mbt2, mbr2, msl2, mS2, nk2, no2⟩ (by kernel_rfl)
      exact Sx.to 1 _ (hK3 _ _ _ ⟨g, S8, d, r, none, rfl, H14.pk [1, 0, 0, 0, 0, 0], (hy0 hnone), hkd⟩)
    obtain ⟨ga, Sa, da, wa, ra, rfl, H16, hB, hkd⟩ := hI3
    obtain ⟨y, hy, hy0, hy1⟩ := hB
    refine Sx.cut 0 (fun l' w' => ∃ (gb : G) (Sb : Nat → Prop) (dc : Seen) (wc : Seen) (rb : Option Nat), l' = [(0, .p bc), (1, .n u1), (3, .map (some bd)), (4, .map (some br)), (7, .p k1), (13, .int .i64 (eI ra)), (14, .int .i64 (eI rb)), (15, .int .i64 0)] ∧ Hs w L0 w' [Sx.cB bc bg eA en ec oA on oc fk fa, GI Sb bg gb, seenM bd dc, seenM br wc, mapsI Sv ([x]), .blk k1 (.cells #[.string x.1.nm, .n x.1.t, .bool x.1.all, .map x.2.1, .map x.2.2, .bool x.1.opn] 122)] ∧ (CC k gb u1 kd x.1 ra rb dc wc (g', m, d', r')) ∧ (gb.kind[u1]? = some kd)) (fun K4 hK4 => ?_) (fun b4 l4 w9 hI4 => ?_)
    · obtain ⟨⟨⟨kA3, kC3⟩, ⟨aA3, aC3⟩, ⟨bA3, bC3⟩, ⟨rA3, rC3⟩, ⟨lA3, lC3⟩, ⟨oA3, oC3⟩, ⟨nA3, nC3⟩, mbt3, mbr3, msl3, mS3, nk3, no3⟩, H17⟩ := G_open H16 1 (S := Sa) (bg := bg) (g := ga) (by kernel_rfl)
      obtain ⟨lk3, la3, lb3, lr3, ll3, lo3, ln3, ls3⟩ := G_len H17
      simp only at lk3 la3 lb3 lr3 ll3 lo3 ln3 ls3
      have hnlb3 : u1 < nk3 := by rw [← lb3]; exact at_lt hy
      obtain ⟨wb3, rfl⟩ := H17.row 3 (A := bA3) (e := 3) (sz := 1) (cap := bC3) (n := nk3) (xs := (onats (ga.b))) (by kernel_rfl) (by omega)
      refine Sx.l 5 11 H17 <| Sx.l 2 0 H17 <| Sx.ir 1 wb3 u1 1 nk3 bC3 (by omega) <| Sx.lr 0 3 3 1 3 wb3 bC3 nk3 (u1 * 1) (onats (ga.b)) H17 (.int .i64 (eI y)) (onats_at hy) ?_
      refine Sx.br 3 (decide ((eI y) ≥ (0 : Int))) (fun h_c70 => ?_) (fun h_c70 => ?_)
      · obtain ⟨p, rfl⟩ := eI_ge1 h_c70
        obtain ⟨g2, q, d2, r2, hsm, hr1⟩ := hy1 p rfl
        have hkin := copied_kin hsm
        refine Sx.dr 0 H17 [11, 0, 3, 15] [14] (LJ := [Sx.cB bc bg eA en ec oA on oc fk fa, .blk bg (.cells #[.slice kA3 nk3 kC3, .slice aA3 nk3 aC3, .slice (some ⟨wb3, 0, none⟩) nk3 bC3, .slice rA3 nk3 rC3, .slice lA3 nk3 lC3, .slice oA3 no3 oC3, .slice nA3 no3 nC3, .map (some mbt3), .map (some mbr3)] 154), .own 3 1 (some ⟨wb3, 0, none⟩) bC3 nk3 (onats (ga.b)), .blk k1 (.cells #[.string x.1.nm, .n x.1.t, .bool x.1.all, .map x.2.1, .map x.2.2, .bool x.1.opn] 122)]) (by kernel_rfl) fun w10 H18 => Sx.tk [(0, none), (1, none), (2, none), (3, none), (4, some (0, [5, 6, 7, 9, 10, 14, 15])), (5, none), (6, none), (7, some (1, [9, 10, 14, 15])), (8, none)] (H18.sb [11, 0, 2, 12]) <| Sx.tvg 9 [10, 14, 15] wb3 u1 1 nk3 bC3 (by omega) (H18.sb [11, 0, 2, 12]) <| Sx.tvl 10 [14, 15] 2 3 1 3 wb3 bC3 nk3 (u1 * 1) (onats (ga.b)) (.n p) (onats_some hy) (H18.sb [11, 0, 2, 12]) <| Sx.tk [(11, some (3, [14, 15])), (12, none), (13, none)] (H18.sb [11, 0, 2, 12]) <| Sx.nmx ?_
        intro zx2
        refine Sx.on 14 ?_
        obtain ⟨S9, H19⟩ := G_close H18 [0, 0, 0, 0, 0, 0, 0, 0, 0, 0, 0] (bg := bg) (g := ga) ⟨(kA3, kC3), (aA3, aC3), ((some ⟨wb3, 0, none⟩), bC3), (rA3, rC3), (lA3, lC3), (oA3, oC3), (nA3, nC3), mbt3, mbr3, msl3, mS3, nk3, no3⟩ (by kernel_rfl)
        refine Sx.c 0 [1, 0, 0, 0, 0] H19 (fun Hp R hZ => ih bc bg eA en ec oA on oc fk fa S9 ga p Sv x bd da br wa w10 R Hp g2 q d2 r2 hsm (fun S10 w11 G4 => hZ _ _ _ G4 fun H20 => ?_))
        refine Sx.bk (x := zx2) 14 Sx.np <| Sx.tk [(15, none)] Sx.np <| Sx.dn ?_
        exact Sx.to 0 _ (hK4 _ _ _ ⟨g2, S10, d2, r2, (some q), rfl, H20, hr1, (hkin _ _ hkd)⟩)
      have hnone := eI_ge0 h_c70
      obtain ⟨S11, H21⟩ := G_close H17 [0, 0, 0, 0, 0, 0, 0, 0, 0, 0, 0] (bg := bg) (g := ga) ⟨(kA3, kC3), (aA3, aC3), ((some ⟨wb3, 0, none⟩), bC3), (rA3, rC3), (lA3, lC3), (oA3, oC3), (nA3, nC3), mbt3, mbr3, msl3, mS3, nk3, no3⟩ (by kernel_rfl)
      exact Sx.to 1 _ (hK4 _ _ _ ⟨ga, S11, da, wa, none, rfl, H21.pk [1, 0, 0, 0, 0, 0], (hy0 hnone), hkd⟩)
    obtain ⟨gb, Sb, dc, wc, rb, rfl, H23, hC, hkd⟩ := hI4
    obtain ⟨hC0, hC1⟩ := hC
    obtain ⟨⟨⟨kA4, kC4⟩, ⟨aA4, aC4⟩, ⟨bA4, bC4⟩, ⟨rA4, rC4⟩, ⟨lA4, lC4⟩, ⟨oA4, oC4⟩, ⟨nA4, nC4⟩, mbt4, mbr4, msl4, mS4, nk4, no4⟩, H24⟩ := G_open H23 1 (S := Sb) (bg := bg) (g := gb) (by kernel_rfl)
    obtain ⟨lk4, la4, lb4, lr4, ll4, lo4, ln4, ls4⟩ := G_len H24
    simp only at lk4 la4 lb4 lr4 ll4 lo4 ln4 ls4
    have hnlk4 : u1 < nk4 := by rw [← lk4]; exact at_lt hkd
    obtain ⟨wk4, rfl⟩ := H24.row 1 (A := kA4) (e := 3) (sz := 1) (cap := kC4) (n := nk4) (xs := (nats (gb.kind))) (by kernel_rfl) (by omega)
    refine Sx.cut 0 (fun l' w' => ∃ (gd : G) (Sd : Nat → Prop) (dd : Seen) (wd : Seen) (rr : Nat), l' = [(0, .p bc), (1, .n u1), (3, .map (some bd)), (13, .int .i64 (eI ra)), (14, .int .i64 (eI rb)), (15, .n rr)] ∧ Hs w L0 w' [Sx.cB bc bg eA en ec oA on oc fk fa, GI Sd bg gd, seenM bd dd, seenM br wd, mapsI Sv ([x])] ∧ (CD gd u1 kd ra rb rr dd wd (g', m, d', r')) ∧ (gd.kind[u1]? = some kd)) (fun K5 hK5 => ?_) (fun b5 l5 w12 hI5 => ?_)
    · refine Sx.l 5 11 H24 ?_
      refine Sx.l 2 0 H24 <| Sx.ir 1 wk4 u1 1 nk4 kC4 (by omega) <| Sx.lr 0 1 3 1 3 wk4 kC4 nk4 (u1 * 1) (nats (gb.kind)) H24 (.n kd) (nats_at hkd) ?_
      refine Sx.br 3 (((kd : Nat) : Int) == (6 : Int)) (fun h_c96 => ?_) (fun h_c96 => ?_)
      · have p_c96 := Gx.k1 h_c96
        obtain ⟨q, l, v, hq, hw, hv0, hv1⟩ := hC1 (by omega)
        have hnr4 : u1 < nk4 := by rw [← lr4]; exact at_lt hq
        obtain ⟨wr4, rfl⟩ := H24.row 4 (A := rA4) (e := 3) (sz := 1) (cap := rC4) (n := nk4) (xs := (nats (gb.row))) (by kernel_rfl) (by omega)
        refine Sx.dr 1 H24 [11, 0, 4] [14] (LJ := [Sx.cB bc bg eA en ec oA on oc fk fa, .blk bg (.cells #[.slice (some ⟨wk4, 0, none⟩) nk4 kC4, .slice aA4 nk4 aC4, .slice bA4 nk4 bC4, .slice (some ⟨wr4, 0, none⟩) nk4 rC4, .slice lA4 nk4 lC4, .slice oA4 no4 oC4, .slice nA4 no4 nC4, .map (some mbt4), .map (some mbr4)] 154), .own 3 1 (some ⟨wr4, 0, none⟩) rC4 nk4 (nats (gb.row))]) (by kernel_rfl) fun w13 H25 => Sx.tk [(0, none), (1, none), (2, none), (3, some (0, [14, 15, 16, 17, 18, 19])), (4, none), (5, none), (6, none), (7, some (0, [8, 9, 10, 12, 13, 14, 15, 16, 17, 18, 19])), (8, none), (9, none), (10, some (1, [12, 13, 14, 15, 16, 17, 18, 19])), (11, none)] (H25.sb [11, 0, 3]) <| Sx.tvg 12 [13, 14, 15, 16, 17, 18, 19] wr4 u1 1 nk4 rC4 (by omega) (H25.sb [11, 0, 3]) <| Sx.tvl 13 [14, 15, 16, 17, 18, 19] 2 3 1 3 wr4 rC4 nk4 (u1 * 1) (nats (gb.row)) (.n q) (nats_at hq) (H25.sb [11, 0, 3]) <| Sx.nmx ?_
        intro zx3
        refine Sx.on 14 ?_
        obtain ⟨S12, H26⟩ := G_close H25 [0, 0, 0, 0, 0, 0, 0, 0, 0, 0, 0] (bg := bg) (g := gb) ⟨((some ⟨wk4, 0, none⟩), kC4), (aA4, aC4), (bA4, bC4), ((some ⟨wr4, 0, none⟩), rC4), (lA4, lC4), (oA4, oC4), (nA4, nC4), mbt4, mbr4, msl4, mS4, nk4, no4⟩ (by kernel_rfl)
        refine Sx.c 0 [0] H26 (fun Hp R hZ => Whole_c S12 bg gb q w13 R Hp _ v l hw (fun S13 S14 A1 n1 c1 w14 G5 hn1 hc1 => hZ _ _ _ G5 fun H27 => ?_))
        refine Sx.bk (x := zx3) 14 Sx.np <| Sx.tk [(15, none), (16, none), (17, none), (18, none), (19, none)] Sx.np <| Sx.dn ?_
        refine Sx.cut 2 (fun l' w' => l' = [(0, .p bc), (1, .n u1), (3, .map (some bd)), (4, .map (some br)), (13, .int .i64 (eI ra)), (14, .int .i64 (eI rb)), (16, .slice A1 n1 c1), (17, .n v), (122, .bool ((decide (((v : Nat) : Int) > (0 : Int))) && (List.contains x.1.rv v)))] ∧ w14 = w') (fun K6 hK6 => ?_) (fun b6 l6 w15 hI6 => ?_)
        · refine Sx.sp 4 117 (decide (((v : Nat) : Int) > (0 : Int))) (fun h_g117 => ?_) (fun h_g117 => ?_)
          · refine Sx.l 1 6 H27 ?_
            refine lkr (S := Sv) (t := 120) (kt := 3) (et := 4) (o := x.2.2) 1 v x.1.rv (maps_at H27 5 (S := Sv) (l := [x]) (by kernel_rfl) _ (.head _)).2 ?_
            exact Sx.to 2 _ (hK6 _ _ _ ⟨rfl, rfl⟩) (h2 := (by rw [h_g117]; try kernel_rfl))
          exact Sx.to 6 _ (hK6 _ _ _ ⟨rfl, rfl⟩) (h2 := (by rw [h_g117]; try kernel_rfl))
        obtain ⟨rfl, rfl⟩ := hI6
        refine Sx.br 0 ((decide (((v : Nat) : Int) > (0 : Int))) && (List.contains x.1.rv v)) (fun h_c122 => ?_) (fun h_c122 => ?_)
        · obtain ⟨hv2, hv3⟩ := hv1 (by rw [v_pos]; exact h_c122)
          refine lki (t := 126) (kt := 3) (et := 3) 4 4 br ((v : Nat) : Int) (seenI wc) (Seen.get wc v) (look_seen _ _) H27 (by kernel_rfl) ?_
          refine Sx.br 14 (!((Seen.get wc v).isSome)) (fun h_c130 => ?_) (fun h_c130 => ?_)
          · have hrn : Seen.get wc v = none := by cases hz : Seen.get wc v with | none => rfl | some z => rw [hz] at h_c130; cases h_c130
            obtain ⟨g0, w0, ho, g3, z, hpr, hD⟩ := hv3 hrn
            have hkd3 : g3.kind[u1]? = some kd := by rw [(putRow_kin hpr).1, (putRow_kin ho).1]; exact hkd
            refine Sx.l 5 2 H27 ?_
            refine Sx.c 0 [0] H27 (fun Hp R hZ => Open_c S13 bg gb w14 R Hp g0 w0 ho (fun S15 w16 G6 => hZ _ _ _ G6 fun H28 => ?_))
            refine mus (t := 126) (kt := 3) (et := 3) 7 4 br v w0 wc H28 (by kernel_rfl) fun w17 H29 => Sx.l 11 2 H29 ?_
            refine Sx.c 2 [0, 0] H29 (fun Hp R hZ => PutRow_c S15 bg g0 S14 A1 n1 c1 l ((w0 : Nat) : Int) (some w0) w17 R Hp g3 z hn1 rfl hpr (fun S16 w18 G7 => hZ _ _ _ G7 fun H30 => ?_))
            exact Sx.to 2 _ (hK5 _ _ _ ⟨g3, S16, dc, Seen.put wc v w0, z, rfl, H30.pk [1, 0, 0, 0, 0], hD, hkd3⟩)
          obtain ⟨w0, hrn⟩ := isSome_t h_c130
          obtain ⟨g3, z, hpr, hD⟩ := hv2 w0 hrn
          have hw0 : (Seen.get wc v).getD 0 = w0 := by rw [hrn]; rfl
          have hkd3 : g3.kind[u1]? = some kd := by rw [(putRow_kin hpr).1]; exact hkd
          subst hw0
          refine Sx.l 11 2 H27 ?_
          refine Sx.c 2 [0, 0] H27 (fun Hp R hZ => PutRow_c S13 bg gb S14 A1 n1 c1 l (((Seen.get wc v).getD 0 : Nat) : Int) (some ((Seen.get wc v).getD 0)) w14 R Hp g3 z hn1 rfl hpr (fun S17 w19 G8 => hZ _ _ _ G8 fun H32 => ?_))
          exact Sx.to 2 _ (hK5 _ _ _ ⟨g3, S17, dc, wc, z, rfl, H32.pk [1, 0, 0, 0, 0], hD, hkd3⟩)
        obtain ⟨g3, z, hpr, hD⟩ := hv0 (by rw [v_pos]; exact h_c122)
        have hkd3 : g3.kind[u1]? = some kd := by rw [(putRow_kin hpr).1]; exact hkd
        refine Sx.l 6 2 H27 ?_
        refine Sx.c 2 [0, 0] H27 (fun Hp R hZ => PutRow_c S13 bg gb S14 A1 n1 c1 l ((v : Nat) : Int) (some v) w14 R Hp g3 z hn1 rfl hpr (fun S18 w20 G9 => hZ _ _ _ G9 fun H34 => ?_))
        exact Sx.to 2 _ (hK5 _ _ _ ⟨g3, S18, dc, wc, z, rfl, H34.pk [1, 0, 0, 0, 0], hD, hkd3⟩)
      have p_c96 := Gx.k0 h_c96
      have hD := hC0 (by omega)
      obtain ⟨S19, H36⟩ := G_close H24 [0, 0, 0, 0, 0, 0, 0, 0, 0, 0, 0] (bg := bg) (g := gb) ⟨((some ⟨wk4, 0, none⟩), kC4), (aA4, aC4), (bA4, bC4), (rA4, rC4), (lA4, lC4), (oA4, oC4), (nA4, nC4), mbt4, mbr4, msl4, mS4, nk4, no4⟩ (by kernel_rfl)
      exact Sx.to 1 _ (hK5 _ _ _ ⟨gb, S19, dc, wc, 0, rfl, H36.pk [1, 0, 0, 0, 0], hD, hkd⟩)
    obtain ⟨gd, Sd, dd, wd, rr, rfl, H38, hD, hkd⟩ := hI5
    obtain ⟨g3, m3, hpu, hR⟩ := hD
    obtain ⟨rfl, rfl, hd', hr'⟩ : g3 = g' ∧ m3 = m ∧ Seen.put dd u1 m3 = d' ∧ wd = r' := by simpa using hR
    obtain ⟨⟨⟨kA5, kC5⟩, ⟨aA5, aC5⟩, ⟨bA5, bC5⟩, ⟨rA5, rC5⟩, ⟨lA5, lC5⟩, ⟨oA5, oC5⟩, ⟨nA5, nC5⟩, mbt5, mbr5, msl5, mS5, nk5, no5⟩, H39⟩ := G_open H38 1 (S := Sd) (bg := bg) (g := gd) (by kernel_rfl)
    obtain ⟨lk5, la5, lb5, lr5, ll5, lo5, ln5, ls5⟩ := G_len H39
    simp only at lk5 la5 lb5 lr5 ll5 lo5 ln5 ls5
    have hnlk5 : u1 < nk5 := by rw [← lk5]; exact at_lt hkd
    obtain ⟨wk5, rfl⟩ := H39.row 1 (A := kA5) (e := 3) (sz := 1) (cap := kC5) (n := nk5) (xs := (nats (gd.kind))) (by kernel_rfl) (by omega)
    refine Sx.dr 0 H39 [11, 0, 1] [17] (LJ := [Sx.cB bc bg eA en ec oA on oc fk fa, .blk bg (.cells #[.slice (some ⟨wk5, 0, none⟩) nk5 kC5, .slice aA5 nk5 aC5, .slice bA5 nk5 bC5, .slice rA5 nk5 rC5, .slice lA5 nk5 lC5, .slice oA5 no5 oC5, .slice nA5 no5 nC5, .map (some mbt5), .map (some mbr5)] 154), .own 3 1 (some ⟨wk5, 0, none⟩) kC5 nk5 (nats (gd.kind))]) (by kernel_rfl) fun w21 H40 => Sx.tk [(0, none), (1, none), (2, none), (3, some (0, [17, 18])), (4, none), (5, none), (6, none), (7, some (0, [8, 9, 10, 12, 13, 17, 18])), (8, none), (9, none), (10, some (1, [12, 13, 17, 18])), (11, none)] (H40.sb [11, 0, 0]) <| Sx.tvg 12 [13, 17, 18] wk5 u1 1 nk5 kC5 (by omega) (H40.sb [11, 0, 0]) <| Sx.tvl 13 [17, 18] 2 3 1 3 wk5 kC5 nk5 (u1 * 1) (nats (gd.kind)) (.n kd) (nats_at hkd) (H40.sb [11, 0, 0]) <| Sx.tk [(14, none), (15, none), (16, none)] (H40.sb [11, 0, 0]) <| Sx.nmx ?_
    intro zx4
    refine Sx.on 17 ?_
    obtain ⟨S20, H41⟩ := G_close H40 [0, 0, 0, 0, 0, 0, 0, 0, 0, 0, 0] (bg := bg) (g := gd) ⟨((some ⟨wk5, 0, none⟩), kC5), (aA5, aC5), (bA5, bC5), (rA5, rC5), (lA5, lC5), (oA5, oC5), (nA5, nC5), mbt5, mbr5, msl5, mS5, nk5, no5⟩ (by kernel_rfl)
    refine Sx.c 0 [0] H41 (fun Hp R hZ => Put_c S20 bg gd kd (eI ra) ra (eI rb) rb rr w21 R Hp g3 m3 rfl rfl hpu (fun S21 w22 G10 => hZ _ _ _ G10 fun H42 => ?_))
    refine Sx.bk (x := zx4) 17 Sx.np <| Sx.tk [(18, none)] Sx.np <| Sx.dn ?_
    exact Sx.to 1 _ (hK1 _ _ _ ⟨g3, S21, dd, wd, m3, rfl, H42.pk [1, 0, 0, 0, 0], rfl, (by first | exact hd' | rfl), rfl, (by first | exact hr' | rfl)⟩)
  obtain ⟨ge, Se, de, we, me, rfl, H44, hE1, hE2, hE3, hE4⟩ := hI1
  subst hE1 hE2 hE3 hE4
  refine mus (t := 126) (kt := 3) (et := 3) 5 2 bd u1 me de H44 (by kernel_rfl) fun w23 H45 => Sx.rt 9 [] H45 (.n me) ?_
  subst hL0
  exact Gx.ret_as (v' := .n me) (by rfl) (hK Se _ (H45.pk [0, 0, 0, 0, 0]))
theorem copied_c (k : Nat) : ∀ (bc bg : Nat) (eA : Option Addr) (en ec : Nat) (oA : Option Addr) (on oc : Nat) (fk : Nat) (fa : Int) (S : Nat → Prop) (g : G) (n : Nat) (Sv : Nat → Prop) (x : Nv) (bd : Nat) (d : Seen) (br : Nat) (r : Seen) (w : World) (K : Ending → World → Prop) (H0 : Sp w [Sx.cB bc bg eA en ec oA on oc fk fa, GI S bg g, seenM bd d, seenM br r, mapsI Sv ([x])]) (g' : G) (m : Nat) (d' r' : Seen) (hf : copied k g n x.1 d r = some (g', m, d', r')) (hK : ∀ (S' : Nat → Prop) w', Hs w [Sx.cB bc bg eA en ec oA on oc fk fa, GI S bg g, seenM bd d, seenM br r, mapsI Sv ([x])] w' [Sx.cB bc bg eA en ec oA on oc fk fa, GI S' bg g', seenM bd d', seenM br r', mapsI Sv ([x])] → K (.returned (.int .i64 (m : Int))) w'),
    Calls Tryz.prog 123 #[.p bc, .n n, .agg #[.string x.1.nm, .n x.1.t, .bool x.1.all, .map x.2.1, .map x.2.2, .bool x.1.opn], .map (some bd), .map (some br)] w K := by
  induction k with
  | zero => intro bc bg eA en ec oA on oc fk fa S g n Sv x bd d br r w K H0 g' m d' r' hf; exact absurd hf (by simp [copied])
  | succ k ih => exact copied_c_s k ih
set_option maxHeartbeats 8000000 in
theorem opened_c_s (k : Nat) (ih : ∀ (bc bg : Nat) (eA : Option Addr) (en ec : Nat) (oA : Option Addr) (on oc : Nat) (fk : Nat) (fa : Int) (S : Nat → Prop) (g : G) (n : Nat) (w : World) (K : Ending → World → Prop) (H0 : Sp w [Sx.cB bc bg eA en ec oA on oc fk fa, GI S bg g]) (g' : G) (m : Nat) (hf : opened k g n = some (g', m)) (hK : ∀ (S' : Nat → Prop) w', Hs w [Sx.cB bc bg eA en ec oA on oc fk fa, GI S bg g] w' [Sx.cB bc bg eA en ec oA on oc fk fa, GI S' bg g'] → K (.returned (.int .i64 (m : Int))) w'),
    Calls Tryz.prog 124 #[.p bc, .n n] w K) (bc bg : Nat) (eA : Option Addr) (en ec : Nat) (oA : Option Addr) (on oc : Nat) (fk : Nat) (fa : Int) (S : Nat → Prop) (g : G) (n : Nat) (w : World) (K : Ending → World → Prop) (H0 : Sp w [Sx.cB bc bg eA en ec oA on oc fk fa, GI S bg g]) (g' : G) (m : Nat) (hf : opened (k + 1) g n = some (g', m)) (hK : ∀ (S' : Nat → Prop) w', Hs w [Sx.cB bc bg eA en ec oA on oc fk fa, GI S bg g] w' [Sx.cB bc bg eA en ec oA on oc fk fa, GI S' bg g'] → K (.returned (.int .i64 (m : Int))) w') :
    Calls Tryz.prog 124 #[.p bc, .n n] w K := by
  obtain ⟨L0, hL0, H⟩ := Sx.op0 H0
  refine Sx.en (vs := [.p bc, .n n]) 88 Tryz.func124 ?_
  obtain ⟨u1, kd, hn, hkd, ho6, ho7⟩ := opened_cases hf
  refine Sx.l 10 0 H ?_
  refine Sx.c 1 [1] H (fun Hp R hZ => Find_c S bg g n w R Hp _ u1 hn (fun S1 w1 G1 => hZ _ _ _ G1 fun H1 => ?_))
  obtain ⟨⟨⟨kA1, kC1⟩, ⟨aA1, aC1⟩, ⟨bA1, bC1⟩, ⟨rA1, rC1⟩, ⟨lA1, lC1⟩, ⟨oA1, oC1⟩, ⟨nA1, nC1⟩, mbt1, mbr1, msl1, mS1, nk1, no1⟩, H2⟩ := G_open H1 0 (S := S1) (bg := bg) (g := g) (by kernel_rfl)
  obtain ⟨lk1, la1, lb1, lr1, ll1, lo1, ln1, ls1⟩ := G_len H2
  simp only at lk1 la1 lb1 lr1 ll1 lo1 ln1 ls1
  have hnlk1 : u1 < nk1 := by rw [← lk1]; exact at_lt hkd
  obtain ⟨wk1, rfl⟩ := H2.row 1 (A := kA1) (e := 3) (sz := 1) (cap := kC1) (n := nk1) (xs := (nats (g.kind))) (by kernel_rfl) (by omega)
  refine Sx.l 9 11 H2 <| Sx.l 2 0 H2 <| Sx.ir 1 wk1 u1 1 nk1 kC1 (by omega) <| Sx.lr 0 1 3 1 3 wk1 kC1 nk1 (u1 * 1) (nats (g.kind)) H2 (.n kd) (nats_at hkd) ?_
  refine Sx.br 3 (((kd : Nat) : Int) != (6 : Int)) (fun h_c25 => ?_) (fun h_c25 => ?_)
  · have p_c25 := h_c25; try simp [-List.getD_eq_getElem?_getD] at p_c25
    obtain ⟨S2, H3⟩ := G_close H2 [0, 0, 0, 0, 0, 0, 0, 0, 0, 0, 0] (bg := bg) (g := g) ⟨((some ⟨wk1, 0, none⟩), kC1), (aA1, aC1), (bA1, bC1), (rA1, rC1), (lA1, lC1), (oA1, oC1), (nA1, nC1), mbt1, mbr1, msl1, mS1, nk1, no1⟩ (by kernel_rfl)
    obtain ⟨rfl, rfl⟩ := ho6 (by intro e; subst e; exact absurd h_c25 (by decide))
    refine Sx.rt 8 [] H3 (.n u1) ?_
    subst hL0
    exact Gx.ret_as (v' := .n u1) (by rfl) (hK S2 _ (H3.pk [1, 0]))
  obtain ⟨S3, H4⟩ := G_close H2 [0, 0, 0, 0, 0, 0, 0, 0, 0, 0, 0] (bg := bg) (g := g) ⟨((some ⟨wk1, 0, none⟩), kC1), (aA1, aC1), (bA1, bC1), (rA1, rC1), (lA1, lC1), (oA1, oC1), (nA1, nC1), mbt1, mbr1, msl1, mS1, nk1, no1⟩ (by kernel_rfl)
  obtain ⟨p, g1, b, q, l, v, g2, v2, g3, z, a, hb, hop, hq, hw, hv, hpr, ha, hpu⟩ := ho7 (by by_cases e : kd = 6; exact e; exact absurd h_c25 (by rw [ne6 e]; decide))
  obtain ⟨⟨⟨kA2, kC2⟩, ⟨aA2, aC2⟩, ⟨bA2, bC2⟩, ⟨rA2, rC2⟩, ⟨lA2, lC2⟩, ⟨oA2, oC2⟩, ⟨nA2, nC2⟩, mbt2, mbr2, msl2, mS2, nk2, no2⟩, H5⟩ := G_open H4 0 (S := S3) (bg := bg) (g := g) (by kernel_rfl)
  obtain ⟨lk2, la2, lb2, lr2, ll2, lo2, ln2, ls2⟩ := G_len H5
  simp only at lk2 la2 lb2 lr2 ll2 lo2 ln2 ls2
  have hnlb2 : u1 < nk2 := by rw [← lb2]; exact at_lt hb
  obtain ⟨wb2, rfl⟩ := H5.row 3 (A := bA2) (e := 3) (sz := 1) (cap := bC2) (n := nk2) (xs := (onats (g.b))) (by kernel_rfl) (by omega)
  refine Sx.l 8 11 H5 <| Sx.l 2 0 H5 <| Sx.ir 1 wb2 u1 1 nk2 bC2 (by omega) <| Sx.lr 0 3 3 1 3 wb2 bC2 nk2 (u1 * 1) (onats (g.b)) H5 (.n p) (onats_some hb) ?_
  obtain ⟨S4, H6⟩ := G_close H5 [0, 0, 0, 0, 0, 0, 0, 0, 0, 0, 0] (bg := bg) (g := g) ⟨(kA2, kC2), (aA2, aC2), ((some ⟨wb2, 0, none⟩), bC2), (rA2, rC2), (lA2, lC2), (oA2, oC2), (nA2, nC2), mbt2, mbr2, msl2, mS2, nk2, no2⟩ (by kernel_rfl)
  refine Sx.c 0 [1, 0] H6 (fun Hp R hZ => ih bc bg eA en ec oA on oc fk fa S4 g p w1 R Hp g1 b hop (fun S5 w2 G2 => hZ _ _ _ G2 fun H7 => ?_))
  obtain ⟨⟨⟨kA3, kC3⟩, ⟨aA3, aC3⟩, ⟨bA3, bC3⟩, ⟨rA3, rC3⟩, ⟨lA3, lC3⟩, ⟨oA3, oC3⟩, ⟨nA3, nC3⟩, mbt3, mbr3, msl3, mS3, nk3, no3⟩, H8⟩ := G_open H7 1 (S := S5) (bg := bg) (g := g1) (by kernel_rfl)
  obtain ⟨lk3, la3, lb3, lr3, ll3, lo3, ln3, ls3⟩ := G_len H8
  simp only at lk3 la3 lb3 lr3 ll3 lo3 ln3 ls3
  have hnlr3 : u1 < nk3 := by rw [← lr3]; exact at_lt hq
  obtain ⟨wr3, rfl⟩ := H8.row 4 (A := rA3) (e := 3) (sz := 1) (cap := rC3) (n := nk3) (xs := (nats (g1.row))) (by kernel_rfl) (by omega)
  refine Sx.dr 4 H8 [11, 0, 4] [14] (LJ := [Sx.cB bc bg eA en ec oA on oc fk fa, .blk bg (.cells #[.slice kA3 nk3 kC3, .slice aA3 nk3 aC3, .slice bA3 nk3 bC3, .slice (some ⟨wr3, 0, none⟩) nk3 rC3, .slice lA3 nk3 lC3, .slice oA3 no3 oC3, .slice nA3 no3 nC3, .map (some mbt3), .map (some mbr3)] 154), .own 3 1 (some ⟨wr3, 0, none⟩) rC3 nk3 (nats (g1.row))]) (by kernel_rfl) fun w3 H9 => Sx.tk [(0, none), (1, none), (2, none), (3, some (0, [14, 15, 16, 17, 18, 19])), (4, none), (5, none), (6, none), (7, some (0, [8, 9, 10, 12, 13, 14, 15, 16, 17, 18, 19])), (8, none), (9, none), (10, some (1, [12, 13, 14, 15, 16, 17, 18, 19])), (11, none)] (H9.sb [11, 0, 3]) <| Sx.tvg 12 [13, 14, 15, 16, 17, 18, 19] wr3 u1 1 nk3 rC3 (by omega) (H9.sb [11, 0, 3]) <| Sx.tvl 13 [14, 15, 16, 17, 18, 19] 2 3 1 3 wr3 rC3 nk3 (u1 * 1) (nats (g1.row)) (.n q) (nats_at hq) (H9.sb [11, 0, 3]) <| Sx.nmx ?_
  intro zx1
  refine Sx.on 14 ?_
  obtain ⟨S6, H10⟩ := G_close H9 [0, 0, 0, 0, 0, 0, 0, 0, 0, 0, 0] (bg := bg) (g := g1) ⟨(kA3, kC3), (aA3, aC3), (bA3, bC3), ((some ⟨wr3, 0, none⟩), rC3), (lA3, lC3), (oA3, oC3), (nA3, nC3), mbt3, mbr3, msl3, mS3, nk3, no3⟩ (by kernel_rfl)
  refine Sx.c 0 [0] H10 (fun Hp R hZ => Whole_c S6 bg g1 q w3 R Hp _ v l hw (fun S7 S8 A1 n1 c1 w4 G3 hn1 hc1 => hZ _ _ _ G3 fun H11 => ?_))
  refine Sx.bk (x := zx1) 14 Sx.np <| Sx.tk [(15, none), (16, none), (17, none), (18, none), (19, none)] Sx.np <| Sx.dn ?_
  refine Sx.br 8 (((v : Nat) : Int) == (0 : Int)) (fun h_c58 => ?_) (fun h_c58 => ?_)
  · have p_c58 := Gx.k1 h_c58
    obtain ⟨_, hop2⟩ : v = 0 ∧ g1.opn = some (g2, v2) := by rcases hv with ⟨h, _⟩ | h; omega; exact h
    refine Sx.l 4 2 H11 ?_
    refine Sx.c 0 [0] H11 (fun Hp R hZ => Open_c S7 bg g1 w4 R Hp g2 v2 hop2 (fun S9 w5 G4 => hZ _ _ _ G4 fun H12 => ?_))
    refine Sx.l 8 2 H12 ?_
    refine Sx.c 2 [0, 0] H12 (fun Hp R hZ => PutRow_c S9 bg g2 S8 A1 n1 c1 l ((v2 : Nat) : Int) (some v2) w5 R Hp g3 z hn1 rfl hpr (fun S10 w6 G5 => hZ _ _ _ G5 fun H13 => ?_))
    obtain ⟨⟨⟨kA4, kC4⟩, ⟨aA4, aC4⟩, ⟨bA4, bC4⟩, ⟨rA4, rC4⟩, ⟨lA4, lC4⟩, ⟨oA4, oC4⟩, ⟨nA4, nC4⟩, mbt4, mbr4, msl4, mS4, nk4, no4⟩, H14⟩ := G_open H13 0 (S := S10) (bg := bg) (g := g3) (by kernel_rfl)
    obtain ⟨lk4, la4, lb4, lr4, ll4, lo4, ln4, ls4⟩ := G_len H14
    simp only at lk4 la4 lb4 lr4 ll4 lo4 ln4 ls4
    have hnla4 : u1 < nk4 := by rw [← la4]; exact at_lt ha
    obtain ⟨wa4, rfl⟩ := H14.row 2 (A := aA4) (e := 3) (sz := 1) (cap := aC4) (n := nk4) (xs := (onats (g3.a))) (by kernel_rfl) (by omega)
    refine Sx.dr 4 H14 [11, 0, 2] [16] (LJ := [Sx.cB bc bg eA en ec oA on oc fk fa, .blk bg (.cells #[.slice kA4 nk4 kC4, .slice (some ⟨wa4, 0, none⟩) nk4 aC4, .slice bA4 nk4 bC4, .slice rA4 nk4 rC4, .slice lA4 nk4 lC4, .slice oA4 no4 oC4, .slice nA4 no4 nC4, .map (some mbt4), .map (some mbr4)] 154), .own 3 1 (some ⟨wa4, 0, none⟩) aC4 nk4 (onats (g3.a))]) (by kernel_rfl) fun w7 H15 => Sx.tk [(0, none), (1, none), (2, none), (3, some (0, [16, 17])), (4, none), (5, none), (6, none), (7, some (0, [8, 9, 10, 12, 13, 16, 17])), (8, none), (9, none), (10, some (1, [12, 13, 16, 17])), (11, none)] (H15.sb [11, 0, 1]) <| Sx.tvg 12 [13, 16, 17] wa4 u1 1 nk4 aC4 (by omega) (H15.sb [11, 0, 1]) <| Sx.tvl 13 [16, 17] 2 3 1 3 wa4 aC4 nk4 (u1 * 1) (onats (g3.a)) (.int .i64 (eI a)) (onats_at ha) (H15.sb [11, 0, 1]) <| Sx.tk [(14, none), (15, none)] (H15.sb [11, 0, 1]) <| Sx.nmx ?_
    intro zx2
    refine Sx.on 16 ?_
    obtain ⟨S11, H16⟩ := G_close H15 [0, 0, 0, 0, 0, 0, 0, 0, 0, 0, 0] (bg := bg) (g := g3) ⟨(kA4, kC4), ((some ⟨wa4, 0, none⟩), aC4), (bA4, bC4), (rA4, rC4), (lA4, lC4), (oA4, oC4), (nA4, nC4), mbt4, mbr4, msl4, mS4, nk4, no4⟩ (by kernel_rfl)
    refine Sx.c 0 [0] H16 (fun Hp R hZ => Put_c S11 bg g3 6 (eI a) a ((b : Nat) : Int) (some b) z w7 R Hp g' m rfl rfl hpu (fun S12 w8 G6 => hZ _ _ _ G6 fun H17 => ?_))
    refine Sx.bk (x := zx2) 16 Sx.np <| Sx.tk [(17, none)] Sx.np <| Sx.dn <| Sx.rt 2 [] H17 (.n m) ?_
    subst hL0
    exact Gx.ret_as (v' := .n m) (by rfl) (hK S12 _ (H17.pk [1, 0]))
  have p_c58 := Gx.k0 h_c58
  obtain ⟨_, rfl, rfl⟩ : v ≠ 0 ∧ g1 = g2 ∧ v = v2 := by rcases hv with h | ⟨h, _⟩; exact h; omega
  refine Sx.l 7 2 H11 ?_
  refine Sx.c 2 [0, 0] H11 (fun Hp R hZ => PutRow_c S7 bg g1 S8 A1 n1 c1 l ((v : Nat) : Int) (some v) w4 R Hp g3 z hn1 rfl hpr (fun S13 w9 G7 => hZ _ _ _ G7 fun H18 => ?_))
  obtain ⟨⟨⟨kA5, kC5⟩, ⟨aA5, aC5⟩, ⟨bA5, bC5⟩, ⟨rA5, rC5⟩, ⟨lA5, lC5⟩, ⟨oA5, oC5⟩, ⟨nA5, nC5⟩, mbt5, mbr5, msl5, mS5, nk5, no5⟩, H19⟩ := G_open H18 0 (S := S13) (bg := bg) (g := g3) (by kernel_rfl)
  obtain ⟨lk5, la5, lb5, lr5, ll5, lo5, ln5, ls5⟩ := G_len H19
  simp only at lk5 la5 lb5 lr5 ll5 lo5 ln5 ls5
  have hnla5 : u1 < nk5 := by rw [← la5]; exact at_lt ha
  obtain ⟨wa5, rfl⟩ := H19.row 2 (A := aA5) (e := 3) (sz := 1) (cap := aC5) (n := nk5) (xs := (onats (g3.a))) (by kernel_rfl) (by omega)
  refine Sx.dr 4 H19 [11, 0, 2] [16] (LJ := [Sx.cB bc bg eA en ec oA on oc fk fa, .blk bg (.cells #[.slice kA5 nk5 kC5, .slice (some ⟨wa5, 0, none⟩) nk5 aC5, .slice bA5 nk5 bC5, .slice rA5 nk5 rC5, .slice lA5 nk5 lC5, .slice oA5 no5 oC5, .slice nA5 no5 nC5, .map (some mbt5), .map (some mbr5)] 154), .own 3 1 (some ⟨wa5, 0, none⟩) aC5 nk5 (onats (g3.a))]) (by kernel_rfl) fun w10 H20 => Sx.tk [(0, none), (1, none), (2, none), (3, some (0, [16, 17])), (4, none), (5, none), (6, none), (7, some (0, [8, 9, 10, 12, 13, 16, 17])), (8, none), (9, none), (10, some (1, [12, 13, 16, 17])), (11, none)] (H20.sb [11, 0, 1]) <| Sx.tvg 12 [13, 16, 17] wa5 u1 1 nk5 aC5 (by omega) (H20.sb [11, 0, 1]) <| Sx.tvl 13 [16, 17] 2 3 1 3 wa5 aC5 nk5 (u1 * 1) (onats (g3.a)) (.int .i64 (eI a)) (onats_at ha) (H20.sb [11, 0, 1]) <| Sx.tk [(14, none), (15, none)] (H20.sb [11, 0, 1]) <| Sx.nmx ?_
  intro zx3
  refine Sx.on 16 ?_
  obtain ⟨S14, H21⟩ := G_close H20 [0, 0, 0, 0, 0, 0, 0, 0, 0, 0, 0] (bg := bg) (g := g3) ⟨(kA5, kC5), ((some ⟨wa5, 0, none⟩), aC5), (bA5, bC5), (rA5, rC5), (lA5, lC5), (oA5, oC5), (nA5, nC5), mbt5, mbr5, msl5, mS5, nk5, no5⟩ (by kernel_rfl)
  refine Sx.c 0 [0] H21 (fun Hp R hZ => Put_c S14 bg g3 6 (eI a) a ((b : Nat) : Int) (some b) z w10 R Hp g' m rfl rfl hpu (fun S15 w11 G8 => hZ _ _ _ G8 fun H22 => ?_))
  refine Sx.bk (x := zx3) 16 Sx.np <| Sx.tk [(17, none)] Sx.np <| Sx.dn <| Sx.rt 2 [] H22 (.n m) ?_
  subst hL0
  exact Gx.ret_as (v' := .n m) (by rfl) (hK S15 _ (H22.pk [1, 0]))
theorem opened_c (k : Nat) : ∀ (bc bg : Nat) (eA : Option Addr) (en ec : Nat) (oA : Option Addr) (on oc : Nat) (fk : Nat) (fa : Int) (S : Nat → Prop) (g : G) (n : Nat) (w : World) (K : Ending → World → Prop) (H0 : Sp w [Sx.cB bc bg eA en ec oA on oc fk fa, GI S bg g]) (g' : G) (m : Nat) (hf : opened k g n = some (g', m)) (hK : ∀ (S' : Nat → Prop) w', Hs w [Sx.cB bc bg eA en ec oA on oc fk fa, GI S bg g] w' [Sx.cB bc bg eA en ec oA on oc fk fa, GI S' bg g'] → K (.returned (.int .i64 (m : Int))) w'),
    Calls Tryz.prog 124 #[.p bc, .n n] w K := by
  induction k with
  | zero => intro bc bg eA en ec oA on oc fk fa S g n w K H0 g' m hf; exact absurd hf (by simp [opened])
  | succ k ih => exact opened_c_s k ih
theorem use_c (bc bg : Nat) (eA : Option Addr) (en ec : Nat) (oA : Option Addr) (on oc : Nat) (fk : Nat) (fa : Int) (S : Nat → Prop) (g : G) (Sv : Nat → Prop) (x : Nv) (w : World) (K : Ending → World → Prop) (H0 : Sp w [Sx.cB bc bg eA en ec oA on oc fk fa, GI S bg g, mapsI Sv ([x])]) (k : Nat) (g' : G) (m : Nat) (hf : use k g x.1 = some (g', m)) (hK : ∀ (S' : Nat → Prop) w', Hs w [Sx.cB bc bg eA en ec oA on oc fk fa, GI S bg g, mapsI Sv ([x])] w' [Sx.cB bc bg eA en ec oA on oc fk fa, GI S' bg g', mapsI Sv ([x])] → K (.returned (.int .i64 (m : Int))) w') :
    Calls Tryz.prog 101 #[.p bc, .agg #[.string x.1.nm, .n x.1.t, .bool x.1.all, .map x.2.1, .map x.2.2, .bool x.1.opn]] w K := by
  obtain ⟨L0, hL0, H⟩ := Sx.op0 H0
  refine Sx.en (vs := [.p bc, .agg #[.string x.1.nm, .n x.1.t, .bool x.1.all, .map x.2.1, .map x.2.2, .bool x.1.opn]]) 22 Tryz.func101 ?_
  obtain ⟨g1, n1, hu1, hu2, hu3, hu4⟩ := use_cases hf
  refine Sx.nw 2 H fun k1 w1 H1 => Sx.l 6 3 H1 <| Sx.l 7 3 H1 ?_
  refine Sx.br 2 x.1.all (fun h_c9 => ?_) (fun h_c9 => ?_)
  · obtain ⟨d, r, hc⟩ := hu1 h_c9
    refine Sx.l 3 3 H1 <| Sx.nw 0 H1 fun k2 w2 H2 => ?_
    have H3 := mapI_new (.int .i64) encN (bt := k2) (i := 4) H2 (by kernel_rfl)
    refine Sx.nw 0 H3 fun k3 w3 H4 => ?_
    have H5 := mapI_new (.int .i64) encN (bt := k3) (i := 5) H4 (by kernel_rfl)
    refine Sx.c 0 [0, 0, 2, 2, 0] H5 (fun Hp R hZ => (copied_c _) bc bg eA en ec oA on oc fk fa S g x.1.t Sv x k2 ([]) k3 ([]) w3 R Hp g1 n1 d r hc (fun S1 w4 G1 => hZ _ _ _ G1 fun H6 => ?_))
    refine Sx.l 7 5 H6 ?_
    refine Sx.br 2 x.1.opn (fun h_c17 => ?_) (fun h_c17 => ?_)
    · have hop := hu3 h_c17
      refine Sx.c 3 [0, 0] H6 (fun Hp R hZ => (opened_c _) bc bg eA en ec oA on oc fk fa S1 g1 n1 w4 R Hp g' m hop (fun S2 w5 G2 => hZ _ _ _ G2 fun H7 => ?_))
      refine Sx.rt 10 [] H7 (.n m) ?_
      subst hL0
      exact Gx.ret_as (v' := .n m) (by rfl) (hK S2 _ (H7.pk [0, 0, 2]))
    obtain ⟨rfl, rfl⟩ := hu4 h_c17
    refine Sx.rt 9 [] H6 (.n n1) ?_
    subst hL0
    exact Gx.ret_as (v' := .n n1) (by rfl) (hK S1 _ (H6.pk [0, 0, 2]))
  obtain ⟨rfl, rfl⟩ := hu2 h_c9
  refine Sx.l 6 3 H1 ?_
  refine Sx.br 2 x.1.opn (fun h_c17 => ?_) (fun h_c17 => ?_)
  · have hop := hu3 h_c17
    refine Sx.c 3 [0, 0] H1 (fun Hp R hZ => (opened_c _) bc bg eA en ec oA on oc fk fa S g x.1.t w1 R Hp g' m hop (fun S3 w6 G3 => hZ _ _ _ G3 fun H8 => ?_))
    refine Sx.rt 10 [] H8 (.n m) ?_
    subst hL0
    exact Gx.ret_as (v' := .n m) (by rfl) (hK S3 _ (H8.pk [0, 0, 0]))
  obtain ⟨rfl, rfl⟩ := hu4 h_c17
  refine Sx.rt 9 [] H1 (.n x.1.t) ?_
  subst hL0
  exact Gx.ret_as (v' := .n x.1.t) (by rfl) (hK S _ (H1.pk [0, 0, 0]))
theorem with_c (bc bg : Nat) (eA : Option Addr) (en ec : Nat) (oA : Option Addr) (on oc : Nat) (fk : Nat) (fa : Int) (el : List Nv) (Sm : Nat → Prop) (Sv : Nat → Prop) (x : Nv) (w : World) (K : Ending → World → Prop) (H0 : Sp w [Sx.cB bc bg eA en ec oA on oc fk fa, .own 122 6 eA ec en (envC el), mapsI Sm el, mapsI Sv ([x])]) (hez : en < 1000000000) (hK : ∀ (eA' : Option Addr) (ec' : Nat) w', Hs w [Sx.cB bc bg eA en ec oA on oc fk fa, .own 122 6 eA ec en (envC el), mapsI Sm el, mapsI Sv ([x])] w' [.blk bc (.cells #[.p bg, .slice eA' (en + 1) ec', .slice oA on oc, .n fk, .int .i64 fa] 115), .own 122 6 eA' ec' (en + 1) (envC (el ++ [x])), mapsI Sm el, mapsI (fun c => Sm c ∨ Sv c) (el ++ [x])] → K (.returned (.tuple #[])) w') :
    Calls Tryz.prog 60 #[.p bc, .agg #[.string x.1.nm, .n x.1.t, .bool x.1.all, .map x.2.1, .map x.2.2, .bool x.1.opn]] w K := by
  obtain ⟨L0, hL0, H⟩ := Sx.op0 H0
  refine Sx.en (vs := [.p bc, .agg #[.string x.1.nm, .n x.1.t, .bool x.1.all, .map x.2.1, .map x.2.2, .bool x.1.opn]]) 14 Tryz.func60 <| Sx.nw 2 H fun k1 w1 H1 => Sx.dr 2 H1 [0, 4] [10] (LJ := [Sx.cB bc bg eA en ec oA on oc fk fa, .blk k1 (.cells #[.string x.1.nm, .n x.1.t, .bool x.1.all, .map x.2.1, .map x.2.2, .bool x.1.opn] 122)]) (by kernel_rfl) fun w2 H2 => Sx.tk [(0, none), (1, none), (2, none), (3, none), (4, some (0, [7, 8, 9, 10])), (5, some (1, [6, 7, 8, 9, 10]))] (H2.sb [0, 3]) <| Sx.nmx ?_
  intro zx1
  refine Sx.on 6 <| Sx.nw 0 H2 fun k2 w3 H3 => Sx.bk (x := zx1) 6 (H3.sb [0, 3]) <| Sx.nmx ?_
  intro zx2
  refine Sx.on 7 <| Sx.ap 0 1 5 56 1 0 122 6 112 1 k2 eA ec en (envC el) [.string x.1.nm, .n x.1.t, .bool x.1.all, .map x.2.1, .map x.2.2, .bool x.1.opn] H3 (by omega) (by omega) (rec_app nvC el x) fun A1 cap1 w4 H4 => Sx.bk (x := zx2) 7 (H4.sb [0, 3]) <| Sx.tk [(8, none), (9, none)] (H4.sb [0, 3]) <| Sx.nmx ?_
  intro zx3
  refine Sx.on 10 <| Sx.s 0 0 H4 fun w5 H5 => Sx.bk (x := zx3) 10 Sx.np <| Sx.dn <| Sx.rt 0 [] H5 (.tuple #[]) ?_
  have H6 := maps_join (S := Sm) (S2 := Sv) (l := el) (m := [x]) H5 2 3 (by kernel_rfl) (by kernel_rfl)
  subst hL0
  exact Gx.ret_as (v' := .tuple #[]) (by rfl) (hK A1 cap1 _ (H6.pk [0, 0, 0, 3]))
theorem out_c (bc bg : Nat) (eA : Option Addr) (en ec : Nat) (oA : Option Addr) (on oc : Nat) (fk : Nat) (fa : Int) (el : List Nv) (n : Nat) (w : World) (K : Ending → World → Prop) (H0 : Sp w [Sx.cB bc bg eA en ec oA on oc fk fa, .own 122 6 eA ec en (envC el)]) (hnn : n ≤ en) (hez : en < 1000000000) (hK : ∀ w', Hs w [Sx.cB bc bg eA en ec oA on oc fk fa, .own 122 6 eA ec en (envC el)] w' [.blk bc (.cells #[.p bg, .slice eA (en - n) ec, .slice oA on oc, .n fk, .int .i64 fa] 115), .own 122 6 eA ec (en - n) (envC (el.take (en - n)))] → K (.returned (.tuple #[])) w') :
    Calls Tryz.prog 89 #[.p bc, .n n] w K := by
  obtain ⟨L0, hL0, H⟩ := Sx.op0 H0
  refine Sx.en (vs := [.p bc, .n n]) 19 Tryz.func89 <| Sx.dr 0 H [0] [15] (LJ := [Sx.cB bc bg eA en ec oA on oc fk fa]) (by kernel_rfl) fun w1 H1 => Sx.tk [(0, none), (1, none), (2, none), (3, none), (4, some (0, [12, 13, 14, 15])), (5, none), (6, none), (7, none), (8, some (0, [9, 11, 12, 13, 14, 15])), (9, none), (10, none)] (H1.sb [0]) <| Sx.tva 11 [12, 13, 14, 15] (.int .i64 (IntKind.i64.wrap (((en : Nat) : Int) - ((n : Nat) : Int)))) (.int .i64 ((en - n : Nat) : Int)) (congrArg (Value.int .i64) ((by rw [show ((en : Int) - (n : Int)) = ((en - n : Nat) : Int) by omega]; exact IntWalk.i64_in _ (by omega)))) (H1.sb [0]) <| Sx.nmx ?_
  intro zx1
  refine Sx.on 12 <| Sx.slp (e := 122) (sz := 6) (cap := ec) (len := en) (A := eA) (xs := (envC el)) 0 1 (en - n) H1 (by kernel_rfl) (by omega) env_take fun H2 => Sx.bk (x := zx1) 12 (H2.sb [0]) <| Sx.tk [(13, none), (14, none)] (H2.sb [0]) <| Sx.nmx ?_
  intro zx2
  refine Sx.on 15 <| Sx.s 0 0 H2 fun w2 H3 => Sx.bk (x := zx2) 15 Sx.np <| Sx.dn <| Sx.rt 0 [] H3 (.tuple #[]) ?_
  subst hL0
  exact Gx.ret_as (v' := .tuple #[]) (by rfl) (hK  _ (H3.pk [0, 0]))
end Go.Proofs.YtdmdecgoebnamaaGreat
