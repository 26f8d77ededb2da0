/- A part of the proof. -/
import Derived.Test.YtdmdecgoebnamaaGreatGraph
import Derived.Test.YtdmdecgoebnamaaGreatInf21
set_option linter.unusedVariables false
set_option linter.unusedSimpArgs false
namespace Go.Proofs.YtdmdecgoebnamaaGreat
open Go.RowKit Go.Sx Go.Inf Go.Syn
attribute [local irreducible] Go.wpOps Go.Code.wp Go.wpOp Go.wpAnyH Go.Calls Go.Sx.Goal
set_option maxRecDepth 20000
set_option maxHeartbeats 4000000 in
theorem expr_s (k : Nat) (ih : ExprC k) (bc bg : Nat) (eA : Option Addr) (en ec : Nat) (oA : Option Addr) (on oc : Nat) (S : Nat → Prop) (c : Ck) (el : List Nv) (Sm : Nat → Prop) (ol : List Ov) (So : Nat → Prop) (Q : Nat → Prop) (kd na : Nat) (nm : Nm) (nn : Int) (ks : List Nd) (nA : Option Addr) (nc : Nat) (row : Nat) (w : World) (K : Ending → World → Prop) (H0 : Sp w (Sx.cX bc bg eA en ec oA on oc c.fk c.fa S c.g el Sm ol So Q ks nA nc)) (c' : Ck) (t : Nat) (hf : expr (k + 1) c (.mk kd na nm nn ks) row = some (c', t)) (hel : el.map (·.1) = c.env) (hol : ol.map (·.1) = c.ops) (hez : en + 2 * (k + 1) < 1000000000) (hon : on < 1000000000) (hK : ∀ (S' : Nat → Prop) (eA' : Option Addr) (ec' : Nat) w', Hs w (Sx.cX bc bg eA en ec oA on oc c.fk c.fa S c.g el Sm ol So Q ks nA nc) w' (Sx.cX bc bg eA' en ec' oA on oc c'.fk c'.fa S' c'.g el Sm ol So Q ks nA nc) → (el.map (·.1) = c'.env) → (ol.map (·.1) = c'.ops) → K (.returned (.int .i64 (t : Int))) w') :
    Calls Tryz.prog 65 #[.p bc, Sx.nA kd na nm nn nA ks nc, .n row] w K := by
  obtain ⟨L0, hL0, H⟩ := Sx.op0 H0
  refine Sx.en (vs := [.p bc, Sx.nA kd na nm nn nA ks nc, .n row]) 330 Tryz.func65 ?_
  have hkz := kv_len (Q := Q) (ks := ks) (A := nA) (c := nc) H 6 (by kernel_rfl)
  have hlen := env_len (e := 122) (n := en) (cap := ec) (A := eA) (l := el) H 2 (by kernel_rfl)
  refine Sx.nw 2 H fun k1 w1 H1 => Sx.l 8 0 H1 ?_
  refine Sx.c 7 [0] H1 (fun Hp R hZ => ok_c bc bg eA en ec oA on oc c.fk c.fa w1 R Hp  (fun w2 G1 => hZ _ _ _ G1 fun H2 => ?_))
  refine Sx.br 3 (!(c.fk == 0)) (fun h_c35 => ?_) (fun h_c35 => ?_)
  · have h0 : c.fk ≠ 0 := by simpa using h_c35
    rw [ex_no h0] at hf
    obtain ⟨gg1, hg1, rfl⟩ := cs_var (g0 := c.g) (e := c.env) (o := c.ops) (fk := c.fk) (fa := c.fa) hf rfl
    refine Sx.c 3 [1] H2 (fun Hp R hZ => Var_c S bg c.g w2 R Hp gg1 t hg1 (fun S1 w3 G2 => hZ _ _ _ G2 fun H3 => ?_))
    refine Sx.rt 5 [] H3 (.n t) ?_
    subst hL0
    exact Gx.ret_as (v' := .n t) (by rfl) (hK S1 eA ec _ (H3.pk [1, 0, 0, 0, 0, 0, 0]) (hel) (hol))
  have h0 : c.fk = 0 := by simpa using h_c35
  refine Sx.nz 2 (.code (Sx.ct 15 Tryz.f65)) [] [(0, .p bc), (2, .n row), (4, .p k1), (7, .p bg)] fun b1 => Sx.l 4 7 H2 ?_
  refine Sx.br 9 (((kd : Nat) : Int) == (3 : Int)) (fun h_c40 => ?_) (fun h_c40 => ?_)
  · have p_c40 := Gx.k1 h_c40
    have hkd : kd = 3 := by omega
    rw [hkd, ex_3 h0] at hf
    obtain ⟨gg2, hg2, rfl⟩ := cs_put (g0 := c.g) (e := c.env) (o := c.ops) (fk := c.fk) (fa := c.fa) hf rfl
    refine Sx.c 3 [1] H2 (fun Hp R hZ => Put_c S bg c.g 1 (-1) none (-1) none 0 w2 R Hp gg2 t rfl rfl hg2 (fun S2 w4 G3 => hZ _ _ _ G3 fun H4 => ?_))
    refine Sx.rt 6 [] H4 (.n t) ?_
    subst hL0
    exact Gx.ret_as (v' := .n t) (by rfl) (hK S2 eA ec _ (H4.pk [1, 0, 0, 0, 0, 0, 0]) (hel) (hol))
  refine Sx.br 6 (((kd : Nat) : Int) == (4 : Int)) (fun h_c44 => ?_) (fun h_c44 => ?_)
  · have p_c40 := Gx.k0 h_c40
    have p_c44 := Gx.k1 h_c44
    have hkd : kd = 4 := by omega
    rw [hkd, ex_4 h0] at hf
    obtain ⟨gg3, hg3, rfl⟩ := cs_put (g0 := c.g) (e := c.env) (o := c.ops) (fk := c.fk) (fa := c.fa) hf rfl
    refine Sx.c 3 [1] H2 (fun Hp R hZ => Put_c S bg c.g 2 (-1) none (-1) none 0 w2 R Hp gg3 t rfl rfl hg3 (fun S3 w5 G4 => hZ _ _ _ G4 fun H5 => ?_))
    refine Sx.nz 3 (.code (Sx.ct 3933 Tryz.f65)) [.blk 0, .code (Sx.ct 31 Tryz.f65)] [(6, .n t)] fun b2 => Sx.rt 3 [] H5 (.n t) ?_
    subst hL0
    exact Gx.ret_as (v' := .n t) (by rfl) (hK S3 eA ec _ (H5.pk [1, 0, 0, 0, 0, 0, 0]) (hel) (hol))
  refine Sx.nz 6 (.code (Sx.ct 3935 Tryz.f65)) [.blk 0, .code (Sx.ct 31 Tryz.f65)] [(0, .p bc), (2, .n row), (4, .p k1), (7, .p bg), (39, .n kd), (48, .bool (((kd : Nat) : Int) == (5 : Int)))] fun b3 => ?_
  refine Sx.br 0 (((kd : Nat) : Int) == (5 : Int)) (fun h_c48 => ?_) (fun h_c48 => ?_)
  · have p_c40 := Gx.k0 h_c40
    have p_c44 := Gx.k0 h_c44
    have p_c48 := Gx.k1 h_c48
    have hkd : kd = 5 := by omega
    rw [hkd, ex_5 h0] at hf
    obtain ⟨gg4, hg4, rfl⟩ := cs_put (g0 := c.g) (e := c.env) (o := c.ops) (fk := c.fk) (fa := c.fa) hf rfl
    refine Sx.c 3 [1] H2 (fun Hp R hZ => Put_c S bg c.g 3 (-1) none (-1) none 0 w2 R Hp gg4 t rfl rfl hg4 (fun S4 w6 G5 => hZ _ _ _ G5 fun H6 => ?_))
    refine Sx.rt 6 [] H6 (.n t) ?_
    subst hL0
    exact Gx.ret_as (v' := .n t) (by rfl) (hK S4 eA ec _ (H6.pk [1, 0, 0, 0, 0, 0, 0]) (hel) (hol))
  refine Sx.br 6 (((kd : Nat) : Int) == (15 : Int)) (fun h_c52 => ?_) (fun h_c52 => ?_)
  · have p_c40 := Gx.k0 h_c40
    have p_c44 := Gx.k0 h_c44
    have p_c48 := Gx.k0 h_c48
    have p_c52 := Gx.k1 h_c52
    have hkd : kd = 15 := by omega
    rw [hkd, ex_15 h0] at hf
    obtain ⟨⟨c1, nn5⟩, hq1, hf⟩ := bs hf
    obtain ⟨gg5, hg5, rfl⟩ := cs_var (g0 := c.g) (e := c.env) (o := c.ops) (fk := c.fk) (fa := c.fa) hq1 rfl
    obtain ⟨gg6, hg6, rfl⟩ := cs_put (g0 := gg5) (e := c.env) (o := c.ops) (fk := c.fk) (fa := c.fa) hf rfl
    refine Sx.c 3 [1] H2 (fun Hp R hZ => Var_c S bg c.g w2 R Hp gg5 nn5 hg5 (fun S5 w7 G6 => hZ _ _ _ G6 fun H7 => ?_))
    refine Sx.nz 3 (.code (Sx.ct 62973 Tryz.f65)) [.blk 0, .code (Sx.ct 31 Tryz.f65)] [(7, .p bg), (8, .n nn5)] fun b4 => ?_
    refine Sx.c 4 [0] H7 (fun Hp R hZ => Put_c S5 bg gg5 4 ((nn5 : Nat) : Int) (some nn5) (-1) none 0 w7 R Hp gg6 t rfl rfl hg6 (fun S6 w8 G7 => hZ _ _ _ G7 fun H8 => ?_))
    refine Sx.rt 6 [] H8 (.n t) ?_
    subst hL0
    exact Gx.ret_as (v' := .n t) (by rfl) (hK S6 eA ec _ (H8.pk [1, 0, 0, 0, 0, 0, 0]) (hel) (hol))
  refine Sx.nz 6 (.code (Sx.ct 62975 Tryz.f65)) [.blk 0, .code (Sx.ct 31 Tryz.f65)] [(0, .p bc), (2, .n row), (4, .p k1), (7, .p bg), (39, .n kd), (59, .bool (((kd : Nat) : Int) == (6 : Int)))] fun b5 => ?_
  refine Sx.br 0 (((kd : Nat) : Int) == (6 : Int)) (fun h_c59 => ?_) (fun h_c59 => ?_)
  · have p_c40 := Gx.k0 h_c40
    have p_c44 := Gx.k0 h_c44
    have p_c48 := Gx.k0 h_c48
    have p_c52 := Gx.k0 h_c52
    have p_c59 := Gx.k1 h_c59
    have hkd : kd = 6 := by omega
    rw [hkd, ex_6 h0] at hf
    refine Sx.l 6 0 H2 <| Sx.v 1 (.int .i64 (IntKind.i64.wrap (((en : Nat) : Int) - (1 : Int)))) (.int .i64 (((en : Nat) : Int) - (1 : Int))) (congrArg (Value.int .i64) (IntWalk.i64_in _ (by omega))) ?_
    refine Sx.lp 4 (fun z l' w' => ∃ (j : Nat), l' = [(0, .p bc), (4, .p k1), (7, .p bg), (9, .int .i64 (((j : Nat) : Int) - (1 : Int)))] ∧ z = 2 * j ∧ Hs w L0 w' (Sx.cX bc bg eA en ec oA on oc c.fk c.fa S c.g el Sm ol So Q ks nA nc ++ [.blk k1 (.cells #[.n kd, .n na, .string nm, .int .i64 nn, .slice nA ks.length nc] 62)]) ∧ (j ≤ el.length) ∧ (findEnv nm ((el.take j).map (·.1)) = findEnv nm c.env)) _ _ ⟨en, rfl, rfl, H2.pk [0, 0, 0, 0, 0, 0, 0, 0], (by omega), (by rw [List.take_of_length_le (by omega), hel])⟩ (fun b6 z1 l1 w9 hI1 K1 hK1 => ?_)
    obtain ⟨j, rfl, rfl, H10, hj, hfe⟩ := hI1
    refine Sx.nz 7 (.code (Sx.ct 8060817 Tryz.f65)) [.code (Sx.ct 4030409 Tryz.f65), .to K1, .blk 1, .code (Sx.ct 251901 Tryz.f65), .blk 0, .code (Sx.ct 31 Tryz.f65)] [(0, .p bc), (4, .p k1), (7, .p bg), (9, .int .i64 (((j : Nat) : Int) - (1 : Int))), (68, .bool (decide ((((j : Nat) : Int) - (1 : Int)) ≥ (0 : Int))))] fun b7 => ?_
    refine Sx.br 0 (decide ((((j : Nat) : Int) - (1 : Int)) ≥ (0 : Int))) (fun h_c68 => ?_) (fun h_c68 => ?_)
    · have p_c68 := of_decide_eq_true h_c68
      obtain ⟨j1, rfl⟩ : ∃ j1, j = j1 + 1 := ⟨j - 1, by omega⟩
      refine Sx.sl 0 9 (.int .i64 (((j1 + 1 : Nat) : Int) - (1 : Int))) (.n j1) (congrArg (Value.int .i64) (by omega)) ?_
      obtain ⟨x, hx⟩ := some_at (l := el) (i := j1) (by omega)
      have hst := findEnv_take (nm := nm) hx
      obtain ⟨wr1, rfl⟩ := H10.row 2 (A := eA) (e := 122) (sz := 6) (cap := ec) (n := en) (xs := (envC el)) (by kernel_rfl) (by omega)
      refine Sx.dr 5 H10 [0, 2, 7] [] (LJ := [.blk bc (.cells #[.p bg, .slice (some ⟨wr1, 0, none⟩) en ec, .slice oA on oc, .n c.fk, .int .i64 c.fa] 115), .own 122 6 (some ⟨wr1, 0, none⟩) ec en (envC el), .blk k1 (.cells #[.n kd, .n na, .string nm, .int .i64 nn, .slice nA ks.length nc] 62)]) (by kernel_rfl) fun w10 H11 => Sx.tk [(0, none), (1, none), (2, none), (3, some (0, [])), (4, none)] (H11.sb [0, 1, 5]) <| Sx.tvg 5 [] wr1 j1 6 en ec (by omega) (H11.sb [0, 1, 5]) <| Sx.tk [(6, none)] (H11.sb [0, 1, 5]) <| Sx.tvl 7 [] 1 122 6 9 wr1 ec en (j1 * 6) (envC el) (.string x.1.nm) (rec_cell 0 nvC_len hx (by decide) rfl) (H11.sb [0, 1, 5]) <| Sx.tk [(8, none), (9, some (2, [])), (10, none)] (H11.sb [0, 1, 5]) ?_
      refine Sx.dn <| Sx.nz 1 (.code (Sx.ct 32243273 Tryz.f65)) [.blk 2, .code (Sx.ct 8060819 Tryz.f65), .to K1, .blk 1, .code (Sx.ct 251901 Tryz.f65), .blk 0, .code (Sx.ct 31 Tryz.f65)] [(0, .p bc), (4, .p k1), (7, .p bg), (9, .n j1), (81, .bool (x.1.nm.toList == nm.toList))] fun b8 => ?_
      refine Sx.br 0 (x.1.nm.toList == nm.toList) (fun h_c81 => ?_) (fun h_c81 => ?_)
      · have hfx : findEnv nm c.env = some x.1 := by rw [← hfe, hst, if_pos (by rw [eqN_eq]; exact h_c81)]
        rw [hfx] at hf
        obtain ⟨g2, hu, rfl⟩ := use_hf hf
        have H12 := maps_sub H11 3 (S := Sm) (l := el) (m := [x]) (by kernel_rfl) (by intro y hy; rw [List.mem_singleton.1 hy]; exact List.mem_of_getElem? hx)
        refine Sx.l 6 0 H12 <| Sx.ir 1 wr1 j1 6 en ec (by omega) <| Sx.lr 0 2 122 6 122 wr1 ec en (j1 * 6) (envC el) H12 (.agg #[.string x.1.nm, .n x.1.t, .bool x.1.all, .map x.2.1, .map x.2.2, .bool x.1.opn]) (rec_load nvC_len hx) ?_
        refine Sx.c 0 [0, 0, 6] H12 (fun Hp R hZ => use_c bc bg (some ⟨wr1, 0, none⟩) en ec oA on oc c.fk c.fa S c.g Sm x w10 R Hp k g2 t hu (fun S7 w11 G8 => hZ _ _ _ G8 fun H13 => ?_))
        refine Sx.rt 11 [] H13 (.n t) ?_
        subst hL0
        exact Gx.ret_as (v' := .n t) (by rfl) (hK S7 (some ⟨wr1, 0, none⟩) ec _ (H13.pk [0, 0, 1, 1, 1, 1, 1]) (hel) (hol))
      refine Sx.v 5 (.int .i64 (IntKind.i64.wrap (((j1 : Nat) : Int) - (1 : Int)))) (.int .i64 (((j1 : Nat) : Int) - (1 : Int))) (congrArg (Value.int .i64) (IntWalk.i64_in _ (by omega))) ?_
      exact Sx.to 2 _ (hK1 _ _ _ _ (by omega) ⟨j1, rfl, rfl, H11.pk [0, 0, 0, 0, 0, 0, 0, 0], (by omega), (by rw [← hfe, hst, if_neg (by rw [eqN_eq, h_c81]; decide)])⟩)
    have p_c68 := of_decide_eq_false h_c68
    have hfn : findEnv nm c.env = none := by rw [← hfe, show j = 0 by omega]; rfl
    rw [hfn] at hf
    simp only at hf
    rw [no_eq h0] at hf
    obtain ⟨gg7, hg7, rfl⟩ := cs_var (g0 := c.g) (e := c.env) (o := c.ops) (fk := 6) (fa := (na : Int)) hf rfl
    refine Sx.nz 5 (.code (Sx.ct 251901 Tryz.f65)) [.blk 0, .code (Sx.ct 31 Tryz.f65)] [(0, .p bc), (4, .p k1), (7, .p bg)] fun b9 => Sx.l 4 7 H10 ?_
    refine Sx.c 0 [0] H10 (fun Hp R hZ => no_c bc bg eA en ec oA on oc c.fk c.fa 6 ((na : Nat) : Int) w9 R Hp  (fun w12 G9 => hZ _ _ _ G9 fun H15 => ?_))
    rw [if_pos h0, if_pos h0] at H15
    refine Sx.c 5 [1] H15 (fun Hp R hZ => Var_c S bg c.g w12 R Hp gg7 t hg7 (fun S8 w13 G10 => hZ _ _ _ G10 fun H16 => ?_))
    refine Sx.rt 6 [] H16 (.n t) ?_
    subst hL0
    exact Gx.ret_as (v' := .n t) (by rfl) (hK S8 eA ec _ (H16.pk [1, 0, 0, 0, 0, 0, 0]) (hel) (hol))
  refine Sx.nz 6 (.code (Sx.ct 251903 Tryz.f65)) [.blk 0, .code (Sx.ct 31 Tryz.f65)] [(0, .p bc), (2, .n row), (4, .p k1), (7, .p bg), (39, .n kd), (97, .bool (((kd : Nat) : Int) == (7 : Int)))] fun b10 => ?_
  refine Sx.br 0 (((kd : Nat) : Int) == (7 : Int)) (fun h_c97 => ?_) (fun h_c97 => ?_)
  · have p_c40 := Gx.k0 h_c40
    have p_c44 := Gx.k0 h_c44
    have p_c48 := Gx.k0 h_c48
    have p_c52 := Gx.k0 h_c52
    have p_c59 := Gx.k0 h_c59
    have p_c97 := Gx.k1 h_c97
    have hkd : kd = 7 := by omega
    rw [hkd, ex_7 h0] at hf
    obtain ⟨⟨c2, nn8⟩, hq2, hf⟩ := bs hf
    obtain ⟨gg8, hg8, rfl⟩ := cs_var (g0 := c.g) (e := c.env) (o := c.ops) (fk := c.fk) (fa := c.fa) hq2 rfl
    obtain ⟨⟨c3, nn9⟩, hq3, hf⟩ := bs hf
    obtain ⟨gg9, hg9, rfl⟩ := cs_opn (g0 := gg8) (e := c.env) (o := c.ops) (fk := c.fk) (fa := c.fa) hq3 rfl
    obtain ⟨dA, hdA, hf⟩ := bs hf
    obtain ⟨kddA, nadA, nmdA, nndA, ksdA⟩ := dA
    obtain ⟨B1, cb1, a1, ha1, H17⟩ := nd_kid (Q := Q) (ks := ks) (A := nA) (c := nc) (i := 0) H2 6 (by kernel_rfl) hdA
    obtain ⟨⟨c4, t1⟩, hq4, hf⟩ := bs hf
    obtain ⟨gg10, hg10, rfl⟩ := cs_put (g0 := c4.g) (e := (Ck.out (⟨c4.g, c4.env, c4.ops, c4.fk, c4.fa⟩ : Ck) 1).env) (o := c4.ops) (fk := c4.fk) (fa := c4.fa) hf rfl
    refine Sx.c 3 [1] H17 (fun Hp R hZ => Var_c S bg c.g w2 R Hp gg8 nn8 hg8 (fun S9 w14 G11 => hZ _ _ _ G11 fun H18 => ?_))
    refine Sx.nz 3 (.code (Sx.ct 1007613 Tryz.f65)) [.blk 0, .code (Sx.ct 31 Tryz.f65)] [(0, .p bc), (4, .p k1), (7, .p bg), (10, .n nn8)] fun b11 => ?_
    refine Sx.c 3 [0] H18 (fun Hp R hZ => Open_c S9 bg gg8 w14 R Hp gg9 nn9 hg9 (fun S10 w15 G12 => hZ _ _ _ G12 fun H19 => ?_))
    refine Sx.l 7 7 H19 ?_
    have H20 := H19.add (Gx.Ext.refl _) (it := mapsI (fun _ => False) [(nv1 nm nn8 false)]) maps_none (fun _ h => h.elim)
    refine Sx.c 2 [1, 1, 1, 7] H20 (fun Hp R hZ => with_c bc bg eA en ec oA on oc c.fk c.fa el Sm (fun _ => False) (nv1 nm nn8 false) w15 R Hp (by omega) (fun eA1 ec1 w16 G13 => hZ _ _ _ G13 fun H21 => ?_))
    refine Sx.l 6 8 H21 <| Sx.ia 0 a1 0 5 ks.length nc ha1 (at_lt hdA) <| Sx.lo (c := 5) (t := 62) 0 (Sx.nC kddA nadA nmdA nndA B1 ksdA cb1) (Sx.nA kddA nadA nmdA nndA B1 ksdA cb1) (cel_at (Q := Q) (a := a1.add (0 * 5)) (n := 5) (cs := (Sx.nC kddA nadA nmdA nndA B1 ksdA cb1)) H21 9 (by kernel_rfl)) ?_
    refine Sx.c 1 [0, 3, 0, 1, 1, 1, 4] H21 (fun Hp R hZ => ih bc bg eA1 (en + 1) ec1 oA on oc S10 (⟨gg9, (c.env ++ [(nv1 nm nn8 false).1]), c.ops, c.fk, c.fa⟩ : Ck) (el ++ [(nv1 nm nn8 false)]) (fun c => Sm c ∨ (fun _ => False) c) ol So Q kddA nadA nmdA nndA ksdA B1 cb1  nn9 w16 R Hp c4 t1 hq4 (with_env hel) hol (by omega) hon (fun S11 eA2 ec2 w17 G14 he1 ho1 => hZ _ _ _ G14 fun H22 => ?_))
    refine Sx.c 6 [0, 1] H22 (fun Hp R hZ => out_c bc bg eA2 (en + 1) ec2 oA on oc c4.fk c4.fa (el ++ [(nv1 nm nn8 false)]) 1 w17 R Hp (by omega) (by omega) (fun w18 G15 => hZ _ _ _ G15 fun H23 => ?_))
    rw [take1 hlen, show en + 1 - 1 = en from rfl] at H23
    refine Sx.c 8 [2] H23 (fun Hp R hZ => Put_c S11 bg c4.g 6 ((nn8 : Nat) : Int) (some nn8) ((t1 : Nat) : Int) (some t1) nn9 w18 R Hp gg10 t rfl rfl hg10 (fun S12 w19 G16 => hZ _ _ _ G16 fun H24 => ?_))
    refine Sx.rt 6 [] H24 (.n t) ?_
    subst hL0
    exact Gx.ret_as (v' := .n t) (by rfl) (hK S12 eA2 ec2 _ (H24.pk [1, 0, 0, 4, 1, 1, 2]) ((out_env1 (c := (⟨c4.g, c4.env, c4.ops, c4.fk, c4.fa⟩ : Ck)) he1)) (ho1))
  refine Sx.nz 6 (.code (Sx.ct 1007615 Tryz.f65)) [.blk 0, .code (Sx.ct 31 Tryz.f65)] [(0, .p bc), (2, .n row), (4, .p k1), (7, .p bg), (39, .n kd), (123, .bool (((kd : Nat) : Int) == (8 : Int)))] fun b12 => ?_
  refine Sx.br 0 (((kd : Nat) : Int) == (8 : Int)) (fun h_c123 => ?_) (fun h_c123 => ?_)
  · have p_c40 := Gx.k0 h_c40
    have p_c44 := Gx.k0 h_c44
    have p_c48 := Gx.k0 h_c48
    have p_c52 := Gx.k0 h_c52
    have p_c59 := Gx.k0 h_c59
    have p_c97 := Gx.k0 h_c97
    have p_c123 := Gx.k1 h_c123
    have hkd : kd = 8 := by omega
    rw [hkd, ex_8 h0] at hf
    rw [← hkd] at hf
    refine Sx.l 3 7 H2 ?_
    refine Sx.c 1 [0, 0, 0, 0, 0, 0, 0] H2 (fun Hp R hZ => app_c k ih bc bg eA en ec oA on oc S (⟨c.g, c.env, c.ops, c.fk, c.fa⟩ : Ck) el Sm ol So Q kd na nm nn ks nA nc  row w2 R Hp c' t hf hel hol (by omega) hon (fun S13 eA3 ec3 w20 G17 he2 ho2 => hZ _ _ _ G17 fun H25 => ?_))
    refine Sx.nz 3 (.code (Sx.ct 4030461 Tryz.f65)) [.blk 0, .code (Sx.ct 31 Tryz.f65)] [(6, .n t)] fun b13 => Sx.rt 3 [] H25 (.n t) ?_
    subst hL0
    exact Gx.ret_as (v' := .n t) (by rfl) (hK S13 eA3 ec3 _ (H25.pk [0, 0, 0, 0, 0, 0, 0]) (he2) (ho2))
  refine Sx.nz 6 (.code (Sx.ct 4030463 Tryz.f65)) [.blk 0, .code (Sx.ct 31 Tryz.f65)] [(0, .p bc), (2, .n row), (4, .p k1), (7, .p bg), (39, .n kd), (129, .bool (((kd : Nat) : Int) == (9 : Int)))] fun b14 => ?_
  refine Sx.br 0 (((kd : Nat) : Int) == (9 : Int)) (fun h_c129 => ?_) (fun h_c129 => ?_)
  · have p_c40 := Gx.k0 h_c40
    have p_c44 := Gx.k0 h_c44
    have p_c48 := Gx.k0 h_c48
    have p_c52 := Gx.k0 h_c52
    have p_c59 := Gx.k0 h_c59
    have p_c97 := Gx.k0 h_c97
    have p_c123 := Gx.k0 h_c123
    have p_c129 := Gx.k1 h_c129
    have hkd : kd = 9 := by omega
    rw [hkd, ex_9 h0] at hf
    rw [← hkd] at hf
    refine Sx.l 3 7 H2 ?_
    refine Sx.c 1 [0, 0, 0, 0, 0, 0, 0] H2 (fun Hp R hZ => let_c k ih bc bg eA en ec oA on oc S (⟨c.g, c.env, c.ops, c.fk, c.fa⟩ : Ck) el Sm ol So Q kd na nm nn ks nA nc  row w2 R Hp c' t hf hel hol (by omega) hon (fun S14 eA4 ec4 w21 G18 he3 ho3 => hZ _ _ _ G18 fun H26 => ?_))
    refine Sx.nz 3 (.code (Sx.ct 16121853 Tryz.f65)) [.blk 0, .code (Sx.ct 31 Tryz.f65)] [(6, .n t)] fun b15 => Sx.rt 3 [] H26 (.n t) ?_
    subst hL0
    exact Gx.ret_as (v' := .n t) (by rfl) (hK S14 eA4 ec4 _ (H26.pk [0, 0, 0, 0, 0, 0, 0]) (he3) (ho3))
  refine Sx.nz 6 (.code (Sx.ct 16121855 Tryz.f65)) [.blk 0, .code (Sx.ct 31 Tryz.f65)] [(0, .p bc), (2, .n row), (4, .p k1), (7, .p bg), (39, .n kd), (135, .bool (((kd : Nat) : Int) == (10 : Int)))] fun b16 => ?_
  refine Sx.br 0 (((kd : Nat) : Int) == (10 : Int)) (fun h_c135 => ?_) (fun h_c135 => ?_)
  · have p_c40 := Gx.k0 h_c40
    have p_c44 := Gx.k0 h_c44
    have p_c48 := Gx.k0 h_c48
    have p_c52 := Gx.k0 h_c52
    have p_c59 := Gx.k0 h_c59
    have p_c97 := Gx.k0 h_c97
    have p_c123 := Gx.k0 h_c123
    have p_c129 := Gx.k0 h_c129
    have p_c135 := Gx.k1 h_c135
    have hkd : kd = 10 := by omega
    rw [hkd, ex_10 h0] at hf
    obtain ⟨dA, hdA, hf⟩ := bs hf
    obtain ⟨kddA, nadA, nmdA, nndA, ksdA⟩ := dA
    obtain ⟨B2, cb2, a2, ha2, H27⟩ := nd_kid (Q := Q) (ks := ks) (A := nA) (c := nc) (i := 0) H2 6 (by kernel_rfl) hdA
    obtain ⟨dB, hdB, hf⟩ := bs hf
    obtain ⟨kddB, nadB, nmdB, nndB, ksdB⟩ := dB
    obtain ⟨B3, cb3, a3, ha3, H28⟩ := nd_kid (Q := Q) (ks := ks) (A := nA) (c := nc) (i := 1) H27 6 (by kernel_rfl) hdB
    obtain ⟨⟨c5, t2⟩, hq5, hf⟩ := bs hf
    refine Sx.l 4 7 H28 <| Sx.ia 0 a2 0 5 ks.length nc ha2 (at_lt hdA) <| Sx.lo (c := 5) (t := 62) 0 (Sx.nC kddA nadA nmdA nndA B2 ksdA cb2) (Sx.nA kddA nadA nmdA nndA B2 ksdA cb2) (cel_at (Q := Q) (a := a2.add (0 * 5)) (n := 5) (cs := (Sx.nC kddA nadA nmdA nndA B2 ksdA cb2)) H28 8 (by kernel_rfl)) ?_
    refine Sx.c 1 [0, 0, 0, 0, 0, 0, 3] H28 (fun Hp R hZ => ih bc bg eA en ec oA on oc S (⟨c.g, c.env, c.ops, c.fk, c.fa⟩ : Ck) el Sm ol So Q kddA nadA nmdA nndA ksdA B2 cb2  row w2 R Hp c5 t2 hq5 hel hol (by omega) hon (fun S15 eA5 ec5 w22 G19 he4 ho4 => hZ _ _ _ G19 fun H29 => ?_))
    refine Sx.nz 2 (.code (Sx.ct 64487421 Tryz.f65)) [.blk 0, .code (Sx.ct 31 Tryz.f65)] [(0, .p bc), (2, .n row), (4, .p k1)] fun b17 => Sx.l 4 8 H29 <| Sx.ia 0 a3 1 5 ks.length nc ha3 (at_lt hdB) <| Sx.lo (c := 5) (t := 62) 0 (Sx.nC kddB nadB nmdB nndB B3 ksdB cb3) (Sx.nA kddB nadB nmdB nndB B3 ksdB cb3) (cel_at (Q := Q) (a := a3.add (1 * 5)) (n := 5) (cs := (Sx.nC kddB nadB nmdB nndB B3 ksdB cb3)) H29 10 (by kernel_rfl)) ?_
    refine Sx.c 1 [0, 0, 0, 0, 0, 0, 5] H29 (fun Hp R hZ => ih bc bg eA5 en ec5 oA on oc S15 (⟨c5.g, c5.env, c5.ops, c5.fk, c5.fa⟩ : Ck) el Sm ol So Q kddB nadB nmdB nndB ksdB B3 cb3  row w22 R Hp c' t hf he4 ho4 (by omega) hon (fun S16 eA6 ec6 w23 G20 he5 ho5 => hZ _ _ _ G20 fun H30 => ?_))
    refine Sx.rt 6 [] H30 (.n t) ?_
    subst hL0
    exact Gx.ret_as (v' := .n t) (by rfl) (hK S16 eA6 ec6 _ (H30.pk [0, 0, 0, 0, 0, 0, 2]) (he5) (ho5))
  refine Sx.nz 6 (.code (Sx.ct 64487423 Tryz.f65)) [.blk 0, .code (Sx.ct 31 Tryz.f65)] [(0, .p bc), (2, .n row), (4, .p k1), (7, .p bg), (39, .n kd), (151, .bool (((kd : Nat) : Int) == (11 : Int)))] fun b18 => ?_
  refine Sx.br 0 (((kd : Nat) : Int) == (11 : Int)) (fun h_c151 => ?_) (fun h_c151 => ?_)
  · have p_c40 := Gx.k0 h_c40
    have p_c44 := Gx.k0 h_c44
    have p_c48 := Gx.k0 h_c48
    have p_c52 := Gx.k0 h_c52
    have p_c59 := Gx.k0 h_c59
    have p_c97 := Gx.k0 h_c97
    have p_c123 := Gx.k0 h_c123
    have p_c129 := Gx.k0 h_c129
    have p_c135 := Gx.k0 h_c135
    have p_c151 := Gx.k1 h_c151
    have hkd : kd = 11 := by omega
    rw [hkd, ex_11 h0] at hf
    obtain ⟨dA, hdA, hf⟩ := bs hf
    obtain ⟨kddA, nadA, nmdA, nndA, ksdA⟩ := dA
    obtain ⟨B4, cb4, a4, ha4, H31⟩ := nd_kid (Q := Q) (ks := ks) (A := nA) (c := nc) (i := 0) H2 6 (by kernel_rfl) hdA
    obtain ⟨dB, hdB, hf⟩ := bs hf
    obtain ⟨kddB, nadB, nmdB, nndB, ksdB⟩ := dB
    obtain ⟨B5, cb5, a5, ha5, H32⟩ := nd_kid (Q := Q) (ks := ks) (A := nA) (c := nc) (i := 1) H31 6 (by kernel_rfl) hdB
    obtain ⟨dC, hdC, hf⟩ := bs hf
    obtain ⟨kddC, nadC, nmdC, nndC, ksdC⟩ := dC
    obtain ⟨B6, cb6, a6, ha6, H33⟩ := nd_kid (Q := Q) (ks := ks) (A := nA) (c := nc) (i := 2) H32 6 (by kernel_rfl) hdC
    obtain ⟨⟨c6, t3⟩, hq6, hf⟩ := bs hf
    obtain ⟨⟨c7, nn11⟩, hq7, hf⟩ := bs hf
    obtain ⟨gg11, hg11, rfl⟩ := cs_put (g0 := c6.g) (e := c6.env) (o := c6.ops) (fk := c6.fk) (fa := c6.fa) hq7 rfl
    obtain ⟨c8, hq8, hf⟩ := bs hf
    obtain ⟨⟨c9, t4⟩, hq9, hf⟩ := bs hf
    obtain ⟨⟨c10, t5⟩, hq10, hf⟩ := bs hf
    obtain ⟨c11, hq11, hf⟩ := bs hf
    obtain ⟨rfl, rfl⟩ := pr hf
    refine Sx.l 4 7 H33 <| Sx.ia 0 a4 0 5 ks.length nc ha4 (at_lt hdA) <| Sx.lo (c := 5) (t := 62) 0 (Sx.nC kddA nadA nmdA nndA B4 ksdA cb4) (Sx.nA kddA nadA nmdA nndA B4 ksdA cb4) (cel_at (Q := Q) (a := a4.add (0 * 5)) (n := 5) (cs := (Sx.nC kddA nadA nmdA nndA B4 ksdA cb4)) H33 8 (by kernel_rfl)) ?_
    refine Sx.c 1 [0, 0, 0, 0, 0, 0, 3] H33 (fun Hp R hZ => ih bc bg eA en ec oA on oc S (⟨c.g, c.env, c.ops, c.fk, c.fa⟩ : Ck) el Sm ol So Q kddA nadA nmdA nndA ksdA B4 cb4  row w2 R Hp c6 t3 hq6 hel hol (by omega) hon (fun S17 eA7 ec7 w24 G21 he6 ho6 => hZ _ _ _ G21 fun H34 => ?_))
    refine Sx.nz 3 (.code (Sx.ct 257949693 Tryz.f65)) [.blk 0, .code (Sx.ct 31 Tryz.f65)] [(0, .p bc), (2, .n row), (4, .p k1), (7, .p bg), (13, .n t3)] fun b19 => ?_
    refine Sx.c 3 [1] H34 (fun Hp R hZ => Put_c S17 bg c6.g 2 (-1) none (-1) none 0 w24 R Hp gg11 nn11 rfl rfl hg11 (fun S18 w25 G22 => hZ _ _ _ G22 fun H35 => ?_))
    refine Sx.l 9 8 H35 <| Sx.ia 0 a4 0 5 ks.length nc ha4 (at_lt hdA) <| Sx.fa 0 (a4.add (0 * 5)) 1 <| Sx.lo (c := 1) (t := 3) 0 [.n nadA] (.n nadA) (cells_sub (i := 1) (m := 1) (cel_at (Q := Q) (a := a4.add (0 * 5)) (n := 5) (cs := (Sx.nC kddA nadA nmdA nndA B4 ksdA cb4)) H35 9 (by kernel_rfl)) (by decide)) ?_
    refine Sx.c 0 [1, 0] H35 (fun Hp R hZ => same_c bc bg eA7 en ec7 oA on oc t3 nn11 ((nadA : Nat) : Int) S18 (⟨gg11, c6.env, c6.ops, c6.fk, c6.fa⟩ : Ck) w25 R Hp _ c8 hq8 (fun S19 w26 G23 => hZ _ _ _ G23 fun H36 => ?_))
    refine Sx.l 6 8 H36 <| Sx.ia 0 a5 1 5 ks.length nc ha5 (at_lt hdB) <| Sx.lo (c := 5) (t := 62) 0 (Sx.nC kddB nadB nmdB nndB B5 ksdB cb5) (Sx.nA kddB nadB nmdB nndB B5 ksdB cb5) (cel_at (Q := Q) (a := a5.add (1 * 5)) (n := 5) (cs := (Sx.nC kddB nadB nmdB nndB B5 ksdB cb5)) H36 10 (by kernel_rfl)) ?_
    refine Sx.c 1 [0, 0, 0, 0, 0, 0, 5] H36 (fun Hp R hZ => ih bc bg eA7 en ec7 oA on oc S19 (⟨c8.g, c8.env, c8.ops, c8.fk, c8.fa⟩ : Ck) el Sm ol So Q kddB nadB nmdB nndB ksdB B5 cb5  row w26 R Hp c9 t4 hq9 (he6.trans (same_keeps hq8).1.symm) (ho6.trans (same_keeps hq8).2.symm) (by omega) hon (fun S20 eA8 ec8 w27 G24 he7 ho7 => hZ _ _ _ G24 fun H37 => ?_))
    refine Sx.l 7 9 H37 <| Sx.ia 0 a6 2 5 ks.length nc ha6 (at_lt hdC) <| Sx.lo (c := 5) (t := 62) 0 (Sx.nC kddC nadC nmdC nndC B6 ksdC cb6) (Sx.nA kddC nadC nmdC nndC B6 ksdC cb6) (cel_at (Q := Q) (a := a6.add (2 * 5)) (n := 5) (cs := (Sx.nC kddC nadC nmdC nndC B6 ksdC cb6)) H37 12 (by kernel_rfl)) ?_
    refine Sx.c 1 [0, 0, 0, 0, 0, 0, 7] H37 (fun Hp R hZ => ih bc bg eA8 en ec8 oA on oc S20 (⟨c9.g, c9.env, c9.ops, c9.fk, c9.fa⟩ : Ck) el Sm ol So Q kddC nadC nmdC nndC ksdC B6 cb6  row w27 R Hp c10 t5 hq10 he7 ho7 (by omega) hon (fun S21 eA9 ec9 w28 G25 he8 ho8 => hZ _ _ _ G25 fun H38 => ?_))
    refine Sx.nz 3 (.code (Sx.ct 4127195103 Tryz.f65)) [.blk 0, .code (Sx.ct 31 Tryz.f65)] [(0, .p bc), (4, .p k1), (15, .n t4), (16, .n t5)] fun b20 => Sx.l 6 10 H38 <| Sx.ia 0 a6 2 5 ks.length nc ha6 (at_lt hdC) <| Sx.fa 0 (a6.add (2 * 5)) 1 <| Sx.lo (c := 1) (t := 3) 0 [.n nadC] (.n nadC) (cells_sub (i := 1) (m := 1) (cel_at (Q := Q) (a := a6.add (2 * 5)) (n := 5) (cs := (Sx.nC kddC nadC nmdC nndC B6 ksdC cb6)) H38 13 (by kernel_rfl)) (by decide)) ?_
    refine Sx.c 0 [0, 0] H38 (fun Hp R hZ => same_c bc bg eA9 en ec9 oA on oc t5 t4 ((nadC : Nat) : Int) S21 (⟨c10.g, c10.env, c10.ops, c10.fk, c10.fa⟩ : Ck) w28 R Hp _ c11 hq11 (fun S22 w29 G26 => hZ _ _ _ G26 fun H39 => ?_))
    refine Sx.rt 11 [] H39 (.n t4) ?_
    subst hL0
    exact Gx.ret_as (v' := .n t4) (by rfl) (hK S22 eA9 ec9 _ (H39.pk [0, 0, 0, 0, 0, 0, 3]) ((he8.trans (same_keeps hq11).1.symm)) ((ho8.trans (same_keeps hq11).2.symm)))
  refine Sx.nz 6 (.code (Sx.ct 257949695 Tryz.f65)) [.blk 0, .code (Sx.ct 31 Tryz.f65)] [(0, .p bc), (2, .n row), (4, .p k1), (7, .p bg), (39, .n kd), (195, .bool (((kd : Nat) : Int) == (12 : Int)))] fun b21 => ?_
  refine Sx.br 0 (((kd : Nat) : Int) == (12 : Int)) (fun h_c195 => ?_) (fun h_c195 => ?_)
  · have p_c40 := Gx.k0 h_c40
    have p_c44 := Gx.k0 h_c44
    have p_c48 := Gx.k0 h_c48
    have p_c52 := Gx.k0 h_c52
    have p_c59 := Gx.k0 h_c59
    have p_c97 := Gx.k0 h_c97
    have p_c123 := Gx.k0 h_c123
    have p_c129 := Gx.k0 h_c129
    have p_c135 := Gx.k0 h_c135
    have p_c151 := Gx.k0 h_c151
    have p_c195 := Gx.k1 h_c195
    have hkd : kd = 12 := by omega
    rw [hkd, ex_12 h0] at hf
    obtain ⟨dA, hdA, hf⟩ := bs hf
    obtain ⟨kddA, nadA, nmdA, nndA, ksdA⟩ := dA
    obtain ⟨B7, cb7, a7, ha7, H40⟩ := nd_kid (Q := Q) (ks := ks) (A := nA) (c := nc) (i := 0) H2 6 (by kernel_rfl) hdA
    obtain ⟨dB, hdB, hf⟩ := bs hf
    obtain ⟨kddB, nadB, nmdB, nndB, ksdB⟩ := dB
    obtain ⟨B8, cb8, a8, ha8, H41⟩ := nd_kid (Q := Q) (ks := ks) (A := nA) (c := nc) (i := 1) H40 6 (by kernel_rfl) hdB
    obtain ⟨⟨c12, t6⟩, hq12, hf⟩ := bs hf
    obtain ⟨⟨c13, t7⟩, hq13, hf⟩ := bs hf
    obtain ⟨gg12, hg12, rfl⟩ := cs_put (g0 := c13.g) (e := c13.env) (o := c13.ops) (fk := c13.fk) (fa := c13.fa) hf rfl
    refine Sx.l 4 7 H41 <| Sx.ia 0 a7 0 5 ks.length nc ha7 (at_lt hdA) <| Sx.lo (c := 5) (t := 62) 0 (Sx.nC kddA nadA nmdA nndA B7 ksdA cb7) (Sx.nA kddA nadA nmdA nndA B7 ksdA cb7) (cel_at (Q := Q) (a := a7.add (0 * 5)) (n := 5) (cs := (Sx.nC kddA nadA nmdA nndA B7 ksdA cb7)) H41 8 (by kernel_rfl)) ?_
    refine Sx.c 1 [0, 0, 0, 0, 0, 0, 3] H41 (fun Hp R hZ => ih bc bg eA en ec oA on oc S (⟨c.g, c.env, c.ops, c.fk, c.fa⟩ : Ck) el Sm ol So Q kddA nadA nmdA nndA ksdA B7 cb7  row w2 R Hp c12 t6 hq12 hel hol (by omega) hon (fun S23 eA10 ec10 w30 G27 he9 ho9 => hZ _ _ _ G27 fun H42 => ?_))
    refine Sx.nz 3 (.code (Sx.ct 1031798781 Tryz.f65)) [.blk 0, .code (Sx.ct 31 Tryz.f65)] [(0, .p bc), (2, .n row), (4, .p k1), (7, .p bg), (17, .n t6)] fun b22 => Sx.l 4 8 H42 <| Sx.ia 0 a8 1 5 ks.length nc ha8 (at_lt hdB) <| Sx.lo (c := 5) (t := 62) 0 (Sx.nC kddB nadB nmdB nndB B8 ksdB cb8) (Sx.nA kddB nadB nmdB nndB B8 ksdB cb8) (cel_at (Q := Q) (a := a8.add (1 * 5)) (n := 5) (cs := (Sx.nC kddB nadB nmdB nndB B8 ksdB cb8)) H42 10 (by kernel_rfl)) ?_
    refine Sx.c 1 [0, 0, 0, 0, 0, 0, 5] H42 (fun Hp R hZ => ih bc bg eA10 en ec10 oA on oc S23 (⟨c12.g, c12.env, c12.ops, c12.fk, c12.fa⟩ : Ck) el Sm ol So Q kddB nadB nmdB nndB ksdB B8 cb8  row w30 R Hp c13 t7 hq13 he9 ho9 (by omega) hon (fun S24 eA11 ec11 w31 G28 he10 ho10 => hZ _ _ _ G28 fun H43 => ?_))
    refine Sx.c 8 [1] H43 (fun Hp R hZ => Put_c S24 bg c13.g 5 ((t6 : Nat) : Int) (some t6) ((t7 : Nat) : Int) (some t7) 0 w31 R Hp gg12 t rfl rfl hg12 (fun S25 w32 G29 => hZ _ _ _ G29 fun H44 => ?_))
    refine Sx.rt 6 [] H44 (.n t) ?_
    subst hL0
    exact Gx.ret_as (v' := .n t) (by rfl) (hK S25 eA11 ec11 _ (H44.pk [1, 0, 0, 0, 0, 0, 2]) (he10) (ho10))
  refine Sx.nz 7 (.code (Sx.ct 2063597565 Tryz.f65)) [.code (Sx.ct 1031798783 Tryz.f65), .blk 0, .code (Sx.ct 31 Tryz.f65)] [(0, .p bc), (2, .n row), (4, .p k1), (7, .p bg), (39, .n kd), (215, .bool (((kd : Nat) : Int) == (13 : Int)))] fun b23 => ?_
  refine Sx.br 0 (((kd : Nat) : Int) == (13 : Int)) (fun h_c215 => ?_) (fun h_c215 => ?_)
  · have p_c40 := Gx.k0 h_c40
    have p_c44 := Gx.k0 h_c44
    have p_c48 := Gx.k0 h_c48
    have p_c52 := Gx.k0 h_c52
    have p_c59 := Gx.k0 h_c59
    have p_c97 := Gx.k0 h_c97
    have p_c123 := Gx.k0 h_c123
    have p_c129 := Gx.k0 h_c129
    have p_c135 := Gx.k0 h_c135
    have p_c151 := Gx.k0 h_c151
    have p_c195 := Gx.k0 h_c195
    have p_c215 := Gx.k1 h_c215
    have hkd : kd = 13 := by omega
    rw [hkd, ex_13 h0] at hf
    obtain ⟨dA, hdA, hf⟩ := bs hf
    obtain ⟨kddA, nadA, nmdA, nndA, ksdA⟩ := dA
    obtain ⟨B9, cb9, a9, ha9, H45⟩ := nd_kid (Q := Q) (ks := ks) (A := nA) (c := nc) (i := 0) H2 6 (by kernel_rfl) hdA
    obtain ⟨⟨c14, t8⟩, hq14, hf⟩ := bs hf
    obtain ⟨⟨c15, nn13⟩, hq15, hf⟩ := bs hf
    obtain ⟨gg13, hg13, rfl⟩ := cs_var (g0 := c14.g) (e := c14.env) (o := c14.ops) (fk := c14.fk) (fa := c14.fa) hq15 rfl
    obtain ⟨⟨c16, nn14⟩, hq16, hf⟩ := bs hf
    obtain ⟨gg14, hg14, rfl⟩ := cs_var (g0 := gg13) (e := c14.env) (o := c14.ops) (fk := c14.fk) (fa := c14.fa) hq16 rfl
    obtain ⟨⟨c17, nn15⟩, hq17, hf⟩ := bs hf
    obtain ⟨gg15, hg15, rfl⟩ := cs_put (g0 := gg14) (e := c14.env) (o := c14.ops) (fk := c14.fk) (fa := c14.fa) hq17 rfl
    obtain ⟨c18, hq18, hf⟩ := bs hf
    obtain ⟨rfl, rfl⟩ := pr hf
    refine Sx.sl 0 215 (.bool (((kd : Nat) : Int) == (13 : Int))) (.bool true) (congrArg Value.bool h_c215) <| Sx.nz 2 (.code (Sx.ct 1031798783 Tryz.f65)) [.blk 0, .code (Sx.ct 31 Tryz.f65)] [(0, .p bc), (2, .n row), (4, .p k1), (7, .p bg), (39, .n kd), (215, .bool true)] fun b24 => Sx.l 5 7 H45 <| Sx.ia 0 a9 0 5 ks.length nc ha9 (at_lt hdA) <| Sx.lo (c := 5) (t := 62) 0 (Sx.nC kddA nadA nmdA nndA B9 ksdA cb9) (Sx.nA kddA nadA nmdA nndA B9 ksdA cb9) (cel_at (Q := Q) (a := a9.add (0 * 5)) (n := 5) (cs := (Sx.nC kddA nadA nmdA nndA B9 ksdA cb9)) H45 8 (by kernel_rfl)) ?_
    refine Sx.c 1 [0, 0, 0, 0, 0, 0, 3] H45 (fun Hp R hZ => ih bc bg eA en ec oA on oc S (⟨c.g, c.env, c.ops, c.fk, c.fa⟩ : Ck) el Sm ol So Q kddA nadA nmdA nndA ksdA B9 cb9  row w2 R Hp c14 t8 hq14 hel hol (by omega) hon (fun S26 eA12 ec12 w33 G30 he11 ho11 => hZ _ _ _ G30 fun H46 => ?_))
    refine Sx.c 6 [1] H46 (fun Hp R hZ => Var_c S26 bg c14.g w33 R Hp gg13 nn13 hg13 (fun S27 w34 G31 => hZ _ _ _ G31 fun H47 => ?_))
    refine Sx.c 6 [0] H47 (fun Hp R hZ => Var_c S27 bg gg13 w34 R Hp gg14 nn14 hg14 (fun S28 w35 G32 => hZ _ _ _ G32 fun H48 => ?_))
    refine Sx.c 8 [0] H48 (fun Hp R hZ => Put_c S28 bg gg14 5 ((nn13 : Nat) : Int) (some nn13) ((nn14 : Nat) : Int) (some nn14) 0 w35 R Hp gg15 nn15 rfl rfl hg15 (fun S29 w36 G33 => hZ _ _ _ G33 fun H49 => ?_))
    refine Sx.l 9 8 H49 <| Sx.ia 0 a9 0 5 ks.length nc ha9 (at_lt hdA) <| Sx.fa 0 (a9.add (0 * 5)) 1 <| Sx.lo (c := 1) (t := 3) 0 [.n nadA] (.n nadA) (cells_sub (i := 1) (m := 1) (cel_at (Q := Q) (a := a9.add (0 * 5)) (n := 5) (cs := (Sx.nC kddA nadA nmdA nndA B9 ksdA cb9)) H49 9 (by kernel_rfl)) (by decide)) ?_
    refine Sx.c 0 [1, 0] H49 (fun Hp R hZ => same_c bc bg eA12 en ec12 oA on oc t8 nn15 ((nadA : Nat) : Int) S29 (⟨gg15, c14.env, c14.ops, c14.fk, c14.fa⟩ : Ck) w36 R Hp _ c18 hq18 (fun S30 w37 G34 => hZ _ _ _ G34 fun H50 => ?_))
    refine Sx.l 6 8 H50 ?_
    refine Sx.br 3 (((kd : Nat) : Int) == (13 : Int)) (fun hk_ => ?_) (fun hk_ => absurd (h_c215.symm.trans hk_) (by decide))
    refine Sx.nz 6 (.code (Sx.ct 1056561954293 Tryz.f65)) [.code (Sx.ct 132070244287 Tryz.f65), .blk 0, .code (Sx.ct 31 Tryz.f65)] [(6, .n nn13)] fun b25 => Sx.rt 4 [] H50 (.n nn13) ?_
    subst hL0
    exact Gx.ret_as (v' := .n nn13) (by rfl) (hK S30 eA12 ec12 _ (H50.pk [0, 0, 0, 0, 0, 0, 1]) ((he11.trans (same_keeps hq18).1.symm)) ((ho11.trans (same_keeps hq18).2.symm)))
  refine Sx.sl 0 215 (.bool (((kd : Nat) : Int) == (13 : Int))) (.bool false) (congrArg Value.bool h_c215) <| Sx.nz 5 (.code (Sx.ct 1031798783 Tryz.f65)) [.blk 0, .code (Sx.ct 31 Tryz.f65)] [(0, .p bc), (2, .n row), (4, .p k1), (7, .p bg), (39, .n kd), (215, .bool (((kd : Nat) : Int) == (14 : Int)))] fun b26 => ?_
  refine Sx.br 0 (((kd : Nat) : Int) == (14 : Int)) (fun h_c215_1 => ?_) (fun h_c215_1 => ?_)
  · have p_c40 := Gx.k0 h_c40
    have p_c44 := Gx.k0 h_c44
    have p_c48 := Gx.k0 h_c48
    have p_c52 := Gx.k0 h_c52
    have p_c59 := Gx.k0 h_c59
    have p_c97 := Gx.k0 h_c97
    have p_c123 := Gx.k0 h_c123
    have p_c129 := Gx.k0 h_c129
    have p_c135 := Gx.k0 h_c135
    have p_c151 := Gx.k0 h_c151
    have p_c195 := Gx.k0 h_c195
    have p_c215 := Gx.k0 h_c215
    have p_c215_1 := Gx.k1 h_c215_1
    have hkd : kd = 14 := by omega
    rw [hkd, ex_14 h0] at hf
    obtain ⟨dA, hdA, hf⟩ := bs hf
    obtain ⟨kddA, nadA, nmdA, nndA, ksdA⟩ := dA
    obtain ⟨B10, cb10, a10, ha10, H51⟩ := nd_kid (Q := Q) (ks := ks) (A := nA) (c := nc) (i := 0) H2 6 (by kernel_rfl) hdA
    obtain ⟨⟨c19, t9⟩, hq19, hf⟩ := bs hf
    obtain ⟨⟨c20, nn16⟩, hq20, hf⟩ := bs hf
    obtain ⟨gg16, hg16, rfl⟩ := cs_var (g0 := c19.g) (e := c19.env) (o := c19.ops) (fk := c19.fk) (fa := c19.fa) hq20 rfl
    obtain ⟨⟨c21, nn17⟩, hq21, hf⟩ := bs hf
    obtain ⟨gg17, hg17, rfl⟩ := cs_var (g0 := gg16) (e := c19.env) (o := c19.ops) (fk := c19.fk) (fa := c19.fa) hq21 rfl
    obtain ⟨⟨c22, nn18⟩, hq22, hf⟩ := bs hf
    obtain ⟨gg18, hg18, rfl⟩ := cs_put (g0 := gg17) (e := c19.env) (o := c19.ops) (fk := c19.fk) (fa := c19.fa) hq22 rfl
    obtain ⟨c23, hq23, hf⟩ := bs hf
    obtain ⟨rfl, rfl⟩ := pr hf
    refine Sx.l 4 7 H51 <| Sx.ia 0 a10 0 5 ks.length nc ha10 (at_lt hdA) <| Sx.lo (c := 5) (t := 62) 0 (Sx.nC kddA nadA nmdA nndA B10 ksdA cb10) (Sx.nA kddA nadA nmdA nndA B10 ksdA cb10) (cel_at (Q := Q) (a := a10.add (0 * 5)) (n := 5) (cs := (Sx.nC kddA nadA nmdA nndA B10 ksdA cb10)) H51 8 (by kernel_rfl)) ?_
    refine Sx.c 1 [0, 0, 0, 0, 0, 0, 3] H51 (fun Hp R hZ => ih bc bg eA en ec oA on oc S (⟨c.g, c.env, c.ops, c.fk, c.fa⟩ : Ck) el Sm ol So Q kddA nadA nmdA nndA ksdA B10 cb10  row w2 R Hp c19 t9 hq19 hel hol (by omega) hon (fun S31 eA13 ec13 w38 G35 he12 ho12 => hZ _ _ _ G35 fun H52 => ?_))
    refine Sx.nz 3 (.code (Sx.ct 4127195133 Tryz.f65)) [.blk 0, .code (Sx.ct 31 Tryz.f65)] [(0, .p bc), (4, .p k1), (7, .p bg), (19, .n t9)] fun b27 => ?_
    refine Sx.c 3 [1] H52 (fun Hp R hZ => Var_c S31 bg c19.g w38 R Hp gg16 nn16 hg16 (fun S32 w39 G36 => hZ _ _ _ G36 fun H53 => ?_))
    refine Sx.c 6 [0] H53 (fun Hp R hZ => Var_c S32 bg gg16 w39 R Hp gg17 nn17 hg17 (fun S33 w40 G37 => hZ _ _ _ G37 fun H54 => ?_))
    refine Sx.c 8 [0] H54 (fun Hp R hZ => Put_c S33 bg gg17 5 ((nn16 : Nat) : Int) (some nn16) ((nn17 : Nat) : Int) (some nn17) 0 w40 R Hp gg18 nn18 rfl rfl hg18 (fun S34 w41 G38 => hZ _ _ _ G38 fun H55 => ?_))
    refine Sx.l 9 8 H55 <| Sx.ia 0 a10 0 5 ks.length nc ha10 (at_lt hdA) <| Sx.fa 0 (a10.add (0 * 5)) 1 <| Sx.lo (c := 1) (t := 3) 0 [.n nadA] (.n nadA) (cells_sub (i := 1) (m := 1) (cel_at (Q := Q) (a := a10.add (0 * 5)) (n := 5) (cs := (Sx.nC kddA nadA nmdA nndA B10 ksdA cb10)) H55 9 (by kernel_rfl)) (by decide)) ?_
    refine Sx.c 0 [1, 0] H55 (fun Hp R hZ => same_c bc bg eA13 en ec13 oA on oc t9 nn18 ((nadA : Nat) : Int) S34 (⟨gg18, c19.env, c19.ops, c19.fk, c19.fa⟩ : Ck) w41 R Hp _ c23 hq23 (fun S35 w42 G39 => hZ _ _ _ G39 fun H56 => ?_))
    refine Sx.l 6 8 H56 ?_
    refine Sx.br 3 (((kd : Nat) : Int) == (13 : Int)) (fun hk_ => absurd (h_c215.symm.trans hk_) (by decide)) (fun hk_ => ?_)
    refine Sx.rt 11 [] H56 (.n nn17) ?_
    subst hL0
    exact Gx.ret_as (v' := .n nn17) (by rfl) (hK S35 eA13 ec13 _ (H56.pk [0, 0, 0, 0, 0, 0, 1]) ((he12.trans (same_keeps hq23).1.symm)) ((ho12.trans (same_keeps hq23).2.symm)))
  refine Sx.nz 6 (.code (Sx.ct 4127195135 Tryz.f65)) [.blk 0, .code (Sx.ct 31 Tryz.f65)] [(0, .p bc), (2, .n row), (4, .p k1), (7, .p bg), (39, .n kd), (247, .bool (((kd : Nat) : Int) == (16 : Int)))] fun b28 => ?_
  refine Sx.br 0 (((kd : Nat) : Int) == (16 : Int)) (fun h_c247 => ?_) (fun h_c247 => ?_)
  · have p_c40 := Gx.k0 h_c40
    have p_c44 := Gx.k0 h_c44
    have p_c48 := Gx.k0 h_c48
    have p_c52 := Gx.k0 h_c52
    have p_c59 := Gx.k0 h_c59
    have p_c97 := Gx.k0 h_c97
    have p_c123 := Gx.k0 h_c123
    have p_c129 := Gx.k0 h_c129
    have p_c135 := Gx.k0 h_c135
    have p_c151 := Gx.k0 h_c151
    have p_c195 := Gx.k0 h_c195
    have p_c215 := Gx.k0 h_c215
    have p_c215_1 := Gx.k0 h_c215_1
    have p_c247 := Gx.k1 h_c247
    have hkd : kd = 16 := by omega
    rw [hkd, ex_16 h0] at hf
    obtain ⟨dA, hdA, hf⟩ := bs hf
    obtain ⟨kddA, nadA, nmdA, nndA, ksdA⟩ := dA
    obtain ⟨B11, cb11, a11, ha11, H57⟩ := nd_kid (Q := Q) (ks := ks) (A := nA) (c := nc) (i := 0) H2 6 (by kernel_rfl) hdA
    obtain ⟨dB, hdB, hf⟩ := bs hf
    obtain ⟨kddB, nadB, nmdB, nndB, ksdB⟩ := dB
    obtain ⟨B12, cb12, a12, ha12, H58⟩ := nd_kid (Q := Q) (ks := ks) (A := nA) (c := nc) (i := 1) H57 6 (by kernel_rfl) hdB
    obtain ⟨⟨c24, t10⟩, hq24, hf⟩ := bs hf
    obtain ⟨⟨c25, t11⟩, hq25, hf⟩ := bs hf
    obtain ⟨⟨c26, nn19⟩, hq26, hf⟩ := bs hf
    obtain ⟨gg19, hg19, rfl⟩ := cs_put (g0 := c25.g) (e := c25.env) (o := c25.ops) (fk := c25.fk) (fa := c25.fa) hq26 rfl
    obtain ⟨c27, hq27, hf⟩ := bs hf
    obtain ⟨rfl, rfl⟩ := pr hf
    refine Sx.l 4 7 H58 <| Sx.ia 0 a11 0 5 ks.length nc ha11 (at_lt hdA) <| Sx.lo (c := 5) (t := 62) 0 (Sx.nC kddA nadA nmdA nndA B11 ksdA cb11) (Sx.nA kddA nadA nmdA nndA B11 ksdA cb11) (cel_at (Q := Q) (a := a11.add (0 * 5)) (n := 5) (cs := (Sx.nC kddA nadA nmdA nndA B11 ksdA cb11)) H58 8 (by kernel_rfl)) ?_
    refine Sx.c 1 [0, 0, 0, 0, 0, 0, 3] H58 (fun Hp R hZ => ih bc bg eA en ec oA on oc S (⟨c.g, c.env, c.ops, c.fk, c.fa⟩ : Ck) el Sm ol So Q kddA nadA nmdA nndA ksdA B11 cb11  row w2 R Hp c24 t10 hq24 hel hol (by omega) hon (fun S36 eA14 ec14 w43 G40 he13 ho13 => hZ _ _ _ G40 fun H59 => ?_))
    refine Sx.nz 3 (.code (Sx.ct 16508780541 Tryz.f65)) [.blk 0, .code (Sx.ct 31 Tryz.f65)] [(0, .p bc), (2, .n row), (4, .p k1), (7, .p bg), (23, .n t10)] fun b29 => Sx.l 4 8 H59 <| Sx.ia 0 a12 1 5 ks.length nc ha12 (at_lt hdB) <| Sx.lo (c := 5) (t := 62) 0 (Sx.nC kddB nadB nmdB nndB B12 ksdB cb12) (Sx.nA kddB nadB nmdB nndB B12 ksdB cb12) (cel_at (Q := Q) (a := a12.add (1 * 5)) (n := 5) (cs := (Sx.nC kddB nadB nmdB nndB B12 ksdB cb12)) H59 10 (by kernel_rfl)) ?_
    refine Sx.c 1 [0, 0, 0, 0, 0, 0, 5] H59 (fun Hp R hZ => ih bc bg eA14 en ec14 oA on oc S36 (⟨c24.g, c24.env, c24.ops, c24.fk, c24.fa⟩ : Ck) el Sm ol So Q kddB nadB nmdB nndB ksdB B12 cb12  row w43 R Hp c25 t11 hq25 he13 ho13 (by omega) hon (fun S37 eA15 ec15 w44 G41 he14 ho14 => hZ _ _ _ G41 fun H60 => ?_))
    refine Sx.c 7 [1] H60 (fun Hp R hZ => Put_c S37 bg c25.g 4 ((t10 : Nat) : Int) (some t10) (-1) none 0 w44 R Hp gg19 nn19 rfl rfl hg19 (fun S38 w45 G42 => hZ _ _ _ G42 fun H61 => ?_))
    refine Sx.l 9 9 H61 <| Sx.ia 0 a12 1 5 ks.length nc ha12 (at_lt hdB) <| Sx.fa 0 (a12.add (1 * 5)) 1 <| Sx.lo (c := 1) (t := 3) 0 [.n nadB] (.n nadB) (cells_sub (i := 1) (m := 1) (cel_at (Q := Q) (a := a12.add (1 * 5)) (n := 5) (cs := (Sx.nC kddB nadB nmdB nndB B12 ksdB cb12)) H61 11 (by kernel_rfl)) (by decide)) ?_
    refine Sx.c 0 [1, 0] H61 (fun Hp R hZ => same_c bc bg eA15 en ec15 oA on oc t11 nn19 ((nadB : Nat) : Int) S38 (⟨gg19, c25.env, c25.ops, c25.fk, c25.fa⟩ : Ck) w45 R Hp _ c27 hq27 (fun S39 w46 G43 => hZ _ _ _ G43 fun H62 => ?_))
    refine Sx.rt 11 [] H62 (.n t11) ?_
    subst hL0
    exact Gx.ret_as (v' := .n t11) (by rfl) (hK S39 eA15 ec15 _ (H62.pk [0, 0, 0, 0, 0, 0, 2]) ((he14.trans (same_keeps hq27).1.symm)) ((ho14.trans (same_keeps hq27).2.symm)))
  refine Sx.nz 6 (.code (Sx.ct 16508780543 Tryz.f65)) [.blk 0, .code (Sx.ct 31 Tryz.f65)] [(0, .p bc), (2, .n row), (4, .p k1), (7, .p bg), (39, .n kd), (276, .bool (((kd : Nat) : Int) == (17 : Int)))] fun b30 => ?_
  refine Sx.br 0 (((kd : Nat) : Int) == (17 : Int)) (fun h_c276 => ?_) (fun h_c276 => ?_)
  · have p_c40 := Gx.k0 h_c40
    have p_c44 := Gx.k0 h_c44
    have p_c48 := Gx.k0 h_c48
    have p_c52 := Gx.k0 h_c52
    have p_c59 := Gx.k0 h_c59
    have p_c97 := Gx.k0 h_c97
    have p_c123 := Gx.k0 h_c123
    have p_c129 := Gx.k0 h_c129
    have p_c135 := Gx.k0 h_c135
    have p_c151 := Gx.k0 h_c151
    have p_c195 := Gx.k0 h_c195
    have p_c215 := Gx.k0 h_c215
    have p_c215_1 := Gx.k0 h_c215_1
    have p_c247 := Gx.k0 h_c247
    have p_c276 := Gx.k1 h_c276
    have hkd : kd = 17 := by omega
    rw [hkd, ex_17 h0] at hf
    rw [← hkd] at hf
    refine Sx.l 3 7 H2 ?_
    refine Sx.c 1 [0, 0, 0, 0, 0, 0, 0] H2 (fun Hp R hZ => cases_c k ih bc bg eA en ec oA on oc S (⟨c.g, c.env, c.ops, c.fk, c.fa⟩ : Ck) el Sm ol So Q kd na nm nn ks nA nc  row w2 R Hp c' t hf hel hol (by omega) hon (fun S40 eA16 ec16 w47 G44 he15 ho15 => hZ _ _ _ G44 fun H63 => ?_))
    refine Sx.nz 3 (.code (Sx.ct 66035122173 Tryz.f65)) [.blk 0, .code (Sx.ct 31 Tryz.f65)] [(6, .n t)] fun b31 => Sx.rt 3 [] H63 (.n t) ?_
    subst hL0
    exact Gx.ret_as (v' := .n t) (by rfl) (hK S40 eA16 ec16 _ (H63.pk [0, 0, 0, 0, 0, 0, 0]) (he15) (ho15))
  refine Sx.nz 6 (.code (Sx.ct 66035122175 Tryz.f65)) [.blk 0, .code (Sx.ct 31 Tryz.f65)] [(0, .p bc), (2, .n row), (4, .p k1), (7, .p bg), (39, .n kd), (282, .bool (((kd : Nat) : Int) == (18 : Int)))] fun b32 => ?_
  refine Sx.br 0 (((kd : Nat) : Int) == (18 : Int)) (fun h_c282 => ?_) (fun h_c282 => ?_)
  · have p_c40 := Gx.k0 h_c40
    have p_c44 := Gx.k0 h_c44
    have p_c48 := Gx.k0 h_c48
    have p_c52 := Gx.k0 h_c52
    have p_c59 := Gx.k0 h_c59
    have p_c97 := Gx.k0 h_c97
    have p_c123 := Gx.k0 h_c123
    have p_c129 := Gx.k0 h_c129
    have p_c135 := Gx.k0 h_c135
    have p_c151 := Gx.k0 h_c151
    have p_c195 := Gx.k0 h_c195
    have p_c215 := Gx.k0 h_c215
    have p_c215_1 := Gx.k0 h_c215_1
    have p_c247 := Gx.k0 h_c247
    have p_c276 := Gx.k0 h_c276
    have p_c282 := Gx.k1 h_c282
    have hkd : kd = 18 := by omega
    rw [hkd] at hf
    obtain ⟨h2l, hop0⟩ := ex_18' h0 hf
    refine Sx.nz 6 (.code (Sx.ct 528280977401 Tryz.f65)) [.code (Sx.ct 264140488701 Tryz.f65), .blk 0, .code (Sx.ct 31 Tryz.f65)] [(0, .p bc), (2, .n row), (4, .p k1), (7, .p bg), (26, .int .i64 0)] fun b33 => ?_
    refine Sx.lp 1 (fun z l' w' => ∃ (i : Nat) (S1 : Nat → Prop) (A1 : Option Addr) (q1 : Nat) (cz : Ck), l' = [(0, .p bc), (2, .n row), (4, .p k1), (7, .p bg), (26, .n i)] ∧ z = 2 - i ∧ Hs w L0 w' (Sx.cX bc bg A1 en q1 oA on oc cz.fk cz.fa S1 cz.g el Sm ol So Q ks nA nc ++ [.blk k1 (.cells #[.n kd, .n na, .string nm, .int .i64 nn, .slice nA ks.length nc] 62)]) ∧ (i ≤ 2) ∧ (opM (expr k) k row nm ((ks.take 2).drop i) cz = some (c', t)) ∧ (el.map (·.1) = cz.env) ∧ (ol.map (·.1) = cz.ops)) _ _ ⟨0, S, eA, ec, c, rfl, rfl, H2.pk [0, 0, 0, 0, 0, 0, 0, 0], (by decide), hop0, hel, hol⟩ (fun b34 z2 l2 w48 hI2 K2 hK2 => ?_)
    obtain ⟨i, S1, A1, q1, cz, rfl, rfl, H65, hi2, hop, hez1, hoz1⟩ := hI2
    refine Sx.br 7 (decide (((i : Nat) : Int) < (2 : Int))) (fun h_c285 => ?_) (fun h_c285 => ?_)
    · have p_c285 := of_decide_eq_true h_c285
      obtain ⟨dY, hdY, hst⟩ := opM_step hop (by omega) h2l
      obtain ⟨kddY, nadY, nmdY, nndY, ksdY⟩ := dY
      obtain ⟨B13, cb13, a13, ha13, H66⟩ := nd_kid (Q := Q) (ks := ks) (A := nA) (c := nc) (i := i) H65 6 (by kernel_rfl) hdY
      obtain ⟨⟨c28, t12⟩, hq28, hst⟩ := bs hst
      obtain ⟨⟨c29, nn20⟩, hq29, hst⟩ := bs hst
      obtain ⟨gg20, hg20, rfl⟩ := cs_put (g0 := c28.g) (e := c28.env) (o := c28.ops) (fk := c28.fk) (fa := c28.fa) hq29 rfl
      obtain ⟨c30, hq30, hst⟩ := bs hst
      refine Sx.l 8 7 H66 <| Sx.ia 1 a13 i 5 ks.length nc ha13 (at_lt hdY) <| Sx.lo (c := 5) (t := 62) 0 (Sx.nC kddY nadY nmdY nndY B13 ksdY cb13) (Sx.nA kddY nadY nmdY nndY B13 ksdY cb13) (cel_at (Q := Q) (a := a13.add (i * 5)) (n := 5) (cs := (Sx.nC kddY nadY nmdY nndY B13 ksdY cb13)) H66 8 (by kernel_rfl)) ?_
      refine Sx.c 1 [0, 0, 0, 0, 0, 0, 3] H66 (fun Hp R hZ => ih bc bg A1 en q1 oA on oc S1 (⟨cz.g, cz.env, cz.ops, cz.fk, cz.fa⟩ : Ck) el Sm ol So Q kddY nadY nmdY nndY ksdY B13 cb13  row w48 R Hp c28 t12 hq28 hez1 hoz1 (by omega) hon (fun S41 eA17 ec17 w49 G45 he16 ho16 => hZ _ _ _ G45 fun H67 => ?_))
      refine Sx.nz 3 (.code (Sx.ct 33809982553673 Tryz.f65)) [.blk 4, .code (Sx.ct 8452495638419 Tryz.f65), .to K2, .blk 3, .code (Sx.ct 264140488701 Tryz.f65), .blk 0, .code (Sx.ct 31 Tryz.f65)] [(0, .p bc), (2, .n row), (4, .p k1), (7, .p bg), (26, .n i), (27, .n t12)] fun b35 => ?_
      refine Sx.c 3 [1] H67 (fun Hp R hZ => Put_c S41 bg c28.g 1 (-1) none (-1) none 0 w49 R Hp gg20 nn20 rfl rfl hg20 (fun S42 w50 G46 => hZ _ _ _ G46 fun H68 => ?_))
      refine Sx.l 8 8 H68 <| Sx.ia 1 a13 i 5 ks.length nc ha13 (at_lt hdY) <| Sx.fa 0 (a13.add (i * 5)) 1 <| Sx.lo (c := 1) (t := 3) 0 [.n nadY] (.n nadY) (cells_sub (i := 1) (m := 1) (cel_at (Q := Q) (a := a13.add (i * 5)) (n := 5) (cs := (Sx.nC kddY nadY nmdY nndY B13 ksdY cb13)) H68 9 (by kernel_rfl)) (by decide)) ?_
      refine Sx.c 0 [1, 0] H68 (fun Hp R hZ => same_c bc bg eA17 en ec17 oA on oc t12 nn20 ((nadY : Nat) : Int) S42 (⟨gg20, c28.env, c28.ops, c28.fk, c28.fa⟩ : Ck) w50 R Hp _ c30 hq30 (fun S43 w51 G47 => hZ _ _ _ G47 fun H69 => ?_))
      refine Sx.v 5 (.int .i64 (IntKind.i64.wrap (((i : Nat) : Int) + (1 : Int)))) (.int .i64 ((i + 1 : Nat) : Int)) (congrArg (Value.int .i64) (Gx.i64n (by omega) (by omega))) ?_
      exact Sx.to 2 _ (hK2 _ _ _ _ (by omega) ⟨(i + 1), S43, eA17, ec17, (⟨c30.g, c30.env, c30.ops, c30.fk, c30.fa⟩ : Ck), rfl, rfl, H69.pk [0, 0, 0, 0, 0, 0, 1, 1], (by omega), hst, (he16.trans (same_keeps hq30).1.symm), (ho16.trans (same_keeps hq30).2.symm)⟩)
    have p_c285 := of_decide_eq_false h_c285
    have hf := opM_done hop (by omega)
    refine Sx.nz 5 (.code (Sx.ct 264140488701 Tryz.f65)) [.blk 0, .code (Sx.ct 31 Tryz.f65)] [(4, .p k1), (7, .p bg)] fun b36 => ?_
    refine Sx.cut 1 (fun l' w' => l' = [(7, .p bg), (315, .bool ((nm.toList == (⟨#[60]⟩ : ByteArray).toList) || (nm.toList == (⟨#[61, 61]⟩ : ByteArray).toList)))] ∧ w48 = w') (fun K3 hK3 => ?_) (fun b37 l3 w52 hI3 => ?_)
    · refine Sx.l 2 7 H65 ?_
      refine Sx.sp 2 311 (nm.toList == (⟨#[60]⟩ : ByteArray).toList) (fun h_g311 => ?_) (fun h_g311 => ?_)
      · exact Sx.to 5 _ (hK3 _ _ _ ⟨rfl, rfl⟩) (h2 := (by rw [h_g311]; try kernel_rfl))
      refine Sx.l 1 7 H65 ?_
      exact Sx.to 3 _ (hK3 _ _ _ ⟨rfl, rfl⟩) (h2 := (by rw [h_g311]; try kernel_rfl))
    obtain ⟨rfl, rfl⟩ := hI3
    refine Sx.br 0 ((nm.toList == (⟨#[60]⟩ : ByteArray).toList) || (nm.toList == (⟨#[61, 61]⟩ : ByteArray).toList)) (fun h_c315 => ?_) (fun h_c315 => ?_)
    · rw [if_pos (by rw [eqN_eq, eqN_eq]; exact h_c315)] at hf
      obtain ⟨gg21, hg21, rfl⟩ := cs_put (g0 := cz.g) (e := cz.env) (o := cz.ops) (fk := cz.fk) (fa := cz.fa) hf rfl
      refine Sx.c 3 [1] H65 (fun Hp R hZ => Put_c S1 bg cz.g 2 (-1) none (-1) none 0 w48 R Hp gg21 t rfl rfl hg21 (fun S44 w53 G48 => hZ _ _ _ G48 fun H71 => ?_))
      refine Sx.nz 3 (.code (Sx.ct 4226247819221 Tryz.f65)) [.code (Sx.ct 528280977403 Tryz.f65), .blk 0, .code (Sx.ct 31 Tryz.f65)] [(6, .n t)] fun b38 => Sx.rt 4 [] H71 (.n t) ?_
      subst hL0
      exact Gx.ret_as (v' := .n t) (by rfl) (hK S44 A1 q1 _ (H71.pk [1, 0, 0, 0, 0, 0, 0]) (hez1) (hoz1))
    rw [if_neg (by rw [eqN_eq, eqN_eq, h_c315]; decide)] at hf
    obtain ⟨gg22, hg22, rfl⟩ := cs_put (g0 := cz.g) (e := cz.env) (o := cz.ops) (fk := cz.fk) (fa := cz.fa) hf rfl
    refine Sx.nz 2 (.code (Sx.ct 528280977403 Tryz.f65)) [.blk 0, .code (Sx.ct 31 Tryz.f65)] [(7, .p bg)] fun b39 => ?_
    refine Sx.c 3 [1] H65 (fun Hp R hZ => Put_c S1 bg cz.g 1 (-1) none (-1) none 0 w48 R Hp gg22 t rfl rfl hg22 (fun S45 w54 G49 => hZ _ _ _ G49 fun H72 => ?_))
    refine Sx.rt 6 [] H72 (.n t) ?_
    subst hL0
    exact Gx.ret_as (v' := .n t) (by rfl) (hK S45 A1 q1 _ (H72.pk [1, 0, 0, 0, 0, 0, 0]) (hez1) (hoz1))
  refine Sx.nz 6 (.code (Sx.ct 264140488703 Tryz.f65)) [.blk 0, .code (Sx.ct 31 Tryz.f65)] [(0, .p bc), (2, .n row), (4, .p k1), (320, .bool (((kd : Nat) : Int) == (19 : Int)))] fun b40 => ?_
  refine Sx.br 0 (((kd : Nat) : Int) == (19 : Int)) (fun h_c320 => ?_) (fun h_c320 => ?_)
  · have p_c40 := Gx.k0 h_c40
    have p_c44 := Gx.k0 h_c44
    have p_c48 := Gx.k0 h_c48
    have p_c52 := Gx.k0 h_c52
    have p_c59 := Gx.k0 h_c59
    have p_c97 := Gx.k0 h_c97
    have p_c123 := Gx.k0 h_c123
    have p_c129 := Gx.k0 h_c129
    have p_c135 := Gx.k0 h_c135
    have p_c151 := Gx.k0 h_c151
    have p_c195 := Gx.k0 h_c195
    have p_c215 := Gx.k0 h_c215
    have p_c215_1 := Gx.k0 h_c215_1
    have p_c247 := Gx.k0 h_c247
    have p_c276 := Gx.k0 h_c276
    have p_c282 := Gx.k0 h_c282
    have p_c320 := Gx.k1 h_c320
    have hkd : kd = 19 := by omega
    rw [hkd, ex_19 h0] at hf
    rw [← hkd] at hf
    refine Sx.l 3 7 H2 ?_
    refine Sx.c 1 [0, 0, 0, 0, 0, 0, 0] H2 (fun Hp R hZ => does_c k ih bc bg eA en ec oA on oc S (⟨c.g, c.env, c.ops, c.fk, c.fa⟩ : Ck) el Sm ol So Q kd na nm nn ks nA nc  row w2 R Hp c' t hf hel hol (by omega) hon h0 (fun S46 eA18 ec18 w55 G50 he17 ho17 => hZ _ _ _ G50 fun H73 => ?_))
    refine Sx.nz 3 (.code (Sx.ct 1056561954813 Tryz.f65)) [.blk 0, .code (Sx.ct 31 Tryz.f65)] [(6, .n t)] fun b41 => Sx.rt 3 [] H73 (.n t) ?_
    subst hL0
    exact Gx.ret_as (v' := .n t) (by rfl) (hK S46 eA18 ec18 _ (H73.pk [0, 0, 0, 0, 0, 0, 0]) (he17) (ho17))
  have p_c40 := Gx.k0 h_c40
  have p_c44 := Gx.k0 h_c44
  have p_c48 := Gx.k0 h_c48
  have p_c52 := Gx.k0 h_c52
  have p_c59 := Gx.k0 h_c59
  have p_c97 := Gx.k0 h_c97
  have p_c123 := Gx.k0 h_c123
  have p_c129 := Gx.k0 h_c129
  have p_c135 := Gx.k0 h_c135
  have p_c151 := Gx.k0 h_c151
  have p_c195 := Gx.k0 h_c195
  have p_c215 := Gx.k0 h_c215
  have p_c215_1 := Gx.k0 h_c215_1
  have p_c247 := Gx.k0 h_c247
  have p_c276 := Gx.k0 h_c276
  have p_c282 := Gx.k0 h_c282
  have p_c320 := Gx.k0 h_c320
  rw [ex_h h0 (by omega) (by omega) (by omega) (by omega) (by omega) (by omega) (by omega) (by omega) (by omega) (by omega) (by omega) (by omega) (by omega) (by omega) (by omega) (by omega) (by omega)] at hf
  refine Sx.nz 3 (.code (Sx.ct 31 Tryz.f65)) [] [(0, .p bc), (2, .n row), (4, .p k1)] fun b42 => Sx.l 3 7 H2 ?_
  refine Sx.c 1 [0, 0, 0, 0, 0, 0, 0] H2 (fun Hp R hZ => handle_c k ih bc bg eA en ec oA on oc S (⟨c.g, c.env, c.ops, c.fk, c.fa⟩ : Ck) el Sm ol So Q kd na nm nn ks nA nc  row w2 R Hp c' t hf hel hol (by omega) hon (fun S47 eA19 ec19 w56 G51 he18 ho18 => hZ _ _ _ G51 fun H74 => ?_))
  refine Sx.rt 4 [] H74 (.n t) ?_
  subst hL0
  exact Gx.ret_as (v' := .n t) (by rfl) (hK S47 eA19 ec19 _ (H74.pk [0, 0, 0, 0, 0, 0, 0]) (he18) (ho18))
theorem expr_c (k : Nat) : ExprC k := by
  induction k with
  | zero => intro bc bg eA en ec oA on oc S c el Sm ol So Q kd na nm nn ks nA nc row w K H0 c' t hf; exact absurd hf (by simp [expr])
  | succ k ih => intro bc bg eA en ec oA on oc S c el Sm ol So Q kd na nm nn ks nA nc row w K H0 c' t hf hel hol hez hon hK; exact expr_s k ih bc bg eA en ec oA on oc S c el Sm ol So Q kd na nm nn ks nA nc row w K H0 c' t hf hel hol hez hon hK
end Go.Proofs.YtdmdecgoebnamaaGreat
