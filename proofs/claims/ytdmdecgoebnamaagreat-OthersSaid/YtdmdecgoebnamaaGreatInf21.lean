/- A part of the proof. -/
import Derived.Test.YtdmdecgoebnamaaGreatGraph
import Derived.Test.YtdmdecgoebnamaaGreatInfExpr
set_option linter.unusedVariables false
set_option linter.unusedSimpArgs false
namespace Go.Proofs.YtdmdecgoebnamaaGreat
open Go.RowKit Go.Sx Go.Inf Go.Syn
attribute [local irreducible] Go.wpOps Go.Code.wp Go.wpOp Go.wpAnyH Go.Calls Go.Sx.Goal
set_option maxRecDepth 20000
set_option maxHeartbeats 4000000 in
theorem handle_c (k : Nat) (ih : ExprC k) (bc bg : Nat) (eA : Option Addr) (en ec : Nat) (oA : Option Addr) (on oc : Nat) (S : Nat → Prop) (c : Ck) (el : List Nv) (Sm : Nat → Prop) (ol : List Ov) (So : Nat → Prop) (Q : Nat → Prop) (kd na : Nat) (nm : Nm) (nn : Int) (ks : List Nd) (nA : Option Addr) (nc : Nat) (row : Nat) (w : World) (K : Ending → World → Prop) (H0 : Sp w (Sx.cX bc bg eA en ec oA on oc c.fk c.fa S c.g el Sm ol So Q ks nA nc)) (c' : Ck) (t : Nat) (hf : handleM (expr k) k c (.mk kd na nm nn ks) row = some (c', t)) (hel : el.map (·.1) = c.env) (hol : ol.map (·.1) = c.ops) (hez : en + 2 * (k + 1) < 1000000000) (hon : on < 1000000000) (hK : ∀ (S' : Nat → Prop) (eA' : Option Addr) (ec' : Nat) w', Hs w (Sx.cX bc bg eA en ec oA on oc c.fk c.fa S c.g el Sm ol So Q ks nA nc) w' (Sx.cX bc bg eA' en ec' oA on oc c'.fk c'.fa S' c'.g el Sm ol So Q ks nA nc) → (el.map (·.1) = c'.env) → (ol.map (·.1) = c'.ops) → K (.returned (.int .i64 (t : Int))) w') :
    Calls Tryz.prog 106 #[.p bc, Sx.nA kd na nm nn nA ks nc, .n row] w K := by
  obtain ⟨L0, hL0, H⟩ := Sx.op0 H0
  refine Sx.en (vs := [.p bc, Sx.nA kd na nm nn nA ks nc, .n row]) 186 Tryz.func106 ?_
  have hkz := kv_len (Q := Q) (ks := ks) (A := nA) (c := nc) H 6 (by kernel_rfl)
  have hlen := env_len (e := 122) (n := en) (cap := ec) (A := eA) (l := el) H 2 (by kernel_rfl)
  unfold handleM at hf
  obtain ⟨dA, hdA, hf⟩ := bs hf
  obtain ⟨kddA, nadA, nmdA, nndA, ksdA⟩ := dA
  obtain ⟨B1, cb1, a1, ha1, H1⟩ := nd_kid (Q := Q) (ks := ks) (A := nA) (c := nc) (i := 0) H 6 (by kernel_rfl) hdA
  obtain ⟨dB, hdB, hf⟩ := bs hf
  obtain ⟨kddB, nadB, nmdB, nndB, ksdB⟩ := dB
  obtain ⟨B2, cb2, a2, ha2, H2⟩ := nd_kid (Q := Q) (ks := ks) (A := nA) (c := nc) (i := 1) H1 6 (by kernel_rfl) hdB
  obtain ⟨dC, hdC, hf⟩ := bs hf
  obtain ⟨kddC, nadC, nmdC, nndC, ksdC⟩ := dC
  obtain ⟨B3, cb3, a3, ha3, H3⟩ := nd_kid (Q := Q) (ks := ksdB) (A := B2) (c := cb2) (i := 0) H2 10 (by kernel_rfl) hdC
  dsimp only at hf
  have hkz2 : ks.length < 1000000000 := by
    by_cases q : ks.length < 1000000000
    · exact q
    · rw [if_neg (show ¬ (Nd.mk kd na nm nn ks).ks.length < 1000000000 from q)] at hf; exact absurd hf (by simp)
  rw [if_pos (show (Nd.mk kd na nm nn ks).ks.length < 1000000000 from hkz2)] at hf
  obtain ⟨_, _, hf⟩ := bs hf
  obtain ⟨cN, hcN⟩ : ∃ cN, namesF c.ops (ks.drop 2) [] c = cN := ⟨_, rfl⟩
  rw [show namesF c.ops (List.drop 2 (Nd.mk kd na nm nn ks).ks) [] c = cN from hcN] at hf
  rw [show (Nd.mk kd na nm nn ks).ks = ks from rfl] at hf
  refine Sx.nw 2 H3 fun k1 w1 H4 => Sx.nz 3 (.code (Sx.ct 3 Tryz.f106)) [] [(0, .p bc), (2, .n row), (4, .p k1)] fun b1 => Sx.l 5 0 H4 ?_
  have H5 := H4.add (Gx.Ext.refl _) (it := .own 9 1 none 0 0 []) (World.ownsRow_nil _ _ _ _) (fun _ h => by cases h)
  refine Sx.lp 15 (fun z l' w' => ∃ (i : Nat) (Aq : Option Addr) (nq : Nat) (cq : Nat) (acc : List Nm) (cc : Ck), l' = [(0, .p bc), (2, .n row), (4, .p k1), (7, .p bg), (8, .slice Aq nq cq), (9, .n i)] ∧ z = ks.length - i ∧ Hs w L0 w' (Sx.cX bc bg eA en ec oA on oc cc.fk cc.fa S c.g el Sm ol So Q ks nA nc ++ [celI Q (a1.add (0 * 5)) 5 (Sx.nC kddA nadA nmdA nndA B1 ksdA cb1), kvI Q ksdA B1 cb1, celI Q (a2.add (1 * 5)) 5 (Sx.nC kddB nadB nmdB nndB B2 ksdB cb2), kvI Q ksdB B2 cb2, celI Q (a3.add (0 * 5)) 5 (Sx.nC kddC nadC nmdC nndC B3 ksdC cb3), kvI Q ksdC B3 cb3, .blk k1 (.cells #[.n kd, .n na, .string nm, .int .i64 nn, .slice nA ks.length nc] 62), .own 9 1 Aq cq nq (strs acc)]) ∧ (2 ≤ i) ∧ (i ≤ ks.length) ∧ (nq = acc.length) ∧ (acc.length + 2 ≤ i) ∧ (acc ++ (ks.drop i).map (fun d => d.nm) = (ks.drop 2).map (fun d => d.nm)) ∧ (namesF c.ops (ks.drop i) acc cc = cN) ∧ (Same3 cc c)) _ _ ⟨2, none, 0, 0, [], c, rfl, rfl, H5.pk [0, 0, 0, 0, 0, 0, 0, 0, 0, 0, 0, 0, 0, 0, 0], (Nat.le_refl _), (at_lt hdB), rfl, (by decide), rfl, hcN, ⟨rfl, rfl, rfl⟩⟩ (fun b2 z1 l1 w2 hI1 K1 hK1 => ?_)
  obtain ⟨i, Aq, nq, cq, acc, cc, rfl, rfl, H7, hi2, hil, hnq, hal, hacc, hnf, hsm⟩ := hI1
  refine Sx.l 5 13 H7 ?_
  refine Sx.br 4 (decide (((i : Nat) : Int) < ((ks.length : Nat) : Int))) (fun h_c31 => ?_) (fun h_c31 => ?_)
  · have p_c31 := of_decide_eq_true h_c31
    obtain ⟨dZ, hdZ⟩ := some_at (l := ks) (i := i) (by omega)
    obtain ⟨c1, c2, hm1, hm2, hnf2⟩ := namesF_step hnf hdZ
    obtain ⟨kddZ, nadZ, nmdZ, nndZ, ksdZ⟩ := dZ
    obtain ⟨B4, cb4, a4, ha4, H8⟩ := nd_kid (Q := Q) (ks := ks) (A := nA) (c := nc) (i := i) H7 6 (by kernel_rfl) hdZ
    refine Sx.l 7 13 H8 <| Sx.ia 1 a4 i 5 ks.length nc ha4 (at_lt hdZ) <| Sx.lo (c := 5) (t := 62) 0 (Sx.nC kddZ nadZ nmdZ nndZ B4 ksdZ cb4) (Sx.nA kddZ nadZ nmdZ nndZ B4 ksdZ cb4) (cel_at (Q := Q) (a := a4.add (i * 5)) (n := 5) (cs := (Sx.nC kddZ nadZ nmdZ nndZ B4 ksdZ cb4)) H8 15 (by kernel_rfl)) <| Sx.nw 0 H8 fun k2 w3 H9 => Sx.s 0 17 H9 fun w4 H10 => Sx.nz 2 (.code (Sx.ct 3913 Tryz.f106)) [.blk 1, .code (Sx.ct 979 Tryz.f106), .to K1, .blk 0, .code (Sx.ct 31 Tryz.f106)] [(0, .p bc), (2, .n row), (4, .p k1), (7, .p bg), (8, .slice Aq nq cq), (9, .n i), (10, .p k2)] fun b3 => ?_
    refine Sx.l 4 17 H10 ?_
    rcases hop1 : opAt nmdZ c.ops with _ | ov1
    · simp only [Nd.nm, Nd.a, hop1] at hm1
      subst hm1
      refine Sx.c 0 [0, 3] H10 (fun Hp R hZ => op_c bc bg eA en ec oA on oc cc.fk cc.fa ol nmdZ w4 R Hp none (opIx_at (by rw [hol]; exact hop1)) hon (fun w5 G1 => hZ _ _ _ G1 fun H11 => ?_))
      refine Sx.l 14 17 H11 ?_
      refine Sx.c 0 [0] H11 (fun Hp R hZ => no_c bc bg eA en ec oA on oc cc.fk cc.fa 6 ((nadZ : Nat) : Int) w5 R Hp  (fun w6 G2 => hZ _ _ _ G2 fun H12 => ?_))
      rw [← (ck_no (c := cc) (kd := 6) (a := ((nadZ : Nat) : Int))).1, ← (ck_no (c := cc) (kd := 6) (a := ((nadZ : Nat) : Int))).2.1] at H12
      refine Sx.lp 9 (fun z l' w' => ∃ (j : Nat) (cd : Ck), l' = [(0, .p bc), (2, .n row), (4, .p k1), (7, .p bg), (8, .slice Aq nq cq), (9, .n i), (10, .p k2), (12, .n j)] ∧ z = acc.length - j ∧ Hs w L0 w' [Sx.cB bc bg eA en ec oA on oc cd.fk cd.fa, .own 160 12 oA oc on (opsC ol), GI S bg c.g, .own 122 6 eA ec en (envC el), mapsI Sm el, tysI So ol, kvI Q ks nA nc, celI Q (a1.add (0 * 5)) 5 (Sx.nC kddA nadA nmdA nndA B1 ksdA cb1), kvI Q ksdA B1 cb1, celI Q (a2.add (1 * 5)) 5 (Sx.nC kddB nadB nmdB nndB B2 ksdB cb2), kvI Q ksdB B2 cb2, celI Q (a3.add (0 * 5)) 5 (Sx.nC kddC nadC nmdC nndC B3 ksdC cb3), kvI Q ksdC B3 cb3, .blk k1 (.cells #[.n kd, .n na, .string nm, .int .i64 nn, .slice nA ks.length nc] 62), .own 9 1 Aq cq nq (strs acc), celI Q (a4.add (i * 5)) 5 (Sx.nC kddZ nadZ nmdZ nndZ B4 ksdZ cb4), kvI Q ksdZ B4 cb4, .blk k2 (.cells #[.n kddZ, .n nadZ, .string nmdZ, .int .i64 nndZ, .slice B4 ksdZ.length cb4] 62)] ∧ (j ≤ acc.length) ∧ ((acc.drop j).foldl (naF (Nd.mk kddZ nadZ nmdZ nndZ ksdZ)) cd = c2) ∧ (Same3 cd c)) _ _ ⟨0, (Ck.no cc 6 ((nadZ : Nat) : Int)), rfl, rfl, H12.pk [0, 0, 0, 0, 0, 0, 0, 0, 0, 0, 0, 0, 0, 0, 0, 0, 0, 0], (Nat.zero_le _), hm2, (hsm.no _ _)⟩ (fun b4 z2 l2 w7 hI2 K2 hK2 => ?_)
      obtain ⟨j, cd, rfl, rfl, H14, hjl, hfo, hsd⟩ := hI2
      refine Sx.br 9 (decide (((j : Nat) : Int) < ((nq : Nat) : Int))) (fun h_c52 => ?_) (fun h_c52 => ?_)
      · have p_c52 := of_decide_eq_true h_c52
        have hst := na_step hfo (show j < acc.length by omega)
        obtain ⟨wn1, rfl⟩ := H14.row 14 (A := Aq) (e := 9) (sz := 1) (cap := cq) (n := nq) (xs := (strs acc)) (by kernel_rfl) (by omega)
        refine Sx.nz 2 (.code (Sx.ct 500969 Tryz.f106)) [.to K2, .blk 2, .code (Sx.ct 31311 Tryz.f106), .blk 1, .code (Sx.ct 979 Tryz.f106), .to K1, .blk 0, .code (Sx.ct 31 Tryz.f106)] [(0, .p bc), (2, .n row), (4, .p k1), (7, .p bg), (8, .slice (some ⟨wn1, 0, none⟩) nq cq), (9, .n i), (10, .p k2), (12, .n j)] fun b5 => Sx.dr 3 H14 [14, 17] [] (LJ := [.own 9 1 (some ⟨wn1, 0, none⟩) cq nq (strs acc), .blk k2 (.cells #[.n kddZ, .n nadZ, .string nmdZ, .int .i64 nndZ, .slice B4 ksdZ.length cb4] 62)]) (by kernel_rfl) fun w8 H15 => Sx.tk [(0, none), (1, none)] (H15.sb [14, 16]) <| Sx.tvg 2 [] wn1 j 1 nq cq (by omega) (H15.sb [14, 16]) <| Sx.tvl 3 [] 0 9 1 9 wn1 cq nq (j * 1) (strs acc) (.string (gn acc j)) (strs_at (l := acc) (by omega)) (H15.sb [14, 16]) <| Sx.tk [(4, none), (5, some (1, [])), (6, none)] (H15.sb [14, 16]) ?_
        refine Sx.dn ?_
        refine Sx.br 1 ((gn acc j).toList == nmdZ.toList) (fun h_c61 => ?_) (fun h_c61 => ?_)
        · have he : eqN (gn acc j) (Nd.mk kddZ nadZ nmdZ nndZ ksdZ).nm = true := by rw [eqN_eq]; exact h_c61
          rw [if_pos he] at hst
          refine Sx.l 3 17 H15 ?_
          refine Sx.c 0 [0] H15 (fun Hp R hZ => no_c bc bg eA en ec oA on oc cd.fk cd.fa 7 ((nadZ : Nat) : Int) w8 R Hp  (fun w9 G3 => hZ _ _ _ G3 fun H16 => ?_))
          rw [← (ck_no (c := cd) (kd := 7) (a := ((nadZ : Nat) : Int))).1, ← (ck_no (c := cd) (kd := 7) (a := ((nadZ : Nat) : Int))).2.1] at H16
          refine Sx.v 5 (.int .i64 (IntKind.i64.wrap (((j : Nat) : Int) + (1 : Int)))) (.int .i64 ((j + 1 : Nat) : Int)) (congrArg (Value.int .i64) (Gx.i64n (by omega) (by omega))) ?_
          exact Sx.to 2 _ (hK2 _ _ _ _ (by omega) ⟨(j + 1), (Ck.no cd 7 ((nadZ : Nat) : Int)), rfl, rfl, H16.pk [0, 0, 0, 0, 0, 0, 0, 0, 0, 0, 0, 0, 0, 0, 0, 0, 0, 0], (by omega), hst, (hsd.no _ _)⟩)
        have he : eqN (gn acc j) (Nd.mk kddZ nadZ nmdZ nndZ ksdZ).nm = false := by rw [eqN_eq]; exact h_c61
        rw [if_neg (by rw [he]; decide)] at hst
        refine Sx.nz 3 (.code (Sx.ct 1001939 Tryz.f106)) [.to K2, .blk 2, .code (Sx.ct 31311 Tryz.f106), .blk 1, .code (Sx.ct 979 Tryz.f106), .to K1, .blk 0, .code (Sx.ct 31 Tryz.f106)] [(0, .p bc), (2, .n row), (4, .p k1), (7, .p bg), (8, .slice (some ⟨wn1, 0, none⟩) nq cq), (9, .n i), (10, .p k2), (12, .n j)] fun b6 => Sx.v 2 (.int .i64 (IntKind.i64.wrap (((j : Nat) : Int) + (1 : Int)))) (.int .i64 ((j + 1 : Nat) : Int)) (congrArg (Value.int .i64) (Gx.i64n (by omega) (by omega))) ?_
        exact Sx.to 2 _ (hK2 _ _ _ _ (by omega) ⟨(j + 1), cd, rfl, rfl, H15.pk [0, 0, 0, 0, 0, 0, 0, 0, 0, 0, 0, 0, 0, 0, 0, 0, 0, 0], (by omega), hst, hsd⟩)
      have p_c52 := of_decide_eq_false h_c52
      obtain rfl := na_done hfo (by omega)
      refine Sx.nz 5 (.code (Sx.ct 31311 Tryz.f106)) [.blk 1, .code (Sx.ct 979 Tryz.f106), .to K1, .blk 0, .code (Sx.ct 31 Tryz.f106)] [(0, .p bc), (2, .n row), (4, .p k1), (7, .p bg), (8, .slice Aq nq cq), (9, .n i), (10, .p k2)] fun b7 => Sx.l 3 17 H14 <| Sx.nw 0 H14 fun k3 w10 H19 => Sx.ap 0 14 18 16 1 0 9 1 30 1 k3 Aq cq nq (strs acc) [.string nmdZ] H19 (by omega) (by omega) (strs_app _ _) fun A1 cap1 w11 H20 => Sx.v 6 (.int .i64 (IntKind.i64.wrap (((i : Nat) : Int) + (1 : Int)))) (.int .i64 ((i + 1 : Nat) : Int)) (congrArg (Value.int .i64) (Gx.i64n (by omega) (by omega))) ?_
      exact Sx.to 2 _ (hK1 _ _ _ _ (by omega) ⟨(i + 1), A1, nq + 1, cap1, (acc ++ [nmdZ]), cd, rfl, rfl, H20.pk [0, 1, 1, 1, 0, 0, 0, 0, 0, 0, 0, 0, 0, 0, 0], (by omega), (by omega), (by rw [List.length_append, List.length_singleton]; omega), (by rw [List.length_append, List.length_singleton]; omega), (map_names hacc hdZ), hnf2, hsd⟩)
    obtain ⟨ox1, ⟨⟨xn1, ⟨ki1, ui1, ri1, oi1, ai1⟩, ⟨ko1, uo1, ro1, oo1, ao1⟩, xq1⟩, pi1, po1⟩, hix1, hxm1, rfl⟩ := opIx_some (l := ol) (by rw [hol]; exact hop1)
    have hlt1 := len_ops (e := 160) (n := on) (cap := oc) (A := oA) (l := ol) H10 4 (by kernel_rfl) hxm1
    obtain ⟨wr1, rfl⟩ := H10.row 4 (A := oA) (e := 160) (sz := 12) (cap := oc) (n := on) (xs := (opsC ol)) (by kernel_rfl) (by omega)
    simp only [Nd.nm, hop1] at hm1
    subst hm1
    refine Sx.c 0 [0, 3] H10 (fun Hp R hZ => op_c bc bg eA en ec (some ⟨wr1, 0, none⟩) on oc cc.fk cc.fa ol nmdZ w4 R Hp (some ox1) hix1 hon (fun w12 G4 => hZ _ _ _ G4 fun H22 => ?_))
    refine Sx.nz 3 (.code (Sx.ct 7827 Tryz.f106)) [.blk 1, .code (Sx.ct 979 Tryz.f106), .to K1, .blk 0, .code (Sx.ct 31 Tryz.f106)] [(0, .p bc), (2, .n row), (4, .p k1), (7, .p bg), (8, .slice Aq nq cq), (9, .n i), (10, .p k2), (11, .pointer (some (⟨wr1, ox1 * 12, none⟩)))] fun b8 => ?_
    refine Sx.lp 17 (fun z l' w' => ∃ (j : Nat) (cd : Ck), l' = [(0, .p bc), (2, .n row), (4, .p k1), (7, .p bg), (8, .slice Aq nq cq), (9, .n i), (10, .p k2), (12, .n j)] ∧ z = acc.length - j ∧ Hs w L0 w' [.blk bc (.cells #[.p bg, .slice eA en ec, .slice (some ⟨wr1, 0, none⟩) on oc, .n cd.fk, .int .i64 cd.fa] 115), .own 160 12 (some ⟨wr1, 0, none⟩) oc on (opsC ol), GI S bg c.g, .own 122 6 eA ec en (envC el), mapsI Sm el, tysI So ol, kvI Q ks nA nc, celI Q (a1.add (0 * 5)) 5 (Sx.nC kddA nadA nmdA nndA B1 ksdA cb1), kvI Q ksdA B1 cb1, celI Q (a2.add (1 * 5)) 5 (Sx.nC kddB nadB nmdB nndB B2 ksdB cb2), kvI Q ksdB B2 cb2, celI Q (a3.add (0 * 5)) 5 (Sx.nC kddC nadC nmdC nndC B3 ksdC cb3), kvI Q ksdC B3 cb3, .blk k1 (.cells #[.n kd, .n na, .string nm, .int .i64 nn, .slice nA ks.length nc] 62), .own 9 1 Aq cq nq (strs acc), celI Q (a4.add (i * 5)) 5 (Sx.nC kddZ nadZ nmdZ nndZ B4 ksdZ cb4), kvI Q ksdZ B4 cb4, .blk k2 (.cells #[.n kddZ, .n nadZ, .string nmdZ, .int .i64 nndZ, .slice B4 ksdZ.length cb4] 62)] ∧ (j ≤ acc.length) ∧ ((acc.drop j).foldl (naF (Nd.mk kddZ nadZ nmdZ nndZ ksdZ)) cd = c2) ∧ (Same3 cd c)) _ _ ⟨0, cc, rfl, rfl, H22.pk [0, 0, 0, 0, 0, 0, 0, 0, 0, 0, 0, 0, 0, 0, 0, 0, 0, 0], (Nat.zero_le _), hm2, hsm⟩ (fun b9 z3 l3 w13 hI3 K3 hK3 => ?_)
    obtain ⟨j, cd, rfl, rfl, H24, hjl, hfo, hsd⟩ := hI3
    refine Sx.br 9 (decide (((j : Nat) : Int) < ((nq : Nat) : Int))) (fun h_c52 => ?_) (fun h_c52 => ?_)
    · have p_c52 := of_decide_eq_true h_c52
      have hst := na_step hfo (show j < acc.length by omega)
      obtain ⟨wn2, rfl⟩ := H24.row 14 (A := Aq) (e := 9) (sz := 1) (cap := cq) (n := nq) (xs := (strs acc)) (by kernel_rfl) (by omega)
      refine Sx.dr 5 H24 [14, 17] [] (LJ := [.own 9 1 (some ⟨wn2, 0, none⟩) cq nq (strs acc), .blk k2 (.cells #[.n kddZ, .n nadZ, .string nmdZ, .int .i64 nndZ, .slice B4 ksdZ.length cb4] 62)]) (by kernel_rfl) fun w14 H25 => Sx.tk [(0, none), (1, none)] (H25.sb [14, 16]) <| Sx.tvg 2 [] wn2 j 1 nq cq (by omega) (H25.sb [14, 16]) <| Sx.tvl 3 [] 0 9 1 9 wn2 cq nq (j * 1) (strs acc) (.string (gn acc j)) (strs_at (l := acc) (by omega)) (H25.sb [14, 16]) <| Sx.tk [(4, none), (5, some (1, [])), (6, none)] (H25.sb [14, 16]) <| Sx.dn ?_
      refine Sx.nz 1 (.code (Sx.ct 4007753 Tryz.f106)) [.blk 3, .code (Sx.ct 1001939 Tryz.f106), .to K3, .blk 2, .code (Sx.ct 31311 Tryz.f106), .blk 1, .code (Sx.ct 979 Tryz.f106), .to K1, .blk 0, .code (Sx.ct 31 Tryz.f106)] [(0, .p bc), (2, .n row), (4, .p k1), (7, .p bg), (8, .slice (some ⟨wn2, 0, none⟩) nq cq), (9, .n i), (10, .p k2), (12, .n j), (61, .bool ((gn acc j).toList == nmdZ.toList))] fun b10 => ?_
      refine Sx.br 0 ((gn acc j).toList == nmdZ.toList) (fun h_c61 => ?_) (fun h_c61 => ?_)
      · have he : eqN (gn acc j) (Nd.mk kddZ nadZ nmdZ nndZ ksdZ).nm = true := by rw [eqN_eq]; exact h_c61
        rw [if_pos he] at hst
        refine Sx.l 3 17 H25 ?_
        refine Sx.c 0 [0] H25 (fun Hp R hZ => no_c bc bg eA en ec (some ⟨wr1, 0, none⟩) on oc cd.fk cd.fa 7 ((nadZ : Nat) : Int) w14 R Hp  (fun w15 G5 => hZ _ _ _ G5 fun H26 => ?_))
        rw [← (ck_no (c := cd) (kd := 7) (a := ((nadZ : Nat) : Int))).1, ← (ck_no (c := cd) (kd := 7) (a := ((nadZ : Nat) : Int))).2.1] at H26
        refine Sx.v 5 (.int .i64 (IntKind.i64.wrap (((j : Nat) : Int) + (1 : Int)))) (.int .i64 ((j + 1 : Nat) : Int)) (congrArg (Value.int .i64) (Gx.i64n (by omega) (by omega))) ?_
        exact Sx.to 2 _ (hK3 _ _ _ _ (by omega) ⟨(j + 1), (Ck.no cd 7 ((nadZ : Nat) : Int)), rfl, rfl, H26.pk [0, 0, 0, 0, 0, 0, 0, 0, 0, 0, 0, 0, 0, 0, 0, 0, 0, 0], (by omega), hst, (hsd.no _ _)⟩)
      have he : eqN (gn acc j) (Nd.mk kddZ nadZ nmdZ nndZ ksdZ).nm = false := by rw [eqN_eq]; exact h_c61
      rw [if_neg (by rw [he]; decide)] at hst
      refine Sx.v 5 (.int .i64 (IntKind.i64.wrap (((j : Nat) : Int) + (1 : Int)))) (.int .i64 ((j + 1 : Nat) : Int)) (congrArg (Value.int .i64) (Gx.i64n (by omega) (by omega))) ?_
      exact Sx.to 2 _ (hK3 _ _ _ _ (by omega) ⟨(j + 1), cd, rfl, rfl, H25.pk [0, 0, 0, 0, 0, 0, 0, 0, 0, 0, 0, 0, 0, 0, 0, 0, 0, 0], (by omega), hst, hsd⟩)
    have p_c52 := of_decide_eq_false h_c52
    obtain rfl := na_done hfo (by omega)
    refine Sx.nz 5 (.code (Sx.ct 31311 Tryz.f106)) [.blk 1, .code (Sx.ct 979 Tryz.f106), .to K1, .blk 0, .code (Sx.ct 31 Tryz.f106)] [(0, .p bc), (2, .n row), (4, .p k1), (7, .p bg), (8, .slice Aq nq cq), (9, .n i), (10, .p k2)] fun b11 => Sx.l 3 17 H24 <| Sx.nw 0 H24 fun k4 w16 H29 => Sx.ap 0 14 18 16 1 0 9 1 30 1 k4 Aq cq nq (strs acc) [.string nmdZ] H29 (by omega) (by omega) (strs_app _ _) fun A2 cap2 w17 H30 => Sx.v 6 (.int .i64 (IntKind.i64.wrap (((i : Nat) : Int) + (1 : Int)))) (.int .i64 ((i + 1 : Nat) : Int)) (congrArg (Value.int .i64) (Gx.i64n (by omega) (by omega))) ?_
    exact Sx.to 2 _ (hK1 _ _ _ _ (by omega) ⟨(i + 1), A2, nq + 1, cap2, (acc ++ [nmdZ]), cd, rfl, rfl, H30.pk [0, 1, 1, 1, 0, 0, 0, 0, 0, 0, 0, 0, 0, 0, 0], (by omega), (by omega), (by rw [List.length_append, List.length_singleton]; omega), (by rw [List.length_append, List.length_singleton]; omega), (map_names hacc hdZ), hnf2, hsd⟩)
  have p_c31 := of_decide_eq_false h_c31
  obtain rfl := namesF_done hnf (by omega)
  have hac2 : (ks.drop 2).map (fun d => d.nm) = acc := by have := hacc; rw [List.drop_of_length_le (by omega)] at this; simpa using this.symm
  rw [hac2] at hf
  rw [← hsm.1] at H7
  refine Sx.nz 5 (.code (Sx.ct 31 Tryz.f106)) [] [(0, .p bc), (2, .n row), (4, .p k1), (7, .p bg), (8, .slice Aq nq cq)] fun b12 => ?_
  refine Sx.c 4 [0] H7 (fun Hp R hZ => ok_c bc bg eA en ec oA on oc cc.fk cc.fa w2 R Hp  (fun w18 G6 => hZ _ _ _ G6 fun H32 => ?_))
  refine Sx.br 3 (!(cc.fk == 0)) (fun h_c73 => ?_) (fun h_c73 => ?_)
  · rw [if_pos (show cc.fk ≠ 0 by simpa using h_c73)] at hf
    obtain ⟨gg1, hg1, rfl⟩ := cs_var (g0 := cc.g) (e := cc.env) (o := cc.ops) (fk := cc.fk) (fa := cc.fa) hf rfl
    refine Sx.c 3 [1] H32 (fun Hp R hZ => Var_c S bg cc.g w18 R Hp gg1 t hg1 (fun S1 w19 G7 => hZ _ _ _ G7 fun H33 => ?_))
    refine Sx.rt 5 [] H33 (.n t) ?_
    subst hL0
    exact Gx.ret_as (v' := .n t) (by rfl) (hK S1 eA ec _ (H33.pk [1, 0, 0, 0, 0, 0, 0]) ((hel.trans hsm.2.1.symm)) ((hol.trans hsm.2.2.symm)))
  rw [if_neg (show ¬ cc.fk ≠ 0 by simpa using h_c73)] at hf
  obtain ⟨⟨c1, nn2⟩, hq1, hf⟩ := bs hf
  obtain ⟨gg2, hg2, rfl⟩ := cs_putRow (g0 := cc.g) (e := cc.env) (o := cc.ops) (fk := cc.fk) (fa := cc.fa) hq1 rfl
  obtain ⟨⟨c2, t1⟩, hq2, hf⟩ := bs hf
  obtain ⟨⟨c3, t2⟩, hq3, hf⟩ := bs hf
  obtain ⟨c4, hq4, hf⟩ := bs hf
  obtain ⟨rfl, rfl⟩ := pr hf
  refine Sx.nz 2 (.code (Sx.ct 63 Tryz.f106)) [] [(0, .p bc), (2, .n row), (4, .p k1), (7, .p bg), (8, .slice Aq nq cq)] fun b13 => ?_
  have H34 := Hs.toStr H32 14 (e := 9) (n := nq) (cap := cq) (A := Aq) (l := acc) (by kernel_rfl)
  refine Sx.c 5 [1, 13] H34 (fun Hp R hZ => PutRow_c S bg cc.g (fun c => (Value.slice Aq (nq) cq).ownBlock = some c) Aq nq cq acc ((row : Nat) : Int) (some row) w18 R Hp gg2 nn2 hnq rfl hg2 (fun S2 w20 G8 => hZ _ _ _ G8 fun H35 => ?_))
  refine Sx.l 7 13 H35 <| Sx.ia 0 a1 0 5 ks.length nc ha1 (at_lt hdA) <| Sx.lo (c := 5) (t := 62) 0 (Sx.nC kddA nadA nmdA nndA B1 ksdA cb1) (Sx.nA kddA nadA nmdA nndA B1 ksdA cb1) (cel_at (Q := Q) (a := a1.add (0 * 5)) (n := 5) (cs := (Sx.nC kddA nadA nmdA nndA B1 ksdA cb1)) H35 7 (by kernel_rfl)) ?_
  refine Sx.c 1 [1, 0, 0, 0, 0, 0, 2] H35 (fun Hp R hZ => ih bc bg eA en ec oA on oc S2 (⟨gg2, cc.env, cc.ops, cc.fk, cc.fa⟩ : Ck) el Sm ol So Q kddA nadA nmdA nndA ksdA B1 cb1  nn2 w20 R Hp c2 t1 hq2 (hel.trans hsm.2.1.symm) (hol.trans hsm.2.2.symm) (by omega) hon (fun S3 eA1 ec1 w21 G9 he1 ho1 => hZ _ _ _ G9 fun H36 => ?_))
  refine Sx.l 7 13 H36 <| Sx.ia 0 a2 1 5 ks.length nc ha2 (at_lt hdB) <| Sx.fa 0 (a2.add (1 * 5)) 2 <| Sx.lo (c := 1) (t := 9) 0 [.string nmdB] (.string nmdB) (cells_sub (i := 2) (m := 1) (cel_at (Q := Q) (a := a2.add (1 * 5)) (n := 5) (cs := (Sx.nC kddB nadB nmdB nndB B2 ksdB cb2)) H36 9 (by kernel_rfl)) (by decide)) ?_
  have H37 := H36.add (Gx.Ext.refl _) (it := mapsI (fun _ => False) [(nv1 nmdB t1 false)]) maps_none (fun _ h => h.elim)
  refine Sx.c 2 [0, 1, 1, 11] H37 (fun Hp R hZ => with_c bc bg eA1 en ec1 oA on oc c2.fk c2.fa el Sm (fun _ => False) (nv1 nmdB t1 false) w21 R Hp (by omega) (fun eA2 ec2 w22 G10 => hZ _ _ _ G10 fun H38 => ?_))
  refine Sx.l 6 14 H38 <| Sx.ia 0 a2 1 5 ks.length nc ha2 (at_lt hdB) <| Sx.fa 0 (a2.add (1 * 5)) 4 <| Sx.lo (c := 1) (t := 60) 0 [.slice B2 ksdB.length cb2] (.slice B2 ksdB.length cb2) (cells_sub (i := 4) (m := 1) (cel_at (Q := Q) (a := a2.add (1 * 5)) (n := 5) (cs := (Sx.nC kddB nadB nmdB nndB B2 ksdB cb2)) H38 10 (by kernel_rfl)) (by decide)) <| Sx.ia 0 a3 0 5 ksdB.length cb2 ha3 (at_lt hdC) <| Sx.lo (c := 5) (t := 62) 0 (Sx.nC kddC nadC nmdC nndC B3 ksdC cb3) (Sx.nA kddC nadC nmdC nndC B3 ksdC cb3) (cel_at (Q := Q) (a := a3.add (0 * 5)) (n := 5) (cs := (Sx.nC kddC nadC nmdC nndC B3 ksdC cb3)) H38 12 (by kernel_rfl)) ?_
  refine Sx.c 1 [0, 3, 0, 1, 1, 1, 7] H38 (fun Hp R hZ => ih bc bg eA2 (en + 1) ec2 oA on oc S3 (⟨c2.g, (c2.env ++ [(nv1 nmdB t1 false).1]), c2.ops, c2.fk, c2.fa⟩ : Ck) (el ++ [(nv1 nmdB t1 false)]) (fun c => Sm c ∨ (fun _ => False) c) ol So Q kddC nadC nmdC nndC ksdC B3 cb3  row w22 R Hp c3 t2 hq3 (with_env he1) ho1 (by omega) hon (fun S4 eA3 ec3 w23 G11 he2 ho2 => hZ _ _ _ G11 fun H39 => ?_))
  refine Sx.nz 3 (.code (Sx.ct 1023 Tryz.f106)) [] [(0, .p bc), (2, .n row), (4, .p k1), (7, .p bg), (13, .n nn2), (14, .n t1), (15, .n t2)] fun b14 => ?_
  refine Sx.c 3 [0, 1] H39 (fun Hp R hZ => out_c bc bg eA3 (en + 1) ec3 oA on oc c3.fk c3.fa (el ++ [(nv1 nmdB t1 false)]) 1 w23 R Hp (by omega) (by omega) (fun w24 G12 => hZ _ _ _ G12 fun H40 => ?_))
  rw [take1 hlen, show en + 1 - 1 = en from rfl] at H40
  refine Sx.lp 9 (fun z l' w' => ∃ (iy : Nat) (S1 : Nat → Prop) (A1 : Option Addr) (q1 : Nat) (cz : Ck), l' = [(0, .p bc), (2, .n row), (4, .p k1), (7, .p bg), (13, .n nn2), (14, .n t1), (15, .n t2), (16, .n iy)] ∧ z = ks.length - iy ∧ Hs w L0 w' (Sx.cX bc bg A1 en q1 oA on oc cz.fk cz.fa S1 cz.g el Sm ol So Q ks nA nc ++ [.blk k1 (.cells #[.n kd, .n na, .string nm, .int .i64 nn, .slice nA ks.length nc] 62)]) ∧ (2 ≤ iy) ∧ (iy ≤ ks.length) ∧ (clausesF (expr k) k (.mk kd na nm nn ks) row nn2 t1 t2 (ks.drop iy) cz = some c4) ∧ (el.map (·.1) = cz.env) ∧ (ol.map (·.1) = cz.ops)) _ _ ⟨2, S4, eA3, ec3, (⟨c3.g, (Ck.out (⟨c3.g, c3.env, c3.ops, c3.fk, c3.fa⟩ : Ck) 1).env, c3.ops, c3.fk, c3.fa⟩ : Ck), rfl, rfl, H40.pk [0, 1, 0, 4, 1, 1, 3, 7], (Nat.le_refl _), (at_lt hdB), hq4, (out_env1 (c := (⟨c3.g, c3.env, c3.ops, c3.fk, c3.fa⟩ : Ck)) he2), ho2⟩ (fun b15 z4 l4 w25 hI4 K4 hK4 => ?_)
  obtain ⟨iy, S1, A1, q1, cz, rfl, rfl, H42, hi2, hil, hcl, hez1, hoz1⟩ := hI4
  refine Sx.l 5 7 H42 ?_
  refine Sx.br 4 (decide (((iy : Nat) : Int) < ((ks.length : Nat) : Int))) (fun h_c112 => ?_) (fun h_c112 => ?_)
  · have p_c112 := of_decide_eq_true h_c112
    obtain ⟨dY, hdY⟩ := some_at (l := ks) (i := iy) (by omega)
    have hst := clauses_step hcl hdY
    dsimp only at hst
    obtain ⟨kddY, nadY, nmdY, nndY, ksdY⟩ := dY
    obtain ⟨B5, cb5, a5, ha5, H43⟩ := nd_kid (Q := Q) (ks := ks) (A := nA) (c := nc) (i := iy) H42 6 (by kernel_rfl) hdY
    refine Sx.nz 2 (.code (Sx.ct 65513 Tryz.f106)) [.to K4, .blk 4, .code (Sx.ct 4095 Tryz.f106)] [(0, .p bc), (2, .n row), (4, .p k1), (7, .p bg), (13, .n nn2), (14, .n t1), (15, .n t2), (16, .n iy)] fun b16 => Sx.l 5 7 H43 <| Sx.ia 1 a5 iy 5 ks.length nc ha5 (at_lt hdY) <| Sx.lo (c := 5) (t := 62) 0 (Sx.nC kddY nadY nmdY nndY B5 ksdY cb5) (Sx.nA kddY nadY nmdY nndY B5 ksdY cb5) (cel_at (Q := Q) (a := a5.add (iy * 5)) (n := 5) (cs := (Sx.nC kddY nadY nmdY nndY B5 ksdY cb5)) H43 8 (by kernel_rfl)) <| Sx.nw 0 H43 fun k5 w26 H44 => Sx.s 0 10 H44 fun w27 H45 => ?_
    refine Sx.l 6 10 H45 ?_
    rcases hop2 : opAt nmdY cz.ops with _ | ov2
    · obtain ⟨oz, hoz, hst⟩ := bs hst
      exact absurd (hop2.symm.trans hoz) (by simp)
    obtain ⟨ox2, ⟨⟨xn2, ⟨ki2, ui2, ri2, oi2, ai2⟩, ⟨ko2, uo2, ro2, oo2, ao2⟩, xq2⟩, pi2, po2⟩, hix2, hxm2, rfl⟩ := opIx_some (l := ol) (by rw [hoz1]; exact hop2)
    have hlt2 := len_ops (e := 160) (n := on) (cap := oc) (A := oA) (l := ol) H45 4 (by kernel_rfl) hxm2
    obtain ⟨wr2, rfl⟩ := H45.row 4 (A := oA) (e := 160) (sz := 12) (cap := oc) (n := on) (xs := (opsC ol)) (by kernel_rfl) (by omega)
    obtain ⟨oz, hoz, hst⟩ := bs hst
    obtain rfl := pr1 (hop2.symm.trans hoz)
    obtain ⟨⟨c5, nn3⟩, hq5, hst⟩ := bs hst
    obtain ⟨gg3, hg3, rfl⟩ := cs_ofT (g0 := cz.g) (e := cz.env) (o := cz.ops) (fk := cz.fk) (fa := cz.fa) hq5 rfl
    obtain ⟨⟨c6, nn4⟩, hq6, hst⟩ := bs hst
    obtain ⟨gg4, hg4, rfl⟩ := cs_ofT (g0 := gg3) (e := cz.env) (o := cz.ops) (fk := cz.fk) (fa := cz.fa) hq6 rfl
    obtain ⟨⟨c7, nn5⟩, hq7, hst⟩ := bs hst
    obtain ⟨gg5, hg5, rfl⟩ := cs_put (g0 := gg4) (e := cz.env) (o := cz.ops) (fk := cz.fk) (fa := cz.fa) hq7 rfl
    refine Sx.c 0 [0, 3] H45 (fun Hp R hZ => op_c bc bg A1 en q1 (some ⟨wr2, 0, none⟩) on oc cz.fk cz.fa ol nmdY w27 R Hp (some ox2) hix2 hon (fun w28 G13 => hZ _ _ _ G13 fun H46 => ?_))
    refine Sx.nz 3 (.code (Sx.ct 1048211 Tryz.f106)) [.blk 5, .code (Sx.ct 131027 Tryz.f106), .to K4, .blk 4, .code (Sx.ct 4095 Tryz.f106)] [(0, .p bc), (2, .n row), (4, .p k1), (7, .p bg), (13, .n nn2), (14, .n t1), (15, .n t2), (16, .n iy), (17, .p k5), (18, .pointer (some (⟨wr2, ox2 * 12, none⟩)))] fun b17 => Sx.lr 6 1 160 12 96 wr2 oc on (ox2 * 12 + 1) (opsC ol) H46 (.agg #[.n ki2, .n ui2, .n ri2, .slice pi2.A pi2.na pi2.ca, .slice pi2.B pi2.nb pi2.cb]) (rec_part 1 5 ovC_len hxm2 (by decide) rfl) ?_
    have H47 := H46.ro 5 (S := So) (A := fun w => ∀ x ∈ ol, OvR w So x) (B := fun w => TyIn w So pi2 (Ty.mk ki2 ui2 ri2 oi2 ai2)) (by kernel_rfl) (tys_at H46 5 (S := So) (l := ol) (by kernel_rfl) (List.mem_of_getElem? hxm2)).1 (tyI_loc _ _ _)
    refine Sx.c 0 [2, 10] H47 (fun Hp R hZ => (Of_c _) S1 bg cz.g So ki2 ui2 ri2 oi2 ai2 pi2 w28 R Hp gg3 nn3 hg3 (fun S5 w29 G14 => hZ _ _ _ G14 fun H48 => ?_))
    refine Sx.lr 9 3 160 12 96 wr2 oc on (ox2 * 12 + 6) (opsC ol) H48 (.agg #[.n ko2, .n uo2, .n ro2, .slice po2.A po2.na po2.ca, .slice po2.B po2.nb po2.cb]) (rec_part 6 5 ovC_len hxm2 (by decide) rfl) ?_
    have H49 := H48.ro 6 (S := So) (A := fun w => ∀ x ∈ ol, OvR w So x) (B := fun w => TyIn w So po2 (Ty.mk ko2 uo2 ro2 oo2 ao2)) (by kernel_rfl) (tys_at H48 6 (S := So) (l := ol) (by kernel_rfl) (List.mem_of_getElem? hxm2)).2 (tyI_loc _ _ _)
    refine Sx.c 0 [0, 11] H49 (fun Hp R hZ => (Of_c _) S5 bg gg3 So ko2 uo2 ro2 oo2 ao2 po2 w29 R Hp gg4 nn4 hg4 (fun S6 w30 G15 => hZ _ _ _ G15 fun H50 => ?_))
    refine Sx.c 9 [0] H50 (fun Hp R hZ => Put_c S6 bg gg4 6 ((nn4 : Nat) : Int) (some nn4) ((t2 : Nat) : Int) (some t2) row w30 R Hp gg5 nn5 rfl rfl hg5 (fun S7 w31 G16 => hZ _ _ _ G16 fun H51 => ?_))
    refine Sx.l 7 9 H51 ?_
    refine Sx.br 3 (nn == (1 : Int)) (fun h_c143 => ?_) (fun h_c143 => ?_)
    · rw [if_pos (show (Nd.mk kd na nm nn ks).n = 1 from Gx.k1 h_c143)] at hst
      obtain ⟨⟨c8, nn6⟩, hq8, hst⟩ := bs hst
      obtain ⟨gg6, hg6, rfl⟩ := cs_put (g0 := gg5) (e := cz.env) (o := cz.ops) (fk := cz.fk) (fa := cz.fa) hq8 rfl
      obtain ⟨dP, hdP, hst⟩ := bs hst
      obtain ⟨kddP, nadP, nmdP, nndP, ksdP⟩ := dP
      obtain ⟨B6, cb6, a6, ha6, H52⟩ := nd_kid (Q := Q) (ks := ksdY) (A := B5) (c := cb5) (i := 0) H51 11 (by kernel_rfl) hdP
      obtain ⟨dQ, hdQ, hst⟩ := bs hst
      obtain ⟨kddQ, nadQ, nmdQ, nndQ, ksdQ⟩ := dQ
      obtain ⟨B7, cb7, a7, ha7, H53⟩ := nd_kid (Q := Q) (ks := ksdY) (A := B5) (c := cb5) (i := 1) H52 11 (by kernel_rfl) hdQ
      obtain ⟨dR, hdR, hst⟩ := bs hst
      obtain ⟨kddR, nadR, nmdR, nndR, ksdR⟩ := dR
      obtain ⟨B8, cb8, a8, ha8, H54⟩ := nd_kid (Q := Q) (ks := ksdY) (A := B5) (c := cb5) (i := 2) H53 11 (by kernel_rfl) hdR
      obtain ⟨⟨c9, t3⟩, hq9, hst⟩ := bs hst
      obtain ⟨c10, hq10, hst⟩ := bs hst
      refine Sx.c 5 [0] H54 (fun Hp R hZ => Put_c S7 bg gg5 6 ((nn4 : Nat) : Int) (some nn4) ((t1 : Nat) : Int) (some t1) nn2 w31 R Hp gg6 nn6 rfl rfl hg6 (fun S8 w32 G17 => hZ _ _ _ G17 fun H55 => ?_))
      refine Sx.nz 3 (.code (Sx.ct 16771391 Tryz.f106)) [.blk 5, .code (Sx.ct 131027 Tryz.f106), .to K4, .blk 4, .code (Sx.ct 4095 Tryz.f106)] [(0, .p bc), (2, .n row), (4, .p k1), (7, .p bg), (13, .n nn2), (14, .n t1), (15, .n t2), (16, .n iy), (17, .p k5), (19, .n nn3), (21, .n nn6)] fun b18 => Sx.l 4 12 H55 <| Sx.ia 0 a6 0 5 ksdY.length cb5 ha6 (at_lt hdP) <| Sx.fa 0 (a6.add (0 * 5)) 2 <| Sx.lo (c := 1) (t := 9) 0 [.string nmdP] (.string nmdP) (cells_sub (i := 2) (m := 1) (cel_at (Q := Q) (a := a6.add (0 * 5)) (n := 5) (cs := (Sx.nC kddP nadP nmdP nndP B6 ksdP cb6)) H55 13 (by kernel_rfl)) (by decide)) ?_
      have H56 := H55.add (Gx.Ext.refl _) (it := mapsI (fun _ => False) [(nv1 nmdP nn3 true)]) maps_none (fun _ h => h.elim)
      refine Sx.c 2 [3, 4, 4, 16] H56 (fun Hp R hZ => with_c bc bg A1 en q1 (some ⟨wr2, 0, none⟩) on oc cz.fk cz.fa el Sm (fun _ => False) (nv1 nmdP nn3 true) w32 R Hp (by omega) (fun eA4 ec4 w33 G18 => hZ _ _ _ G18 fun H57 => ?_))
      refine Sx.l 6 13 H57 <| Sx.ia 0 a7 1 5 ksdY.length cb5 ha7 (at_lt hdQ) <| Sx.fa 0 (a7.add (1 * 5)) 2 <| Sx.lo (c := 1) (t := 9) 0 [.string nmdQ] (.string nmdQ) (cells_sub (i := 2) (m := 1) (cel_at (Q := Q) (a := a7.add (1 * 5)) (n := 5) (cs := (Sx.nC kddQ nadQ nmdQ nndQ B7 ksdQ cb7)) H57 16 (by kernel_rfl)) (by decide)) ?_
      have H58 := H57.add (Gx.Ext.refl _) (it := mapsI (fun _ => False) [(nv1 nmdQ nn6 true)]) maps_none (fun _ h => h.elim)
      refine Sx.c 2 [0, 0, 1, 17] H58 (fun Hp R hZ => with_c bc bg eA4 (en + 1) ec4 (some ⟨wr2, 0, none⟩) on oc cz.fk cz.fa (el ++ [(nv1 nmdP nn3 true)]) (fun c => Sm c ∨ (fun _ => False) c) (fun _ => False) (nv1 nmdQ nn6 true) w33 R Hp (by omega) (fun eA5 ec5 w34 G19 => hZ _ _ _ G19 fun H59 => ?_))
      refine Sx.l 6 14 H59 <| Sx.ia 0 a8 2 5 ksdY.length cb5 ha8 (at_lt hdR) <| Sx.lo (c := 5) (t := 62) 0 (Sx.nC kddR nadR nmdR nndR B8 ksdR cb8) (Sx.nA kddR nadR nmdR nndR B8 ksdR cb8) (cel_at (Q := Q) (a := a8.add (2 * 5)) (n := 5) (cs := (Sx.nC kddR nadR nmdR nndR B8 ksdR cb8)) H59 19 (by kernel_rfl)) ?_
      refine Sx.c 1 [0, 4, 0, 1, 4, 4, 14] H59 (fun Hp R hZ => ih bc bg eA5 (en + 1 + 1) ec5 (some ⟨wr2, 0, none⟩) on oc S8 (⟨gg6, ((cz.env ++ [(nv1 nmdP nn3 true).1]) ++ [(nv1 nmdQ nn6 true).1]), cz.ops, cz.fk, cz.fa⟩ : Ck) ((el ++ [(nv1 nmdP nn3 true)]) ++ [(nv1 nmdQ nn6 true)]) (fun c => (fun c => Sm c ∨ (fun _ => False) c) c ∨ (fun _ => False) c) ol So Q kddR nadR nmdR nndR ksdR B8 cb8  row w34 R Hp c9 t3 hq9 (with_env (with_env hez1)) hoz1 (by omega) hon (fun S9 eA6 ec6 w35 G20 he3 ho3 => hZ _ _ _ G20 fun H60 => ?_))
      refine Sx.nz 3 (.code (Sx.ct 134171135 Tryz.f106)) [.blk 5, .code (Sx.ct 131027 Tryz.f106), .to K4, .blk 4, .code (Sx.ct 4095 Tryz.f106)] [(0, .p bc), (2, .n row), (4, .p k1), (7, .p bg), (13, .n nn2), (14, .n t1), (15, .n t2), (16, .n iy), (17, .p k5), (22, .n t3)] fun b19 => ?_
      refine Sx.c 3 [0, 1] H60 (fun Hp R hZ => out_c bc bg eA6 (en + 1 + 1) ec6 (some ⟨wr2, 0, none⟩) on oc c9.fk c9.fa ((el ++ [(nv1 nmdP nn3 true)]) ++ [(nv1 nmdQ nn6 true)]) 2 w35 R Hp (by omega) (by omega) (fun w36 G21 => hZ _ _ _ G21 fun H61 => ?_))
      rw [take2 hlen, show en + 1 + 1 - 2 = en from rfl] at H61
      refine Sx.l 7 15 H61 <| Sx.ia 0 a8 2 5 ksdY.length cb5 ha8 (at_lt hdR) <| Sx.fa 0 (a8.add (2 * 5)) 1 <| Sx.lo (c := 1) (t := 3) 0 [.n nadR] (.n nadR) (cells_sub (i := 1) (m := 1) (cel_at (Q := Q) (a := a8.add (2 * 5)) (n := 5) (cs := (Sx.nC kddR nadR nmdR nndR B8 ksdR cb8)) H61 20 (by kernel_rfl)) (by decide)) ?_
      refine Sx.c 0 [0, 1] H61 (fun Hp R hZ => same_c bc bg eA6 en ec6 (some ⟨wr2, 0, none⟩) on oc t3 t2 ((nadR : Nat) : Int) S9 (⟨c9.g, (Ck.out (⟨c9.g, c9.env, c9.ops, c9.fk, c9.fa⟩ : Ck) 2).env, c9.ops, c9.fk, c9.fa⟩ : Ck) w36 R Hp _ c10 hq10 (fun S10 w37 G22 => hZ _ _ _ G22 fun H62 => ?_))
      refine Sx.v 5 (.int .i64 (IntKind.i64.wrap (((iy : Nat) : Int) + (1 : Int)))) (.int .i64 ((iy + 1 : Nat) : Int)) (congrArg (Value.int .i64) (Gx.i64n (by omega) (by omega))) ?_
      exact Sx.to 2 _ (hK4 _ _ _ _ (by omega) ⟨(iy + 1), S10, eA6, ec6, (⟨c10.g, c10.env, c10.ops, c10.fk, c10.fa⟩ : Ck), rfl, rfl, H62.pk [0, 0, 0, 5, 1, 1, 5, 5], (by omega), (by omega), hst, ((out_env2 (c := (⟨c9.g, c9.env, c9.ops, c9.fk, c9.fa⟩ : Ck)) he3).trans (same_keeps hq10).1.symm), (ho3.trans (same_keeps hq10).2.symm)⟩)
    rw [if_neg (show ¬ (Nd.mk kd na nm nn ks).n = 1 from Gx.k0 h_c143)] at hst
    obtain ⟨⟨c11, t4⟩, hq11, hst⟩ := bs hst
    obtain ⟨rfl, rfl⟩ := pr hq11
    obtain ⟨dP, hdP, hst⟩ := bs hst
    obtain ⟨kddP, nadP, nmdP, nndP, ksdP⟩ := dP
    obtain ⟨B9, cb9, a9, ha9, H64⟩ := nd_kid (Q := Q) (ks := ksdY) (A := B5) (c := cb5) (i := 0) H51 11 (by kernel_rfl) hdP
    obtain ⟨dQ, hdQ, hst⟩ := bs hst
    obtain ⟨kddQ, nadQ, nmdQ, nndQ, ksdQ⟩ := dQ
    obtain ⟨B10, cb10, a10, ha10, H65⟩ := nd_kid (Q := Q) (ks := ksdY) (A := B5) (c := cb5) (i := 1) H64 11 (by kernel_rfl) hdQ
    obtain ⟨dR, hdR, hst⟩ := bs hst
    obtain ⟨kddR, nadR, nmdR, nndR, ksdR⟩ := dR
    obtain ⟨B11, cb11, a11, ha11, H66⟩ := nd_kid (Q := Q) (ks := ksdY) (A := B5) (c := cb5) (i := 2) H65 11 (by kernel_rfl) hdR
    obtain ⟨⟨c12, t5⟩, hq12, hst⟩ := bs hst
    obtain ⟨c13, hq13, hst⟩ := bs hst
    refine Sx.nz 2 (.code (Sx.ct 16771391 Tryz.f106)) [.blk 5, .code (Sx.ct 131027 Tryz.f106), .to K4, .blk 4, .code (Sx.ct 4095 Tryz.f106)] [(0, .p bc), (2, .n row), (4, .p k1), (7, .p bg), (13, .n nn2), (14, .n t1), (15, .n t2), (16, .n iy), (17, .p k5), (19, .n nn3), (21, .n nn5)] fun b20 => Sx.l 4 12 H66 <| Sx.ia 0 a9 0 5 ksdY.length cb5 ha9 (at_lt hdP) <| Sx.fa 0 (a9.add (0 * 5)) 2 <| Sx.lo (c := 1) (t := 9) 0 [.string nmdP] (.string nmdP) (cells_sub (i := 2) (m := 1) (cel_at (Q := Q) (a := a9.add (0 * 5)) (n := 5) (cs := (Sx.nC kddP nadP nmdP nndP B9 ksdP cb9)) H66 13 (by kernel_rfl)) (by decide)) ?_
    have H67 := H66.add (Gx.Ext.refl _) (it := mapsI (fun _ => False) [(nv1 nmdP nn3 true)]) maps_none (fun _ h => h.elim)
    refine Sx.c 2 [3, 4, 4, 16] H67 (fun Hp R hZ => with_c bc bg A1 en q1 (some ⟨wr2, 0, none⟩) on oc cz.fk cz.fa el Sm (fun _ => False) (nv1 nmdP nn3 true) w31 R Hp (by omega) (fun eA7 ec7 w38 G23 => hZ _ _ _ G23 fun H68 => ?_))
    refine Sx.l 6 13 H68 <| Sx.ia 0 a10 1 5 ksdY.length cb5 ha10 (at_lt hdQ) <| Sx.fa 0 (a10.add (1 * 5)) 2 <| Sx.lo (c := 1) (t := 9) 0 [.string nmdQ] (.string nmdQ) (cells_sub (i := 2) (m := 1) (cel_at (Q := Q) (a := a10.add (1 * 5)) (n := 5) (cs := (Sx.nC kddQ nadQ nmdQ nndQ B10 ksdQ cb10)) H68 16 (by kernel_rfl)) (by decide)) ?_
    have H69 := H68.add (Gx.Ext.refl _) (it := mapsI (fun _ => False) [(nv1 nmdQ nn5 true)]) maps_none (fun _ h => h.elim)
    refine Sx.c 2 [0, 0, 1, 17] H69 (fun Hp R hZ => with_c bc bg eA7 (en + 1) ec7 (some ⟨wr2, 0, none⟩) on oc cz.fk cz.fa (el ++ [(nv1 nmdP nn3 true)]) (fun c => Sm c ∨ (fun _ => False) c) (fun _ => False) (nv1 nmdQ nn5 true) w38 R Hp (by omega) (fun eA8 ec8 w39 G24 => hZ _ _ _ G24 fun H70 => ?_))
    refine Sx.l 6 14 H70 <| Sx.ia 0 a11 2 5 ksdY.length cb5 ha11 (at_lt hdR) <| Sx.lo (c := 5) (t := 62) 0 (Sx.nC kddR nadR nmdR nndR B11 ksdR cb11) (Sx.nA kddR nadR nmdR nndR B11 ksdR cb11) (cel_at (Q := Q) (a := a11.add (2 * 5)) (n := 5) (cs := (Sx.nC kddR nadR nmdR nndR B11 ksdR cb11)) H70 19 (by kernel_rfl)) ?_
    refine Sx.c 1 [0, 4, 0, 1, 4, 4, 14] H70 (fun Hp R hZ => ih bc bg eA8 (en + 1 + 1) ec8 (some ⟨wr2, 0, none⟩) on oc S7 (⟨gg5, ((cz.env ++ [(nv1 nmdP nn3 true).1]) ++ [(nv1 nmdQ nn5 true).1]), cz.ops, cz.fk, cz.fa⟩ : Ck) ((el ++ [(nv1 nmdP nn3 true)]) ++ [(nv1 nmdQ nn5 true)]) (fun c => (fun c => Sm c ∨ (fun _ => False) c) c ∨ (fun _ => False) c) ol So Q kddR nadR nmdR nndR ksdR B11 cb11  row w39 R Hp c12 t5 hq12 (with_env (with_env hez1)) hoz1 (by omega) hon (fun S11 eA9 ec9 w40 G25 he4 ho4 => hZ _ _ _ G25 fun H71 => ?_))
    refine Sx.nz 3 (.code (Sx.ct 134171135 Tryz.f106)) [.blk 5, .code (Sx.ct 131027 Tryz.f106), .to K4, .blk 4, .code (Sx.ct 4095 Tryz.f106)] [(0, .p bc), (2, .n row), (4, .p k1), (7, .p bg), (13, .n nn2), (14, .n t1), (15, .n t2), (16, .n iy), (17, .p k5), (22, .n t5)] fun b21 => ?_
    refine Sx.c 3 [0, 1] H71 (fun Hp R hZ => out_c bc bg eA9 (en + 1 + 1) ec9 (some ⟨wr2, 0, none⟩) on oc c12.fk c12.fa ((el ++ [(nv1 nmdP nn3 true)]) ++ [(nv1 nmdQ nn5 true)]) 2 w40 R Hp (by omega) (by omega) (fun w41 G26 => hZ _ _ _ G26 fun H72 => ?_))
    rw [take2 hlen, show en + 1 + 1 - 2 = en from rfl] at H72
    refine Sx.l 7 15 H72 <| Sx.ia 0 a11 2 5 ksdY.length cb5 ha11 (at_lt hdR) <| Sx.fa 0 (a11.add (2 * 5)) 1 <| Sx.lo (c := 1) (t := 3) 0 [.n nadR] (.n nadR) (cells_sub (i := 1) (m := 1) (cel_at (Q := Q) (a := a11.add (2 * 5)) (n := 5) (cs := (Sx.nC kddR nadR nmdR nndR B11 ksdR cb11)) H72 20 (by kernel_rfl)) (by decide)) ?_
    refine Sx.c 0 [0, 1] H72 (fun Hp R hZ => same_c bc bg eA9 en ec9 (some ⟨wr2, 0, none⟩) on oc t5 t2 ((nadR : Nat) : Int) S11 (⟨c12.g, (Ck.out (⟨c12.g, c12.env, c12.ops, c12.fk, c12.fa⟩ : Ck) 2).env, c12.ops, c12.fk, c12.fa⟩ : Ck) w41 R Hp _ c13 hq13 (fun S12 w42 G27 => hZ _ _ _ G27 fun H73 => ?_))
    refine Sx.v 5 (.int .i64 (IntKind.i64.wrap (((iy : Nat) : Int) + (1 : Int)))) (.int .i64 ((iy + 1 : Nat) : Int)) (congrArg (Value.int .i64) (Gx.i64n (by omega) (by omega))) ?_
    exact Sx.to 2 _ (hK4 _ _ _ _ (by omega) ⟨(iy + 1), S12, eA9, ec9, (⟨c13.g, c13.env, c13.ops, c13.fk, c13.fa⟩ : Ck), rfl, rfl, H73.pk [0, 0, 0, 5, 1, 1, 5, 5], (by omega), (by omega), hst, ((out_env2 (c := (⟨c12.g, c12.env, c12.ops, c12.fk, c12.fa⟩ : Ck)) he4).trans (same_keeps hq13).1.symm), (ho4.trans (same_keeps hq13).2.symm)⟩)
  have p_c112 := of_decide_eq_false h_c112
  obtain rfl := clauses_done hcl (by omega)
  refine Sx.nz 5 (.code (Sx.ct 4095 Tryz.f106)) [] [(15, .n t2)] fun b22 => Sx.rt 7 [] H42 (.n t2) ?_
  subst hL0
  exact Gx.ret_as (v' := .n t2) (by rfl) (hK S1 A1 q1 _ (H42.pk [0, 0, 0, 0, 0, 0, 0]) (hez1) (hoz1))
end Go.Proofs.YtdmdecgoebnamaaGreat
