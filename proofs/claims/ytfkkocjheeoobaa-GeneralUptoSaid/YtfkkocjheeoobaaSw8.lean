/- A part of the proof (YtfkkocjheeoobaaSw8), printed by a program of ours. -/
import Derived.Test.YtfkkocjheeoobaaCheck
set_option linter.unusedVariables false
set_option linter.unusedSimpArgs false
set_option linter.unusedVariables false
set_option linter.unusedSimpArgs false
namespace Go.Proofs.Ytfkkocjheeoobaa
open Go.RowKit Go.Sx Go.Inf Go.Slv
attribute [local irreducible] Go.wpOps Go.Code.wp Go.wpOp Go.wpAnyH Go.Calls Go.Sx.Goal
set_option maxRecDepth 20000
set_option maxHeartbeats 16000000 in
theorem of_p_s (k : Nat) (ih : ∀ (S : Nat → Prop) (Z : List Slot) (T R : List Nat) (g : G) (mk bt br : Nat) (Sy : Nat → Prop) (kd u row : Nat) (ops : List Nm) (args : List Ty) (p : Tv) (w : World) (K : Ending → World → Prop) (H0 : Sp w [PI S Z T R g, .blk mk (.cells #[.map (some bt), .map (some br)] 50), mpI bt T g.tv, mpI br R g.rv, tyI Sy p (Ty.mk kd u row ops args)]) (c : Nat) (g' : G) (m : Nat) (hfi : Fine c (Ty.mk kd u row ops args)) (htv : TvOk T.length g.tv) (hrv : RvOk R.length g.rv) (hf : ofX k g (Ty.mk kd u row ops args) = some (g', m)) (hK : ∀ (S' : Nat → Prop) (Z' : List Slot) (T' : List Nat) (R' : List Nat) (bm : Nat) w', Hs w [PI S Z T R g, .blk mk (.cells #[.map (some bt), .map (some br)] 50), mpI bt T g.tv, mpI br R g.rv, tyI Sy p (Ty.mk kd u row ops args)] w' [PI S' Z' T' R' g', .blk mk (.cells #[.map (some bt), .map (some br)] 50), mpI bt T' g'.tv, mpI br R' g'.rv, tyI Sy p (Ty.mk kd u row ops args)] → (Pre T T') → (Pre R R') → (T'[m]? = some bm) → (TvOk T'.length g'.tv) → (RvOk R'.length g'.rv) → K (.returned (bp bm)) w'),
    Calls Try.prog 12 #[.pointer (some ⟨mk, 0, none⟩), .agg #[.int .i64 ((kd : Nat) : Int), .int .i64 ((u : Nat) : Int), .int .i64 ((row : Nat) : Int), .slice p.A p.na p.ca, .slice p.B p.nb p.cb]] w K) (S : Nat → Prop) (Z : List Slot) (T R : List Nat) (g : G) (mk bt br : Nat) (Sy : Nat → Prop) (kd u row : Nat) (ops : List Nm) (args : List Ty) (p : Tv) (w : World) (K : Ending → World → Prop) (H0 : Sp w [PI S Z T R g, .blk mk (.cells #[.map (some bt), .map (some br)] 50), mpI bt T g.tv, mpI br R g.rv, tyI Sy p (Ty.mk kd u row ops args)]) (c : Nat) (g' : G) (m : Nat) (hfi : Fine c (Ty.mk kd u row ops args)) (htv : TvOk T.length g.tv) (hrv : RvOk R.length g.rv) (hf : ofX (k + 1) g (Ty.mk kd u row ops args) = some (g', m)) (hK : ∀ (S' : Nat → Prop) (Z' : List Slot) (T' : List Nat) (R' : List Nat) (bm : Nat) w', Hs w [PI S Z T R g, .blk mk (.cells #[.map (some bt), .map (some br)] 50), mpI bt T g.tv, mpI br R g.rv, tyI Sy p (Ty.mk kd u row ops args)] w' [PI S' Z' T' R' g', .blk mk (.cells #[.map (some bt), .map (some br)] 50), mpI bt T' g'.tv, mpI br R' g'.rv, tyI Sy p (Ty.mk kd u row ops args)] → (Pre T T') → (Pre R R') → (T'[m]? = some bm) → (TvOk T'.length g'.tv) → (RvOk R'.length g'.rv) → K (.returned (bp bm)) w') :
    Calls Try.prog 12 #[.pointer (some ⟨mk, 0, none⟩), .agg #[.int .i64 ((kd : Nat) : Int), .int .i64 ((u : Nat) : Int), .int .i64 ((row : Nat) : Int), .slice p.A p.na p.ca, .slice p.B p.nb p.cb]] w K := by
  obtain ⟨L0, hL0, H⟩ : ∃ L0, L0 = [PI S Z T R g, .blk mk (.cells #[.map (some bt), .map (some br)] 50), mpI bt T g.tv, mpI br R g.rv, tyI Sy p (Ty.mk kd u row ops args)] ∧ Hs w L0 w [PI S Z T R g, .blk mk (.cells #[.map (some bt), .map (some br)] 50), mpI bt T g.tv, mpI br R g.rv, tyI Sy p (Ty.mk kd u row ops args)] := ⟨_, rfl, Hs.refl H0⟩
  refine Sx.en (vs := [.pointer (some ⟨mk, 0, none⟩), .agg #[.int .i64 ((kd : Nat) : Int), .int .i64 ((u : Nat) : Int), .int .i64 ((row : Nat) : Int), .slice p.A p.na p.ca, .slice p.B p.nb p.cb]]) 100 Try.func12 ?_
  obtain ⟨_, hP, _, _⟩ := P_open H 0 (S := S) (Z := Z) (T := T) (R := R) (g := g) (by kernel_rfl)
  obtain ⟨_, hna, hca, hnb, _⟩ := (ty_at (S := Sy) (p := p) (t := Ty.mk kd u row ops args) H 4 (by kernel_rfl)).open
  rcases of6 hfi hf with ⟨rfl, hl0, rfl⟩ | ⟨rfl, hl0, rfl, rfl⟩ | ⟨g1, msf, ⟨hal, haf⟩, hx, ⟨hk0, hk6, hsh, rfl, rfl⟩ | ⟨rfl, hsh, g2, x, hnx, rfl, rfl⟩⟩
  · skip
    obtain ⟨bm, hbm⟩ := tb (T := T) (n := m) (htv.at hl0)
    refine Sx.nw 2 H fun k1 w1 H1 => ?_
    refine Sx.l 7 5 H1 ?_
    refine Sx.v 0 (.bool (((0 : Nat) : Int) == (0 : Int))) (.bool true) (rfl) ?_
    refine Sx.dr 5 H1 [1, 5, 2] [] (LJ := [.blk mk (.cells #[.map (some bt), .map (some br)] 50), .blk k1 (.cells #[.int .i64 0, .int .i64 ((u : Nat) : Int), .int .i64 ((row : Nat) : Int), .slice p.A p.na p.ca, .slice p.B p.nb p.cb] 32), mpI bt T g.tv]) (by kernel_rfl) fun w2 H2 => ?_
    refine Sx.tk [(0, none), (1, none), (2, none), (3, some (0, [])), (4, none), (5, some (1, []))] (fun _ => (H2.sub [1, 4, 1] (by kernel_rfl))) ?_
    refine tvmp (t := 47) (kt := 3) (et := 52) 6 [] 2 bt ((u : Nat) : Int) T g.tv (.pointer (some ⟨bm, 0, none⟩)) (mp_some hl0 hbm) (fun _ => (H2.sub [1, 4, 1] (by kernel_rfl))) ?_
    refine Sx.tk [(7, none)] (fun _ => (H2.sub [1, 4, 1] (by kernel_rfl))) ?_
    refine Sx.dn ?_
    refine Sx.dr 5 H2 [1, 5, 2] [] (LJ := [.blk mk (.cells #[.map (some bt), .map (some br)] 50), .blk k1 (.cells #[.int .i64 0, .int .i64 ((u : Nat) : Int), .int .i64 ((row : Nat) : Int), .slice p.A p.na p.ca, .slice p.B p.nb p.cb] 32), mpI bt T g.tv]) (by kernel_rfl) fun w3 H3 => ?_
    refine Sx.tk [(0, none), (1, none), (2, none), (3, some (0, [])), (4, none), (5, some (1, []))] (fun _ => (H3.sub [1, 4, 1] (by kernel_rfl))) ?_
    refine tvmp (t := 47) (kt := 3) (et := 52) 6 [] 2 bt ((u : Nat) : Int) T g.tv (.pointer (some ⟨bm, 0, none⟩)) (mp_some hl0 hbm) (fun _ => (H3.sub [1, 4, 1] (by kernel_rfl))) ?_
    refine Sx.tk [(7, none)] (fun _ => (H3.sub [1, 4, 1] (by kernel_rfl))) ?_
    refine Sx.dn ?_
    refine Sx.rt 3 [] H3 (.pointer (some ⟨bm, 0, none⟩)) ?_
    subst hL0
    exact hK S Z T R bm _ (H3.pick (a := [PI S Z T R g, .blk mk (.cells #[.map (some bt), .map (some br)] 50), mpI bt T g.tv, mpI br R g.rv, tyI Sy p (Ty.mk 0 u row ops args)]) [0, 0, 0, 0, 0] (by kernel_rfl)) (Pre.refl T) (Pre.refl R) hbm htv hrv
  · skip
    refine Sx.nw 2 H fun k2 w4 H4 => ?_
    refine Sx.l 7 5 H4 ?_
    refine Sx.v 0 (.bool (((0 : Nat) : Int) == (0 : Int))) (.bool true) (rfl) ?_
    refine Sx.dr 5 H4 [1, 5, 2] [] (LJ := [.blk mk (.cells #[.map (some bt), .map (some br)] 50), .blk k2 (.cells #[.int .i64 0, .int .i64 ((u : Nat) : Int), .int .i64 ((row : Nat) : Int), .slice p.A p.na p.ca, .slice p.B p.nb p.cb] 32), mpI bt T g.tv]) (by kernel_rfl) fun w5 H5 => ?_
    refine Sx.tk [(0, none), (1, none), (2, none), (3, some (0, [])), (4, none), (5, some (1, []))] (fun _ => (H5.sub [1, 4, 1] (by kernel_rfl))) ?_
    refine tvmp (t := 47) (kt := 3) (et := 52) 6 [] 2 bt ((u : Nat) : Int) T g.tv (.pointer none) (mp_none hl0) (fun _ => (H5.sub [1, 4, 1] (by kernel_rfl))) ?_
    refine Sx.tk [(7, none)] (fun _ => (H5.sub [1, 4, 1] (by kernel_rfl))) ?_
    refine Sx.dn ?_
    refine Sx.dr 2 H5 [1, 5] [] (LJ := [.blk mk (.cells #[.map (some bt), .map (some br)] 50), .blk k2 (.cells #[.int .i64 0, .int .i64 ((u : Nat) : Int), .int .i64 ((row : Nat) : Int), .slice p.A p.na p.ca, .slice p.B p.nb p.cb] 32)]) (by kernel_rfl) fun w6 H6 => ?_
    refine Sx.tk [(0, none), (1, none), (2, none), (3, some (0, [])), (4, none), (5, some (1, []))] (fun _ => (H6.sub [1, 4] (by kernel_rfl))) ?_
    refine Sx.nmx ?_
    intro zx1
    refine Sx.on 6 ?_
    refine Sx.c 0 [] H6 (fun Hp1 R1 hR1 => Var_p  w6 R1 Hp1  (fun bn1 w7 G1 => hR1 _ _ _ G1 fun H7 => ?_))
    refine Sx.bk (x := zx1) 6 (fun _ => (H7.sub [2, 5] (by kernel_rfl))) ?_
    refine Sx.nmx ?_
    intro zx2
    refine Sx.on 7 ?_
    have hbk : (T ++ [bn1])[g.kind.length]? = some bn1 := by rw [← hP.lT]; simp
    have H8 := H7.pick (a := [.blk bn1 (.cells #[.int .i64 0, .slice none 0 0, .pointer none, .pointer none] 78), PI S Z T R g, .blk mk (.cells #[.map (some bt), .map (some br)] 50), mpI bt (T ++ [bn1]) g.tv, mpI br R g.rv, tyI Sy p (Ty.mk 0 u row ops args), .blk k2 (.cells #[.int .i64 0, .int .i64 ((u : Nat) : Int), .int .i64 ((row : Nat) : Int), .slice p.A p.na p.ca, .slice p.B p.nb p.cb] 32)]) [0, 0, 0, 0, 0, 0, 0] (by rw [mpI_ext htv (Pre.app T bn1)]; kernel_rfl)
    refine mump (t := 47) (kt := 3) (et := 52) 0 3 bt ((u : Nat) : Int) (.pointer (some ⟨bn1, 0, none⟩)) (T ++ [bn1]) g.tv (g.tv ++ [((u : Int), g.kind.length)]) (mp_upd hl0 hbk) H8 (by kernel_rfl) fun w8 H9 => ?_
    refine Sx.bk (x := zx2) 7 (fun _ => (H9.sub [2, 5] (by kernel_rfl))) ?_
    refine Sx.dn ?_
    refine Sx.dr 2 H9 [2, 6, 3] [] (LJ := [.blk mk (.cells #[.map (some bt), .map (some br)] 50), .blk k2 (.cells #[.int .i64 0, .int .i64 ((u : Nat) : Int), .int .i64 ((row : Nat) : Int), .slice p.A p.na p.ca, .slice p.B p.nb p.cb] 32), mpI bt (T ++ [bn1]) (g.tv ++ [((u : Int), g.kind.length)])]) (by kernel_rfl) fun w9 H10 => ?_
    refine Sx.tk [(0, none), (1, none), (2, none), (3, some (0, [])), (4, none), (5, some (1, []))] (fun _ => (H10.sub [2, 5, 2] (by kernel_rfl))) ?_
    refine tvmp (t := 47) (kt := 3) (et := 52) 6 [] 2 bt ((u : Nat) : Int) (T ++ [bn1]) (g.tv ++ [((u : Int), g.kind.length)]) (.pointer (some ⟨bn1, 0, none⟩)) (mp_some (look_new hl0) hbk) (fun _ => (H10.sub [2, 5, 2] (by kernel_rfl))) ?_
    refine Sx.tk [(7, none)] (fun _ => (H10.sub [2, 5, 2] (by kernel_rfl))) ?_
    refine Sx.dn ?_
    refine Sx.rt 3 [] H10 (.pointer (some ⟨bn1, 0, none⟩)) ?_
    obtain ⟨pm1, hpm1, hzpm1, H11⟩ := P_open H10 1 (S := S) (Z := Z) (T := T) (R := R) (g := g) (by kernel_rfl)
    have H12 := H11.add (Gx.Ext.refl _) (it := .own 52 1 none 0 0 []) (World.ownsRow_nil _ _ _ _) (fun _ h => by cases h)
    have hza1 := as_len hpm1 (H12.at 1 (it := kidsI pm1.S1 pm1.as (ksL T g)) (by kernel_rfl))
    obtain ⟨S1, H13⟩ := kids_add H12 [1, 9] (S := pm1.S1) (sa := pm1.as) (ks := ksL T g) (e := 52) (n := 0) (cap := 0) (A := none) (l := []) (by kernel_rfl)
    have hm1 : PR (T ++ [bn1]) R (gput g 0 none none 0) (pnew pm1 (none, 0, 0) S1) := hpm1.node bn1 (fun _ h => by cases h) (fun _ h => by cases h) (fun h => by cases h) (.inl ⟨by decide, by decide, by decide, rfl, rfl⟩)
    have H14 := bank_add (b := bn1) (ty := 78) (T := T) (C := ndC T R g pm1) (C' := ndC (T ++ [bn1]) R (gput g 0 none none 0) (pnew pm1 (none, 0, 0) S1)) (hs := []) H13 [4, 1] (by kernel_rfl) (ndC_new hpm1 hza1 bn1 (.inl ⟨by decide, rfl⟩)) (fun i hi => ndC_old hpm1 hza1 bn1 hi)
    have H15 := H14.pick (a := [bankI 78 (T ++ [bn1]) (ndC (T ++ [bn1]) R (gput g 0 none none 0) (pnew pm1 (none, 0, 0) S1)) [], kidsI (pnew pm1 (none, 0, 0) S1).S1 (pnew pm1 (none, 0, 0) S1).as (ksL (T ++ [bn1]) (gput g 0 none none 0)), bankI 80 R (rwC R (gput g 0 none none 0) (pnew pm1 (none, 0, 0) S1)) [0], rowsI (pnew pm1 (none, 0, 0) S1).S2 (pnew pm1 (none, 0, 0) S1).sl (gput g 0 none none 0).ops, .blk mk (.cells #[.map (some bt), .map (some br)] 50), mpI bt (T ++ [bn1]) (g.tv ++ [((u : Int), g.kind.length)]), mpI br R g.rv, tyI Sy p (Ty.mk 0 u row ops args), .blk k2 (.cells #[.int .i64 0, .int .i64 ((u : Nat) : Int), .int .i64 ((row : Nat) : Int), .slice p.A p.na p.ca, .slice p.B p.nb p.cb] 32)]) [0, 0, 0, 0, 0, 0, 0, 0, 0] (by rw [ksL_new (bs := []) (kd := 0) (r := 0) (x := none) (y := none) hpm1 bn1 rfl (fun _ h => by cases h) (fun _ h => by cases h)]; kernel_rfl)
    have hz1 : (pnew pm1 (none, 0, 0) S1).as = (Z ++ [(none, 0, 0)]) := congrArg (fun z => z ++ [(none, 0, 0)]) hzpm1
    have hm2 : PR (T ++ [bn1]) R (gtv (gput g 0 none none 0) u g.kind.length) (pnew pm1 (none, 0, 0) S1) := hm1.tvrv _ _
    have H16 := H15.pick (a := [bankI 78 (T ++ [bn1]) (ndC (T ++ [bn1]) R (gtv (gput g 0 none none 0) u g.kind.length) (pnew pm1 (none, 0, 0) S1)) [], kidsI (pnew pm1 (none, 0, 0) S1).S1 (pnew pm1 (none, 0, 0) S1).as (ksL (T ++ [bn1]) (gtv (gput g 0 none none 0) u g.kind.length)), bankI 80 R (rwC R (gtv (gput g 0 none none 0) u g.kind.length) (pnew pm1 (none, 0, 0) S1)) [0], rowsI (pnew pm1 (none, 0, 0) S1).S2 (pnew pm1 (none, 0, 0) S1).sl (gtv (gput g 0 none none 0) u g.kind.length).ops, .blk mk (.cells #[.map (some bt), .map (some br)] 50), mpI bt (T ++ [bn1]) (g.tv ++ [((u : Int), g.kind.length)]), mpI br R g.rv, tyI Sy p (Ty.mk 0 u row ops args), .blk k2 (.cells #[.int .i64 0, .int .i64 ((u : Nat) : Int), .int .i64 ((row : Nat) : Int), .slice p.A p.na p.ca, .slice p.B p.nb p.cb] 32)]) [0, 0, 0, 0, 0, 0, 0, 0, 0] (by kernel_rfl)
    obtain ⟨S2, H17⟩ := P_close H16 [0, 0, 0, 0] (Z := (Z ++ [(none, 0, 0)])) (T := (T ++ [bn1])) (R := R) (g := (gtv (gput g 0 none none 0) u g.kind.length)) (pnew pm1 (none, 0, 0) S1) hm2 hz1 (by kernel_rfl)
    subst hL0
    exact hK S2 (Z ++ [(none, 0, 0)]) (T ++ [bn1]) R bn1 _ (H17.pick (a := [PI S2 (Z ++ [(none, 0, 0)]) (T ++ [bn1]) R (gtv (gput g 0 none none 0) u g.kind.length), .blk mk (.cells #[.map (some bt), .map (some br)] 50), mpI bt (T ++ [bn1]) (g.tv ++ [((u : Int), g.kind.length)]), mpI br R g.rv, tyI Sy p (Ty.mk 0 u row ops args)]) [0, 0, 0, 0, 0] (by kernel_rfl)) (Pre.app T bn1) (Pre.refl R) hbk ((htv.mono (by simp)).snoc (by rw [← hP.lT]; simp)) hrv
  · skip
    refine Sx.nw 2 H fun k3 w10 H18 => ?_
    refine Sx.l 7 5 H18 ?_
    refine Sx.v 0 (.bool (((kd : Nat) : Int) == (0 : Int))) (.bool false) (congrArg Value.bool (ne0 hk0)) ?_
    refine Sx.l 8 5 H18 ?_
    refine Sx.nw 1 H18 fun k4 w11 H19 => ?_
    refine Sx.l 7 5 H19 ?_
    have H20 := H19.add (Gx.Ext.refl _) (it := .own 52 1 none 0 0 []) (World.ownsRow_nil _ _ _ _) (fun _ h => by cases h)
    have H21 := H20.pick (a := [PI S Z T R g, .blk mk (.cells #[.map (some bt), .map (some br)] 50), mpI bt T g.tv, mpI br R g.rv, tyI Sy p (Ty.mk kd u row ops args), .blk k3 (.cells #[.int .i64 ((kd : Nat) : Int), .int .i64 ((u : Nat) : Int), .int .i64 ((row : Nat) : Int), .slice p.A p.na p.ca, .slice p.B p.nb p.cb] 32), .blk k4 (.cells #[.int .i64 ((kd : Nat) : Int), .slice none 0 0, .pointer none, .pointer none] 78), .own 52 1 none 0 0 (bps [])]) [0, 0, 0, 0, 0, 0, 0, 0] (by kernel_rfl)
    refine Sx.lp 5 (fun z l' w' => ∃ (i : Nat) (gi : G) (Ti : List Nat) (Ri : List Nat) (Zi : List Slot) (Si : Nat → Prop) (Ak : Option Addr) (ck : Nat) (nk : Nat) (ms : List Nat) (bs : List Nat), l' = [(0, .pointer (some ⟨mk, 0, none⟩)), (3, .pointer (some ⟨k3, 0, none⟩)), (5, .pointer (some ⟨k4, 0, none⟩)), (38, .slice p.B p.nb p.cb), (39, .int .i64 ((p.nb : Nat) : Int)), (40, .int .i64 ((i : Nat) : Int))] ∧ z = args.length - i ∧ Hs w L0 w' [PI Si Zi Ti Ri gi, .blk mk (.cells #[.map (some bt), .map (some br)] 50), mpI bt Ti gi.tv, mpI br Ri gi.rv, tyI Sy p (Ty.mk kd u row ops args), .blk k3 (.cells #[.int .i64 ((kd : Nat) : Int), .int .i64 ((u : Nat) : Int), .int .i64 ((row : Nat) : Int), .slice p.A p.na p.ca, .slice p.B p.nb p.cb] 32), .blk k4 (.cells #[.int .i64 ((kd : Nat) : Int), .slice Ak nk ck, .pointer none, .pointer none] 78), .own 52 1 Ak ck nk (bps bs)] ∧ (oargs k gi (args.drop i) ms = some (g1, msf)) ∧ (BL Ti ms bs) ∧ (nk = bs.length) ∧ (ms.length = i) ∧ (i ≤ args.length) ∧ (Pre T Ti) ∧ (Pre R Ri) ∧ (TvOk Ti.length gi.tv) ∧ (RvOk Ri.length gi.rv)) _ [(0, .pointer (some ⟨mk, 0, none⟩)), (3, .pointer (some ⟨k3, 0, none⟩)), (5, .pointer (some ⟨k4, 0, none⟩)), (38, .slice p.B p.nb p.cb), (39, .int .i64 ((p.nb : Nat) : Int)), (40, .int .i64 ((0 : Nat) : Int))] ⟨0, g, T, R, Z, S, none, 0, 0, [], [], rfl, rfl, H21, hx, (BL.nil T), rfl, rfl, (Nat.zero_le _), (Pre.refl T), (Pre.refl R), htv, hrv⟩ (fun b1 z1 l1 w12 hI1 K1 hK1 => ?_)
    obtain ⟨i, gi, Ti, Ri, Zi, Si, Ak, ck, nk, ms, bs, rfl, rfl, H22, hxi, hBL, hnk, hmi, hil, hPT, hPR, htvi, hrvi⟩ := hI1
    refine Sx.br 6 (decide (((i : Nat) : Int) < ((p.nb : Nat) : Int))) (fun h_c41 => ?_) (fun h_c41 => ?_)
    · skip
      have p_c41 := of_decide_eq_true h_c41
      obtain ⟨⟨k0, u0, r0, o0, a0⟩, g0, m0, hti, hof, hxn⟩ := oargs_step hxi (by omega)
      obtain ⟨c0, hfi0⟩ := haf _ (List.mem_of_getElem? hti)
      obtain ⟨q, aq, haq, hcq, hq⟩ := (ty_at (S := Sy) (p := p) (t := Ty.mk kd u row ops args) H22 4 (by kernel_rfl)).open.2.2.2.2 i _ hti
      have hbl : bs.length = ms.length := by rw [hBL.1, List.length_map]
      have H23 := H22.ro 4 (S := Sy) (A := fun w => TyIn w Sy p (Ty.mk kd u row ops args)) (B := fun w => TyIn w Sy q (Ty.mk k0 u0 r0 o0 a0)) (by kernel_rfl) hq (tyI_loc _ _ _)
      refine Sx.ia 6 aq i 5 p.nb p.cb haq (by omega) ?_
      refine Sx.lo (c := 5) (t := 32) 0 [.int .i64 ((k0 : Nat) : Int), .int .i64 ((u0 : Nat) : Int), .int .i64 ((r0 : Nat) : Int), .slice q.A q.na q.ca, .slice q.B q.nb q.cb] (.agg #[.int .i64 ((k0 : Nat) : Int), .int .i64 ((u0 : Nat) : Int), .int .i64 ((r0 : Nat) : Int), .slice q.A q.na q.ca, .slice q.B q.nb q.cb]) hcq ?_
      refine Sx.nw 0 H23 fun k5 w13 H24 => ?_
      refine Sx.s 0 9 H24 fun w14 H25 => ?_
      refine Sx.dr 2 H25 [6, 9] [12] (LJ := [.blk k4 (.cells #[.int .i64 ((kd : Nat) : Int), .slice Ak nk ck, .pointer none, .pointer none] 78), .blk k5 (.cells #[.int .i64 ((k0 : Nat) : Int), .int .i64 ((u0 : Nat) : Int), .int .i64 ((r0 : Nat) : Int), .slice q.A q.na q.ca, .slice q.B q.nb q.cb] 32)]) (by kernel_rfl) fun w15 H26 => ?_
      refine Sx.tk [(0, none), (1, none), (2, none), (3, none), (4, some (0, [9, 10, 11, 12])), (5, none), (6, some (1, [7, 8, 9, 10, 11, 12]))] (fun _ => (H26.sub [6, 8] (by kernel_rfl))) ?_
      refine Sx.nmx ?_
      intro zx3
      refine Sx.on 7 ?_
      refine Sx.c 0 [0, 0, 0, 0, 4] H26 (fun Hp2 R2 hR2 => ih Si Zi Ti Ri gi mk bt br Sy k0 u0 r0 o0 a0 q w15 R2 Hp2 c0 g0 m0 hfi0 htvi hrvi hof (fun S3 Zn1 Tn1 Rn1 bm1 w16 G2 ho1 ho2 ho3 ho4 ho5 => hR2 _ _ _ G2 fun H27 => ?_))
      refine Sx.bk (x := zx3) 7 (fun _ => (H27.sub [7, 8] (by kernel_rfl))) ?_
      refine Sx.nmx ?_
      intro zx4
      refine Sx.on 8 ?_
      refine Sx.nw 0 H27 fun k6 w17 H28 => ?_
      refine Sx.bk (x := zx4) 8 (fun _ => (H28.sub [7, 8] (by kernel_rfl))) ?_
      refine Sx.nmx ?_
      intro zx5
      refine Sx.on 9 ?_
      refine Sx.ap 0 8 10 8 1 0 52 1 51 1 k6 Ak ck nk (bps bs) [.pointer (some ⟨bm1, 0, none⟩)] H28 (by omega) (by omega) (bps_app bs bm1) fun A1 cap1 w18 H29 => ?_
      refine Sx.bk (x := zx5) 9 (fun _ => (H29.sub [7, 8] (by kernel_rfl))) ?_
      refine Sx.tk [(10, none), (11, none)] (fun _ => (H29.sub [7, 8] (by kernel_rfl))) ?_
      refine Sx.nmx ?_
      intro zx6
      refine Sx.on 12 ?_
      refine Sx.s 0 7 H29 fun w19 H30 => ?_
      refine Sx.bk (x := zx6) 12 (fun h => Sx.nope h (by kernel_rfl)) ?_
      refine Sx.dn ?_
      refine Sx.v 3 (.int .i64 (IntKind.i64.wrap (((i : Nat) : Int) + (1 : Int)))) (.int .i64 ((i + 1 : Nat) : Int)) (congrArg (Value.int .i64) (Gx.i64n (by omega) (by omega))) ?_
      have H31 := H30.pick (a := [PI S3 Zn1 Tn1 Rn1 g0, .blk mk (.cells #[.map (some bt), .map (some br)] 50), mpI bt Tn1 g0.tv, mpI br Rn1 g0.rv, tyI Sy p (Ty.mk kd u row ops args), .blk k3 (.cells #[.int .i64 ((kd : Nat) : Int), .int .i64 ((u : Nat) : Int), .int .i64 ((row : Nat) : Int), .slice p.A p.na p.ca, .slice p.B p.nb p.cb] 32), .blk k4 (.cells #[.int .i64 ((kd : Nat) : Int), .slice A1 (nk + 1) cap1, .pointer none, .pointer none] 78), .own 52 1 A1 cap1 (nk + 1) (bps (bs ++ [bm1]))]) [0, 0, 0, 0, 1, 1, 1, 1] (by kernel_rfl)
      exact Sx.to 2 [(0, .pointer (some ⟨mk, 0, none⟩)), (3, .pointer (some ⟨k3, 0, none⟩)), (5, .pointer (some ⟨k4, 0, none⟩)), (38, .slice p.B p.nb p.cb), (39, .int .i64 ((p.nb : Nat) : Int)), (40, .int .i64 (((i + 1) : Nat) : Int))] (hK1 _ _ _ _ (by omega) ⟨(i + 1), g0, Tn1, Rn1, Zn1, S3, A1, cap1, nk + 1, (ms ++ [m0]), (bs ++ [bm1]), rfl, rfl, H31, hxn, ((hBL.ext ho1).snoc ho3), (by rw [List.length_append, hnk]; rfl), (by rw [List.length_append, hmi]; rfl), (by omega), (hPT.trans ho1), (hPR.trans ho2), ho4, ho5⟩)
    have p_c41 := of_decide_eq_false h_c41
    obtain ⟨rfl, rfl⟩ := oargs_end hxi (by omega)
    have hlm : ms.length = args.length := by omega
    have hms2 : ms.length ≤ 2 := by omega
    have hbs := hBL.ks hms2
    rw [← hlm] at hsh
    refine Sx.l 9 5 H22 ?_
    refine Sx.v 0 (.bool (((kd : Nat) : Int) == (6 : Int))) (.bool false) (congrArg Value.bool (eq6 hk6)) ?_
    refine Sx.rt 12 [] H22 (.pointer (some ⟨k4, 0, none⟩)) ?_
    obtain ⟨pm2, hpm2, hzpm2, H32⟩ := P_open H22 0 (S := Si) (Z := Zi) (T := Ti) (R := Ri) (g := gi) (by kernel_rfl)
    have hkl := hpm2.lT
    have hza2 := as_len hpm2 (H32.at 1 (it := kidsI pm2.S1 pm2.as (ksL Ti gi)) (by kernel_rfl))
    obtain ⟨S4, H33⟩ := kids_add H32 [1, 9] (S := pm2.S1) (sa := pm2.as) (ks := ksL Ti gi) (e := 52) (n := nk) (cap := ck) (A := Ak) (l := bs) (by kernel_rfl)
    have hm3 : PR (Ti ++ [k4]) Ri (gput gi kd (ms[0]?) (ms[1]?) 0) (pnew pm2 (Ak, nk, ck) S4) := hpm2.node k4 (hBL.lt hpm2.lT 0) (hBL.lt hpm2.lT 1) (fun h => absurd h hk6) hsh.ar
    have H34 := bank_add (b := k4) (ty := 78) (T := Ti) (C := ndC Ti Ri gi pm2) (C' := ndC (Ti ++ [k4]) Ri (gput gi kd (ms[0]?) (ms[1]?) 0) (pnew pm2 (Ak, nk, ck) S4)) (hs := []) H33 [9, 1] (by kernel_rfl) (ndC_new hpm2 hza2 k4 (.inl ⟨hk6, rfl⟩)) (fun i hi => ndC_old hpm2 hza2 k4 hi)
    have H35 := H34.pick (a := [bankI 78 (Ti ++ [k4]) (ndC (Ti ++ [k4]) Ri (gput gi kd (ms[0]?) (ms[1]?) 0) (pnew pm2 (Ak, nk, ck) S4)) [], kidsI (pnew pm2 (Ak, nk, ck) S4).S1 (pnew pm2 (Ak, nk, ck) S4).as (ksL (Ti ++ [k4]) (gput gi kd (ms[0]?) (ms[1]?) 0)), bankI 80 Ri (rwC Ri (gput gi kd (ms[0]?) (ms[1]?) 0) (pnew pm2 (Ak, nk, ck) S4)) [0], rowsI (pnew pm2 (Ak, nk, ck) S4).S2 (pnew pm2 (Ak, nk, ck) S4).sl (gput gi kd (ms[0]?) (ms[1]?) 0).ops, .blk mk (.cells #[.map (some bt), .map (some br)] 50), mpI bt Ti gi.tv, mpI br Ri gi.rv, tyI Sy p (Ty.mk kd u row ops args), .blk k3 (.cells #[.int .i64 ((kd : Nat) : Int), .int .i64 ((u : Nat) : Int), .int .i64 ((row : Nat) : Int), .slice p.A p.na p.ca, .slice p.B p.nb p.cb] 32)]) [0, 0, 0, 0, 0, 0, 0, 0, 0] (by rw [ksL_new (bs := bs) (kd := kd) (r := 0) (x := ms[0]?) (y := ms[1]?) hpm2 k4 hbs (hBL.lt hpm2.lT 0) (hBL.lt hpm2.lT 1)]; kernel_rfl)
    have hz2 : (pnew pm2 (Ak, nk, ck) S4).as = (Zi ++ [(Ak, nk, ck)]) := congrArg (fun z => z ++ [(Ak, nk, ck)]) hzpm2
    have hb1 : (Ti ++ [k4])[gi.kind.length]? = some k4 := by rw [← hkl]; simp
    obtain ⟨S5, H36⟩ := P_close H35 [0, 0, 0, 0] (Z := (Zi ++ [(Ak, nk, ck)])) (T := (Ti ++ [k4])) (R := Ri) (g := (gput gi kd (ms[0]?) (ms[1]?) 0)) (pnew pm2 (Ak, nk, ck) S4) hm3 hz2 (by kernel_rfl)
    have H37 := H36.pick (a := [PI S5 (Zi ++ [(Ak, nk, ck)]) (Ti ++ [k4]) Ri (gput gi kd (ms[0]?) (ms[1]?) 0), .blk mk (.cells #[.map (some bt), .map (some br)] 50), mpI bt (Ti ++ [k4]) gi.tv, mpI br Ri gi.rv, tyI Sy p (Ty.mk kd u row ops args), .blk k3 (.cells #[.int .i64 ((kd : Nat) : Int), .int .i64 ((u : Nat) : Int), .int .i64 ((row : Nat) : Int), .slice p.A p.na p.ca, .slice p.B p.nb p.cb] 32)]) [0, 0, 0, 0, 0, 0] (by rw [mpI_ext htvi (Pre.app Ti k4)]; kernel_rfl)
    subst hL0
    exact hK S5 (Zi ++ [(Ak, nk, ck)]) (Ti ++ [k4]) Ri k4 _ (H37.pick (a := [PI S5 (Zi ++ [(Ak, nk, ck)]) (Ti ++ [k4]) Ri (gput gi kd (ms[0]?) (ms[1]?) 0), .blk mk (.cells #[.map (some bt), .map (some br)] 50), mpI bt (Ti ++ [k4]) gi.tv, mpI br Ri gi.rv, tyI Sy p (Ty.mk kd u row ops args)]) [0, 0, 0, 0, 0] (by kernel_rfl)) (hPT.trans (Pre.app Ti k4)) hPR hb1 (htvi.mono (by simp)) hrvi
  rcases ofnx_cases hnx with ⟨hr0, rfl, rfl⟩ | ⟨hr0, hlr, rfl⟩ | ⟨hr0, hlr, hzo, rfl, rfl⟩
  · skip
    refine Sx.nw 2 H fun k7 w20 H38 => ?_
    refine Sx.l 7 5 H38 ?_
    refine Sx.v 0 (.bool (((6 : Nat) : Int) == (0 : Int))) (.bool false) (rfl) ?_
    refine Sx.l 8 5 H38 ?_
    refine Sx.nw 1 H38 fun k8 w21 H39 => ?_
    refine Sx.l 7 5 H39 ?_
    have H40 := H39.add (Gx.Ext.refl _) (it := .own 52 1 none 0 0 []) (World.ownsRow_nil _ _ _ _) (fun _ h => by cases h)
    have H41 := H40.pick (a := [PI S Z T R g, .blk mk (.cells #[.map (some bt), .map (some br)] 50), mpI bt T g.tv, mpI br R g.rv, tyI Sy p (Ty.mk 6 u row ops args), .blk k7 (.cells #[.int .i64 6, .int .i64 ((u : Nat) : Int), .int .i64 ((row : Nat) : Int), .slice p.A p.na p.ca, .slice p.B p.nb p.cb] 32), .blk k8 (.cells #[.int .i64 6, .slice none 0 0, .pointer none, .pointer none] 78), .own 52 1 none 0 0 (bps [])]) [0, 0, 0, 0, 0, 0, 0, 0] (by kernel_rfl)
    refine Sx.lp 5 (fun z l' w' => ∃ (i : Nat) (gi : G) (Ti : List Nat) (Ri : List Nat) (Zi : List Slot) (Si : Nat → Prop) (Ak : Option Addr) (ck : Nat) (nk : Nat) (ms : List Nat) (bs : List Nat), l' = [(0, .pointer (some ⟨mk, 0, none⟩)), (3, .pointer (some ⟨k7, 0, none⟩)), (5, .pointer (some ⟨k8, 0, none⟩)), (38, .slice p.B p.nb p.cb), (39, .int .i64 ((p.nb : Nat) : Int)), (40, .int .i64 ((i : Nat) : Int))] ∧ z = args.length - i ∧ Hs w L0 w' [PI Si Zi Ti Ri gi, .blk mk (.cells #[.map (some bt), .map (some br)] 50), mpI bt Ti gi.tv, mpI br Ri gi.rv, tyI Sy p (Ty.mk 6 u row ops args), .blk k7 (.cells #[.int .i64 6, .int .i64 ((u : Nat) : Int), .int .i64 ((row : Nat) : Int), .slice p.A p.na p.ca, .slice p.B p.nb p.cb] 32), .blk k8 (.cells #[.int .i64 6, .slice Ak nk ck, .pointer none, .pointer none] 78), .own 52 1 Ak ck nk (bps bs)] ∧ (oargs k gi (args.drop i) ms = some (g1, msf)) ∧ (BL Ti ms bs) ∧ (nk = bs.length) ∧ (ms.length = i) ∧ (i ≤ args.length) ∧ (Pre T Ti) ∧ (Pre R Ri) ∧ (TvOk Ti.length gi.tv) ∧ (RvOk Ri.length gi.rv)) _ [(0, .pointer (some ⟨mk, 0, none⟩)), (3, .pointer (some ⟨k7, 0, none⟩)), (5, .pointer (some ⟨k8, 0, none⟩)), (38, .slice p.B p.nb p.cb), (39, .int .i64 ((p.nb : Nat) : Int)), (40, .int .i64 ((0 : Nat) : Int))] ⟨0, g, T, R, Z, S, none, 0, 0, [], [], rfl, rfl, H41, hx, (BL.nil T), rfl, rfl, (Nat.zero_le _), (Pre.refl T), (Pre.refl R), htv, hrv⟩ (fun b2 z2 l2 w22 hI2 K2 hK2 => ?_)
    obtain ⟨i, gi, Ti, Ri, Zi, Si, Ak, ck, nk, ms, bs, rfl, rfl, H42, hxi, hBL, hnk, hmi, hil, hPT, hPR, htvi, hrvi⟩ := hI2
    refine Sx.br 6 (decide (((i : Nat) : Int) < ((p.nb : Nat) : Int))) (fun h_c41 => ?_) (fun h_c41 => ?_)
    · skip
      have p_c41 := of_decide_eq_true h_c41
      obtain ⟨⟨k0, u0, r0, o0, a0⟩, g0, m0, hti, hof, hxn⟩ := oargs_step hxi (by omega)
      obtain ⟨c0, hfi0⟩ := haf _ (List.mem_of_getElem? hti)
      obtain ⟨q, aq, haq, hcq, hq⟩ := (ty_at (S := Sy) (p := p) (t := Ty.mk 6 u row ops args) H42 4 (by kernel_rfl)).open.2.2.2.2 i _ hti
      have hbl : bs.length = ms.length := by rw [hBL.1, List.length_map]
      have H43 := H42.ro 4 (S := Sy) (A := fun w => TyIn w Sy p (Ty.mk 6 u row ops args)) (B := fun w => TyIn w Sy q (Ty.mk k0 u0 r0 o0 a0)) (by kernel_rfl) hq (tyI_loc _ _ _)
      refine Sx.ia 6 aq i 5 p.nb p.cb haq (by omega) ?_
      refine Sx.lo (c := 5) (t := 32) 0 [.int .i64 ((k0 : Nat) : Int), .int .i64 ((u0 : Nat) : Int), .int .i64 ((r0 : Nat) : Int), .slice q.A q.na q.ca, .slice q.B q.nb q.cb] (.agg #[.int .i64 ((k0 : Nat) : Int), .int .i64 ((u0 : Nat) : Int), .int .i64 ((r0 : Nat) : Int), .slice q.A q.na q.ca, .slice q.B q.nb q.cb]) hcq ?_
      refine Sx.nw 0 H43 fun k9 w23 H44 => ?_
      refine Sx.s 0 9 H44 fun w24 H45 => ?_
      refine Sx.dr 2 H45 [6, 9] [12] (LJ := [.blk k8 (.cells #[.int .i64 6, .slice Ak nk ck, .pointer none, .pointer none] 78), .blk k9 (.cells #[.int .i64 ((k0 : Nat) : Int), .int .i64 ((u0 : Nat) : Int), .int .i64 ((r0 : Nat) : Int), .slice q.A q.na q.ca, .slice q.B q.nb q.cb] 32)]) (by kernel_rfl) fun w25 H46 => ?_
      refine Sx.tk [(0, none), (1, none), (2, none), (3, none), (4, some (0, [9, 10, 11, 12])), (5, none), (6, some (1, [7, 8, 9, 10, 11, 12]))] (fun _ => (H46.sub [6, 8] (by kernel_rfl))) ?_
      refine Sx.nmx ?_
      intro zx7
      refine Sx.on 7 ?_
      refine Sx.c 0 [0, 0, 0, 0, 4] H46 (fun Hp3 R3 hR3 => ih Si Zi Ti Ri gi mk bt br Sy k0 u0 r0 o0 a0 q w25 R3 Hp3 c0 g0 m0 hfi0 htvi hrvi hof (fun S6 Zn2 Tn2 Rn2 bm2 w26 G3 ho6 ho7 ho8 ho9 ho10 => hR3 _ _ _ G3 fun H47 => ?_))
      refine Sx.bk (x := zx7) 7 (fun _ => (H47.sub [7, 8] (by kernel_rfl))) ?_
      refine Sx.nmx ?_
      intro zx8
      refine Sx.on 8 ?_
      refine Sx.nw 0 H47 fun k10 w27 H48 => ?_
      refine Sx.bk (x := zx8) 8 (fun _ => (H48.sub [7, 8] (by kernel_rfl))) ?_
      refine Sx.nmx ?_
      intro zx9
      refine Sx.on 9 ?_
      refine Sx.ap 0 8 10 8 1 0 52 1 51 1 k10 Ak ck nk (bps bs) [.pointer (some ⟨bm2, 0, none⟩)] H48 (by omega) (by omega) (bps_app bs bm2) fun A2 cap2 w28 H49 => ?_
      refine Sx.bk (x := zx9) 9 (fun _ => (H49.sub [7, 8] (by kernel_rfl))) ?_
      refine Sx.tk [(10, none), (11, none)] (fun _ => (H49.sub [7, 8] (by kernel_rfl))) ?_
      refine Sx.nmx ?_
      intro zx10
      refine Sx.on 12 ?_
      refine Sx.s 0 7 H49 fun w29 H50 => ?_
      refine Sx.bk (x := zx10) 12 (fun h => Sx.nope h (by kernel_rfl)) ?_
      refine Sx.dn ?_
      refine Sx.v 3 (.int .i64 (IntKind.i64.wrap (((i : Nat) : Int) + (1 : Int)))) (.int .i64 ((i + 1 : Nat) : Int)) (congrArg (Value.int .i64) (Gx.i64n (by omega) (by omega))) ?_
      have H51 := H50.pick (a := [PI S6 Zn2 Tn2 Rn2 g0, .blk mk (.cells #[.map (some bt), .map (some br)] 50), mpI bt Tn2 g0.tv, mpI br Rn2 g0.rv, tyI Sy p (Ty.mk 6 u row ops args), .blk k7 (.cells #[.int .i64 6, .int .i64 ((u : Nat) : Int), .int .i64 ((row : Nat) : Int), .slice p.A p.na p.ca, .slice p.B p.nb p.cb] 32), .blk k8 (.cells #[.int .i64 6, .slice A2 (nk + 1) cap2, .pointer none, .pointer none] 78), .own 52 1 A2 cap2 (nk + 1) (bps (bs ++ [bm2]))]) [0, 0, 0, 0, 1, 1, 1, 1] (by kernel_rfl)
      exact Sx.to 2 [(0, .pointer (some ⟨mk, 0, none⟩)), (3, .pointer (some ⟨k7, 0, none⟩)), (5, .pointer (some ⟨k8, 0, none⟩)), (38, .slice p.B p.nb p.cb), (39, .int .i64 ((p.nb : Nat) : Int)), (40, .int .i64 (((i + 1) : Nat) : Int))] (hK2 _ _ _ _ (by omega) ⟨(i + 1), g0, Tn2, Rn2, Zn2, S6, A2, cap2, nk + 1, (ms ++ [m0]), (bs ++ [bm2]), rfl, rfl, H51, hxn, ((hBL.ext ho6).snoc ho8), (by rw [List.length_append, hnk]; rfl), (by rw [List.length_append, hmi]; rfl), (by omega), (hPT.trans ho6), (hPR.trans ho7), ho9, ho10⟩)
    have p_c41 := of_decide_eq_false h_c41
    obtain ⟨rfl, rfl⟩ := oargs_end hxi (by omega)
    have hlm : ms.length = args.length := by omega
    have hms2 : ms.length ≤ 2 := by omega
    have hbs := hBL.ks hms2
    rw [← hlm] at hsh
    refine Sx.l 9 5 H42 ?_
    refine Sx.v 0 (.bool (((6 : Nat) : Int) == (6 : Int))) (.bool true) (rfl) ?_
    obtain ⟨_, hPi, _, _⟩ := P_open H42 0 (S := Si) (Z := Zi) (T := Ti) (R := Ri) (g := gi) (by kernel_rfl)
    have hRl : Ri.length = gi.ops.length := by rw [hPi.lR, hPi.lo]
    refine Sx.l 7 5 H42 ?_
    have H52 := H42.add (Gx.Ext.refl _) (it := .own 9 1 none 0 0 []) (World.ownsRow_nil _ _ _ _) (fun _ h => by cases h)
    have hst := (ty_at (S := Sy) (p := p) (t := Ty.mk 6 u row ops args) H52 4 (by kernel_rfl)).open.1
    refine Sx.aps 0 8 16 p.na 9 1 30 p.ca p.A none 0 0 [] (strs ops) H52 (fun h => by have := hst; rw [h] at this; have := this.nil; rw [hna, this]; rfl) (fun a ha => hst.cell ha) (by rw [strs, List.length_map]; omega) (strs_one _) (by omega) (by omega) (Nat.le_refl 0) (xs' := strs ops) rfl fun A3 cap3 w30 H53 => ?_
    have hocap := own_cap (H53.at 8 (it := .own 9 1 A3 cap3 (0 + p.na) (strs ops)) (by kernel_rfl))
    have H54 := Hs.toStr H53 8 (e := 9) (n := 0 + p.na) (cap := cap3) (A := A3) (l := ops) (by kernel_rfl)
    refine Sx.nw 1 H54 fun k11 w31 H55 => ?_
    refine Sx.s 2 6 H55 fun w32 H56 => ?_
    refine Sx.l 5 5 H56 ?_
    refine Sx.v 0 (.bool (decide (((row : Nat) : Int) > (0 : Int)))) (.bool false) (congrArg Value.bool (decide_eq_false (by omega))) ?_
    refine Sx.rt 12 [] H56 (.pointer (some ⟨k8, 0, none⟩)) ?_
    obtain ⟨pm3, hpm3, hzpm3, H57⟩ := P_open H56 0 (S := Si) (Z := Zi) (T := Ti) (R := Ri) (g := gi) (by kernel_rfl)
    have hsl1 := (H57.at 3 (it := rowsI pm3.S2 pm3.sl gi.ops) (by kernel_rfl)).1.1
    obtain ⟨S7, H58⟩ := rows_add H57 [3, 10] (c := cap3) (n := (0 + p.na)) (S := pm3.S2) (sl := pm3.sl) (ops := (gi).ops) (S2 := (fun c => (Value.slice A3 (0 + p.na) cap3).ownBlock = some c)) (A := A3) (l := ops) (by kernel_rfl) (by omega)
    have hm4 : PR Ti (Ri ++ [k11]) (gop1 gi ops (some 0)) ({ pm3 with sl := pm3.sl ++ [(A3, (0 + p.na), cap3)], S2 := S7 } : Pm) := hpm3.add k11 ops (fun p h => by cases h)
    have H59 := bank_add (b := k11) (ty := 80) (T := Ri) (C := rwC Ri gi pm3) (C' := rwC (Ri ++ [k11]) (gop1 gi ops (some 0)) ({ pm3 with sl := pm3.sl ++ [(A3, (0 + p.na), cap3)], S2 := S7 } : Pm)) (hs := [0]) H58 [11, 3] (by kernel_rfl) (rwC_new hpm3 hsl1 k11 ops (some 0) (tl := none) rfl (t := false) rfl) (fun i hi => rwC_add hpm3 hsl1 k11 ops (some 0) _ _ hi)
    have H60 := bank_as (ty := 78) (T := Ti) (hs := []) (C := ndC Ti Ri gi pm3) (C' := ndC Ti (Ri ++ [k11]) (gop1 gi ops (some 0)) ({ pm3 with sl := pm3.sl ++ [(A3, (0 + p.na), cap3)], S2 := S7 } : Pm)) H59 2 (by kernel_rfl) (fun j _ _ => ndC_add hpm3 k11 ops (some 0) _ _ j)
    have H61 := H60.pick (a := [bankI 78 Ti (ndC Ti (Ri ++ [k11]) (gop1 gi ops (some 0)) ({ pm3 with sl := pm3.sl ++ [(A3, (0 + p.na), cap3)], S2 := S7 } : Pm)) [], kidsI ({ pm3 with sl := pm3.sl ++ [(A3, (0 + p.na), cap3)], S2 := S7 } : Pm).S1 ({ pm3 with sl := pm3.sl ++ [(A3, (0 + p.na), cap3)], S2 := S7 } : Pm).as (ksL Ti (gop1 gi ops (some 0))), bankI 80 (Ri ++ [k11]) (rwC (Ri ++ [k11]) (gop1 gi ops (some 0)) ({ pm3 with sl := pm3.sl ++ [(A3, (0 + p.na), cap3)], S2 := S7 } : Pm)) [0], rowsI ({ pm3 with sl := pm3.sl ++ [(A3, (0 + p.na), cap3)], S2 := S7 } : Pm).S2 ({ pm3 with sl := pm3.sl ++ [(A3, (0 + p.na), cap3)], S2 := S7 } : Pm).sl (gop1 gi ops (some 0)).ops, .blk mk (.cells #[.map (some bt), .map (some br)] 50), mpI bt Ti gi.tv, mpI br Ri gi.rv, tyI Sy p (Ty.mk 6 u row ops args), .blk k7 (.cells #[.int .i64 6, .int .i64 ((u : Nat) : Int), .int .i64 ((row : Nat) : Int), .slice p.A p.na p.ca, .slice p.B p.nb p.cb] 32), .blk k8 (.cells #[.int .i64 6, .slice Ak nk ck, .pointer (some ⟨k11, 0, none⟩), .pointer none] 78), .own 52 1 Ak ck nk (bps bs)]) [2, 2, 0, 0, 0, 0, 0, 0, 0, 0, 0] (by kernel_rfl)
    have hkl := hpm3.lT
    have hza3 := as_len hm4 (H61.at 1 (it := kidsI ({ pm3 with sl := pm3.sl ++ [(A3, (0 + p.na), cap3)], S2 := S7 } : Pm).S1 ({ pm3 with sl := pm3.sl ++ [(A3, (0 + p.na), cap3)], S2 := S7 } : Pm).as (ksL Ti (gop1 gi ops (some 0)))) (by kernel_rfl))
    obtain ⟨S8, H62⟩ := kids_add H61 [1, 9] (S := ({ pm3 with sl := pm3.sl ++ [(A3, (0 + p.na), cap3)], S2 := S7 } : Pm).S1) (sa := ({ pm3 with sl := pm3.sl ++ [(A3, (0 + p.na), cap3)], S2 := S7 } : Pm).as) (ks := ksL Ti (gop1 gi ops (some 0))) (e := 52) (n := nk) (cap := ck) (A := Ak) (l := bs) (by kernel_rfl)
    have hm5 : PR (Ti ++ [k8]) (Ri ++ [k11]) (gput (gop1 gi ops (some 0)) 6 (ms[0]?) (ms[1]?) gi.ops.length) (pnew ({ pm3 with sl := pm3.sl ++ [(A3, (0 + p.na), cap3)], S2 := S7 } : Pm) (Ak, nk, ck) S8) := hm4.node k8 (hBL.lt (g := gi) hPi.lT 0) (hBL.lt (g := gi) hPi.lT 1) (fun _ => ⟨by show gi.ops.length < (gi.next ++ [_]).length; (try simp only [List.length_append, List.length_singleton]); have := hPi.lo; omega, by have := hPi.z; have := hPi.lo; (try simp only [List.length_append, List.length_singleton]); omega⟩) hsh.ar
    have H63 := bank_add (b := k8) (ty := 78) (T := Ti) (C := ndC Ti (Ri ++ [k11]) (gop1 gi ops (some 0)) ({ pm3 with sl := pm3.sl ++ [(A3, (0 + p.na), cap3)], S2 := S7 } : Pm)) (C' := ndC (Ti ++ [k8]) (Ri ++ [k11]) (gput (gop1 gi ops (some 0)) 6 (ms[0]?) (ms[1]?) gi.ops.length) (pnew ({ pm3 with sl := pm3.sl ++ [(A3, (0 + p.na), cap3)], S2 := S7 } : Pm) (Ak, nk, ck) S8)) (hs := []) H62 [9, 1] (by kernel_rfl) (ndC_new hm4 hza3 k8 (.inr ⟨rfl, (by show (Ri ++ [k11])[_]? = some k11; have hrr : gi.ops.length = (Ri).length := (by (try simp only [List.length_append, List.length_singleton]); omega); rw [hrr]; simp)⟩)) (fun i hi => ndC_old hm4 hza3 k8 hi)
    have H64 := H63.pick (a := [bankI 78 (Ti ++ [k8]) (ndC (Ti ++ [k8]) (Ri ++ [k11]) (gput (gop1 gi ops (some 0)) 6 (ms[0]?) (ms[1]?) gi.ops.length) (pnew ({ pm3 with sl := pm3.sl ++ [(A3, (0 + p.na), cap3)], S2 := S7 } : Pm) (Ak, nk, ck) S8)) [], kidsI (pnew ({ pm3 with sl := pm3.sl ++ [(A3, (0 + p.na), cap3)], S2 := S7 } : Pm) (Ak, nk, ck) S8).S1 (pnew ({ pm3 with sl := pm3.sl ++ [(A3, (0 + p.na), cap3)], S2 := S7 } : Pm) (Ak, nk, ck) S8).as (ksL (Ti ++ [k8]) (gput (gop1 gi ops (some 0)) 6 (ms[0]?) (ms[1]?) gi.ops.length)), bankI 80 (Ri ++ [k11]) (rwC (Ri ++ [k11]) (gput (gop1 gi ops (some 0)) 6 (ms[0]?) (ms[1]?) gi.ops.length) (pnew ({ pm3 with sl := pm3.sl ++ [(A3, (0 + p.na), cap3)], S2 := S7 } : Pm) (Ak, nk, ck) S8)) [0], rowsI (pnew ({ pm3 with sl := pm3.sl ++ [(A3, (0 + p.na), cap3)], S2 := S7 } : Pm) (Ak, nk, ck) S8).S2 (pnew ({ pm3 with sl := pm3.sl ++ [(A3, (0 + p.na), cap3)], S2 := S7 } : Pm) (Ak, nk, ck) S8).sl (gput (gop1 gi ops (some 0)) 6 (ms[0]?) (ms[1]?) gi.ops.length).ops, .blk mk (.cells #[.map (some bt), .map (some br)] 50), mpI bt Ti gi.tv, mpI br Ri gi.rv, tyI Sy p (Ty.mk 6 u row ops args), .blk k7 (.cells #[.int .i64 6, .int .i64 ((u : Nat) : Int), .int .i64 ((row : Nat) : Int), .slice p.A p.na p.ca, .slice p.B p.nb p.cb] 32)]) [0, 0, 0, 0, 0, 0, 0, 0, 0] (by rw [ksL_new (bs := bs) (kd := 6) (r := gi.ops.length) (x := ms[0]?) (y := ms[1]?) hm4 k8 hbs (hBL.lt (g := gi) hPi.lT 0) (hBL.lt (g := gi) hPi.lT 1)]; kernel_rfl)
    have hz3 : (pnew ({ pm3 with sl := pm3.sl ++ [(A3, (0 + p.na), cap3)], S2 := S7 } : Pm) (Ak, nk, ck) S8).as = (Zi ++ [(Ak, nk, ck)]) := congrArg (fun z => z ++ [(Ak, nk, ck)]) hzpm3
    have hb2 : (Ti ++ [k8])[gi.kind.length]? = some k8 := by rw [← hkl]; simp
    obtain ⟨S9, H65⟩ := P_close H64 [0, 0, 0, 0] (Z := (Zi ++ [(Ak, nk, ck)])) (T := (Ti ++ [k8])) (R := (Ri ++ [k11])) (g := (gput (gop1 gi ops (some 0)) 6 (ms[0]?) (ms[1]?) gi.ops.length)) (pnew ({ pm3 with sl := pm3.sl ++ [(A3, (0 + p.na), cap3)], S2 := S7 } : Pm) (Ak, nk, ck) S8) hm5 hz3 (by kernel_rfl)
    have H66 := H65.pick (a := [PI S9 (Zi ++ [(Ak, nk, ck)]) (Ti ++ [k8]) (Ri ++ [k11]) (gput (gop1 gi ops (some 0)) 6 (ms[0]?) (ms[1]?) gi.ops.length), .blk mk (.cells #[.map (some bt), .map (some br)] 50), mpI bt (Ti ++ [k8]) gi.tv, mpI br Ri gi.rv, tyI Sy p (Ty.mk 6 u row ops args), .blk k7 (.cells #[.int .i64 6, .int .i64 ((u : Nat) : Int), .int .i64 ((row : Nat) : Int), .slice p.A p.na p.ca, .slice p.B p.nb p.cb] 32)]) [0, 0, 0, 0, 0, 0] (by rw [mpI_ext htvi (Pre.app Ti k8)]; kernel_rfl)
    have H67 := H66.pick (a := [PI S9 (Zi ++ [(Ak, nk, ck)]) (Ti ++ [k8]) (Ri ++ [k11]) (gput (gop1 gi ops (some 0)) 6 (ms[0]?) (ms[1]?) gi.ops.length), .blk mk (.cells #[.map (some bt), .map (some br)] 50), mpI bt (Ti ++ [k8]) gi.tv, mpI br (Ri ++ [k11]) gi.rv, tyI Sy p (Ty.mk 6 u row ops args), .blk k7 (.cells #[.int .i64 6, .int .i64 ((u : Nat) : Int), .int .i64 ((row : Nat) : Int), .slice p.A p.na p.ca, .slice p.B p.nb p.cb] 32)]) [0, 0, 0, 0, 0, 0] (by rw [mpI_ext hrvi.1 (Pre.app Ri k11)]; kernel_rfl)
    subst hL0
    exact hK S9 (Zi ++ [(Ak, nk, ck)]) (Ti ++ [k8]) (Ri ++ [k11]) k8 _ (H67.pick (a := [PI S9 (Zi ++ [(Ak, nk, ck)]) (Ti ++ [k8]) (Ri ++ [k11]) (gput (gop1 gi ops (some 0)) 6 (ms[0]?) (ms[1]?) gi.ops.length), .blk mk (.cells #[.map (some bt), .map (some br)] 50), mpI bt (Ti ++ [k8]) gi.tv, mpI br (Ri ++ [k11]) gi.rv, tyI Sy p (Ty.mk 6 u row ops args)]) [0, 0, 0, 0, 0] (by kernel_rfl)) (hPT.trans (Pre.app Ti k8)) (hPR.trans (Pre.app Ri k11)) hb2 (htvi.mono (by simp)) (hrvi.mono (by simp))
  · skip
    refine Sx.nw 2 H fun k12 w33 H68 => ?_
    refine Sx.l 7 5 H68 ?_
    refine Sx.v 0 (.bool (((6 : Nat) : Int) == (0 : Int))) (.bool false) (rfl) ?_
    refine Sx.l 8 5 H68 ?_
    refine Sx.nw 1 H68 fun k13 w34 H69 => ?_
    refine Sx.l 7 5 H69 ?_
    have H70 := H69.add (Gx.Ext.refl _) (it := .own 52 1 none 0 0 []) (World.ownsRow_nil _ _ _ _) (fun _ h => by cases h)
    have H71 := H70.pick (a := [PI S Z T R g, .blk mk (.cells #[.map (some bt), .map (some br)] 50), mpI bt T g.tv, mpI br R g.rv, tyI Sy p (Ty.mk 6 u row ops args), .blk k12 (.cells #[.int .i64 6, .int .i64 ((u : Nat) : Int), .int .i64 ((row : Nat) : Int), .slice p.A p.na p.ca, .slice p.B p.nb p.cb] 32), .blk k13 (.cells #[.int .i64 6, .slice none 0 0, .pointer none, .pointer none] 78), .own 52 1 none 0 0 (bps [])]) [0, 0, 0, 0, 0, 0, 0, 0] (by kernel_rfl)
    refine Sx.lp 5 (fun z l' w' => ∃ (i : Nat) (gi : G) (Ti : List Nat) (Ri : List Nat) (Zi : List Slot) (Si : Nat → Prop) (Ak : Option Addr) (ck : Nat) (nk : Nat) (ms : List Nat) (bs : List Nat), l' = [(0, .pointer (some ⟨mk, 0, none⟩)), (3, .pointer (some ⟨k12, 0, none⟩)), (5, .pointer (some ⟨k13, 0, none⟩)), (38, .slice p.B p.nb p.cb), (39, .int .i64 ((p.nb : Nat) : Int)), (40, .int .i64 ((i : Nat) : Int))] ∧ z = args.length - i ∧ Hs w L0 w' [PI Si Zi Ti Ri gi, .blk mk (.cells #[.map (some bt), .map (some br)] 50), mpI bt Ti gi.tv, mpI br Ri gi.rv, tyI Sy p (Ty.mk 6 u row ops args), .blk k12 (.cells #[.int .i64 6, .int .i64 ((u : Nat) : Int), .int .i64 ((row : Nat) : Int), .slice p.A p.na p.ca, .slice p.B p.nb p.cb] 32), .blk k13 (.cells #[.int .i64 6, .slice Ak nk ck, .pointer none, .pointer none] 78), .own 52 1 Ak ck nk (bps bs)] ∧ (oargs k gi (args.drop i) ms = some (g1, msf)) ∧ (BL Ti ms bs) ∧ (nk = bs.length) ∧ (ms.length = i) ∧ (i ≤ args.length) ∧ (Pre T Ti) ∧ (Pre R Ri) ∧ (TvOk Ti.length gi.tv) ∧ (RvOk Ri.length gi.rv)) _ [(0, .pointer (some ⟨mk, 0, none⟩)), (3, .pointer (some ⟨k12, 0, none⟩)), (5, .pointer (some ⟨k13, 0, none⟩)), (38, .slice p.B p.nb p.cb), (39, .int .i64 ((p.nb : Nat) : Int)), (40, .int .i64 ((0 : Nat) : Int))] ⟨0, g, T, R, Z, S, none, 0, 0, [], [], rfl, rfl, H71, hx, (BL.nil T), rfl, rfl, (Nat.zero_le _), (Pre.refl T), (Pre.refl R), htv, hrv⟩ (fun b3 z3 l3 w35 hI3 K3 hK3 => ?_)
    obtain ⟨i, gi, Ti, Ri, Zi, Si, Ak, ck, nk, ms, bs, rfl, rfl, H72, hxi, hBL, hnk, hmi, hil, hPT, hPR, htvi, hrvi⟩ := hI3
    refine Sx.br 6 (decide (((i : Nat) : Int) < ((p.nb : Nat) : Int))) (fun h_c41 => ?_) (fun h_c41 => ?_)
    · skip
      have p_c41 := of_decide_eq_true h_c41
      obtain ⟨⟨k0, u0, r0, o0, a0⟩, g0, m0, hti, hof, hxn⟩ := oargs_step hxi (by omega)
      obtain ⟨c0, hfi0⟩ := haf _ (List.mem_of_getElem? hti)
      obtain ⟨q, aq, haq, hcq, hq⟩ := (ty_at (S := Sy) (p := p) (t := Ty.mk 6 u row ops args) H72 4 (by kernel_rfl)).open.2.2.2.2 i _ hti
      have hbl : bs.length = ms.length := by rw [hBL.1, List.length_map]
      have H73 := H72.ro 4 (S := Sy) (A := fun w => TyIn w Sy p (Ty.mk 6 u row ops args)) (B := fun w => TyIn w Sy q (Ty.mk k0 u0 r0 o0 a0)) (by kernel_rfl) hq (tyI_loc _ _ _)
      refine Sx.ia 6 aq i 5 p.nb p.cb haq (by omega) ?_
      refine Sx.lo (c := 5) (t := 32) 0 [.int .i64 ((k0 : Nat) : Int), .int .i64 ((u0 : Nat) : Int), .int .i64 ((r0 : Nat) : Int), .slice q.A q.na q.ca, .slice q.B q.nb q.cb] (.agg #[.int .i64 ((k0 : Nat) : Int), .int .i64 ((u0 : Nat) : Int), .int .i64 ((r0 : Nat) : Int), .slice q.A q.na q.ca, .slice q.B q.nb q.cb]) hcq ?_
      refine Sx.nw 0 H73 fun k14 w36 H74 => ?_
      refine Sx.s 0 9 H74 fun w37 H75 => ?_
      refine Sx.dr 2 H75 [6, 9] [12] (LJ := [.blk k13 (.cells #[.int .i64 6, .slice Ak nk ck, .pointer none, .pointer none] 78), .blk k14 (.cells #[.int .i64 ((k0 : Nat) : Int), .int .i64 ((u0 : Nat) : Int), .int .i64 ((r0 : Nat) : Int), .slice q.A q.na q.ca, .slice q.B q.nb q.cb] 32)]) (by kernel_rfl) fun w38 H76 => ?_
      refine Sx.tk [(0, none), (1, none), (2, none), (3, none), (4, some (0, [9, 10, 11, 12])), (5, none), (6, some (1, [7, 8, 9, 10, 11, 12]))] (fun _ => (H76.sub [6, 8] (by kernel_rfl))) ?_
      refine Sx.nmx ?_
      intro zx11
      refine Sx.on 7 ?_
      refine Sx.c 0 [0, 0, 0, 0, 4] H76 (fun Hp4 R4 hR4 => ih Si Zi Ti Ri gi mk bt br Sy k0 u0 r0 o0 a0 q w38 R4 Hp4 c0 g0 m0 hfi0 htvi hrvi hof (fun S10 Zn3 Tn3 Rn3 bm3 w39 G4 ho11 ho12 ho13 ho14 ho15 => hR4 _ _ _ G4 fun H77 => ?_))
      refine Sx.bk (x := zx11) 7 (fun _ => (H77.sub [7, 8] (by kernel_rfl))) ?_
      refine Sx.nmx ?_
      intro zx12
      refine Sx.on 8 ?_
      refine Sx.nw 0 H77 fun k15 w40 H78 => ?_
      refine Sx.bk (x := zx12) 8 (fun _ => (H78.sub [7, 8] (by kernel_rfl))) ?_
      refine Sx.nmx ?_
      intro zx13
      refine Sx.on 9 ?_
      refine Sx.ap 0 8 10 8 1 0 52 1 51 1 k15 Ak ck nk (bps bs) [.pointer (some ⟨bm3, 0, none⟩)] H78 (by omega) (by omega) (bps_app bs bm3) fun A4 cap4 w41 H79 => ?_
      refine Sx.bk (x := zx13) 9 (fun _ => (H79.sub [7, 8] (by kernel_rfl))) ?_
      refine Sx.tk [(10, none), (11, none)] (fun _ => (H79.sub [7, 8] (by kernel_rfl))) ?_
      refine Sx.nmx ?_
      intro zx14
      refine Sx.on 12 ?_
      refine Sx.s 0 7 H79 fun w42 H80 => ?_
      refine Sx.bk (x := zx14) 12 (fun h => Sx.nope h (by kernel_rfl)) ?_
      refine Sx.dn ?_
      refine Sx.v 3 (.int .i64 (IntKind.i64.wrap (((i : Nat) : Int) + (1 : Int)))) (.int .i64 ((i + 1 : Nat) : Int)) (congrArg (Value.int .i64) (Gx.i64n (by omega) (by omega))) ?_
      have H81 := H80.pick (a := [PI S10 Zn3 Tn3 Rn3 g0, .blk mk (.cells #[.map (some bt), .map (some br)] 50), mpI bt Tn3 g0.tv, mpI br Rn3 g0.rv, tyI Sy p (Ty.mk 6 u row ops args), .blk k12 (.cells #[.int .i64 6, .int .i64 ((u : Nat) : Int), .int .i64 ((row : Nat) : Int), .slice p.A p.na p.ca, .slice p.B p.nb p.cb] 32), .blk k13 (.cells #[.int .i64 6, .slice A4 (nk + 1) cap4, .pointer none, .pointer none] 78), .own 52 1 A4 cap4 (nk + 1) (bps (bs ++ [bm3]))]) [0, 0, 0, 0, 1, 1, 1, 1] (by kernel_rfl)
      exact Sx.to 2 [(0, .pointer (some ⟨mk, 0, none⟩)), (3, .pointer (some ⟨k12, 0, none⟩)), (5, .pointer (some ⟨k13, 0, none⟩)), (38, .slice p.B p.nb p.cb), (39, .int .i64 ((p.nb : Nat) : Int)), (40, .int .i64 (((i + 1) : Nat) : Int))] (hK3 _ _ _ _ (by omega) ⟨(i + 1), g0, Tn3, Rn3, Zn3, S10, A4, cap4, nk + 1, (ms ++ [m0]), (bs ++ [bm3]), rfl, rfl, H81, hxn, ((hBL.ext ho11).snoc ho13), (by rw [List.length_append, hnk]; rfl), (by rw [List.length_append, hmi]; rfl), (by omega), (hPT.trans ho11), (hPR.trans ho12), ho14, ho15⟩)
    have p_c41 := of_decide_eq_false h_c41
    obtain ⟨rfl, rfl⟩ := oargs_end hxi (by omega)
    have hlm : ms.length = args.length := by omega
    have hms2 : ms.length ≤ 2 := by omega
    have hbs := hBL.ks hms2
    rw [← hlm] at hsh
    refine Sx.l 9 5 H72 ?_
    refine Sx.v 0 (.bool (((6 : Nat) : Int) == (6 : Int))) (.bool true) (rfl) ?_
    obtain ⟨_, hPi, _, _⟩ := P_open H72 0 (S := Si) (Z := Zi) (T := Ti) (R := Ri) (g := gi) (by kernel_rfl)
    have hRl : Ri.length = gi.ops.length := by rw [hPi.lR, hPi.lo]
    obtain ⟨hxl, hx0⟩ := hrvi.at hlr
    obtain ⟨bx, hbx⟩ := tb (T := Ri) (n := x) hxl
    refine Sx.l 7 5 H72 ?_
    have H82 := H72.add (Gx.Ext.refl _) (it := .own 9 1 none 0 0 []) (World.ownsRow_nil _ _ _ _) (fun _ h => by cases h)
    have hst := (ty_at (S := Sy) (p := p) (t := Ty.mk 6 u row ops args) H82 4 (by kernel_rfl)).open.1
    refine Sx.aps 0 8 16 p.na 9 1 30 p.ca p.A none 0 0 [] (strs ops) H82 (fun h => by have := hst; rw [h] at this; have := this.nil; rw [hna, this]; rfl) (fun a ha => hst.cell ha) (by rw [strs, List.length_map]; omega) (strs_one _) (by omega) (by omega) (Nat.le_refl 0) (xs' := strs ops) rfl fun A5 cap5 w43 H83 => ?_
    have hocap := own_cap (H83.at 8 (it := .own 9 1 A5 cap5 (0 + p.na) (strs ops)) (by kernel_rfl))
    have H84 := Hs.toStr H83 8 (e := 9) (n := 0 + p.na) (cap := cap5) (A := A5) (l := ops) (by kernel_rfl)
    refine Sx.nw 1 H84 fun k16 w44 H85 => ?_
    refine Sx.s 2 6 H85 fun w45 H86 => ?_
    refine Sx.l 5 5 H86 ?_
    refine Sx.v 0 (.bool (decide (((row : Nat) : Int) > (0 : Int)))) (.bool true) (congrArg Value.bool (decide_eq_true (by omega))) ?_
    refine Sx.dr 5 H86 [1, 5, 3] [] (LJ := [.blk mk (.cells #[.map (some bt), .map (some br)] 50), .blk k12 (.cells #[.int .i64 6, .int .i64 ((u : Nat) : Int), .int .i64 ((row : Nat) : Int), .slice p.A p.na p.ca, .slice p.B p.nb p.cb] 32), mpI br Ri gi.rv]) (by kernel_rfl) fun w46 H87 => ?_
    refine Sx.tk [(0, none), (1, none), (2, none), (3, some (0, [])), (4, none), (5, some (1, []))] (fun _ => (H87.sub [1, 4, 2] (by kernel_rfl))) ?_
    refine tvmp (t := 48) (kt := 3) (et := 76) 6 [] 2 br ((row : Nat) : Int) Ri gi.rv (.pointer (some ⟨bx, 0, none⟩)) (mp_some hlr hbx) (fun _ => (H87.sub [1, 4, 2] (by kernel_rfl))) ?_
    refine Sx.tk [(7, none)] (fun _ => (H87.sub [1, 4, 2] (by kernel_rfl))) ?_
    refine Sx.dn ?_
    refine Sx.dr 4 H87 [6, 1, 5, 3] [] (LJ := [.blk k13 (.cells #[.int .i64 6, .slice Ak nk ck, .pointer (some ⟨k16, 0, none⟩), .pointer none] 78), .blk mk (.cells #[.map (some bt), .map (some br)] 50), .blk k12 (.cells #[.int .i64 6, .int .i64 ((u : Nat) : Int), .int .i64 ((row : Nat) : Int), .slice p.A p.na p.ca, .slice p.B p.nb p.cb] 32), mpI br Ri gi.rv]) (by kernel_rfl) fun w47 H88 => ?_
    refine Sx.tk [(0, none), (1, none), (2, none), (3, some (0, [])), (4, none), (5, none), (6, none), (7, some (1, [])), (8, none), (9, some (2, []))] (fun _ => (H88.sub [6, 1, 4, 2] (by kernel_rfl))) ?_
    refine tvmp (t := 48) (kt := 3) (et := 76) 10 [] 3 br ((row : Nat) : Int) Ri gi.rv (.pointer (some ⟨bx, 0, none⟩)) (mp_some hlr hbx) (fun _ => (H88.sub [6, 1, 4, 2] (by kernel_rfl))) ?_
    refine Sx.tk [(11, none), (12, none)] (fun _ => (H88.sub [6, 1, 4, 2] (by kernel_rfl))) ?_
    refine Sx.nmx ?_
    intro zx15
    refine Sx.on 13 ?_
    refine Sx.s 0 9 H88 fun w48 H89 => ?_
    refine Sx.bk (x := zx15) 13 (fun _ => (H89.sub [6, 1, 4, 2] (by kernel_rfl))) ?_
    refine Sx.dn ?_
    refine Sx.rt 8 [] H89 (.pointer (some ⟨k13, 0, none⟩)) ?_
    obtain ⟨pm4, hpm4, hzpm4, H90⟩ := P_open H89 0 (S := Si) (Z := Zi) (T := Ti) (R := Ri) (g := gi) (by kernel_rfl)
    obtain ⟨qx, rfl⟩ : ∃ qx, x = qx + 1 := ⟨x - 1, by omega⟩
    have hsl2 := (H90.at 3 (it := rowsI pm4.S2 pm4.sl gi.ops) (by kernel_rfl)).1.1
    obtain ⟨S11, H91⟩ := rows_add H90 [3, 10] (c := cap5) (n := (0 + p.na)) (S := pm4.S2) (sl := pm4.sl) (ops := (gi).ops) (S2 := (fun c => (Value.slice A5 (0 + p.na) cap5).ownBlock = some c)) (A := A5) (l := ops) (by kernel_rfl) (by omega)
    have hm6 : PR Ti (Ri ++ [k16]) (gop1 gi ops (some (qx + 1))) ({ pm4 with sl := pm4.sl ++ [(A5, (0 + p.na), cap5)], S2 := S11 } : Pm) := hpm4.add k16 ops (fun p h => by have h := Option.some.inj h; rw [← hPi.lR]; omega)
    have H92 := bank_add (b := k16) (ty := 80) (T := Ri) (C := rwC Ri gi pm4) (C' := rwC (Ri ++ [k16]) (gop1 gi ops (some (qx + 1))) ({ pm4 with sl := pm4.sl ++ [(A5, (0 + p.na), cap5)], S2 := S11 } : Pm)) (hs := [0]) H91 [11, 3] (by kernel_rfl) (rwC_new hpm4 hsl2 k16 ops (some (qx + 1)) (tl := some bx) (by show (Ri ++ [k16])[qx + 1]? = some bx; rw [app_l hxl]; exact hbx) (t := false) rfl) (fun i hi => rwC_add hpm4 hsl2 k16 ops (some (qx + 1)) _ _ hi)
    have H93 := bank_as (ty := 78) (T := Ti) (hs := []) (C := ndC Ti Ri gi pm4) (C' := ndC Ti (Ri ++ [k16]) (gop1 gi ops (some (qx + 1))) ({ pm4 with sl := pm4.sl ++ [(A5, (0 + p.na), cap5)], S2 := S11 } : Pm)) H92 2 (by kernel_rfl) (fun j _ _ => ndC_add hpm4 k16 ops (some (qx + 1)) _ _ j)
    have H94 := H93.pick (a := [bankI 78 Ti (ndC Ti (Ri ++ [k16]) (gop1 gi ops (some (qx + 1))) ({ pm4 with sl := pm4.sl ++ [(A5, (0 + p.na), cap5)], S2 := S11 } : Pm)) [], kidsI ({ pm4 with sl := pm4.sl ++ [(A5, (0 + p.na), cap5)], S2 := S11 } : Pm).S1 ({ pm4 with sl := pm4.sl ++ [(A5, (0 + p.na), cap5)], S2 := S11 } : Pm).as (ksL Ti (gop1 gi ops (some (qx + 1)))), bankI 80 (Ri ++ [k16]) (rwC (Ri ++ [k16]) (gop1 gi ops (some (qx + 1))) ({ pm4 with sl := pm4.sl ++ [(A5, (0 + p.na), cap5)], S2 := S11 } : Pm)) [0], rowsI ({ pm4 with sl := pm4.sl ++ [(A5, (0 + p.na), cap5)], S2 := S11 } : Pm).S2 ({ pm4 with sl := pm4.sl ++ [(A5, (0 + p.na), cap5)], S2 := S11 } : Pm).sl (gop1 gi ops (some (qx + 1))).ops, .blk mk (.cells #[.map (some bt), .map (some br)] 50), mpI bt Ti gi.tv, mpI br Ri gi.rv, tyI Sy p (Ty.mk 6 u row ops args), .blk k12 (.cells #[.int .i64 6, .int .i64 ((u : Nat) : Int), .int .i64 ((row : Nat) : Int), .slice p.A p.na p.ca, .slice p.B p.nb p.cb] 32), .blk k13 (.cells #[.int .i64 6, .slice Ak nk ck, .pointer (some ⟨k16, 0, none⟩), .pointer none] 78), .own 52 1 Ak ck nk (bps bs)]) [2, 2, 0, 0, 0, 0, 0, 0, 0, 0, 0] (by kernel_rfl)
    have hkl := hpm4.lT
    have hza4 := as_len hm6 (H94.at 1 (it := kidsI ({ pm4 with sl := pm4.sl ++ [(A5, (0 + p.na), cap5)], S2 := S11 } : Pm).S1 ({ pm4 with sl := pm4.sl ++ [(A5, (0 + p.na), cap5)], S2 := S11 } : Pm).as (ksL Ti (gop1 gi ops (some (qx + 1))))) (by kernel_rfl))
    obtain ⟨S12, H95⟩ := kids_add H94 [1, 9] (S := ({ pm4 with sl := pm4.sl ++ [(A5, (0 + p.na), cap5)], S2 := S11 } : Pm).S1) (sa := ({ pm4 with sl := pm4.sl ++ [(A5, (0 + p.na), cap5)], S2 := S11 } : Pm).as) (ks := ksL Ti (gop1 gi ops (some (qx + 1)))) (e := 52) (n := nk) (cap := ck) (A := Ak) (l := bs) (by kernel_rfl)
    have hm7 : PR (Ti ++ [k13]) (Ri ++ [k16]) (gput (gop1 gi ops (some (qx + 1))) 6 (ms[0]?) (ms[1]?) gi.ops.length) (pnew ({ pm4 with sl := pm4.sl ++ [(A5, (0 + p.na), cap5)], S2 := S11 } : Pm) (Ak, nk, ck) S12) := hm6.node k13 (hBL.lt (g := gi) hPi.lT 0) (hBL.lt (g := gi) hPi.lT 1) (fun _ => ⟨by show gi.ops.length < (gi.next ++ [_]).length; (try simp only [List.length_append, List.length_singleton]); have := hPi.lo; omega, by have := hPi.z; have := hPi.lo; (try simp only [List.length_append, List.length_singleton]); omega⟩) hsh.ar
    have H96 := bank_add (b := k13) (ty := 78) (T := Ti) (C := ndC Ti (Ri ++ [k16]) (gop1 gi ops (some (qx + 1))) ({ pm4 with sl := pm4.sl ++ [(A5, (0 + p.na), cap5)], S2 := S11 } : Pm)) (C' := ndC (Ti ++ [k13]) (Ri ++ [k16]) (gput (gop1 gi ops (some (qx + 1))) 6 (ms[0]?) (ms[1]?) gi.ops.length) (pnew ({ pm4 with sl := pm4.sl ++ [(A5, (0 + p.na), cap5)], S2 := S11 } : Pm) (Ak, nk, ck) S12)) (hs := []) H95 [9, 1] (by kernel_rfl) (ndC_new hm6 hza4 k13 (.inr ⟨rfl, (by show (Ri ++ [k16])[_]? = some k16; have hrr : gi.ops.length = (Ri).length := (by (try simp only [List.length_append, List.length_singleton]); omega); rw [hrr]; simp)⟩)) (fun i hi => ndC_old hm6 hza4 k13 hi)
    have H97 := H96.pick (a := [bankI 78 (Ti ++ [k13]) (ndC (Ti ++ [k13]) (Ri ++ [k16]) (gput (gop1 gi ops (some (qx + 1))) 6 (ms[0]?) (ms[1]?) gi.ops.length) (pnew ({ pm4 with sl := pm4.sl ++ [(A5, (0 + p.na), cap5)], S2 := S11 } : Pm) (Ak, nk, ck) S12)) [], kidsI (pnew ({ pm4 with sl := pm4.sl ++ [(A5, (0 + p.na), cap5)], S2 := S11 } : Pm) (Ak, nk, ck) S12).S1 (pnew ({ pm4 with sl := pm4.sl ++ [(A5, (0 + p.na), cap5)], S2 := S11 } : Pm) (Ak, nk, ck) S12).as (ksL (Ti ++ [k13]) (gput (gop1 gi ops (some (qx + 1))) 6 (ms[0]?) (ms[1]?) gi.ops.length)), bankI 80 (Ri ++ [k16]) (rwC (Ri ++ [k16]) (gput (gop1 gi ops (some (qx + 1))) 6 (ms[0]?) (ms[1]?) gi.ops.length) (pnew ({ pm4 with sl := pm4.sl ++ [(A5, (0 + p.na), cap5)], S2 := S11 } : Pm) (Ak, nk, ck) S12)) [0], rowsI (pnew ({ pm4 with sl := pm4.sl ++ [(A5, (0 + p.na), cap5)], S2 := S11 } : Pm) (Ak, nk, ck) S12).S2 (pnew ({ pm4 with sl := pm4.sl ++ [(A5, (0 + p.na), cap5)], S2 := S11 } : Pm) (Ak, nk, ck) S12).sl (gput (gop1 gi ops (some (qx + 1))) 6 (ms[0]?) (ms[1]?) gi.ops.length).ops, .blk mk (.cells #[.map (some bt), .map (some br)] 50), mpI bt Ti gi.tv, mpI br Ri gi.rv, tyI Sy p (Ty.mk 6 u row ops args), .blk k12 (.cells #[.int .i64 6, .int .i64 ((u : Nat) : Int), .int .i64 ((row : Nat) : Int), .slice p.A p.na p.ca, .slice p.B p.nb p.cb] 32)]) [0, 0, 0, 0, 0, 0, 0, 0, 0] (by rw [ksL_new (bs := bs) (kd := 6) (r := gi.ops.length) (x := ms[0]?) (y := ms[1]?) hm6 k13 hbs (hBL.lt (g := gi) hPi.lT 0) (hBL.lt (g := gi) hPi.lT 1)]; kernel_rfl)
    have hz4 : (pnew ({ pm4 with sl := pm4.sl ++ [(A5, (0 + p.na), cap5)], S2 := S11 } : Pm) (Ak, nk, ck) S12).as = (Zi ++ [(Ak, nk, ck)]) := congrArg (fun z => z ++ [(Ak, nk, ck)]) hzpm4
    have hb3 : (Ti ++ [k13])[gi.kind.length]? = some k13 := by rw [← hkl]; simp
    obtain ⟨S13, H98⟩ := P_close H97 [0, 0, 0, 0] (Z := (Zi ++ [(Ak, nk, ck)])) (T := (Ti ++ [k13])) (R := (Ri ++ [k16])) (g := (gput (gop1 gi ops (some (qx + 1))) 6 (ms[0]?) (ms[1]?) gi.ops.length)) (pnew ({ pm4 with sl := pm4.sl ++ [(A5, (0 + p.na), cap5)], S2 := S11 } : Pm) (Ak, nk, ck) S12) hm7 hz4 (by kernel_rfl)
    have H99 := H98.pick (a := [PI S13 (Zi ++ [(Ak, nk, ck)]) (Ti ++ [k13]) (Ri ++ [k16]) (gput (gop1 gi ops (some (qx + 1))) 6 (ms[0]?) (ms[1]?) gi.ops.length), .blk mk (.cells #[.map (some bt), .map (some br)] 50), mpI bt (Ti ++ [k13]) gi.tv, mpI br Ri gi.rv, tyI Sy p (Ty.mk 6 u row ops args), .blk k12 (.cells #[.int .i64 6, .int .i64 ((u : Nat) : Int), .int .i64 ((row : Nat) : Int), .slice p.A p.na p.ca, .slice p.B p.nb p.cb] 32)]) [0, 0, 0, 0, 0, 0] (by rw [mpI_ext htvi (Pre.app Ti k13)]; kernel_rfl)
    have H100 := H99.pick (a := [PI S13 (Zi ++ [(Ak, nk, ck)]) (Ti ++ [k13]) (Ri ++ [k16]) (gput (gop1 gi ops (some (qx + 1))) 6 (ms[0]?) (ms[1]?) gi.ops.length), .blk mk (.cells #[.map (some bt), .map (some br)] 50), mpI bt (Ti ++ [k13]) gi.tv, mpI br (Ri ++ [k16]) gi.rv, tyI Sy p (Ty.mk 6 u row ops args), .blk k12 (.cells #[.int .i64 6, .int .i64 ((u : Nat) : Int), .int .i64 ((row : Nat) : Int), .slice p.A p.na p.ca, .slice p.B p.nb p.cb] 32)]) [0, 0, 0, 0, 0, 0] (by rw [mpI_ext hrvi.1 (Pre.app Ri k16)]; kernel_rfl)
    subst hL0
    exact hK S13 (Zi ++ [(Ak, nk, ck)]) (Ti ++ [k13]) (Ri ++ [k16]) k13 _ (H100.pick (a := [PI S13 (Zi ++ [(Ak, nk, ck)]) (Ti ++ [k13]) (Ri ++ [k16]) (gput (gop1 gi ops (some (qx + 1))) 6 (ms[0]?) (ms[1]?) gi.ops.length), .blk mk (.cells #[.map (some bt), .map (some br)] 50), mpI bt (Ti ++ [k13]) gi.tv, mpI br (Ri ++ [k16]) gi.rv, tyI Sy p (Ty.mk 6 u row ops args)]) [0, 0, 0, 0, 0] (by kernel_rfl)) (hPT.trans (Pre.app Ti k13)) (hPR.trans (Pre.app Ri k16)) hb3 (htvi.mono (by simp)) (hrvi.mono (by simp))
  refine Sx.nw 2 H fun k17 w49 H101 => ?_
  refine Sx.l 7 5 H101 ?_
  refine Sx.v 0 (.bool (((6 : Nat) : Int) == (0 : Int))) (.bool false) (rfl) ?_
  refine Sx.l 8 5 H101 ?_
  refine Sx.nw 1 H101 fun k18 w50 H102 => ?_
  refine Sx.l 7 5 H102 ?_
  have H103 := H102.add (Gx.Ext.refl _) (it := .own 52 1 none 0 0 []) (World.ownsRow_nil _ _ _ _) (fun _ h => by cases h)
  have H104 := H103.pick (a := [PI S Z T R g, .blk mk (.cells #[.map (some bt), .map (some br)] 50), mpI bt T g.tv, mpI br R g.rv, tyI Sy p (Ty.mk 6 u row ops args), .blk k17 (.cells #[.int .i64 6, .int .i64 ((u : Nat) : Int), .int .i64 ((row : Nat) : Int), .slice p.A p.na p.ca, .slice p.B p.nb p.cb] 32), .blk k18 (.cells #[.int .i64 6, .slice none 0 0, .pointer none, .pointer none] 78), .own 52 1 none 0 0 (bps [])]) [0, 0, 0, 0, 0, 0, 0, 0] (by kernel_rfl)
  refine Sx.lp 5 (fun z l' w' => ∃ (i : Nat) (gi : G) (Ti : List Nat) (Ri : List Nat) (Zi : List Slot) (Si : Nat → Prop) (Ak : Option Addr) (ck : Nat) (nk : Nat) (ms : List Nat) (bs : List Nat), l' = [(0, .pointer (some ⟨mk, 0, none⟩)), (3, .pointer (some ⟨k17, 0, none⟩)), (5, .pointer (some ⟨k18, 0, none⟩)), (38, .slice p.B p.nb p.cb), (39, .int .i64 ((p.nb : Nat) : Int)), (40, .int .i64 ((i : Nat) : Int))] ∧ z = args.length - i ∧ Hs w L0 w' [PI Si Zi Ti Ri gi, .blk mk (.cells #[.map (some bt), .map (some br)] 50), mpI bt Ti gi.tv, mpI br Ri gi.rv, tyI Sy p (Ty.mk 6 u row ops args), .blk k17 (.cells #[.int .i64 6, .int .i64 ((u : Nat) : Int), .int .i64 ((row : Nat) : Int), .slice p.A p.na p.ca, .slice p.B p.nb p.cb] 32), .blk k18 (.cells #[.int .i64 6, .slice Ak nk ck, .pointer none, .pointer none] 78), .own 52 1 Ak ck nk (bps bs)] ∧ (oargs k gi (args.drop i) ms = some (g1, msf)) ∧ (BL Ti ms bs) ∧ (nk = bs.length) ∧ (ms.length = i) ∧ (i ≤ args.length) ∧ (Pre T Ti) ∧ (Pre R Ri) ∧ (TvOk Ti.length gi.tv) ∧ (RvOk Ri.length gi.rv)) _ [(0, .pointer (some ⟨mk, 0, none⟩)), (3, .pointer (some ⟨k17, 0, none⟩)), (5, .pointer (some ⟨k18, 0, none⟩)), (38, .slice p.B p.nb p.cb), (39, .int .i64 ((p.nb : Nat) : Int)), (40, .int .i64 ((0 : Nat) : Int))] ⟨0, g, T, R, Z, S, none, 0, 0, [], [], rfl, rfl, H104, hx, (BL.nil T), rfl, rfl, (Nat.zero_le _), (Pre.refl T), (Pre.refl R), htv, hrv⟩ (fun b4 z4 l4 w51 hI4 K4 hK4 => ?_)
  obtain ⟨i, gi, Ti, Ri, Zi, Si, Ak, ck, nk, ms, bs, rfl, rfl, H105, hxi, hBL, hnk, hmi, hil, hPT, hPR, htvi, hrvi⟩ := hI4
  refine Sx.br 6 (decide (((i : Nat) : Int) < ((p.nb : Nat) : Int))) (fun h_c41 => ?_) (fun h_c41 => ?_)
  · skip
    have p_c41 := of_decide_eq_true h_c41
    obtain ⟨⟨k0, u0, r0, o0, a0⟩, g0, m0, hti, hof, hxn⟩ := oargs_step hxi (by omega)
    obtain ⟨c0, hfi0⟩ := haf _ (List.mem_of_getElem? hti)
    obtain ⟨q, aq, haq, hcq, hq⟩ := (ty_at (S := Sy) (p := p) (t := Ty.mk 6 u row ops args) H105 4 (by kernel_rfl)).open.2.2.2.2 i _ hti
    have hbl : bs.length = ms.length := by rw [hBL.1, List.length_map]
    have H106 := H105.ro 4 (S := Sy) (A := fun w => TyIn w Sy p (Ty.mk 6 u row ops args)) (B := fun w => TyIn w Sy q (Ty.mk k0 u0 r0 o0 a0)) (by kernel_rfl) hq (tyI_loc _ _ _)
    refine Sx.ia 6 aq i 5 p.nb p.cb haq (by omega) ?_
    refine Sx.lo (c := 5) (t := 32) 0 [.int .i64 ((k0 : Nat) : Int), .int .i64 ((u0 : Nat) : Int), .int .i64 ((r0 : Nat) : Int), .slice q.A q.na q.ca, .slice q.B q.nb q.cb] (.agg #[.int .i64 ((k0 : Nat) : Int), .int .i64 ((u0 : Nat) : Int), .int .i64 ((r0 : Nat) : Int), .slice q.A q.na q.ca, .slice q.B q.nb q.cb]) hcq ?_
    refine Sx.nw 0 H106 fun k19 w52 H107 => ?_
    refine Sx.s 0 9 H107 fun w53 H108 => ?_
    refine Sx.dr 2 H108 [6, 9] [12] (LJ := [.blk k18 (.cells #[.int .i64 6, .slice Ak nk ck, .pointer none, .pointer none] 78), .blk k19 (.cells #[.int .i64 ((k0 : Nat) : Int), .int .i64 ((u0 : Nat) : Int), .int .i64 ((r0 : Nat) : Int), .slice q.A q.na q.ca, .slice q.B q.nb q.cb] 32)]) (by kernel_rfl) fun w54 H109 => ?_
    refine Sx.tk [(0, none), (1, none), (2, none), (3, none), (4, some (0, [9, 10, 11, 12])), (5, none), (6, some (1, [7, 8, 9, 10, 11, 12]))] (fun _ => (H109.sub [6, 8] (by kernel_rfl))) ?_
    refine Sx.nmx ?_
    intro zx16
    refine Sx.on 7 ?_
    refine Sx.c 0 [0, 0, 0, 0, 4] H109 (fun Hp5 R5 hR5 => ih Si Zi Ti Ri gi mk bt br Sy k0 u0 r0 o0 a0 q w54 R5 Hp5 c0 g0 m0 hfi0 htvi hrvi hof (fun S14 Zn4 Tn4 Rn4 bm4 w55 G5 ho16 ho17 ho18 ho19 ho20 => hR5 _ _ _ G5 fun H110 => ?_))
    refine Sx.bk (x := zx16) 7 (fun _ => (H110.sub [7, 8] (by kernel_rfl))) ?_
    refine Sx.nmx ?_
    intro zx17
    refine Sx.on 8 ?_
    refine Sx.nw 0 H110 fun k20 w56 H111 => ?_
    refine Sx.bk (x := zx17) 8 (fun _ => (H111.sub [7, 8] (by kernel_rfl))) ?_
    refine Sx.nmx ?_
    intro zx18
    refine Sx.on 9 ?_
    refine Sx.ap 0 8 10 8 1 0 52 1 51 1 k20 Ak ck nk (bps bs) [.pointer (some ⟨bm4, 0, none⟩)] H111 (by omega) (by omega) (bps_app bs bm4) fun A6 cap6 w57 H112 => ?_
    refine Sx.bk (x := zx18) 9 (fun _ => (H112.sub [7, 8] (by kernel_rfl))) ?_
    refine Sx.tk [(10, none), (11, none)] (fun _ => (H112.sub [7, 8] (by kernel_rfl))) ?_
    refine Sx.nmx ?_
    intro zx19
    refine Sx.on 12 ?_
    refine Sx.s 0 7 H112 fun w58 H113 => ?_
    refine Sx.bk (x := zx19) 12 (fun h => Sx.nope h (by kernel_rfl)) ?_
    refine Sx.dn ?_
    refine Sx.v 3 (.int .i64 (IntKind.i64.wrap (((i : Nat) : Int) + (1 : Int)))) (.int .i64 ((i + 1 : Nat) : Int)) (congrArg (Value.int .i64) (Gx.i64n (by omega) (by omega))) ?_
    have H114 := H113.pick (a := [PI S14 Zn4 Tn4 Rn4 g0, .blk mk (.cells #[.map (some bt), .map (some br)] 50), mpI bt Tn4 g0.tv, mpI br Rn4 g0.rv, tyI Sy p (Ty.mk 6 u row ops args), .blk k17 (.cells #[.int .i64 6, .int .i64 ((u : Nat) : Int), .int .i64 ((row : Nat) : Int), .slice p.A p.na p.ca, .slice p.B p.nb p.cb] 32), .blk k18 (.cells #[.int .i64 6, .slice A6 (nk + 1) cap6, .pointer none, .pointer none] 78), .own 52 1 A6 cap6 (nk + 1) (bps (bs ++ [bm4]))]) [0, 0, 0, 0, 1, 1, 1, 1] (by kernel_rfl)
    exact Sx.to 2 [(0, .pointer (some ⟨mk, 0, none⟩)), (3, .pointer (some ⟨k17, 0, none⟩)), (5, .pointer (some ⟨k18, 0, none⟩)), (38, .slice p.B p.nb p.cb), (39, .int .i64 ((p.nb : Nat) : Int)), (40, .int .i64 (((i + 1) : Nat) : Int))] (hK4 _ _ _ _ (by omega) ⟨(i + 1), g0, Tn4, Rn4, Zn4, S14, A6, cap6, nk + 1, (ms ++ [m0]), (bs ++ [bm4]), rfl, rfl, H114, hxn, ((hBL.ext ho16).snoc ho18), (by rw [List.length_append, hnk]; rfl), (by rw [List.length_append, hmi]; rfl), (by omega), (hPT.trans ho16), (hPR.trans ho17), ho19, ho20⟩)
  have p_c41 := of_decide_eq_false h_c41
  obtain ⟨rfl, rfl⟩ := oargs_end hxi (by omega)
  have hlm : ms.length = args.length := by omega
  have hms2 : ms.length ≤ 2 := by omega
  have hbs := hBL.ks hms2
  rw [← hlm] at hsh
  refine Sx.l 9 5 H105 ?_
  refine Sx.v 0 (.bool (((6 : Nat) : Int) == (6 : Int))) (.bool true) (rfl) ?_
  obtain ⟨_, hPi, _, _⟩ := P_open H105 0 (S := Si) (Z := Zi) (T := Ti) (R := Ri) (g := gi) (by kernel_rfl)
  have hRl : Ri.length = gi.ops.length := by rw [hPi.lR, hPi.lo]
  refine Sx.l 7 5 H105 ?_
  have H115 := H105.add (Gx.Ext.refl _) (it := .own 9 1 none 0 0 []) (World.ownsRow_nil _ _ _ _) (fun _ h => by cases h)
  have hst := (ty_at (S := Sy) (p := p) (t := Ty.mk 6 u row ops args) H115 4 (by kernel_rfl)).open.1
  refine Sx.aps 0 8 16 p.na 9 1 30 p.ca p.A none 0 0 [] (strs ops) H115 (fun h => by have := hst; rw [h] at this; have := this.nil; rw [hna, this]; rfl) (fun a ha => hst.cell ha) (by rw [strs, List.length_map]; omega) (strs_one _) (by omega) (by omega) (Nat.le_refl 0) (xs' := strs ops) rfl fun A7 cap7 w59 H116 => ?_
  have hocap := own_cap (H116.at 8 (it := .own 9 1 A7 cap7 (0 + p.na) (strs ops)) (by kernel_rfl))
  have H117 := Hs.toStr H116 8 (e := 9) (n := 0 + p.na) (cap := cap7) (A := A7) (l := ops) (by kernel_rfl)
  refine Sx.nw 1 H117 fun k21 w60 H118 => ?_
  refine Sx.s 2 6 H118 fun w61 H119 => ?_
  refine Sx.l 5 5 H119 ?_
  refine Sx.v 0 (.bool (decide (((row : Nat) : Int) > (0 : Int)))) (.bool true) (congrArg Value.bool (decide_eq_true (by omega))) ?_
  refine Sx.dr 5 H119 [1, 5, 3] [] (LJ := [.blk mk (.cells #[.map (some bt), .map (some br)] 50), .blk k17 (.cells #[.int .i64 6, .int .i64 ((u : Nat) : Int), .int .i64 ((row : Nat) : Int), .slice p.A p.na p.ca, .slice p.B p.nb p.cb] 32), mpI br Ri gi.rv]) (by kernel_rfl) fun w62 H120 => ?_
  refine Sx.tk [(0, none), (1, none), (2, none), (3, some (0, [])), (4, none), (5, some (1, []))] (fun _ => (H120.sub [1, 4, 2] (by kernel_rfl))) ?_
  refine tvmp (t := 48) (kt := 3) (et := 76) 6 [] 2 br ((row : Nat) : Int) Ri gi.rv (.pointer none) (mp_none hlr) (fun _ => (H120.sub [1, 4, 2] (by kernel_rfl))) ?_
  refine Sx.tk [(7, none)] (fun _ => (H120.sub [1, 4, 2] (by kernel_rfl))) ?_
  refine Sx.dn ?_
  refine Sx.dr 2 H120 [1, 5] [] (LJ := [.blk mk (.cells #[.map (some bt), .map (some br)] 50), .blk k17 (.cells #[.int .i64 6, .int .i64 ((u : Nat) : Int), .int .i64 ((row : Nat) : Int), .slice p.A p.na p.ca, .slice p.B p.nb p.cb] 32)]) (by kernel_rfl) fun w63 H121 => ?_
  refine Sx.tk [(0, none), (1, none), (2, none), (3, some (0, [])), (4, none), (5, some (1, []))] (fun _ => (H121.sub [1, 4] (by kernel_rfl))) ?_
  refine Sx.nmx ?_
  intro zx20
  refine Sx.on 6 ?_
  refine Sx.c 0 [] H121 (fun Hp6 R6 hR6 => Any_p  w63 R6 Hp6  (fun bx1 w64 G6 => hR6 _ _ _ G6 fun H122 => ?_))
  refine Sx.bk (x := zx20) 6 (fun _ => (H122.sub [2, 5] (by kernel_rfl))) ?_
  refine Sx.nmx ?_
  intro zx21
  refine Sx.on 7 ?_
  have hbk : (Ri ++ [bx1])[gi.ops.length]? = some bx1 := by rw [← hRl]; simp
  have H123 := H122.pick (a := [.blk bx1 (.cells #[.slice none 0 0, .pointer none, .bool true] 80), PI Si Zi Ti Ri gi, .blk mk (.cells #[.map (some bt), .map (some br)] 50), mpI bt Ti gi.tv, mpI br (Ri ++ [bx1]) gi.rv, tyI Sy p (Ty.mk 6 u row ops args), .blk k17 (.cells #[.int .i64 6, .int .i64 ((u : Nat) : Int), .int .i64 ((row : Nat) : Int), .slice p.A p.na p.ca, .slice p.B p.nb p.cb] 32), .blk k18 (.cells #[.int .i64 6, .slice Ak nk ck, .pointer (some ⟨k21, 0, none⟩), .pointer none] 78), .own 52 1 Ak ck nk (bps bs), strI (fun c => (Value.slice A7 (0 + p.na) cap7).ownBlock = some c) A7 ops, .blk k21 (.cells #[.slice A7 (0 + p.na) cap7, .pointer none, .bool false] 80)]) [0, 0, 0, 0, 0, 0, 0, 0, 0, 0, 0] (by rw [mpI_ext hrvi.1 (Pre.app Ri bx1)]; kernel_rfl)
  refine mump (t := 48) (kt := 3) (et := 76) 0 4 br ((row : Nat) : Int) (.pointer (some ⟨bx1, 0, none⟩)) (Ri ++ [bx1]) gi.rv (gi.rv ++ [((row : Int), gi.ops.length)]) (mp_upd hlr hbk) H123 (by kernel_rfl) fun w65 H124 => ?_
  refine Sx.bk (x := zx21) 7 (fun _ => (H124.sub [2, 5] (by kernel_rfl))) ?_
  refine Sx.dn ?_
  refine Sx.dr 1 H124 [7, 2, 6, 4] [] (LJ := [.blk k18 (.cells #[.int .i64 6, .slice Ak nk ck, .pointer (some ⟨k21, 0, none⟩), .pointer none] 78), .blk mk (.cells #[.map (some bt), .map (some br)] 50), .blk k17 (.cells #[.int .i64 6, .int .i64 ((u : Nat) : Int), .int .i64 ((row : Nat) : Int), .slice p.A p.na p.ca, .slice p.B p.nb p.cb] 32), mpI br (Ri ++ [bx1]) (gi.rv ++ [((row : Int), gi.ops.length)])]) (by kernel_rfl) fun w66 H125 => ?_
  refine Sx.tk [(0, none), (1, none), (2, none), (3, some (0, [])), (4, none), (5, none), (6, none), (7, some (1, [])), (8, none), (9, some (2, []))] (fun _ => (H125.sub [7, 2, 5, 3] (by kernel_rfl))) ?_
  refine tvmp (t := 48) (kt := 3) (et := 76) 10 [] 3 br ((row : Nat) : Int) (Ri ++ [bx1]) (gi.rv ++ [((row : Int), gi.ops.length)]) (.pointer (some ⟨bx1, 0, none⟩)) (mp_some (look_new hlr) hbk) (fun _ => (H125.sub [7, 2, 5, 3] (by kernel_rfl))) ?_
  refine Sx.tk [(11, none), (12, none)] (fun _ => (H125.sub [7, 2, 5, 3] (by kernel_rfl))) ?_
  refine Sx.nmx ?_
  intro zx22
  refine Sx.on 13 ?_
  refine Sx.s 0 10 H125 fun w67 H126 => ?_
  refine Sx.bk (x := zx22) 13 (fun _ => (H126.sub [7, 2, 5, 3] (by kernel_rfl))) ?_
  refine Sx.dn ?_
  refine Sx.rt 8 [] H126 (.pointer (some ⟨k18, 0, none⟩)) ?_
  obtain ⟨pm5, hpm5, hzpm5, H127⟩ := P_open H126 1 (S := Si) (Z := Zi) (T := Ti) (R := Ri) (g := gi) (by kernel_rfl)
  have H128 := H127.add (Gx.Ext.refl _) (it := strI (fun _ => False) none []) strI_nil (fun _ h => h.elim)
  have hsl3 := (H128.at 3 (it := rowsI pm5.S2 pm5.sl gi.ops) (by kernel_rfl)).1.1
  obtain ⟨S15, H129⟩ := rows_add H128 [3, 13] (c := 0) (n := 0) (S := pm5.S2) (sl := pm5.sl) (ops := (gi).ops) (S2 := (fun _ => False)) (A := none) (l := ([])) (by kernel_rfl) rfl
  have hm8 : PR Ti (Ri ++ [bx1]) (gop1 gi ([]) none) ({ pm5 with sl := pm5.sl ++ [(none, 0, 0)], S2 := S15 } : Pm) := hpm5.add bx1 ([]) (fun _ h => by cases h)
  have H130 := bank_add (b := bx1) (ty := 80) (T := Ri) (C := rwC Ri gi pm5) (C' := rwC (Ri ++ [bx1]) (gop1 gi ([]) none) ({ pm5 with sl := pm5.sl ++ [(none, 0, 0)], S2 := S15 } : Pm)) (hs := [0]) H129 [4, 3] (by kernel_rfl) (rwC_new hpm5 hsl3 bx1 ([]) none (tl := none) rfl (t := true) rfl) (fun i hi => rwC_add hpm5 hsl3 bx1 ([]) none _ _ hi)
  have H131 := bank_as (ty := 78) (T := Ti) (hs := []) (C := ndC Ti Ri gi pm5) (C' := ndC Ti (Ri ++ [bx1]) (gop1 gi ([]) none) ({ pm5 with sl := pm5.sl ++ [(none, 0, 0)], S2 := S15 } : Pm)) H130 2 (by kernel_rfl) (fun j _ _ => ndC_add hpm5 bx1 ([]) none _ _ j)
  have H132 := H131.pick (a := [bankI 78 Ti (ndC Ti (Ri ++ [bx1]) (gop1 gi ([]) none) ({ pm5 with sl := pm5.sl ++ [(none, 0, 0)], S2 := S15 } : Pm)) [], kidsI ({ pm5 with sl := pm5.sl ++ [(none, 0, 0)], S2 := S15 } : Pm).S1 ({ pm5 with sl := pm5.sl ++ [(none, 0, 0)], S2 := S15 } : Pm).as (ksL Ti (gop1 gi ([]) none)), bankI 80 (Ri ++ [bx1]) (rwC (Ri ++ [bx1]) (gop1 gi ([]) none) ({ pm5 with sl := pm5.sl ++ [(none, 0, 0)], S2 := S15 } : Pm)) [0], rowsI ({ pm5 with sl := pm5.sl ++ [(none, 0, 0)], S2 := S15 } : Pm).S2 ({ pm5 with sl := pm5.sl ++ [(none, 0, 0)], S2 := S15 } : Pm).sl (gop1 gi ([]) none).ops, .blk mk (.cells #[.map (some bt), .map (some br)] 50), mpI bt Ti gi.tv, mpI br (Ri ++ [bx1]) (gi.rv ++ [((row : Int), gi.ops.length)]), tyI Sy p (Ty.mk 6 u row ops args), .blk k17 (.cells #[.int .i64 6, .int .i64 ((u : Nat) : Int), .int .i64 ((row : Nat) : Int), .slice p.A p.na p.ca, .slice p.B p.nb p.cb] 32), .blk k18 (.cells #[.int .i64 6, .slice Ak nk ck, .pointer (some ⟨k21, 0, none⟩), .pointer none] 78), .own 52 1 Ak ck nk (bps bs), strI (fun c => (Value.slice A7 (0 + p.na) cap7).ownBlock = some c) A7 ops, .blk k21 (.cells #[.slice A7 (0 + p.na) cap7, .pointer (some ⟨bx1, 0, none⟩), .bool false] 80)]) [2, 2, 0, 0, 0, 0, 0, 0, 0, 0, 0, 0, 0] (by kernel_rfl)
  have hm9 : PR Ti (Ri ++ [bx1]) (grv (gop1 gi [] none) row gi.ops.length) ({ pm5 with sl := pm5.sl ++ [(none, 0, 0)], S2 := S15 } : Pm) := hm8.tvrv _ _
  have H133 := H132.pick (a := [bankI 78 Ti (ndC Ti (Ri ++ [bx1]) (grv (gop1 gi [] none) row gi.ops.length) ({ pm5 with sl := pm5.sl ++ [(none, 0, 0)], S2 := S15 } : Pm)) [], kidsI ({ pm5 with sl := pm5.sl ++ [(none, 0, 0)], S2 := S15 } : Pm).S1 ({ pm5 with sl := pm5.sl ++ [(none, 0, 0)], S2 := S15 } : Pm).as (ksL Ti (grv (gop1 gi [] none) row gi.ops.length)), bankI 80 (Ri ++ [bx1]) (rwC (Ri ++ [bx1]) (grv (gop1 gi [] none) row gi.ops.length) ({ pm5 with sl := pm5.sl ++ [(none, 0, 0)], S2 := S15 } : Pm)) [0], rowsI ({ pm5 with sl := pm5.sl ++ [(none, 0, 0)], S2 := S15 } : Pm).S2 ({ pm5 with sl := pm5.sl ++ [(none, 0, 0)], S2 := S15 } : Pm).sl (grv (gop1 gi [] none) row gi.ops.length).ops, .blk mk (.cells #[.map (some bt), .map (some br)] 50), mpI bt Ti gi.tv, mpI br (Ri ++ [bx1]) (gi.rv ++ [((row : Int), gi.ops.length)]), tyI Sy p (Ty.mk 6 u row ops args), .blk k17 (.cells #[.int .i64 6, .int .i64 ((u : Nat) : Int), .int .i64 ((row : Nat) : Int), .slice p.A p.na p.ca, .slice p.B p.nb p.cb] 32), .blk k18 (.cells #[.int .i64 6, .slice Ak nk ck, .pointer (some ⟨k21, 0, none⟩), .pointer none] 78), .own 52 1 Ak ck nk (bps bs), strI (fun c => (Value.slice A7 (0 + p.na) cap7).ownBlock = some c) A7 ops, .blk k21 (.cells #[.slice A7 (0 + p.na) cap7, .pointer (some ⟨bx1, 0, none⟩), .bool false] 80)]) [0, 0, 0, 0, 0, 0, 0, 0, 0, 0, 0, 0, 0] (by kernel_rfl)
  obtain ⟨qx, hqx⟩ : ∃ qx, gi.ops.length = qx + 1 := ⟨gi.ops.length - 1, by have := hPi.z; have := hPi.lo; omega⟩
  have hsl4 := (H133.at 3 (it := rowsI ({ pm5 with sl := pm5.sl ++ [(none, 0, 0)], S2 := S15 } : Pm).S2 ({ pm5 with sl := pm5.sl ++ [(none, 0, 0)], S2 := S15 } : Pm).sl (grv (gop1 gi [] none) row gi.ops.length).ops) (by kernel_rfl)).1.1
  obtain ⟨S16, H134⟩ := rows_add H133 [3, 10] (c := cap7) (n := (0 + p.na)) (S := ({ pm5 with sl := pm5.sl ++ [(none, 0, 0)], S2 := S15 } : Pm).S2) (sl := ({ pm5 with sl := pm5.sl ++ [(none, 0, 0)], S2 := S15 } : Pm).sl) (ops := ((grv (gop1 gi [] none) row gi.ops.length)).ops) (S2 := (fun c => (Value.slice A7 (0 + p.na) cap7).ownBlock = some c)) (A := A7) (l := ops) (by kernel_rfl) (by omega)
  have hm10 : PR Ti ((Ri ++ [bx1]) ++ [k21]) (gop1 (grv (gop1 gi [] none) row gi.ops.length) ops (some gi.ops.length)) ({ ({ pm5 with sl := pm5.sl ++ [(none, 0, 0)], S2 := S15 } : Pm) with sl := ({ pm5 with sl := pm5.sl ++ [(none, 0, 0)], S2 := S15 } : Pm).sl ++ [(A7, (0 + p.na), cap7)], S2 := S16 } : Pm) := hm9.add k21 ops (fun p h => by have h := Option.some.inj h; show p + 1 < (gi.next ++ [none]).length; rw [List.length_append, List.length_singleton, ← hPi.lo]; omega)
  have H135 := bank_add (b := k21) (ty := 80) (T := (Ri ++ [bx1])) (C := rwC (Ri ++ [bx1]) (grv (gop1 gi [] none) row gi.ops.length) ({ pm5 with sl := pm5.sl ++ [(none, 0, 0)], S2 := S15 } : Pm)) (C' := rwC ((Ri ++ [bx1]) ++ [k21]) (gop1 (grv (gop1 gi [] none) row gi.ops.length) ops (some gi.ops.length)) ({ ({ pm5 with sl := pm5.sl ++ [(none, 0, 0)], S2 := S15 } : Pm) with sl := ({ pm5 with sl := pm5.sl ++ [(none, 0, 0)], S2 := S15 } : Pm).sl ++ [(A7, (0 + p.na), cap7)], S2 := S16 } : Pm)) (hs := [0]) H134 [11, 3] (by kernel_rfl) (rwC_new hm9 hsl4 k21 ops (some gi.ops.length) (tl := some bx1) (by rw [hqx]; show ((Ri ++ [bx1]) ++ [k21])[qx + 1]? = some bx1; rw [← hqx, app_l (by simp; omega)]; exact hbk) (t := false) rfl) (fun i hi => rwC_add hm9 hsl4 k21 ops (some gi.ops.length) _ _ hi)
  have H136 := bank_as (ty := 78) (T := Ti) (hs := []) (C := ndC Ti (Ri ++ [bx1]) (grv (gop1 gi [] none) row gi.ops.length) ({ pm5 with sl := pm5.sl ++ [(none, 0, 0)], S2 := S15 } : Pm)) (C' := ndC Ti ((Ri ++ [bx1]) ++ [k21]) (gop1 (grv (gop1 gi [] none) row gi.ops.length) ops (some gi.ops.length)) ({ ({ pm5 with sl := pm5.sl ++ [(none, 0, 0)], S2 := S15 } : Pm) with sl := ({ pm5 with sl := pm5.sl ++ [(none, 0, 0)], S2 := S15 } : Pm).sl ++ [(A7, (0 + p.na), cap7)], S2 := S16 } : Pm)) H135 2 (by kernel_rfl) (fun j _ _ => ndC_add hm9 k21 ops (some gi.ops.length) _ _ j)
  have H137 := H136.pick (a := [bankI 78 Ti (ndC Ti ((Ri ++ [bx1]) ++ [k21]) (gop1 (grv (gop1 gi [] none) row gi.ops.length) ops (some gi.ops.length)) ({ ({ pm5 with sl := pm5.sl ++ [(none, 0, 0)], S2 := S15 } : Pm) with sl := ({ pm5 with sl := pm5.sl ++ [(none, 0, 0)], S2 := S15 } : Pm).sl ++ [(A7, (0 + p.na), cap7)], S2 := S16 } : Pm)) [], kidsI ({ ({ pm5 with sl := pm5.sl ++ [(none, 0, 0)], S2 := S15 } : Pm) with sl := ({ pm5 with sl := pm5.sl ++ [(none, 0, 0)], S2 := S15 } : Pm).sl ++ [(A7, (0 + p.na), cap7)], S2 := S16 } : Pm).S1 ({ ({ pm5 with sl := pm5.sl ++ [(none, 0, 0)], S2 := S15 } : Pm) with sl := ({ pm5 with sl := pm5.sl ++ [(none, 0, 0)], S2 := S15 } : Pm).sl ++ [(A7, (0 + p.na), cap7)], S2 := S16 } : Pm).as (ksL Ti (gop1 (grv (gop1 gi [] none) row gi.ops.length) ops (some gi.ops.length))), bankI 80 ((Ri ++ [bx1]) ++ [k21]) (rwC ((Ri ++ [bx1]) ++ [k21]) (gop1 (grv (gop1 gi [] none) row gi.ops.length) ops (some gi.ops.length)) ({ ({ pm5 with sl := pm5.sl ++ [(none, 0, 0)], S2 := S15 } : Pm) with sl := ({ pm5 with sl := pm5.sl ++ [(none, 0, 0)], S2 := S15 } : Pm).sl ++ [(A7, (0 + p.na), cap7)], S2 := S16 } : Pm)) [0], rowsI ({ ({ pm5 with sl := pm5.sl ++ [(none, 0, 0)], S2 := S15 } : Pm) with sl := ({ pm5 with sl := pm5.sl ++ [(none, 0, 0)], S2 := S15 } : Pm).sl ++ [(A7, (0 + p.na), cap7)], S2 := S16 } : Pm).S2 ({ ({ pm5 with sl := pm5.sl ++ [(none, 0, 0)], S2 := S15 } : Pm) with sl := ({ pm5 with sl := pm5.sl ++ [(none, 0, 0)], S2 := S15 } : Pm).sl ++ [(A7, (0 + p.na), cap7)], S2 := S16 } : Pm).sl (gop1 (grv (gop1 gi [] none) row gi.ops.length) ops (some gi.ops.length)).ops, .blk mk (.cells #[.map (some bt), .map (some br)] 50), mpI bt Ti gi.tv, mpI br (Ri ++ [bx1]) (gi.rv ++ [((row : Int), gi.ops.length)]), tyI Sy p (Ty.mk 6 u row ops args), .blk k17 (.cells #[.int .i64 6, .int .i64 ((u : Nat) : Int), .int .i64 ((row : Nat) : Int), .slice p.A p.na p.ca, .slice p.B p.nb p.cb] 32), .blk k18 (.cells #[.int .i64 6, .slice Ak nk ck, .pointer (some ⟨k21, 0, none⟩), .pointer none] 78), .own 52 1 Ak ck nk (bps bs)]) [2, 2, 0, 0, 0, 0, 0, 0, 0, 0, 0] (by kernel_rfl)
  have hkl := hpm5.lT
  have hza5 := as_len hm10 (H137.at 1 (it := kidsI ({ ({ pm5 with sl := pm5.sl ++ [(none, 0, 0)], S2 := S15 } : Pm) with sl := ({ pm5 with sl := pm5.sl ++ [(none, 0, 0)], S2 := S15 } : Pm).sl ++ [(A7, (0 + p.na), cap7)], S2 := S16 } : Pm).S1 ({ ({ pm5 with sl := pm5.sl ++ [(none, 0, 0)], S2 := S15 } : Pm) with sl := ({ pm5 with sl := pm5.sl ++ [(none, 0, 0)], S2 := S15 } : Pm).sl ++ [(A7, (0 + p.na), cap7)], S2 := S16 } : Pm).as (ksL Ti (gop1 (grv (gop1 gi [] none) row gi.ops.length) ops (some gi.ops.length)))) (by kernel_rfl))
  obtain ⟨S17, H138⟩ := kids_add H137 [1, 9] (S := ({ ({ pm5 with sl := pm5.sl ++ [(none, 0, 0)], S2 := S15 } : Pm) with sl := ({ pm5 with sl := pm5.sl ++ [(none, 0, 0)], S2 := S15 } : Pm).sl ++ [(A7, (0 + p.na), cap7)], S2 := S16 } : Pm).S1) (sa := ({ ({ pm5 with sl := pm5.sl ++ [(none, 0, 0)], S2 := S15 } : Pm) with sl := ({ pm5 with sl := pm5.sl ++ [(none, 0, 0)], S2 := S15 } : Pm).sl ++ [(A7, (0 + p.na), cap7)], S2 := S16 } : Pm).as) (ks := ksL Ti (gop1 (grv (gop1 gi [] none) row gi.ops.length) ops (some gi.ops.length))) (e := 52) (n := nk) (cap := ck) (A := Ak) (l := bs) (by kernel_rfl)
  have hm11 : PR (Ti ++ [k18]) ((Ri ++ [bx1]) ++ [k21]) (gput (gop1 (grv (gop1 gi [] none) row gi.ops.length) ops (some gi.ops.length)) 6 (ms[0]?) (ms[1]?) (gi.ops ++ [[]]).length) (pnew ({ ({ pm5 with sl := pm5.sl ++ [(none, 0, 0)], S2 := S15 } : Pm) with sl := ({ pm5 with sl := pm5.sl ++ [(none, 0, 0)], S2 := S15 } : Pm).sl ++ [(A7, (0 + p.na), cap7)], S2 := S16 } : Pm) (Ak, nk, ck) S17) := hm10.node k18 (hBL.lt (g := gi) hPi.lT 0) (hBL.lt (g := gi) hPi.lT 1) (fun _ => ⟨by show (gi.ops ++ [[]]).length < ((gi.next ++ [none]) ++ [_]).length; (try simp only [List.length_append, List.length_singleton]); have := hPi.lo; omega, by have := hPi.z; have := hPi.lo; (try simp only [List.length_append, List.length_singleton]); omega⟩) hsh.ar
  have H139 := bank_add (b := k18) (ty := 78) (T := Ti) (C := ndC Ti ((Ri ++ [bx1]) ++ [k21]) (gop1 (grv (gop1 gi [] none) row gi.ops.length) ops (some gi.ops.length)) ({ ({ pm5 with sl := pm5.sl ++ [(none, 0, 0)], S2 := S15 } : Pm) with sl := ({ pm5 with sl := pm5.sl ++ [(none, 0, 0)], S2 := S15 } : Pm).sl ++ [(A7, (0 + p.na), cap7)], S2 := S16 } : Pm)) (C' := ndC (Ti ++ [k18]) ((Ri ++ [bx1]) ++ [k21]) (gput (gop1 (grv (gop1 gi [] none) row gi.ops.length) ops (some gi.ops.length)) 6 (ms[0]?) (ms[1]?) (gi.ops ++ [[]]).length) (pnew ({ ({ pm5 with sl := pm5.sl ++ [(none, 0, 0)], S2 := S15 } : Pm) with sl := ({ pm5 with sl := pm5.sl ++ [(none, 0, 0)], S2 := S15 } : Pm).sl ++ [(A7, (0 + p.na), cap7)], S2 := S16 } : Pm) (Ak, nk, ck) S17)) (hs := []) H138 [9, 1] (by kernel_rfl) (ndC_new hm10 hza5 k18 (.inr ⟨rfl, (by show ((Ri ++ [bx1]) ++ [k21])[_]? = some k21; have hrr : (gi.ops ++ [[]]).length = ((Ri ++ [bx1])).length := (by (try simp only [List.length_append, List.length_singleton]); omega); rw [hrr]; simp)⟩)) (fun i hi => ndC_old hm10 hza5 k18 hi)
  have H140 := H139.pick (a := [bankI 78 (Ti ++ [k18]) (ndC (Ti ++ [k18]) ((Ri ++ [bx1]) ++ [k21]) (gput (gop1 (grv (gop1 gi [] none) row gi.ops.length) ops (some gi.ops.length)) 6 (ms[0]?) (ms[1]?) (gi.ops ++ [[]]).length) (pnew ({ ({ pm5 with sl := pm5.sl ++ [(none, 0, 0)], S2 := S15 } : Pm) with sl := ({ pm5 with sl := pm5.sl ++ [(none, 0, 0)], S2 := S15 } : Pm).sl ++ [(A7, (0 + p.na), cap7)], S2 := S16 } : Pm) (Ak, nk, ck) S17)) [], kidsI (pnew ({ ({ pm5 with sl := pm5.sl ++ [(none, 0, 0)], S2 := S15 } : Pm) with sl := ({ pm5 with sl := pm5.sl ++ [(none, 0, 0)], S2 := S15 } : Pm).sl ++ [(A7, (0 + p.na), cap7)], S2 := S16 } : Pm) (Ak, nk, ck) S17).S1 (pnew ({ ({ pm5 with sl := pm5.sl ++ [(none, 0, 0)], S2 := S15 } : Pm) with sl := ({ pm5 with sl := pm5.sl ++ [(none, 0, 0)], S2 := S15 } : Pm).sl ++ [(A7, (0 + p.na), cap7)], S2 := S16 } : Pm) (Ak, nk, ck) S17).as (ksL (Ti ++ [k18]) (gput (gop1 (grv (gop1 gi [] none) row gi.ops.length) ops (some gi.ops.length)) 6 (ms[0]?) (ms[1]?) (gi.ops ++ [[]]).length)), bankI 80 ((Ri ++ [bx1]) ++ [k21]) (rwC ((Ri ++ [bx1]) ++ [k21]) (gput (gop1 (grv (gop1 gi [] none) row gi.ops.length) ops (some gi.ops.length)) 6 (ms[0]?) (ms[1]?) (gi.ops ++ [[]]).length) (pnew ({ ({ pm5 with sl := pm5.sl ++ [(none, 0, 0)], S2 := S15 } : Pm) with sl := ({ pm5 with sl := pm5.sl ++ [(none, 0, 0)], S2 := S15 } : Pm).sl ++ [(A7, (0 + p.na), cap7)], S2 := S16 } : Pm) (Ak, nk, ck) S17)) [0], rowsI (pnew ({ ({ pm5 with sl := pm5.sl ++ [(none, 0, 0)], S2 := S15 } : Pm) with sl := ({ pm5 with sl := pm5.sl ++ [(none, 0, 0)], S2 := S15 } : Pm).sl ++ [(A7, (0 + p.na), cap7)], S2 := S16 } : Pm) (Ak, nk, ck) S17).S2 (pnew ({ ({ pm5 with sl := pm5.sl ++ [(none, 0, 0)], S2 := S15 } : Pm) with sl := ({ pm5 with sl := pm5.sl ++ [(none, 0, 0)], S2 := S15 } : Pm).sl ++ [(A7, (0 + p.na), cap7)], S2 := S16 } : Pm) (Ak, nk, ck) S17).sl (gput (gop1 (grv (gop1 gi [] none) row gi.ops.length) ops (some gi.ops.length)) 6 (ms[0]?) (ms[1]?) (gi.ops ++ [[]]).length).ops, .blk mk (.cells #[.map (some bt), .map (some br)] 50), mpI bt Ti gi.tv, mpI br (Ri ++ [bx1]) (gi.rv ++ [((row : Int), gi.ops.length)]), tyI Sy p (Ty.mk 6 u row ops args), .blk k17 (.cells #[.int .i64 6, .int .i64 ((u : Nat) : Int), .int .i64 ((row : Nat) : Int), .slice p.A p.na p.ca, .slice p.B p.nb p.cb] 32)]) [0, 0, 0, 0, 0, 0, 0, 0, 0] (by rw [ksL_new (bs := bs) (kd := 6) (r := (gi.ops ++ [[]]).length) (x := ms[0]?) (y := ms[1]?) hm10 k18 hbs (hBL.lt (g := gi) hPi.lT 0) (hBL.lt (g := gi) hPi.lT 1)]; kernel_rfl)
  have hz5 : (pnew ({ ({ pm5 with sl := pm5.sl ++ [(none, 0, 0)], S2 := S15 } : Pm) with sl := ({ pm5 with sl := pm5.sl ++ [(none, 0, 0)], S2 := S15 } : Pm).sl ++ [(A7, (0 + p.na), cap7)], S2 := S16 } : Pm) (Ak, nk, ck) S17).as = (Zi ++ [(Ak, nk, ck)]) := congrArg (fun z => z ++ [(Ak, nk, ck)]) hzpm5
  have hb4 : (Ti ++ [k18])[gi.kind.length]? = some k18 := by rw [← hkl]; simp
  obtain ⟨S18, H141⟩ := P_close H140 [0, 0, 0, 0] (Z := (Zi ++ [(Ak, nk, ck)])) (T := (Ti ++ [k18])) (R := ((Ri ++ [bx1]) ++ [k21])) (g := (gput (gop1 (grv (gop1 gi [] none) row gi.ops.length) ops (some gi.ops.length)) 6 (ms[0]?) (ms[1]?) (gi.ops ++ [[]]).length)) (pnew ({ ({ pm5 with sl := pm5.sl ++ [(none, 0, 0)], S2 := S15 } : Pm) with sl := ({ pm5 with sl := pm5.sl ++ [(none, 0, 0)], S2 := S15 } : Pm).sl ++ [(A7, (0 + p.na), cap7)], S2 := S16 } : Pm) (Ak, nk, ck) S17) hm11 hz5 (by kernel_rfl)
  have H142 := H141.pick (a := [PI S18 (Zi ++ [(Ak, nk, ck)]) (Ti ++ [k18]) ((Ri ++ [bx1]) ++ [k21]) (gput (gop1 (grv (gop1 gi [] none) row gi.ops.length) ops (some gi.ops.length)) 6 (ms[0]?) (ms[1]?) (gi.ops ++ [[]]).length), .blk mk (.cells #[.map (some bt), .map (some br)] 50), mpI bt (Ti ++ [k18]) gi.tv, mpI br (Ri ++ [bx1]) (gi.rv ++ [((row : Int), gi.ops.length)]), tyI Sy p (Ty.mk 6 u row ops args), .blk k17 (.cells #[.int .i64 6, .int .i64 ((u : Nat) : Int), .int .i64 ((row : Nat) : Int), .slice p.A p.na p.ca, .slice p.B p.nb p.cb] 32)]) [0, 0, 0, 0, 0, 0] (by rw [mpI_ext htvi (Pre.app Ti k18)]; kernel_rfl)
  have H143 := H142.pick (a := [PI S18 (Zi ++ [(Ak, nk, ck)]) (Ti ++ [k18]) ((Ri ++ [bx1]) ++ [k21]) (gput (gop1 (grv (gop1 gi [] none) row gi.ops.length) ops (some gi.ops.length)) 6 (ms[0]?) (ms[1]?) (gi.ops ++ [[]]).length), .blk mk (.cells #[.map (some bt), .map (some br)] 50), mpI bt (Ti ++ [k18]) gi.tv, mpI br ((Ri ++ [bx1]) ++ [k21]) (gi.rv ++ [((row : Int), gi.ops.length)]), tyI Sy p (Ty.mk 6 u row ops args), .blk k17 (.cells #[.int .i64 6, .int .i64 ((u : Nat) : Int), .int .i64 ((row : Nat) : Int), .slice p.A p.na p.ca, .slice p.B p.nb p.cb] 32)]) [0, 0, 0, 0, 0, 0] (by rw [mpI_ext ((hrvi.1.mono (by simp)).snoc (by simp <;> omega)) (Pre.app (Ri ++ [bx1]) k21)]; kernel_rfl)
  subst hL0
  exact hK S18 (Zi ++ [(Ak, nk, ck)]) (Ti ++ [k18]) ((Ri ++ [bx1]) ++ [k21]) k18 _ (H143.pick (a := [PI S18 (Zi ++ [(Ak, nk, ck)]) (Ti ++ [k18]) ((Ri ++ [bx1]) ++ [k21]) (gput (gop1 (grv (gop1 gi [] none) row gi.ops.length) ops (some gi.ops.length)) 6 (ms[0]?) (ms[1]?) (gi.ops ++ [[]]).length), .blk mk (.cells #[.map (some bt), .map (some br)] 50), mpI bt (Ti ++ [k18]) gi.tv, mpI br ((Ri ++ [bx1]) ++ [k21]) (gi.rv ++ [((row : Int), gi.ops.length)]), tyI Sy p (Ty.mk 6 u row ops args)]) [0, 0, 0, 0, 0] (by kernel_rfl)) (hPT.trans (Pre.app Ti k18)) (hPR.trans ((Pre.app Ri bx1).trans (Pre.app _ k21))) hb4 (htvi.mono (by simp)) ((hrvi.mono (by simp <;> omega)).snoc (by simp <;> omega) (by omega))
theorem of_p (k : Nat) : ∀ (S : Nat → Prop) (Z : List Slot) (T R : List Nat) (g : G) (mk bt br : Nat) (Sy : Nat → Prop) (kd u row : Nat) (ops : List Nm) (args : List Ty) (p : Tv) (w : World) (K : Ending → World → Prop) (H0 : Sp w [PI S Z T R g, .blk mk (.cells #[.map (some bt), .map (some br)] 50), mpI bt T g.tv, mpI br R g.rv, tyI Sy p (Ty.mk kd u row ops args)]) (c : Nat) (g' : G) (m : Nat) (hfi : Fine c (Ty.mk kd u row ops args)) (htv : TvOk T.length g.tv) (hrv : RvOk R.length g.rv) (hf : ofX k g (Ty.mk kd u row ops args) = some (g', m)) (hK : ∀ (S' : Nat → Prop) (Z' : List Slot) (T' : List Nat) (R' : List Nat) (bm : Nat) w', Hs w [PI S Z T R g, .blk mk (.cells #[.map (some bt), .map (some br)] 50), mpI bt T g.tv, mpI br R g.rv, tyI Sy p (Ty.mk kd u row ops args)] w' [PI S' Z' T' R' g', .blk mk (.cells #[.map (some bt), .map (some br)] 50), mpI bt T' g'.tv, mpI br R' g'.rv, tyI Sy p (Ty.mk kd u row ops args)] → (Pre T T') → (Pre R R') → (T'[m]? = some bm) → (TvOk T'.length g'.tv) → (RvOk R'.length g'.rv) → K (.returned (bp bm)) w'),
    Calls Try.prog 12 #[.pointer (some ⟨mk, 0, none⟩), .agg #[.int .i64 ((kd : Nat) : Int), .int .i64 ((u : Nat) : Int), .int .i64 ((row : Nat) : Int), .slice p.A p.na p.ca, .slice p.B p.nb p.cb]] w K := by
  induction k with
  | zero => intro S Z T R g mk bt br Sy kd u row ops args p w K H0 c g' m hfi htv hrv hf; exact absurd hf (by simp [ofX])
  | succ k ih => exact of_p_s k ih
end Go.Proofs.Ytfkkocjheeoobaa
set_option linter.unusedVariables false
set_option linter.unusedSimpArgs false
namespace Go.Slv
open Go.RowKit Go.Sx Go.Inf Go.Gx
inductive Tr
  | mk (kd n row : Int) (ops : List Nm) (args : List Tr)
def trC (t : Tr) (p : Tv) : List Value := match t with
  | .mk kd n row _ _ => [.int .i64 kd, .int .i64 n, .int .i64 row, .slice p.A p.na p.ca, .slice p.B p.nb p.cb]
/-- A tree of any types that is only read. -/
inductive TrIn (w : World) (S : Nat → Prop) : Tv → Tr → Prop
  | mk {kd n row : Int} {ops : List Nm} {args : List Tr} (p : Tv) (ps : List Tv) (hs : Strs w S p.A ops) (hn : p.na = ops.length) (hc : p.na ≤ p.ca ∧ ops.length < 9223372036854775808 ∧ args.length < 9223372036854775808) (hb : p.nb = args.length) (hl : ps.length = args.length)
      (hm : ∀ (i : Nat) (q : Tv) (t : Tr), ps[i]? = some q → args[i]? = some t → ∃ a, p.B = some a ∧ S a.block ∧ w.cells? 0 (a.add (i * 5)) 5 = some (trC t q))
      (ht : ∀ (i : Nat) (q : Tv) (t : Tr), ps[i]? = some q → args[i]? = some t → TrIn w S q t) : TrIn w S p (.mk kd n row ops args)
theorem TrIn.keep {w w' : World} {S : Nat → Prop} {p : Tv} {t : Tr} (h : TrIn w S p t) (k : ∀ c, S c → w'.heap[c]? = w.heap[c]?) : TrIn w' S p t := by
  induction h with
  | mk p ps hs hn hc hb hl hm _ ih => exact .mk p ps (hs.keep k) hn hc hb hl (fun i q t h1 h2 => by obtain ⟨a, ha, hS, hcs⟩ := hm i q t h1 h2; exact ⟨a, ha, hS, cells_same hcs (by rw [add_block]; exact k _ hS)⟩) ih
theorem trI_loc (S : Nat → Prop) (p : Tv) (t : Tr) : Sx.Loc S (fun w => TrIn w S p t) := fun _ _ _ hk h => h.keep hk
def trI (S : Nat → Prop) (p : Tv) (t : Tr) : Sx.Item := .ro S (fun w => TrIn w S p t)
theorem tr_at {w0 w : World} {L0 L : List Sx.Item} {S : Nat → Prop} {p : Tv} {t : Tr} (H : Hs w0 L0 w L) (j : Nat) (hi : L[j]? = some (trI S p t)) : TrIn w S p t := (H.at j hi).1
theorem TrIn.open {w : World} {S : Nat → Prop} {p : Tv} {kd n row : Int} {ops : List Nm} {args : List Tr} (h : TrIn w S p (.mk kd n row ops args)) :
    Strs w S p.A ops ∧ p.na = ops.length ∧ (p.na ≤ p.ca ∧ ops.length < 9223372036854775808 ∧ args.length < 9223372036854775808) ∧ p.nb = args.length ∧ ∀ i t, args[i]? = some t → ∃ (q : Tv) (a : Addr), p.B = some a ∧ w.cells? 0 (a.add (i * 5)) 5 = some (trC t q) ∧ TrIn w S q t := by
  cases h with
  | mk _ ps hs hn hc hb hl hm ht =>
    refine ⟨hs, hn, hc, hb, fun i t h => ?_⟩
    have hi : i < ps.length := by rw [hl]; exact (List.getElem?_eq_some_iff.1 h).1
    obtain ⟨a, ha, hS, hcs⟩ := hm i _ t (List.getElem?_eq_getElem hi) h
    exact ⟨_, a, ha, hcs, ht i _ t (List.getElem?_eq_getElem hi) h⟩
theorem tr_str {w : World} {L : List Sx.Item} {S : Nat → Prop} {p : Tv} {kd n row : Int} {ops : List Nm} {args : List Tr} (H : Sp w L) (j : Nat) (hi : L[j]? = some (trI S p (.mk kd n row ops args))) {a : Addr} (ha : p.A = some a) {i : Nat} {s : Nm} (h : ops[i]? = some s) : w.cells? 0 (a.add (i * 1)) 1 = some [.string s] := by
  have hT : TrIn w S p (.mk kd n row ops args) := (H.all _ (List.mem_of_getElem? hi)).1
  obtain ⟨a', ha', _, hc⟩ := hT.open.1 i s h
  rw [ha] at ha'; cases ha'; exact hc
/-- How many parts a kind has. -/
def ar (kd : Int) : Int := if kd = 0 ∨ kd = 1 ∨ kd = 2 ∨ kd = 3 then 0 else if kd = 4 then 1 else if kd = 5 ∨ kd = 6 then 2 else -1
theorem ar_cs (kd : Int) : ar kd = 0 ∨ ar kd = 1 ∨ ar kd = 2 ∨ ar kd = -1 := by
  unfold ar
  repeat' split
  all_goals omega
def OpsOk (ops : List Nm) : Prop := (∀ o ∈ ops, o.data.toList ≠ []) ∧ ∀ i a b, ops[i]? = some a → ops[i + 1]? = some b → leN a b = true
structure HeadOk (kd n row : Int) (ops : List Nm) (len : Nat) : Prop where
  len : (len : Int) = ar kd
  v : kd = 0 → 1 ≤ n ∧ n ≤ 1000000000
  n : kd ≠ 0 → n = 0
  f : kd ≠ 6 → ops = [] ∧ row = 0
  row : 0 ≤ row ∧ row ≤ 1000000000
  ops : OpsOk ops
/-- A proper type with its number of parts. -/
inductive FN : Nat → Tr → Prop
  | mk {kd n row : Int} {ops : List Nm} {args : List Tr} (h : HeadOk kd n row ops args.length) (cs : List Nat) (hl : cs.length = args.length) (ha : ∀ (i c : Nat) (t : Tr), cs[i]? = some c → args[i]? = some t → FN c t) : FN (1 + ops.length + cs.sum) (.mk kd n row ops args)
theorem FN.head {c : Nat} {kd n row : Int} {ops : List Nm} {args : List Tr} (h : FN c (.mk kd n row ops args)) : HeadOk kd n row ops args.length ∧ 1 + ops.length ≤ c := by
  cases h with
  | mk h cs hl ha => exact ⟨h, by omega⟩
theorem FN.pos {c : Nat} {t : Tr} (h : FN c t) : 1 ≤ c := by cases h; omega
theorem FN.det {c : Nat} {t : Tr} (h : FN c t) : ∀ {c' : Nat}, FN c' t → c = c' := by
  induction h with
  | mk h cs hl ha ih =>
    intro c' k
    cases k with
    | mk k ds dl da =>
      have : cs = ds := List.ext_getElem? fun i => by
        rcases Nat.lt_or_ge i cs.length with q | q
        · have q2 : i < ds.length := by omega
          rw [List.getElem?_eq_getElem q, List.getElem?_eq_getElem q2]
          have q3 : i < _ := hl ▸ q
          rw [ih i _ _ (List.getElem?_eq_getElem q) (List.getElem?_eq_getElem q3) (da i _ _ (List.getElem?_eq_getElem q2) (List.getElem?_eq_getElem q3))]
        · rw [List.getElem?_eq_none q, List.getElem?_eq_none (by omega)]
      rw [this]
/-- The first parts are proper. -/
def FNs (args : List Tr) (i s : Nat) : Prop := ∃ cs : List Nat, cs.length = i ∧ (∀ (j c : Nat) (t : Tr), cs[j]? = some c → args[j]? = some t → FN c t) ∧ cs.sum = s
theorem FNs.nil (args : List Tr) : FNs args 0 0 := ⟨[], rfl, fun j c t h => by simp at h, rfl⟩
theorem FNs.snoc {args : List Tr} {i s c : Nat} {t : Tr} (h : FNs args i s) (ht : args[i]? = some t) (k : FN c t) : FNs args (i + 1) (s + c) := by
  obtain ⟨cs, h1, h2, h3⟩ := h
  refine ⟨cs ++ [c], by simp [h1], fun j d u hj hu => ?_, by rw [List.sum_append, h3]; simp⟩
  rcases app_at hj with ⟨_, e⟩ | ⟨e, e2⟩
  · exact h2 j d u e hu
  · rw [e, h1, ht] at hu; cases hu; rw [e2]; exact k
theorem FNs.done {args : List Tr} {s : Nat} {kd n row : Int} {ops : List Nm} (h : FNs args args.length s) (k : HeadOk kd n row ops args.length) : FN (1 + ops.length + s) (.mk kd n row ops args) := by
  obtain ⟨cs, h1, h2, rfl⟩ := h
  exact .mk k cs h1 h2
theorem FNs.ge {args : List Tr} {i s c : Nat} {kd n row : Int} {ops : List Nm} (h : FNs args i s) (hi : i ≤ args.length) (k : FN c (.mk kd n row ops args)) : 1 + ops.length + s ≤ c ∧ ∀ t, args[i]? = some t → ∃ c1, FN c1 t ∧ 1 + ops.length + s + c1 ≤ c := by
  obtain ⟨cs, h1, h2, rfl⟩ := h
  cases k with
  | mk k ds dl da =>
    have e : cs = ds.take i := List.ext_getElem? fun j => by
      rcases Nat.lt_or_ge j cs.length with q | q
      · have q2 : j < ds.length := by omega
        have q3 : j < args.length := by omega
        rw [List.getElem?_take_of_lt (by omega), List.getElem?_eq_getElem q, List.getElem?_eq_getElem q2, (h2 j _ _ (List.getElem?_eq_getElem q) (List.getElem?_eq_getElem q3)).det (da j _ _ (List.getElem?_eq_getElem q2) (List.getElem?_eq_getElem q3))]
      · rw [List.getElem?_eq_none q, List.getElem?_eq_none (by rw [List.length_take]; omega)]
    have es : ds.sum = cs.sum + (ds.drop i).sum := by rw [e, ← List.sum_append, List.take_append_drop]
    refine ⟨by omega, fun t ht => ?_⟩
    have q3 := (List.getElem?_eq_some_iff.1 ht).1
    have q2 : i < ds.length := by omega
    refine ⟨ds[i], da i _ _ (List.getElem?_eq_getElem q2) ht, ?_⟩
    have : (ds.drop i).sum = ds[i] + (ds.drop (i + 1)).sum := by rw [List.drop_eq_getElem_cons q2]; rfl
    omega
theorem srt_step {ops : List Nm} (h : ∀ i a b, ops[i]? = some a → ops[i + 1]? = some b → leN a b = true) : Srt ops := by
  induction ops with
  | nil => exact .nil
  | cons a l ih =>
    have hl : Srt l := ih fun i x y hx hy => h (i + 1) x y (by simpa using hx) (by simpa using hy)
    refine .cons (fun b hb => ?_) hl
    cases l with
    | nil => cases hb
    | cons c l =>
      have hac := h 0 a c rfl rfl
      rcases List.mem_cons.1 hb with rfl | q
      · exact hac
      · have := List.rel_of_pairwise_cons hl q
        exact leN_trans hac this
theorem OpsOk.srt {ops : List Nm} (h : OpsOk ops) : Srt ops := srt_step h.2
/-- The two of a type: as it comes, and as it is meant. -/
structure Conv (t : Tr) (u : Ty) : Prop where
  mem : ∀ (w : World) (S : Nat → Prop) (p : Tv), TrIn w S p t → TyIn w S p u
  val : ∀ p, trC t p = tvC u p
theorem toNat_int {z : Int} (h : 0 ≤ z) : ∃ n : Nat, z = (n : Int) := ⟨z.toNat, by omega⟩
theorem conv_mk {kd n row : Nat} {ops : List Nm} {args : List Tr} {us : List Ty} (hl : us.length = args.length) (h2 : us.length ≤ 2) (ho : ops.length < 1000000000) (h : ∀ (i : Nat) (t : Tr) (u : Ty), args[i]? = some t → us[i]? = some u → Conv t u) : Conv (.mk kd n row ops args) (.mk kd n row ops us) := by
  refine ⟨fun w S p k => ?_, fun p => rfl⟩
  cases k with
  | mk _ ps hs hn hc hb hpl hm ht =>
    have tr : ∀ {i : Nat} {u : Ty}, us[i]? = some u → ∃ t, args[i]? = some t ∧ Conv t u := fun {i u} hu => by
      have := (List.getElem?_eq_some_iff.1 hu).1
      have e : args[i]? = some (args[i]'(by omega)) := List.getElem?_eq_getElem _
      exact ⟨_, e, h i _ _ e hu⟩
    refine .mk p ps hs hn ⟨hc.1, ho, h2⟩ (by omega) (by omega) (fun i q u h1 h3 => ?_) (fun i q u h1 h3 => ?_)
    · obtain ⟨t, e, cv⟩ := tr h3
      obtain ⟨a, ha, hS, hcs⟩ := hm i q t h1 e
      exact ⟨a, ha, hS, by rw [hcs, cv.val]⟩
    · obtain ⟨t, e, cv⟩ := tr h3
      exact cv.mem _ _ _ (ht i q t h1 e)
/-- What is proper is fine. -/
theorem FN.fine : ∀ {c : Nat} {t : Tr}, FN c t → c < 1000000000 → ∃ u, Fine c u ∧ Conv t u := by
  intro c
  induction c using Nat.strongRecOn with
  | _ c ih =>
    intro t h hcc
    cases h with
    | @mk kd n row ops args h cs hl ha =>
      obtain ⟨h1, h2, h3, h4, h5, h6⟩ := h
      obtain ⟨r, rfl⟩ := toNat_int h5.1
      have z0 : ((0 : Nat) : Int) = 0 := rfl
      by_cases k0 : kd = 0
      · subst k0
        obtain ⟨rfl, hr⟩ := h4 (by decide)
        obtain rfl : r = 0 := by omega
        obtain ⟨m, rfl⟩ := toNat_int (z := n) (by have := h2 rfl; omega)
        have e : args = [] := List.length_eq_zero_iff.1 (by have : ar 0 = 0 := rfl; omega)
        subst e
        obtain rfl : cs = [] := List.length_eq_zero_iff.1 hl
        exact ⟨_, .v m (by have := h2 rfl; omega), conv_mk (us := []) rfl (by simp) (by simp) fun i t u e => by simp at e⟩
      · obtain rfl := h3 k0
        by_cases kc : kd = 1 ∨ kd = 2 ∨ kd = 3
        · obtain ⟨rfl, hr⟩ := h4 (by omega)
          obtain rfl : r = 0 := by omega
          obtain ⟨d, rfl⟩ := toNat_int (z := kd) (by omega)
          have e : args = [] := List.length_eq_zero_iff.1 (by have : ar (d : Int) = 0 := if_pos (by omega); omega)
          subst e
          obtain rfl : cs = [] := List.length_eq_zero_iff.1 hl
          exact ⟨_, .c d (by omega), conv_mk (n := 0) (us := []) rfl (by simp) (by simp) fun i t u e => by simp at e⟩
        · by_cases k4 : kd = 4
          · subst k4
            obtain ⟨rfl, hr⟩ := h4 (by decide)
            obtain rfl : r = 0 := by omega
            have e : args.length = 1 := by have : ar 4 = 1 := rfl; omega
            match args, cs, e, hl with
            | [t], [c1], _, _ =>
              obtain ⟨u, f, cv⟩ := ih c1 (by simp) (ha 0 c1 t rfl rfl) (by simp at hcc; omega)
              refine ⟨.mk 4 0 0 [] [u], ?_, conv_mk (kd := 4) (n := 0) (us := [u]) rfl (by simp) (by simp) fun i t' u' e1 e2 => ?_⟩
              · have : 1 + ([] : List Nm).length + [c1].sum = c1 + 1 := by simp; omega
                rw [this]; exact .l f
              · cases i with
                | zero => cases e1; cases e2; exact cv
                | succ i => simp at e1
          · have k56 : kd = 5 ∨ kd = 6 := by
              rcases Decidable.em (kd = 5 ∨ kd = 6) with q | q
              · exact q
              · have : ar kd = -1 := by unfold ar; rw [if_neg (by omega), if_neg k4, if_neg q]
                omega
            have e : args.length = 2 := by have : ar kd = 2 := by { unfold ar; rw [if_neg (by omega), if_neg k4, if_pos k56] }; omega
            match args, cs, e, hl with
            | [t, t'], [c1, c2], _, _ =>
              obtain ⟨u, f, cv⟩ := ih c1 (by simp; omega) (ha 0 c1 t rfl rfl) (by simp at hcc; omega)
              obtain ⟨u', f', cv'⟩ := ih c2 (by simp; omega) (ha 1 c2 t' rfl rfl) (by simp at hcc; omega)
              have two : ∀ (d : Nat), Conv (.mk (d : Int) 0 (r : Int) ops [t, t']) (.mk d 0 r ops [u, u']) := fun d => conv_mk (n := 0) (us := [u, u']) rfl (by simp) (by omega) fun i x y e1 e2 => by
                match i with
                | 0 => cases e1; cases e2; exact cv
                | 1 => cases e1; cases e2; exact cv'
                | i + 2 => simp at e1
              rcases k56 with rfl | rfl
              · obtain ⟨rfl, hr⟩ := h4 (by decide)
                obtain rfl : r = 0 := by omega
                refine ⟨_, ?_, two 5⟩
                have : 1 + ([] : List Nm).length + [c1, c2].sum = c1 + c2 + 1 := by simp; omega
                rw [this]; exact .p f f'
              · refine ⟨_, ?_, two 6⟩
                have : 1 + ops.length + [c1, c2].sum = c1 + c2 + 1 + ops.length := by simp; omega
                rw [this]; exact .f r ops h6.1 h6.srt f f'
/-- The first names are in order. -/
def OpsTo (ops : List Nm) (i : Nat) : Prop := (∀ j o, j < i → ops[j]? = some o → o.data.toList ≠ []) ∧ ∀ j a b, j + 1 < i → ops[j]? = some a → ops[j + 1]? = some b → leN a b = true
theorem OpsTo.nil (ops : List Nm) : OpsTo ops 0 := ⟨fun j o h => by omega, fun j a b h => by omega⟩
theorem OpsTo.done {ops : List Nm} {i : Nat} (h : OpsTo ops i) (hi : ops.length ≤ i) : OpsOk ops := ⟨fun o ho => by
  obtain ⟨j, hj, rfl⟩ := List.mem_iff_getElem.1 ho
  exact h.1 j _ (by omega) (List.getElem?_eq_getElem hj), fun j a b h1 h2 => h.2 j a b (by have := (List.getElem?_eq_some_iff.1 h2).1; omega) h1 h2⟩
theorem em_iff (s : Nm) : (s.toList == (⟨#[]⟩ : ByteArray).toList) = true ↔ s.data.toList = [] := by
  rw [ByteArray.toList_eq, ByteArray.toList_eq]
  simp
theorem OpsTo.one {ops : List Nm} {s : Nm} (h : ops[0]? = some s) (k : s.data.toList ≠ []) : OpsTo ops 1 := ⟨fun j o hj ho => by
  obtain rfl : j = 0 := by omega
  rw [h] at ho; cases ho; exact k, fun j a b h => by omega⟩
theorem OpsTo.more {ops : List Nm} {i : Nat} {r s : Nm} (h : OpsTo ops (i + 1)) (h1 : ops[i]? = some r) (h2 : ops[i + 1]? = some s) (k : s.data.toList ≠ []) (hl : leN r s = true) : OpsTo ops (i + 1 + 1) := ⟨fun j o hj ho => by
  rcases Nat.lt_or_ge j (i + 1) with q | q
  · exact h.1 j o q ho
  · obtain rfl : j = i + 1 := by omega
    rw [h2] at ho; cases ho; exact k, fun j a b hj ha hb => by
  rcases Nat.lt_or_ge (j + 1) (i + 1) with q | q
  · exact h.2 j a b q ha hb
  · obtain rfl : j = i := by omega
    rw [h1] at ha; rw [h2] at hb; cases ha; cases hb; exact hl⟩
theorem OpsOk.at {ops : List Nm} (h : OpsOk ops) {i : Nat} {s : Nm} (k : ops[i]? = some s) : s.data.toList ≠ [] := h.1 s (List.mem_of_getElem? k)
/-- The word on a type: it has so many parts, or more than that. -/
structure Said (t : Tr) (left z : Int) (b : Bool) : Prop where
  y : b = true → ∃ c : Nat, z = (c : Int) ∧ FN c t ∧ (c : Int) ≤ left
  n : b = false → ∀ c, FN c t → left < (c : Int)
theorem said_no {t : Tr} {left z : Int} (h : ∀ c, FN c t → left < (c : Int)) : Said t left z false := ⟨(fun e => by cases e), fun _ => h⟩
theorem said_yes {t : Tr} {left : Int} {c : Nat} (h : FN c t) (k : (c : Int) ≤ left) : Said t left (c : Int) true := ⟨fun _ => ⟨c, rfl, h, k⟩, fun e => by cases e⟩
/-- The program's count: so many names there may be that it begins below. -/
def nw (na s : Nat) : Int := IntKind.i64.wrap ((1 : Int) + (na : Int)) + (s : Int)
theorem nw_cs {na : Nat} (s : Nat) (h : na < 9223372036854775808) : (na < 9223372036854775807 ∧ nw na s = ((1 + na + s : Nat) : Int)) ∨ (na = 9223372036854775807 ∧ nw na s = -9223372036854775808 + (s : Int)) := by
  rcases Nat.lt_or_ge na 9223372036854775807 with q | q
  · refine .inl ⟨q, ?_⟩
    unfold nw
    rw [IntWalk.i64_in _ (by omega)]
    omega
  · obtain rfl : na = 9223372036854775807 := by omega
    exact .inr ⟨rfl, rfl⟩
theorem nw_0 (na : Nat) : IntKind.i64.wrap ((1 : Int) + (na : Int)) = nw na 0 := by unfold nw; simp
theorem nw_sub {na s : Nat} {left : Int} (h : na < 9223372036854775808) (k : s = 0 ∨ ((1 + na + s : Nat) : Int) ≤ left) (h1 : 1 ≤ left) (h2 : left ≤ 300) : ∃ lw : Int, IntKind.i64.wrap (left - nw na s) = lw ∧ -9223372036854775808 ≤ lw ∧ ((na < 9223372036854775807 ∧ lw = left - ((1 + na + s : Nat) : Int)) ∨ (na = 9223372036854775807 ∧ lw < 1)) := by
  rcases nw_cs s h with ⟨q, e⟩ | ⟨q, e⟩
  · rw [e, IntWalk.i64_in _ (by omega)]
    exact ⟨_, rfl, by omega, .inl ⟨q, rfl⟩⟩
  · obtain rfl : s = 0 := by omega
    rw [e]
    refine ⟨_, rfl, ?_, .inr ⟨q, ?_⟩⟩ <;> (have : left = 300 - (300 - left) := by omega) <;> (simp [IntKind.wrap, IntKind.bits, IntKind.signed, Int.bmod]; omega)
theorem nw_add {na s c : Nat} {lw left : Int} (h : na < 9223372036854775808) (h2 : left ≤ 300) (k : (na < 9223372036854775807 ∧ lw = left - ((1 + na + s : Nat) : Int)) ∨ (na = 9223372036854775807 ∧ lw < 1)) (hc : (c : Int) ≤ lw) (hp : 1 ≤ c) : na < 9223372036854775807 ∧ ((1 + na + (s + c) : Nat) : Int) ≤ left ∧ IntKind.i64.wrap (nw na s + (c : Int)) = nw na (s + c) := by
  have a : na < 9223372036854775807 := by omega
  refine ⟨a, by omega, ?_⟩
  rcases nw_cs s h with ⟨q, e⟩ | ⟨q, e⟩
  · rcases nw_cs (s + c) h with ⟨q2, e2⟩ | ⟨q2, e2⟩
    · rw [e, e2, IntWalk.i64_in _ (by omega)]; omega
    · omega
  · omega
/-- The document's word. -/
structure SaidD (t : Tr) (deep : Nat) (z : Int) (b : Bool) : Prop where
  y : b = true → ∃ c : Nat, z = (c : Int) ∧ FN c t ∧ c ≤ 301
  n : b = false → ∀ c, FN c t → 300 < c + deep
  z : 0 ≤ z ∧ z ≤ 301 * (302 - (deep : Int))
theorem saidD_no {t : Tr} {deep : Nat} {z : Int} (h : ∀ c, FN c t → 300 < c + deep) (hz : 0 ≤ z ∧ z ≤ 301 * (302 - (deep : Int))) : SaidD t deep z false := ⟨(fun e => by cases e), (fun _ => h), hz⟩
theorem saidD_yes {t : Tr} {deep c : Nat} (h : FN c t) (hc : c ≤ 301) (hz : (c : Int) ≤ 301 * (302 - (deep : Int))) : SaidD t deep (c : Int) true := ⟨(fun _ => ⟨c, rfl, h, hc⟩), (fun e => by cases e), by omega, hz⟩
theorem HeadOk.of {kd u row : Int} {ops : List Nm} {len : Nat} (h1 : (len : Int) = ar kd) (h : (kd = 0 → 1 ≤ u ∧ u ≤ 1000000000) ∧ (kd ≠ 0 → u = 0) ∧ (kd ≠ 6 → ops.length = 0 ∧ row = 0) ∧ 0 ≤ row ∧ row ≤ 1000000000) (h6 : OpsOk ops) : HeadOk kd u row ops len :=
  ⟨h1, h.1, h.2.1, fun k => ⟨List.length_eq_zero_iff.1 (h.2.2.1 k).1, (h.2.2.1 k).2⟩, h.2.2.2, h6⟩
theorem HeadOk.lin {kd u row : Int} {ops : List Nm} {len : Nat} (h : HeadOk kd u row ops len) : (kd = 0 → 1 ≤ u ∧ u ≤ 1000000000) ∧ (kd ≠ 0 → u = 0) ∧ (kd ≠ 6 → ops.length = 0 ∧ row = 0) ∧ 0 ≤ row ∧ row ≤ 1000000000 :=
  ⟨h.v, h.n, fun k => ⟨by rw [(h.f k).1]; rfl, (h.f k).2⟩, h.row⟩
theorem fn_leaf {kd u row : Int} {ops : List Nm} {args : List Tr} (h : HeadOk kd u row ops args.length) (ha : args.length = 0) (ho : ops.length = 0) : FN 1 (.mk kd u row ops args) := by
  have e : args = [] := List.length_eq_zero_iff.1 ha
  subst e
  have := FNs.done (FNs.nil []) h
  rwa [ho] at this
theorem ops_nil {ops : List Nm} (h : ops.length = 0) : OpsOk ops := by
  have e : ops = [] := List.length_eq_zero_iff.1 h
  subst e
  exact (OpsTo.nil []).done (Nat.le_refl _)
theorem nm_cases (s : Nm) : s.data.toList = [] ∨ s.data.toList ≠ [] := Decidable.em _
/-- Where one stands among the names. -/
theorem ops_cs {ops : List Nm} {i : Nat} (h : i ≤ ops.length) : ops.length ≤ i ∨ (i = 0 ∧ ∃ s, ops[0]? = some s ∧ s.data.toList = []) ∨ (i = 0 ∧ ∃ s, ops[0]? = some s ∧ s.data.toList ≠ []) ∨
    (∃ j r s, i = j + 1 ∧ ops[j]? = some r ∧ ops[j + 1]? = some s ∧ s.data.toList = []) ∨ (∃ j r s, i = j + 1 ∧ ops[j]? = some r ∧ ops[j + 1]? = some s ∧ s.data.toList ≠ [] ∧ leN r s = false) ∨
    (∃ j r s, i = j + 1 ∧ ops[j]? = some r ∧ ops[j + 1]? = some s ∧ s.data.toList ≠ [] ∧ leN r s = true) := by
  rcases Nat.lt_or_ge i ops.length with q | q
  · cases i with
    | zero => rcases nm_cases ops[0] with k | k
              · exact .inr (.inl ⟨rfl, _, List.getElem?_eq_getElem q, k⟩)
              · exact .inr (.inr (.inl ⟨rfl, _, List.getElem?_eq_getElem q, k⟩))
    | succ j =>
      have q2 : j < ops.length := by omega
      rcases nm_cases ops[j + 1] with k | k
      · exact .inr (.inr (.inr (.inl ⟨j, _, _, rfl, List.getElem?_eq_getElem q2, List.getElem?_eq_getElem q, k⟩)))
      · cases hl : leN ops[j] ops[j + 1] with
        | false => exact .inr (.inr (.inr (.inr (.inl ⟨j, _, _, rfl, List.getElem?_eq_getElem q2, List.getElem?_eq_getElem q, k, hl⟩))))
        | true => exact .inr (.inr (.inr (.inr (.inr ⟨j, _, _, rfl, List.getElem?_eq_getElem q2, List.getElem?_eq_getElem q, k, hl⟩))))
  · exact .inl q
theorem bl_leN (r s : Nm) : Go.Op.bytesLess s.toList r.toList = !leN r s := by
  rw [bLess_eq, ByteArray.toList_eq, ByteArray.toList_eq]
  cases h : leN r s with
  | true => exact decide_eq_false (List.not_lt.2 (leN_iff.1 h))
  | false => exact decide_eq_true (List.not_le.1 fun k => by rw [leN_iff.2 k] at h; cases h)
theorem em_t {s : Nm} (h : s.data.toList = []) : Value.bool (s.toList == (⟨#[]⟩ : ByteArray).toList) = .bool true := by rw [(em_iff s).2 h]
theorem em_f {s : Nm} (h : s.data.toList ≠ []) : Value.bool (s.toList == (⟨#[]⟩ : ByteArray).toList) = .bool false := by
  cases e : (s.toList == (⟨#[]⟩ : ByteArray).toList) with
  | true => exact absurd ((em_iff s).1 e) h
  | false => rfl
theorem dT {p : Prop} [Decidable p] (h : p) : Value.bool (decide p) = .bool true := by rw [decide_eq_true h]
theorem dF {p : Prop} [Decidable p] (h : ¬ p) : Value.bool (decide p) = .bool false := by rw [decide_eq_false h]
theorem eT {a b : Int} (h : a = b) : Value.bool (a == b) = .bool true := by rw [h]; simp
theorem eF {a b : Int} (h : ¬ a = b) : Value.bool (a == b) = .bool false := by simp [h]
theorem nT {a b : Int} (h : ¬ a = b) : Value.bool (a != b) = .bool true := by simp [h]
theorem nF {a b : Int} (h : a = b) : Value.bool (a != b) = .bool false := by rw [h]; simp
theorem ltT {r s : Nm} (h : leN r s = false) : Value.bool (Go.Op.bytesLess s.toList r.toList) = .bool true := by rw [bl_leN, h]; rfl
theorem ltF {r s : Nm} (h : leN r s = true) : Value.bool (Go.Op.bytesLess s.toList r.toList) = .bool false := by rw [bl_leN, h]; rfl
theorem gtT {r s : Nm} (h : leN r s = false) : Value.bool (!(Go.Op.bytesLess r.toList s.toList || (r.toList == s.toList))) = .bool true := by rw [← leN_eq, h]; rfl
theorem gtF {r s : Nm} (h : leN r s = true) : Value.bool (!(Go.Op.bytesLess r.toList s.toList || (r.toList == s.toList))) = .bool false := by rw [← leN_eq, h]; rfl
end Go.Slv
