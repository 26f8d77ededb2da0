/- A part of the proof (YtlddkcdjegcleaaHw9), printed by a program of ours. -/
import Derived.Test.YtlddkcdjegcleaaProg
import Derived.Test.YtlddkcdjegcleaaHq
import Derived.Test.YtlddkcdjegcleaaHg
import Derived.Test.YtlddkcdjegcleaaHw1
import Derived.Test.YtlddkcdjegcleaaHw2
import Derived.Test.YtlddkcdjegcleaaHw3
import Derived.Test.YtlddkcdjegcleaaHw4
import Derived.Test.YtlddkcdjegcleaaHw5
import Derived.Test.YtlddkcdjegcleaaHw6
import Derived.Test.YtlddkcdjegcleaaHw7
import Derived.Test.YtlddkcdjegcleaaHw8
set_option linter.unusedVariables false
set_option linter.unusedSimpArgs false
namespace Go.Proofs.Ytlddkcdjegcleaa
open Go.RowKit Go.Sx Go.Hp
attribute [local irreducible] Go.wpOps Go.Code.wp Go.wpOp Go.wpAnyH Go.Calls Go.Sx.Goal Go.Code.wpIn
set_option maxRecDepth 20000
set_option maxHeartbeats 4000000 in
theorem dcol_c (gh : Nat) (A : Option Addr) (c N : Nat) (G : Nat → Nat) (M : List Th) (pa : Option Addr) (pc gr n : Nat) (Rt : Nat → Cl) (f : Nat → Bool) (w : World) (K : Ending → World → Prop) (H0 : Sp w [.blk gh (.cells #[.int .i64 ((N : Nat) : Int), .slice A M.length c] 30), .own 46 4 A c M.length (ths M.length (adr M) (thM M) G), rwsI M.length G (lnM M) (fld M), .own 59 1 pa pc n (pls gr n), .own 43 2 (some ⟨gr, 0, none⟩) n n (cls n Rt)]) (hfd : f = rb M (rts Rt n)) (hm6 : tots M ≤ 1000000) (hwf : Wf M (rts Rt n)) (hn : n < 1000000) (hK : ∀ (A' : Option Addr) (c' : Nat) (G' : Nat → Nat) w', Hs w [.blk gh (.cells #[.int .i64 ((N : Nat) : Int), .slice A M.length c] 30), .own 46 4 A c M.length (ths M.length (adr M) (thM M) G), rwsI M.length G (lnM M) (fld M), .own 59 1 pa pc n (pls gr n), .own 43 2 (some ⟨gr, 0, none⟩) n n (cls n Rt)] w' [.blk gh (.cells #[.int .i64 ((N : Nat) : Int), .slice A' ((colM M Rt n).length) c'] 30), .own 46 4 A' c' ((colM M Rt n).length) (ths ((colM M Rt n).length) (adr (colM M Rt n)) (thM (colM M Rt n)) G'), rwsI ((colM M Rt n).length) G' (lnM (colM M Rt n)) (fld (colM M Rt n)), .own 59 1 pa pc n (pls gr n), .own 43 2 (some ⟨gr, 0, none⟩) n n (cls n (colR M Rt n))] → K (.returned (.int .i64 ((tots (colM M Rt n) : Nat) : Int))) w') :
    Calls Try.prog 14 #[.pointer (some ⟨gh, 0, none⟩), .slice pa n pc] w K := by
  obtain ⟨L0, hL0, H⟩ : ∃ L0, L0 = [.blk gh (.cells #[.int .i64 ((N : Nat) : Int), .slice A M.length c] 30), .own 46 4 A c M.length (ths M.length (adr M) (thM M) G), rwsI M.length G (lnM M) (fld M), .own 59 1 pa pc n (pls gr n), .own 43 2 (some ⟨gr, 0, none⟩) n n (cls n Rt)] ∧ Hs w L0 w [.blk gh (.cells #[.int .i64 ((N : Nat) : Int), .slice A M.length c] 30), .own 46 4 A c M.length (ths M.length (adr M) (thM M) G), rwsI M.length G (lnM M) (fld M), .own 59 1 pa pc n (pls gr n), .own 43 2 (some ⟨gr, 0, none⟩) n n (cls n Rt)] := ⟨_, rfl, Hs.refl H0⟩
  refine Sx.en (vs := [.pointer (some ⟨gh, 0, none⟩), .slice pa n pc]) 148 Try.func14 ?_
  have hml := len_le M
  have hkm : (ks f M.length).length ≤ M.length := by have := List.length_filter_le f (List.range M.length); rwa [List.length_range] at this
  refine Sx.c 9 [0, 0, 0, 0, 0] H (fun Hp R hR => reached_c gh A c N G M pa pc gr n Rt w R Hp hm6 hwf hn (fun gi1 w1 G1 => hR _ _ _ G1 fun H1 => ?_))
  refine Sx.nw 5 H1 fun mt w2 H2 => ?_
  have H3 := mapI_new (.int .i64) encZ (bt := mt) (i := 6) H2 (by kernel_rfl)
  have H4 := H3; rw [← hfd] at H4
  have H5 := H4.add (Gx.Ext.refl _) (it := .own 46 4 none 0 0 []) (World.ownsRow_nil _ _ _ _) (fun _ h => by cases h)
  have H6 := H5.pick (a := [.blk gh (.cells #[.int .i64 ((N : Nat) : Int), .slice A M.length c] 30), .own 46 4 A c M.length (ths M.length (adr M) (thM M) G), rwsI M.length G (lnM M) (fld M), .own 59 1 pa pc n (pls gr n), .own 43 2 (some ⟨gr, 0, none⟩) n n (cls n Rt), .own 4 1 (some ⟨gi1, 0, none⟩) M.length M.length (bls M.length f), mpZ mt M f 0, .own 46 4 none 0 0 (ths 0 (aK M f) (tK M f) (gK G M f))]) [0, 0, 0, 0, 0, 0, 0, 0] (by kernel_rfl)
  refine Sx.lp 20 (fun z l' w' => ∃ (i : Nat) (Q : Option Addr) (q : Nat), l' = [(0, .pointer (some ⟨gh, 0, none⟩)), (1, .slice pa n pc), (5, .slice (some ⟨gi1, 0, none⟩) M.length M.length), (6, .map (some mt)), (7, .int .i64 ((nx M f i : Nat) : Int)), (8, .slice Q ((ks f i).length) q), (9, .int .i64 ((i : Nat) : Int))] ∧ z = M.length - i ∧ Hs w L0 w' [.blk gh (.cells #[.int .i64 ((N : Nat) : Int), .slice A M.length c] 30), .own 46 4 A c M.length (ths M.length (adr M) (thM M) G), rwsI M.length G (lnM M) (fld M), .own 59 1 pa pc n (pls gr n), .own 43 2 (some ⟨gr, 0, none⟩) n n (cls n Rt), .own 4 1 (some ⟨gi1, 0, none⟩) M.length M.length (bls M.length f), mpZ mt M f i, .own 46 4 Q q ((ks f i).length) (ths ((ks f i).length) (aK M f) (tK M f) (gK G M f))] ∧ (i ≤ M.length)) _ [(0, .pointer (some ⟨gh, 0, none⟩)), (1, .slice pa n pc), (5, .slice (some ⟨gi1, 0, none⟩) M.length M.length), (6, .map (some mt)), (7, .int .i64 ((nx M f 0 : Nat) : Int)), (8, .slice none ((ks f 0).length) 0), (9, .int .i64 ((0 : Nat) : Int))] ⟨0, none, 0, rfl, rfl, H6, (Nat.zero_le _)⟩ (fun b1 z1 l1 w3 hI1 K1 hK1 => ?_)
  obtain ⟨i, Q, q, rfl, rfl, H7, hi⟩ := hI1
  refine Sx.l 7 0 H7 ?_
  refine Sx.br 4 (decide (((i : Nat) : Int) < ((M.length : Nat) : Int))) (fun h_c25 => ?_) (fun h_c25 => ?_)
  · skip
    refine Sx.nz 2 (.code (Sx.cat [1, 1, 1, 1, 1, 0, 1, 0, 0, 1] (Sx.bodyOf Try.f14))) [.to K1, .blk 0, .code (Sx.cat [1, 1, 1, 1, 1, 1] (Sx.bodyOf Try.f14))] [(0, .pointer (some ⟨gh, 0, none⟩)), (1, .slice pa n pc), (5, .slice (some ⟨gi1, 0, none⟩) M.length M.length), (6, .map (some mt)), (7, .int .i64 ((nx M f i : Nat) : Int)), (8, .slice Q ((ks f i).length) q), (9, .int .i64 ((i : Nat) : Int))] fun b2 => ?_
    have p_c25 := of_decide_eq_true h_c25
    have hil : i < M.length := by omega
    refine Sx.ir 7 gi1 i 1 M.length M.length (by omega) ?_
    refine Sx.lr 0 5 4 1 4 gi1 M.length M.length (i * 1) (bls M.length f) H7 (.bool (f i)) (ld_b (I := f) (by omega)) ?_
    refine Sx.br 3 (!(f i)) (fun h_c32 => ?_) (fun h_c32 => ?_)
    · skip
      have hf : f i = false := by simpa using h_c32
      have p_c32 := h_c32; try simp [-List.getD_eq_getElem?_getD] at p_c32
      refine Sx.v 6 (.int .i64 (IntKind.i64.wrap (((i : Nat) : Int) + (1 : Int)))) (.int .i64 ((i + 1 : Nat) : Int)) (congrArg (Value.int .i64) (Gx.i64n (by omega) (by omega))) ?_
      refine Sx.sl 0 7 (.int .i64 ((nx M f i : Nat) : Int)) (.int .i64 ((nx M f (i + 1) : Nat) : Int)) (by rw [nx_no hf]) ?_
      have H8 := H7; rw [show mpZ mt M f i = mpZ mt M f (i + 1) from by unfold mpZ; rw [mpl_no hf], ks_no hf] at H8
      refine Sx.sl 0 8 (.slice Q ((ks f i).length) q) (.slice Q (ks f (i + 1)).length q) (by rw [ks_no hf]) ?_
      have H9 := H8.pick (a := [.blk gh (.cells #[.int .i64 ((N : Nat) : Int), .slice A M.length c] 30), .own 46 4 A c M.length (ths M.length (adr M) (thM M) G), rwsI M.length G (lnM M) (fld M), .own 59 1 pa pc n (pls gr n), .own 43 2 (some ⟨gr, 0, none⟩) n n (cls n Rt), .own 4 1 (some ⟨gi1, 0, none⟩) M.length M.length (bls M.length f), mpZ mt M f (i + 1), .own 46 4 Q q ((ks f (i + 1)).length) (ths ((ks f (i + 1)).length) (aK M f) (tK M f) (gK G M f))]) [0, 0, 0, 0, 0, 0, 0, 0] (by kernel_rfl)
      exact Sx.to 2 [(0, .pointer (some ⟨gh, 0, none⟩)), (1, .slice pa n pc), (5, .slice (some ⟨gi1, 0, none⟩) M.length M.length), (6, .map (some mt)), (7, .int .i64 ((nx M f (i + 1) : Nat) : Int)), (8, .slice Q ((ks f (i + 1)).length) q), (9, .int .i64 ((i + 1 : Nat) : Int))] (hK1 _ _ _ _ (by omega) ⟨i + 1, Q, q, rfl, rfl, H9, (by omega)⟩)
    have hf : f i = true := by simpa using h_c32
    have hat := adr_tots hil; have hnl := nx_le (f := f) (Nat.le_of_lt hil); have hki : (ks f i).length ≤ i := by have := List.length_filter_le f (List.range i); rwa [List.length_range] at this
    have p_c32 := h_c32; try simp [-List.getD_eq_getElem?_getD] at p_c32
    obtain ⟨ga1, hga1⟩ := H7.row 1 (A := A) (e := 46) (sz := 4) (cap := c) (n := M.length) (xs := (ths M.length (adr M) (thM M) G)) (by kernel_rfl) (by omega)
    subst hga1
    refine Sx.nz 2 (.code (Sx.cat [1, 1, 1, 1, 1, 0, 1, 0, 0, 1, 0, 0, 1] (Sx.bodyOf Try.f14))) [.blk 1, .code (Sx.cat [1, 1, 1, 1, 1, 0, 1, 0, 0, 1, 1] (Sx.bodyOf Try.f14)), .to K1, .blk 0, .code (Sx.cat [1, 1, 1, 1, 1, 1] (Sx.bodyOf Try.f14))] [(0, .pointer (some ⟨gh, 0, none⟩)), (1, .slice pa n pc), (5, .slice (some ⟨gi1, 0, none⟩) M.length M.length), (6, .map (some mt)), (7, .int .i64 ((nx M f i : Nat) : Int)), (8, .slice Q ((ks f i).length) q), (9, .int .i64 ((i : Nat) : Int))] fun b3 => ?_
    refine Sx.l 5 0 H7 ?_
    refine Sx.ir 1 ga1 i 4 M.length c (by omega) ?_
    refine Sx.lr 0 1 46 4 46 ga1 c M.length (i * 4) (ths M.length (adr M) (thM M) G) H7 (.agg #[.int .i64 ((adr M i : Nat) : Int), .int .i64 ((thM M i).kd), .int .i64 ((thM M i).tg), .slice (some ⟨(G i), 0, none⟩) ((thM M i).l.length) ((thM M i).l.length)]) (ld_t (m := M.length) (i := i) (a := (adr M)) (T := (thM M)) (G := G) (by omega)) ?_
    refine Sx.nw 0 H7 fun k1 w4 H10 => ?_
    refine Sx.s 0 8 H10 fun w5 H11 => ?_
    refine Sx.l 6 8 H11 ?_
    refine Sx.mu 1 6 H11 (t := 69) (kt := 3) (et := 3) (kd := .int .i64) (enc := encZ) (bt := mt) (mp := mpl M f i) ((adr M i : Nat) : Int) (.int .i64 ((nx M f i : Nat) : Int)) (by kernel_rfl) keyZ injZ bitsZ fun w6 H12 => ?_
    have H13 := H12; rw [upd_mpl hil hf] at H13
    refine Sx.s 6 8 H13 fun w7 H14 => ?_
    refine Sx.v 5 (.int .i64 (IntKind.i64.wrap (((nx M f i : Nat) : Int) + (1 : Int)))) (.int .i64 (((nx M f i) + 1 : Nat) : Int)) (congrArg (Value.int .i64) (Gx.i64n (by omega) (by omega))) ?_
    refine Sx.l 1 8 H14 ?_
    refine Sx.v 1 (.int .i64 (IntKind.i64.wrap ((((nx M f i) + 1 : Nat) : Int) + (((thM M i).l.length : Nat) : Int)))) (.int .i64 ((nx M f (i + 1) : Nat) : Int)) (congrArg (Value.int .i64) (by rw [IntWalk.i64_in _ (by omega), nx_yes (thM_get hil) hf]; omega)) ?_
    refine Sx.l 5 8 H14 ?_
    refine Sx.nw 0 H14 fun k2 w8 H15 => ?_
    refine Sx.ap 0 7 9 48 1 0 46 4 28 1 k2 Q q ((ks f i).length) (ths ((ks f i).length) (aK M f) (tK M f) (gK G M f)) [.int .i64 ((nx M f i : Nat) : Int), .int .i64 ((thM M i).kd), .int .i64 ((thM M i).tg), .slice (some ⟨(G i), 0, none⟩) ((thM M i).l.length) ((thM M i).l.length)] H15 (by omega) (by omega) (ths_kt' G hil hf) fun A1 cap1 w9 H16 => ?_
    refine Sx.nz 4 (.code (Sx.cat [1, 1, 1, 1, 1, 0, 1, 0, 0, 1, 1] (Sx.bodyOf Try.f14))) [.to K1, .blk 0, .code (Sx.cat [1, 1, 1, 1, 1, 1] (Sx.bodyOf Try.f14))] [(0, .pointer (some ⟨gh, 0, none⟩)), (1, .slice pa n pc), (5, .slice (some ⟨gi1, 0, none⟩) M.length M.length), (6, .map (some mt)), (7, .int .i64 ((nx M f (i + 1) : Nat) : Int)), (8, .slice A1 ((ks f i).length + 1) cap1), (9, .int .i64 ((i : Nat) : Int))] fun b4 => ?_
    refine Sx.v 2 (.int .i64 (IntKind.i64.wrap (((i : Nat) : Int) + (1 : Int)))) (.int .i64 ((i + 1 : Nat) : Int)) (congrArg (Value.int .i64) (Gx.i64n (by omega) (by omega))) ?_
    have H17 := H16; rw [ks_yes hf] at H17
    refine Sx.sl 0 8 (.slice A1 ((ks f i).length + 1) cap1) (.slice A1 (ks f (i + 1)).length cap1) (by rw [ks_yes hf]) ?_
    have H18 := H17.pick (a := [.blk gh (.cells #[.int .i64 ((N : Nat) : Int), .slice (some ⟨ga1, 0, none⟩) M.length c] 30), .own 46 4 (some ⟨ga1, 0, none⟩) c M.length (ths M.length (adr M) (thM M) G), rwsI M.length G (lnM M) (fld M), .own 59 1 pa pc n (pls gr n), .own 43 2 (some ⟨gr, 0, none⟩) n n (cls n Rt), .own 4 1 (some ⟨gi1, 0, none⟩) M.length M.length (bls M.length f), mpZ mt M f (i + 1), .own 46 4 A1 cap1 ((ks f (i + 1)).length) (ths ((ks f (i + 1)).length) (aK M f) (tK M f) (gK G M f))]) [0, 0, 0, 0, 0, 0, 0, 0] (by kernel_rfl)
    exact Sx.to 2 [(0, .pointer (some ⟨gh, 0, none⟩)), (1, .slice pa n pc), (5, .slice (some ⟨gi1, 0, none⟩) M.length M.length), (6, .map (some mt)), (7, .int .i64 ((nx M f (i + 1) : Nat) : Int)), (8, .slice A1 ((ks f (i + 1)).length) cap1), (9, .int .i64 ((i + 1 : Nat) : Int))] (hK1 _ _ _ _ (by omega) ⟨i + 1, A1, cap1, rfl, rfl, H18, (by omega)⟩)
  refine Sx.nz 5 (.code (Sx.cat [1, 1, 1, 1, 1, 1] (Sx.bodyOf Try.f14))) [] [(0, .pointer (some ⟨gh, 0, none⟩)), (1, .slice pa n pc), (6, .map (some mt)), (7, .int .i64 ((nx M f i : Nat) : Int)), (8, .slice Q ((ks f i).length) q)] fun b5 => ?_
  have p_c25 := of_decide_eq_false h_c25
  have hend : i = M.length := by omega
  subst hend
  have H19 := rw_kept H7 2 (M := M) f (G := G) (by kernel_rfl)
  have H20 := H19.pick (a := [.blk gh (.cells #[.int .i64 ((N : Nat) : Int), .slice A M.length c] 30), rwsI ((ks f M.length).length) (gK G M f) (lnK M f) (fldK M f), .own 59 1 pa pc n (pls gr n), .own 43 2 (some ⟨gr, 0, none⟩) n n (cls n Rt), mpZ mt M f M.length, .own 46 4 Q q ((ks f M.length).length) (ths ((ks f M.length).length) (aK M f) (tK M f) (gK G M f))]) [0, 1, 1, 1, 2, 2] (by kernel_rfl)
  refine Sx.s 6 0 H20 fun w10 H21 => ?_
  have H22 := H21; rw [← trF_zero M f] at H22
  have H23 := H22.pick (a := [.blk gh (.cells #[.int .i64 ((N : Nat) : Int), .slice Q ((ks f M.length).length) q] 30), rwsI ((ks f M.length).length) (gK G M f) (lnK M f) (trF M f 0 0), .own 59 1 pa pc n (pls gr n), .own 43 2 (some ⟨gr, 0, none⟩) n n (cls n Rt), mpZ mt M f M.length, .own 46 4 Q q ((ks f M.length).length) (ths ((ks f M.length).length) (aK M f) (tK M f) (gK G M f))]) [0, 0, 0, 0, 0, 0] (by kernel_rfl)
  refine Sx.lp 9 (fun z l' w' => ∃ (i : Nat), l' = [(1, .slice pa n pc), (6, .map (some mt)), (7, .int .i64 ((nx M f M.length : Nat) : Int)), (8, .slice Q ((ks f M.length).length) q), (11, .int .i64 ((i : Nat) : Int))] ∧ z = (ks f M.length).length - i ∧ Hs w L0 w' [.blk gh (.cells #[.int .i64 ((N : Nat) : Int), .slice Q ((ks f M.length).length) q] 30), rwsI ((ks f M.length).length) (gK G M f) (lnK M f) (trF M f i 0), .own 59 1 pa pc n (pls gr n), .own 43 2 (some ⟨gr, 0, none⟩) n n (cls n Rt), mpZ mt M f M.length, .own 46 4 Q q ((ks f M.length).length) (ths ((ks f M.length).length) (aK M f) (tK M f) (gK G M f))] ∧ (i ≤ (ks f M.length).length)) _ [(1, .slice pa n pc), (6, .map (some mt)), (7, .int .i64 ((nx M f M.length : Nat) : Int)), (8, .slice Q ((ks f M.length).length) q), (11, .int .i64 ((0 : Nat) : Int))] ⟨0, rfl, rfl, H23, (Nat.zero_le _)⟩ (fun b6 z2 l2 w11 hI2 K2 hK2 => ?_)
  obtain ⟨i, rfl, rfl, H24, hi2⟩ := hI2
  refine Sx.br 9 (decide (((i : Nat) : Int) < (((ks f M.length).length : Nat) : Int))) (fun h_c63 => ?_) (fun h_c63 => ?_)
  · skip
    have p_c63 := of_decide_eq_true h_c63
    have hik : i < (ks f M.length).length := by omega
    obtain ⟨hk1, hk2, hk3⟩ := kt_of (M := M) hik
    have hlk : lnK M f i = (tK M f i).l.length := rfl
    have hat := adr_tots hk1
    have hlt : (tK M f i).l.length = (thM M (kt M f i)).l.length := rfl
    obtain ⟨ga2, hga2⟩ := H24.row 5 (A := Q) (e := 46) (sz := 4) (cap := q) (n := ((ks f M.length).length)) (xs := (ths ((ks f M.length).length) (aK M f) (tK M f) (gK G M f))) (by kernel_rfl) (by omega)
    subst hga2
    refine Sx.nz 9 (.code (Sx.cat [1, 1, 1, 1, 1, 1, 1, 0, 1, 0, 0, 1, 0, 0, 1] (Sx.bodyOf Try.f14))) [.blk 3, .code (Sx.cat [1, 1, 1, 1, 1, 1, 1, 0, 1, 0, 0, 1, 1] (Sx.bodyOf Try.f14)), .to K2, .blk 2, .code (Sx.cat [1, 1, 1, 1, 1, 1, 1, 1] (Sx.bodyOf Try.f14))] [(1, .slice pa n pc), (6, .map (some mt)), (7, .int .i64 ((nx M f M.length : Nat) : Int)), (8, .slice (some ⟨ga2, 0, none⟩) ((ks f M.length).length) q), (11, .int .i64 ((i : Nat) : Int)), (12, .int .i64 0)] fun b7 => ?_
    have H25 := H24.pick (a := [.blk gh (.cells #[.int .i64 ((N : Nat) : Int), .slice (some ⟨ga2, 0, none⟩) ((ks f M.length).length) q] 30), rwsI ((ks f M.length).length) (gK G M f) (lnK M f) (trF M f i 0), .own 59 1 pa pc n (pls gr n), .own 43 2 (some ⟨gr, 0, none⟩) n n (cls n Rt), mpZ mt M f M.length, .own 46 4 (some ⟨ga2, 0, none⟩) q ((ks f M.length).length) (ths ((ks f M.length).length) (aK M f) (tK M f) (gK G M f))]) [0, 0, 0, 0, 0, 0] (by kernel_rfl)
    refine Sx.lp 1 (fun z l' w' => ∃ (j : Nat), l' = [(1, .slice pa n pc), (6, .map (some mt)), (7, .int .i64 ((nx M f M.length : Nat) : Int)), (8, .slice (some ⟨ga2, 0, none⟩) ((ks f M.length).length) q), (11, .int .i64 ((i : Nat) : Int)), (12, .int .i64 ((j : Nat) : Int))] ∧ z = (tK M f i).l.length - j ∧ Hs w L0 w' [.blk gh (.cells #[.int .i64 ((N : Nat) : Int), .slice (some ⟨ga2, 0, none⟩) ((ks f M.length).length) q] 30), rwsI ((ks f M.length).length) (gK G M f) (lnK M f) (trF M f i j), .own 59 1 pa pc n (pls gr n), .own 43 2 (some ⟨gr, 0, none⟩) n n (cls n Rt), mpZ mt M f M.length, .own 46 4 (some ⟨ga2, 0, none⟩) q ((ks f M.length).length) (ths ((ks f M.length).length) (aK M f) (tK M f) (gK G M f))] ∧ (j ≤ (tK M f i).l.length)) _ [(1, .slice pa n pc), (6, .map (some mt)), (7, .int .i64 ((nx M f M.length : Nat) : Int)), (8, .slice (some ⟨ga2, 0, none⟩) ((ks f M.length).length) q), (11, .int .i64 ((i : Nat) : Int)), (12, .int .i64 ((0 : Nat) : Int))] ⟨0, rfl, rfl, H25, (Nat.zero_le _)⟩ (fun b8 z3 l3 w12 hI3 K3 hK3 => ?_)
    obtain ⟨j, rfl, rfl, H26, hj⟩ := hI3
    refine Sx.ir 6 ga2 i 4 ((ks f M.length).length) q (by omega) ?_
    refine Sx.lr 1 5 46 4 31 ga2 q ((ks f M.length).length) (i * 4 + 3) (ths ((ks f M.length).length) (aK M f) (tK M f) (gK G M f)) H26 (.slice (some ⟨(gK G M f i), 0, none⟩) ((tK M f i).l.length) ((tK M f i).l.length)) (ld_tl (m := ((ks f M.length).length)) (i := i) (a := (aK M f)) (T := (tK M f)) (G := (gK G M f)) (by omega)) ?_
    refine Sx.br 4 (decide (((j : Nat) : Int) < (((tK M f i).l.length : Nat) : Int))) (fun h_c73 => ?_) (fun h_c73 => ?_)
    · skip
      have p_c73 := of_decide_eq_true h_c73
      have hjl : j < (tK M f i).l.length := by omega
      refine Sx.ir 8 ga2 i 4 ((ks f M.length).length) q (by omega) ?_
      refine Sx.lr 1 5 46 4 31 ga2 q ((ks f M.length).length) (i * 4 + 3) (ths ((ks f M.length).length) (aK M f) (tK M f) (gK G M f)) H26 (.slice (some ⟨(gK G M f i), 0, none⟩) ((tK M f i).l.length) ((tK M f i).l.length)) (ld_tl (m := ((ks f M.length).length)) (i := i) (a := (aK M f)) (T := (tK M f)) (G := (gK G M f)) (by omega)) ?_
      refine Sx.ir 1 (gK G M f i) j 2 ((tK M f i).l.length) ((tK M f i).l.length) (by omega) ?_
      refine Sx.fa 0 (⟨(gK G M f i), j * 2, none⟩) 0 ?_
      refine Sx.lo (c := 1) (t := 4) 0 [.bool ((fldK M f i j).p)] (.bool ((fldK M f i j).p)) (by have h := (rw_ldp (m := ((ks f M.length).length)) (G := (gK G M f)) (ln := (lnK M f)) (F := (trF M f i j)) (i := i) (j := j) (H26.at 1 (by kernel_rfl)) (by omega) (by omega)); rw [trF_at] at h; exact h) ?_
      refine Sx.nz 2 (.code (Sx.cat [1, 1, 1, 1, 1, 1, 1, 0, 1, 0, 0, 1, 0, 0, 1, 0, 0, 1, 0, 0, 1] (Sx.bodyOf Try.f14))) [.blk 5, .code (Sx.cat [1, 1, 1, 1, 1, 1, 1, 0, 1, 0, 0, 1, 0, 0, 1, 0, 0, 1, 1] (Sx.bodyOf Try.f14)), .to K3, .blk 4, .blk 3, .code (Sx.cat [1, 1, 1, 1, 1, 1, 1, 0, 1, 0, 0, 1, 1] (Sx.bodyOf Try.f14)), .to K2, .blk 2, .code (Sx.cat [1, 1, 1, 1, 1, 1, 1, 1] (Sx.bodyOf Try.f14))] [(1, .slice pa n pc), (6, .map (some mt)), (7, .int .i64 ((nx M f M.length : Nat) : Int)), (8, .slice (some ⟨ga2, 0, none⟩) ((ks f M.length).length) q), (11, .int .i64 ((i : Nat) : Int)), (12, .int .i64 ((j : Nat) : Int)), (84, .bool ((fldK M f i j).p))] fun b9 => ?_
      refine Sx.br 0 ((fldK M f i j).p) (fun h_c84 => ?_) (fun h_c84 => ?_)
      · skip
        have p_c84 := h_c84; try simp [-List.getD_eq_getElem?_getD] at p_c84
        have hcm : fldK M f i j ∈ (thM M (kt M f i)).l := fld_mem hjl
        obtain ⟨kq, hkq⟩ := hwf.fld _ (thM_mem hk1) _ hcm h_c84; have hkl := hkq.2.1
        have hrr : Rc M (rts Rt n) (kt M f i) := rb_iff.1 (hfd ▸ hk2)
        have hfq : f kq = true := by rw [hfd]; exact rb_iff.2 (.fld hrr (thM_get hk1) hcm hkq)
        refine Sx.dr 0 H26 [5, 1, 4] [19] (LJ := [.own 46 4 (some ⟨ga2, 0, none⟩) q ((ks f M.length).length) (ths ((ks f M.length).length) (aK M f) (tK M f) (gK G M f)), rwsI ((ks f M.length).length) (gK G M f) (lnK M f) (trF M f i j), mpZ mt M f M.length]) (by kernel_rfl) fun w13 H27 => ?_
        refine Sx.tk [(0, none), (1, none)] (fun _ => (H27.sub [5, 1, 3] (by kernel_rfl))) ?_
        refine Sx.tvg 2 [3, 4, 17, 18, 19] ga2 i 4 ((ks f M.length).length) q (by omega) (fun _ => (H27.sub [5, 1, 3] (by kernel_rfl))) ?_
        refine Sx.tk [(3, none)] (fun _ => (H27.sub [5, 1, 3] (by kernel_rfl))) ?_
        refine Sx.tvl 4 [17, 18, 19] 0 46 4 31 ga2 q ((ks f M.length).length) (i * 4 + 3) (ths ((ks f M.length).length) (aK M f) (tK M f) (gK G M f)) (.slice (some ⟨(gK G M f i), 0, none⟩) ((tK M f i).l.length) ((tK M f i).l.length)) (ld_tl (m := ((ks f M.length).length)) (i := i) (a := (aK M f)) (T := (tK M f)) (G := (gK G M f)) (by omega)) (fun _ => (H27.sub [5, 1, 3] (by kernel_rfl))) ?_
        refine Sx.tk [(5, none), (6, none), (7, none), (8, none)] (fun _ => (H27.sub [5, 1, 3] (by kernel_rfl))) ?_
        refine Sx.tvg 9 [10, 11, 13, 14, 15, 16, 17, 18, 19] ga2 i 4 ((ks f M.length).length) q (by omega) (fun _ => (H27.sub [5, 1, 3] (by kernel_rfl))) ?_
        refine Sx.tk [(10, none)] (fun _ => (H27.sub [5, 1, 3] (by kernel_rfl))) ?_
        refine Sx.tvl 11 [13, 14, 15, 16, 17, 18, 19] 0 46 4 31 ga2 q ((ks f M.length).length) (i * 4 + 3) (ths ((ks f M.length).length) (aK M f) (tK M f) (gK G M f)) (.slice (some ⟨(gK G M f i), 0, none⟩) ((tK M f i).l.length) ((tK M f i).l.length)) (ld_tl (m := ((ks f M.length).length)) (i := i) (a := (aK M f)) (T := (tK M f)) (G := (gK G M f)) (by omega)) (fun _ => (H27.sub [5, 1, 3] (by kernel_rfl))) ?_
        refine Sx.tk [(12, none)] (fun _ => (H27.sub [5, 1, 3] (by kernel_rfl))) ?_
        refine Sx.tvg 13 [14, 15, 16, 17, 18, 19] (gK G M f i) j 2 ((tK M f i).l.length) ((tK M f i).l.length) (by omega) (fun _ => (H27.sub [5, 1, 3] (by kernel_rfl))) ?_
        refine Sx.tvf 14 [15, 16, 17, 18, 19] (⟨(gK G M f i), j * 2, none⟩) 1 (fun _ => (H27.sub [5, 1, 3] (by kernel_rfl))) ?_
        refine Sx.tvo (c := 1) (t := 3) 15 [16, 17, 18, 19] [.int .i64 ((adr M kq : Nat) : Int)] (.int .i64 ((adr M kq : Nat) : Int)) (fun w' hs => (by have h := (rw_ldn (m := ((ks f M.length).length)) (G := (gK G M f)) (ln := (lnK M f)) (F := (trF M f i j)) (i := i) (j := j) (hs.all _ (List.mem_of_getElem? (i := 1) (by kernel_rfl))) (by omega) (by omega)); rw [trF_at, hkq.2.2] at h; exact h)) (fun _ => (H27.sub [5, 1, 3] (by kernel_rfl))) ?_
        refine Sx.tvk0 16 [17, 18, 19] 2 (t := 69) (kt := 3) (et := 3) (kd := .int .i64) (enc := encZ) (bt := mt) (mp := mpl M f M.length) ((adr M kq : Nat) : Int) (.int .i64 0) (.int .i64 ((nx M f kq : Nat) : Int)) keyZ injZ (look_mpl hkl hfq) (fun _ => (H27.sub [5, 1, 3] (by kernel_rfl))) ?_ (by kernel_rfl) (by kernel_rfl) (by kernel_rfl) (by kernel_rfl) (by kernel_rfl) (by kernel_rfl)
        refine Sx.tvg 17 [18, 19] (gK G M f i) j 2 ((tK M f i).l.length) ((tK M f i).l.length) (by omega) (fun _ => (H27.sub [5, 1, 3] (by kernel_rfl))) ?_
        refine Sx.tvf 18 [19] (⟨(gK G M f i), j * 2, none⟩) 1 (fun _ => (H27.sub [5, 1, 3] (by kernel_rfl))) ?_
        refine Sx.nmx ?_
        intro zx1
        refine Sx.on 19 ?_
        refine Sx.srw 0 1 i 3 (j * 2 + 1) ((ks f M.length).length) (gK G M f) (lnK M f) (trF M f i j) (.int .i64 ((nx M f kq : Nat) : Int)) H27 (by omega) (F' := (trF M f i (j + 1))) (by show j * 2 + 1 + 1 ≤ lnK M f i * 2; rw [hlk]; omega) (trF_set (by rw [hlk]; omega) hkq) (trF_ne M f i j) fun w14 H28 => ?_
        refine Sx.bk (x := zx1) 19 (fun h => Sx.nope h (by kernel_rfl)) ?_
        refine Sx.dn ?_
        refine Sx.nz 2 (.code (Sx.cat [1, 1, 1, 1, 1, 1, 1, 0, 1, 0, 0, 1, 0, 0, 1, 0, 0, 1, 1] (Sx.bodyOf Try.f14))) [.to K3, .blk 4, .blk 3, .code (Sx.cat [1, 1, 1, 1, 1, 1, 1, 0, 1, 0, 0, 1, 1] (Sx.bodyOf Try.f14)), .to K2, .blk 2, .code (Sx.cat [1, 1, 1, 1, 1, 1, 1, 1] (Sx.bodyOf Try.f14))] [(1, .slice pa n pc), (6, .map (some mt)), (7, .int .i64 ((nx M f M.length : Nat) : Int)), (8, .slice (some ⟨ga2, 0, none⟩) ((ks f M.length).length) q), (11, .int .i64 ((i : Nat) : Int)), (12, .int .i64 ((j : Nat) : Int))] fun b10 => ?_
        refine Sx.v 2 (.int .i64 (IntKind.i64.wrap (((j : Nat) : Int) + (1 : Int)))) (.int .i64 ((j + 1 : Nat) : Int)) (congrArg (Value.int .i64) (Gx.i64n (by omega) (by omega))) ?_
        have H29 := H28.pick (a := [.blk gh (.cells #[.int .i64 ((N : Nat) : Int), .slice (some ⟨ga2, 0, none⟩) ((ks f M.length).length) q] 30), rwsI ((ks f M.length).length) (gK G M f) (lnK M f) (trF M f i (j + 1)), .own 59 1 pa pc n (pls gr n), .own 43 2 (some ⟨gr, 0, none⟩) n n (cls n Rt), mpZ mt M f M.length, .own 46 4 (some ⟨ga2, 0, none⟩) q ((ks f M.length).length) (ths ((ks f M.length).length) (aK M f) (tK M f) (gK G M f))]) [0, 0, 0, 0, 0, 0] (by kernel_rfl)
        exact Sx.to 2 [(1, .slice pa n pc), (6, .map (some mt)), (7, .int .i64 ((nx M f M.length : Nat) : Int)), (8, .slice (some ⟨ga2, 0, none⟩) ((ks f M.length).length) q), (11, .int .i64 ((i : Nat) : Int)), (12, .int .i64 ((j + 1 : Nat) : Int))] (hK3 _ _ _ _ (by omega) ⟨j + 1, rfl, rfl, H29, (by omega)⟩)
      have H30 := H26; rw [← trF_no h_c84] at H30
      refine Sx.nz 3 (.code (Sx.cat [1, 1, 1, 1, 1, 1, 1, 0, 1, 0, 0, 1, 0, 0, 1, 0, 0, 1, 1] (Sx.bodyOf Try.f14))) [.to K3, .blk 4, .blk 3, .code (Sx.cat [1, 1, 1, 1, 1, 1, 1, 0, 1, 0, 0, 1, 1] (Sx.bodyOf Try.f14)), .to K2, .blk 2, .code (Sx.cat [1, 1, 1, 1, 1, 1, 1, 1] (Sx.bodyOf Try.f14))] [(1, .slice pa n pc), (6, .map (some mt)), (7, .int .i64 ((nx M f M.length : Nat) : Int)), (8, .slice (some ⟨ga2, 0, none⟩) ((ks f M.length).length) q), (11, .int .i64 ((i : Nat) : Int)), (12, .int .i64 ((j : Nat) : Int))] fun b11 => ?_
      have p_c84 := h_c84; try simp [-List.getD_eq_getElem?_getD] at p_c84
      refine Sx.v 2 (.int .i64 (IntKind.i64.wrap (((j : Nat) : Int) + (1 : Int)))) (.int .i64 ((j + 1 : Nat) : Int)) (congrArg (Value.int .i64) (Gx.i64n (by omega) (by omega))) ?_
      have H31 := H30.pick (a := [.blk gh (.cells #[.int .i64 ((N : Nat) : Int), .slice (some ⟨ga2, 0, none⟩) ((ks f M.length).length) q] 30), rwsI ((ks f M.length).length) (gK G M f) (lnK M f) (trF M f i (j + 1)), .own 59 1 pa pc n (pls gr n), .own 43 2 (some ⟨gr, 0, none⟩) n n (cls n Rt), mpZ mt M f M.length, .own 46 4 (some ⟨ga2, 0, none⟩) q ((ks f M.length).length) (ths ((ks f M.length).length) (aK M f) (tK M f) (gK G M f))]) [0, 0, 0, 0, 0, 0] (by kernel_rfl)
      exact Sx.to 2 [(1, .slice pa n pc), (6, .map (some mt)), (7, .int .i64 ((nx M f M.length : Nat) : Int)), (8, .slice (some ⟨ga2, 0, none⟩) ((ks f M.length).length) q), (11, .int .i64 ((i : Nat) : Int)), (12, .int .i64 ((j + 1 : Nat) : Int))] (hK3 _ _ _ _ (by omega) ⟨j + 1, rfl, rfl, H31, (by omega)⟩)
    refine Sx.nz 6 (.code (Sx.cat [1, 1, 1, 1, 1, 1, 1, 0, 1, 0, 0, 1, 1] (Sx.bodyOf Try.f14))) [.to K2, .blk 2, .code (Sx.cat [1, 1, 1, 1, 1, 1, 1, 1] (Sx.bodyOf Try.f14))] [(1, .slice pa n pc), (6, .map (some mt)), (7, .int .i64 ((nx M f M.length : Nat) : Int)), (8, .slice (some ⟨ga2, 0, none⟩) ((ks f M.length).length) q), (11, .int .i64 ((i : Nat) : Int))] fun b12 => ?_
    have p_c73 := of_decide_eq_false h_c73
    refine Sx.v 2 (.int .i64 (IntKind.i64.wrap (((i : Nat) : Int) + (1 : Int)))) (.int .i64 ((i + 1 : Nat) : Int)) (congrArg (Value.int .i64) (Gx.i64n (by omega) (by omega))) ?_
    have H32 := rw_row H26 1 (M := M) (f := f) (K := (ks f M.length).length) (G := gK G M f) (r := i) (j := j) (by rw [hlk]; omega) (by kernel_rfl)
    have H33 := H32.pick (a := [.blk gh (.cells #[.int .i64 ((N : Nat) : Int), .slice (some ⟨ga2, 0, none⟩) ((ks f M.length).length) q] 30), rwsI ((ks f M.length).length) (gK G M f) (lnK M f) (trF M f (i + 1) 0), .own 59 1 pa pc n (pls gr n), .own 43 2 (some ⟨gr, 0, none⟩) n n (cls n Rt), mpZ mt M f M.length, .own 46 4 (some ⟨ga2, 0, none⟩) q ((ks f M.length).length) (ths ((ks f M.length).length) (aK M f) (tK M f) (gK G M f))]) [0, 0, 0, 0, 0, 0] (by kernel_rfl)
    exact Sx.to 2 [(1, .slice pa n pc), (6, .map (some mt)), (7, .int .i64 ((nx M f M.length : Nat) : Int)), (8, .slice (some ⟨ga2, 0, none⟩) ((ks f M.length).length) q), (11, .int .i64 ((i + 1 : Nat) : Int))] (hK2 _ _ _ _ (by omega) ⟨i + 1, rfl, rfl, H33, (by omega)⟩)
  refine Sx.nz 5 (.code (Sx.cat [1, 1, 1, 1, 1, 1, 1, 1] (Sx.bodyOf Try.f14))) [] [(1, .slice pa n pc), (6, .map (some mt)), (7, .int .i64 ((nx M f M.length : Nat) : Int))] fun b13 => ?_
  have p_c63 := of_decide_eq_false h_c63
  have he2 : i = (ks f M.length).length := by omega
  have H34 := H24; rw [show trF M f i 0 = trF M f (ks f M.length).length 0 from by rw [he2]] at H34
  refine Sx.nw 2 H34 fun md w15 H35 => ?_
  have H36 := pj_new gr (bt := md) (i := 6) H35 (by kernel_rfl)
  have H37 := H36; rw [show cls n Rt = cls n (RK M f Rt 0) from by rw [RK_zero]] at H37
  have H38 := H37.pick (a := [.blk gh (.cells #[.int .i64 ((N : Nat) : Int), .slice Q ((ks f M.length).length) q] 30), rwsI ((ks f M.length).length) (gK G M f) (lnK M f) (trF M f (ks f M.length).length 0), .own 59 1 pa pc n (pls gr n), .own 43 2 (some ⟨gr, 0, none⟩) n n (cls n Rt), mpZ mt M f M.length, .own 46 4 Q q ((ks f M.length).length) (ths ((ks f M.length).length) (aK M f) (tK M f) (gK G M f)), pmJ md gr ([])]) [0, 0, 0, 0, 0, 0, 0] (by kernel_rfl)
  refine Sx.lp 10 (fun z l' w' => ∃ (i : Nat), l' = [(1, .slice pa n pc), (6, .map (some mt)), (7, .int .i64 ((nx M f M.length : Nat) : Int)), (13, .map (some md)), (14, .int .i64 ((i : Nat) : Int))] ∧ z = n - i ∧ Hs w L0 w' [.blk gh (.cells #[.int .i64 ((N : Nat) : Int), .slice Q ((ks f M.length).length) q] 30), rwsI ((ks f M.length).length) (gK G M f) (lnK M f) (trF M f (ks f M.length).length 0), .own 59 1 pa pc n (pls gr n), .own 43 2 (some ⟨gr, 0, none⟩) n n (cls n (RK M f Rt i)), mpZ mt M f M.length, .own 46 4 Q q ((ks f M.length).length) (ths ((ks f M.length).length) (aK M f) (tK M f) (gK G M f)), pmJ md gr (jsP Rt i)] ∧ (i ≤ n)) _ [(1, .slice pa n pc), (6, .map (some mt)), (7, .int .i64 ((nx M f M.length : Nat) : Int)), (13, .map (some md)), (14, .int .i64 ((0 : Nat) : Int))] ⟨0, rfl, rfl, H38, (Nat.zero_le _)⟩ (fun b14 z4 l4 w16 hI4 K4 hK4 => ?_)
  obtain ⟨i, rfl, rfl, H39, hi4⟩ := hI4
  refine Sx.br 9 (decide (((i : Nat) : Int) < ((n : Nat) : Int))) (fun h_c108 => ?_) (fun h_c108 => ?_)
  · skip
    have p_c108 := of_decide_eq_true h_c108
    have hil : i < n := by omega
    obtain ⟨ga3, hga3⟩ := H39.row 2 (A := pa) (e := 59) (sz := 1) (cap := pc) (n := n) (xs := (pls gr n)) (by kernel_rfl) (by omega)
    subst hga3
    refine Sx.cut 4 (fun l' w' => l' = [(1, .slice (some ⟨ga3, 0, none⟩) n pc), (6, .map (some mt)), (7, .int .i64 ((nx M f M.length : Nat) : Int)), (13, .map (some md)), (14, .int .i64 ((i : Nat) : Int)), (126, .bool (((Rt i).p) || false))] ∧ w16 = w') (fun K5 hK5 => ?_) (fun b15 l5 w17 hI5 => ?_)
    · skip
      refine Sx.ir 3 ga3 i 1 n pc (by omega) ?_
      refine Sx.lr 0 2 59 1 59 ga3 pc n (i * 1) (pls gr n) H39 (.pointer (some (⟨gr, i * 2, none⟩))) (pls_ld (by omega)) ?_
      refine Sx.lr 2 3 43 2 4 gr n n (i * 2) (cls n (RK M f Rt i)) H39 (.bool ((Rt i).p)) (by have h := ld_p (P := Try.prog) (t := 4) (N := n) (C := (RK M f Rt i)) (i := i) (by omega); rw [RK_at] at h; exact h) ?_
      refine Sx.sp 1 118 ((Rt i).p) (fun h_g118 => ?_) (fun h_g118 => ?_)
      · skip
        have p_g118 := h_g118; try simp [-List.getD_eq_getElem?_getD] at p_g118
        refine Sx.ir 3 ga3 i 1 n pc (by omega) ?_
        refine Sx.lr 0 2 59 1 59 ga3 pc n (i * 1) (pls gr n) H39 (.pointer (some (⟨gr, i * 2, none⟩))) (pls_ld (by omega)) ?_
        refine Sx.lkJ 0 6 3 i (jsP Rt i) (jsP_not _ _) H39 (bt := md) (g := gr) (t := 66) (e := 43) (sz := 2) (cap := n) (c := n) (xs := cls n (RK M f Rt i)) (kt := 59) (et := 4) (te := 43) (by kernel_rfl) (by kernel_rfl) ?_
        exact Sx.to 3 [(1, .slice (some ⟨ga3, 0, none⟩) n pc), (6, .map (some mt)), (7, .int .i64 ((nx M f M.length : Nat) : Int)), (13, .map (some md)), (14, .int .i64 ((i : Nat) : Int)), (126, .bool (((Rt i).p) || false))] (hK5 _ _ _ ⟨rfl, rfl⟩) (h2 := (by rw [h_g118]; try kernel_rfl))
      exact Sx.to 9 [(1, .slice (some ⟨ga3, 0, none⟩) n pc), (6, .map (some mt)), (7, .int .i64 ((nx M f M.length : Nat) : Int)), (13, .map (some md)), (14, .int .i64 ((i : Nat) : Int)), (126, .bool (((Rt i).p) || false))] (hK5 _ _ _ ⟨rfl, rfl⟩) (h2 := (by rw [h_g118]; try kernel_rfl))
    obtain ⟨rfl, rfl⟩ := hI5
    refine Sx.br 0 (((Rt i).p) || false) (fun h_c126 => ?_) (fun h_c126 => ?_)
    · skip
      have hpi : (Rt i).p = true := by simpa using h_c126
      obtain ⟨kq, hkq⟩ := hwf.root _ (rts_mem hil) hpi; have hkl := hkq.2.1
      have hfq : f kq = true := by rw [hfd]; exact rb_iff.2 (.root (rts_mem hil) hkq)
      have p_c126 := h_c126; try simp [-List.getD_eq_getElem?_getD] at p_c126
      refine Sx.ir 5 ga3 i 1 n pc (by omega) ?_
      refine Sx.lr 0 2 59 1 59 ga3 pc n (i * 1) (pls gr n) H39 (.pointer (some (⟨gr, i * 2, none⟩))) (pls_ld (by omega)) ?_
      refine Sx.muJ 0 6 3 i (jsP Rt i) (jsP_not _ _) H39 (bt := md) (g := gr) (t := 66) (e := 43) (sz := 2) (cap := n) (c := n) (xs := cls n (RK M f Rt i)) (kt := 59) (et := 4) (te := 43) (by kernel_rfl) (by kernel_rfl) fun w18 H40 => ?_
      have H41 := H40; rw [jsP_yes hpi] at H41
      refine Sx.nz 2 (.code (Sx.cat [1, 1, 1, 1, 1, 1, 1, 1, 1, 0, 1, 0, 0, 1, 0, 0, 1, 0, 1] (Sx.bodyOf Try.f14))) [.blk 7, .code (Sx.cat [1, 1, 1, 1, 1, 1, 1, 1, 1, 0, 1, 0, 0, 1, 1] (Sx.bodyOf Try.f14)), .to K4, .blk 6, .code (Sx.cat [1, 1, 1, 1, 1, 1, 1, 1, 1, 1] (Sx.bodyOf Try.f14))] [(1, .slice (some ⟨ga3, 0, none⟩) n pc), (6, .map (some mt)), (7, .int .i64 ((nx M f M.length : Nat) : Int)), (13, .map (some md)), (14, .int .i64 ((i : Nat) : Int))] fun b16 => ?_
      refine Sx.dr 0 H41 [2, 3, 4] [15] (LJ := [.own 59 1 (some ⟨ga3, 0, none⟩) pc n (pls gr n), .own 43 2 (some ⟨gr, 0, none⟩) n n (cls n (RK M f Rt i)), mpZ mt M f M.length]) (by kernel_rfl) fun w19 H42 => ?_
      refine Sx.tk [(0, none), (1, none)] (fun _ => (H42.sub [2, 2, 2] (by kernel_rfl))) ?_
      refine Sx.tvg 2 [3, 13, 14, 15] ga3 i 1 n pc (by omega) (fun _ => (H42.sub [2, 2, 2] (by kernel_rfl))) ?_
      refine Sx.tvl 3 [13, 14, 15] 0 59 1 59 ga3 pc n (i * 1) (pls gr n) (.pointer (some (⟨gr, i * 2, none⟩))) (pls_ld (by omega)) (fun _ => (H42.sub [2, 2, 2] (by kernel_rfl))) ?_
      refine Sx.tk [(4, none), (5, none), (6, none)] (fun _ => (H42.sub [2, 2, 2] (by kernel_rfl))) ?_
      refine Sx.tvg 7 [8, 9, 10, 11, 12, 13, 14, 15] ga3 i 1 n pc (by omega) (fun _ => (H42.sub [2, 2, 2] (by kernel_rfl))) ?_
      refine Sx.tvl 8 [9, 10, 11, 12, 13, 14, 15] 0 59 1 59 ga3 pc n (i * 1) (pls gr n) (.pointer (some (⟨gr, i * 2, none⟩))) (pls_ld (by omega)) (fun _ => (H42.sub [2, 2, 2] (by kernel_rfl))) ?_
      refine Sx.tk [(9, none), (10, none)] (fun _ => (H42.sub [2, 2, 2] (by kernel_rfl))) ?_
      refine Sx.tvl 11 [12, 13, 14, 15] 1 43 2 3 gr n n (i * 2 + 1) (cls n (RK M f Rt i)) (.int .i64 ((adr M kq : Nat) : Int)) (by have h := ld_n (P := Try.prog) (t := 3) (N := n) (C := (RK M f Rt i)) (i := i) (by omega); rw [RK_at, hkq.2.2] at h; exact h) (fun _ => (H42.sub [2, 2, 2] (by kernel_rfl))) ?_
      refine Sx.tvk0 12 [13, 14, 15] 2 (t := 69) (kt := 3) (et := 3) (kd := .int .i64) (enc := encZ) (bt := mt) (mp := mpl M f M.length) ((adr M kq : Nat) : Int) (.int .i64 0) (.int .i64 ((nx M f kq : Nat) : Int)) keyZ injZ (look_mpl hkl hfq) (fun _ => (H42.sub [2, 2, 2] (by kernel_rfl))) ?_ (by kernel_rfl) (by kernel_rfl) (by kernel_rfl) (by kernel_rfl) (by kernel_rfl) (by kernel_rfl)
      refine Sx.tk [(13, none), (14, none)] (fun _ => (H42.sub [2, 2, 2] (by kernel_rfl))) ?_
      refine Sx.nmx ?_
      intro zx2
      refine Sx.on 15 ?_
      refine Sx.sr 0 3 43 2 3 gr n n (i * 2 + 1) (cls n (RK M f Rt i)) H42 (.int .i64 ((nx M f kq : Nat) : Int)) (by rw [cls_len]; omega) (cls_set (RK M f Rt i) (by omega) _) fun w20 H43 => ?_
      refine Sx.bk (x := zx2) 15 (fun h => Sx.nope h (by kernel_rfl)) ?_
      refine Sx.dn ?_
      refine Sx.nz 2 (.code (Sx.cat [1, 1, 1, 1, 1, 1, 1, 1, 1, 0, 1, 0, 0, 1, 1] (Sx.bodyOf Try.f14))) [.to K4, .blk 6, .code (Sx.cat [1, 1, 1, 1, 1, 1, 1, 1, 1, 1] (Sx.bodyOf Try.f14))] [(1, .slice (some ⟨ga3, 0, none⟩) n pc), (6, .map (some mt)), (7, .int .i64 ((nx M f M.length : Nat) : Int)), (13, .map (some md)), (14, .int .i64 ((i : Nat) : Int))] fun b17 => ?_
      refine Sx.v 2 (.int .i64 (IntKind.i64.wrap (((i : Nat) : Int) + (1 : Int)))) (.int .i64 ((i + 1 : Nat) : Int)) (congrArg (Value.int .i64) (Gx.i64n (by omega) (by omega))) ?_
      have H44 := H43; rw [RK_yes hkq] at H44
      have H45 := H44.pick (a := [.blk gh (.cells #[.int .i64 ((N : Nat) : Int), .slice Q ((ks f M.length).length) q] 30), rwsI ((ks f M.length).length) (gK G M f) (lnK M f) (trF M f (ks f M.length).length 0), .own 59 1 (some ⟨ga3, 0, none⟩) pc n (pls gr n), .own 43 2 (some ⟨gr, 0, none⟩) n n (cls n (RK M f Rt (i + 1))), mpZ mt M f M.length, .own 46 4 Q q ((ks f M.length).length) (ths ((ks f M.length).length) (aK M f) (tK M f) (gK G M f)), pmJ md gr (jsP Rt (i + 1))]) [0, 0, 0, 0, 0, 0, 0] (by kernel_rfl)
      exact Sx.to 2 [(1, .slice (some ⟨ga3, 0, none⟩) n pc), (6, .map (some mt)), (7, .int .i64 ((nx M f M.length : Nat) : Int)), (13, .map (some md)), (14, .int .i64 ((i + 1 : Nat) : Int))] (hK4 _ _ _ _ (by omega) ⟨i + 1, rfl, rfl, H45, (by omega)⟩)
    have hpi : (Rt i).p = false := by simpa using h_c126
    refine Sx.nz 3 (.code (Sx.cat [1, 1, 1, 1, 1, 1, 1, 1, 1, 0, 1, 0, 0, 1, 1] (Sx.bodyOf Try.f14))) [.to K4, .blk 6, .code (Sx.cat [1, 1, 1, 1, 1, 1, 1, 1, 1, 1] (Sx.bodyOf Try.f14))] [(1, .slice (some ⟨ga3, 0, none⟩) n pc), (6, .map (some mt)), (7, .int .i64 ((nx M f M.length : Nat) : Int)), (13, .map (some md)), (14, .int .i64 ((i : Nat) : Int))] fun b18 => ?_
    have p_c126 := h_c126; try simp [-List.getD_eq_getElem?_getD] at p_c126
    refine Sx.v 2 (.int .i64 (IntKind.i64.wrap (((i : Nat) : Int) + (1 : Int)))) (.int .i64 ((i + 1 : Nat) : Int)) (congrArg (Value.int .i64) (Gx.i64n (by omega) (by omega))) ?_
    have H46 := H39; rw [RK_no hpi, jsP_no hpi] at H46
    have H47 := H46.pick (a := [.blk gh (.cells #[.int .i64 ((N : Nat) : Int), .slice Q ((ks f M.length).length) q] 30), rwsI ((ks f M.length).length) (gK G M f) (lnK M f) (trF M f (ks f M.length).length 0), .own 59 1 (some ⟨ga3, 0, none⟩) pc n (pls gr n), .own 43 2 (some ⟨gr, 0, none⟩) n n (cls n (RK M f Rt (i + 1))), mpZ mt M f M.length, .own 46 4 Q q ((ks f M.length).length) (ths ((ks f M.length).length) (aK M f) (tK M f) (gK G M f)), pmJ md gr (jsP Rt (i + 1))]) [0, 0, 0, 0, 0, 0, 0] (by kernel_rfl)
    exact Sx.to 2 [(1, .slice (some ⟨ga3, 0, none⟩) n pc), (6, .map (some mt)), (7, .int .i64 ((nx M f M.length : Nat) : Int)), (13, .map (some md)), (14, .int .i64 ((i + 1 : Nat) : Int))] (hK4 _ _ _ _ (by omega) ⟨i + 1, rfl, rfl, H47, (by omega)⟩)
  refine Sx.nz 5 (.code (Sx.cat [1, 1, 1, 1, 1, 1, 1, 1, 1, 1] (Sx.bodyOf Try.f14))) [] [(7, .int .i64 ((nx M f M.length : Nat) : Int))] fun b19 => ?_
  have p_c108 := of_decide_eq_false h_c108
  have hend : i = n := by omega
  have H48 := rw_done (M := M) (R := Rt) (n := n) (G := gK G M f) H39 1 hfd (by kernel_rfl)
  rw [ths_col hfd, show cls n (RK M f Rt i) = cls n (colR M Rt n) from by rw [hend, RK_all, hfd]; rfl, show (ks f M.length).length = (colM M Rt n).length from by rw [hfd, colM_len]] at H48
  exact Sx.rt 7 [] H48 (.int .i64 ((nx M f M.length : Nat) : Int)) (Gx.ret_as (v' := .int .i64 ((tots (colM M Rt n) : Nat) : Int)) (by rw [colM_tots, hfd]) (hK Q q (gK G M f) _ (pe H48 hL0 [0, 4, 0, 0, 0])))
end Go.Proofs.Ytlddkcdjegcleaa
