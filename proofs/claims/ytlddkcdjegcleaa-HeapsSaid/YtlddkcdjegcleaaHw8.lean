/- A part of the proof (YtlddkcdjegcleaaHw8), printed by a program of ours. -/
import Derived.Test.YtlddkcdjegcleaaProg
import Derived.Test.YtlddkcdjegcleaaHq
import Derived.Test.YtlddkcdjegcleaaHf
import Derived.Test.YtlddkcdjegcleaaHw1
import Derived.Test.YtlddkcdjegcleaaHw2
import Derived.Test.YtlddkcdjegcleaaHw3
import Derived.Test.YtlddkcdjegcleaaHw4
import Derived.Test.YtlddkcdjegcleaaHw5
import Derived.Test.YtlddkcdjegcleaaHw6
import Derived.Test.YtlddkcdjegcleaaHw7
set_option linter.unusedVariables false
set_option linter.unusedSimpArgs false
namespace Go.Proofs.Ytlddkcdjegcleaa
open Go.RowKit Go.Sx Go.Hp
attribute [local irreducible] Go.wpOps Go.Code.wp Go.wpOp Go.wpAnyH Go.Calls Go.Sx.Goal Go.Code.wpIn
set_option maxRecDepth 20000
theorem At_c (gh : Nat) (A : Option Addr) (c N : Nat) (G : Nat → Nat) (M : List Th) (i : Nat) (w : World) (K : Ending → World → Prop) (H0 : Sp w [.blk gh (.cells #[.int .i64 ((N : Nat) : Int), .slice A M.length c] 30), .own 46 4 A c M.length (ths M.length (adr M) (thM M) G)]) (hi : i < M.length) (hm6 : tots M ≤ 1000000) (hK : K (.returned (.int .i64 ((i : Nat) : Int))) w) :
    Calls Try.prog 10 #[.pointer (some ⟨gh, 0, none⟩), .int .i64 ((adr M i : Nat) : Int)] w K := by
  obtain ⟨L0, hL0, H⟩ : ∃ L0, L0 = [.blk gh (.cells #[.int .i64 ((N : Nat) : Int), .slice A M.length c] 30), .own 46 4 A c M.length (ths M.length (adr M) (thM M) G)] ∧ Hs w L0 w [.blk gh (.cells #[.int .i64 ((N : Nat) : Int), .slice A M.length c] 30), .own 46 4 A c M.length (ths M.length (adr M) (thM M) G)] := ⟨_, rfl, Hs.refl H0⟩
  refine Sx.en (vs := [.pointer (some ⟨gh, 0, none⟩), .int .i64 ((adr M i : Nat) : Int)]) 53 Try.func10 ?_
  have hml := len_le M
  obtain ⟨ga1, hga1⟩ := H.row 1 (A := A) (e := 46) (sz := 4) (cap := c) (n := M.length) (xs := (ths M.length (adr M) (thM M) G)) (by kernel_rfl) (by omega)
  subst hga1
  refine Sx.l 15 0 H ?_
  refine Sx.lp 6 (fun z l' w' => ∃ (lo : Nat) (up : Nat), l' = [(0, .pointer (some ⟨gh, 0, none⟩)), (1, .int .i64 ((adr M i : Nat) : Int)), (5, .int .i64 ((lo : Nat) : Int)), (6, .int .i64 ((up : Nat) : Int))] ∧ z = up - lo ∧ w = w' ∧ (lo ≤ i) ∧ (i ≤ up) ∧ (up ≤ M.length)) _ [(0, .pointer (some ⟨gh, 0, none⟩)), (1, .int .i64 ((adr M i : Nat) : Int)), (5, .int .i64 ((0 : Nat) : Int)), (6, .int .i64 ((M.length : Nat) : Int))] ⟨0, M.length, rfl, rfl, rfl, (Nat.zero_le _), (Nat.le_of_lt hi), (Nat.le_refl _)⟩ (fun b1 z1 l1 w1 hI1 K1 hK1 => ?_)
  obtain ⟨lo, up, rfl, rfl, rfl, h1, h2, h3⟩ := hI1
  refine Sx.br 8 (decide (((lo : Nat) : Int) < ((up : Nat) : Int))) (fun h_c15 => ?_) (fun h_c15 => ?_)
  · skip
    have p_c15 := of_decide_eq_true h_c15
    refine Sx.v 7 (.int .i64 (IntKind.i64.wrap (((lo : Nat) : Int) + ((up : Nat) : Int)))) (.int .i64 ((lo + up : Nat) : Int)) (congrArg (Value.int .i64) (Gx.i64n (by omega) (by omega))) ?_
    refine Sx.v 0 (.int .i64 (IntKind.i64.wrap (Int.tdiv ((lo + up : Nat) : Int) (2 : Int)))) (.int .i64 (((lo + up) / 2 : Nat) : Int)) (congrArg (Value.int .i64) (by rw [IntWalk.i64_quo _ _ (by omega)]; omega)) ?_
    refine Sx.l 8 0 H ?_
    refine Sx.ir 1 ga1 ((lo + up) / 2) 4 M.length c (by omega) ?_
    refine Sx.lr 1 1 46 4 3 ga1 c M.length (((lo + up) / 2) * 4) (ths M.length (adr M) (thM M) G) H (.int .i64 ((adr M ((lo + up) / 2) : Nat) : Int)) (ld_tat (m := M.length) (i := ((lo + up) / 2)) (a := (adr M)) (T := (thM M)) (G := G) (by omega)) ?_
    refine Sx.br 4 (decide (((adr M ((lo + up) / 2) : Nat) : Int) < ((adr M i : Nat) : Int))) (fun h_c29 => ?_) (fun h_c29 => ?_)
    · skip
      have p_c29 := of_decide_eq_true h_c29
      refine Sx.v 2 (.int .i64 (IntKind.i64.wrap ((((lo + up) / 2 : Nat) : Int) + (1 : Int)))) (.int .i64 ((((lo + up) / 2) + 1 : Nat) : Int)) (congrArg (Value.int .i64) (Gx.i64n (by omega) (by omega))) ?_
      have hmid := adr_lt_iff (M := M) (i := ((lo + up) / 2)) (j := i) (by omega) (by omega)
      exact Sx.to 3 [(0, .pointer (some ⟨gh, 0, none⟩)), (1, .int .i64 ((adr M i : Nat) : Int)), (5, .int .i64 ((((lo + up) / 2) + 1 : Nat) : Int)), (6, .int .i64 ((up : Nat) : Int))] (hK1 _ _ _ _ (by omega) ⟨((lo + up) / 2) + 1, up, rfl, rfl, rfl, (by omega), h2, h3⟩)
    have p_c29 := of_decide_eq_false h_c29
    have hmid := adr_lt_iff (M := M) (i := ((lo + up) / 2)) (j := i) (by omega) (by omega)
    exact Sx.to 5 [(0, .pointer (some ⟨gh, 0, none⟩)), (1, .int .i64 ((adr M i : Nat) : Int)), (5, .int .i64 ((lo : Nat) : Int)), (6, .int .i64 (((lo + up) / 2 : Nat) : Int))] (hK1 _ _ _ _ (by omega) ⟨lo, (lo + up) / 2, rfl, rfl, rfl, h1, (by omega), (by omega)⟩)
  have p_c15 := of_decide_eq_false h_c15
  obtain rfl : i = lo := by omega
  refine Sx.cut 6 (fun l' w' => l' = [(5, .int .i64 ((i : Nat) : Int)), (51, .bool ((decide (((i : Nat) : Int) < ((M.length : Nat) : Int))) && (((adr M i : Nat) : Int) == ((adr M i : Nat) : Int))))] ∧ w = w') (fun K2 hK2 => ?_) (fun b2 l2 w2 hI2 => ?_)
  · skip
    refine Sx.l 5 0 H ?_
    refine Sx.sp 3 40 (decide (((i : Nat) : Int) < ((M.length : Nat) : Int))) (fun h_g40 => ?_) (fun h_g40 => ?_)
    · skip
      refine Sx.l 3 0 H ?_
      have p_g40 := of_decide_eq_true h_g40
      refine Sx.ir 1 ga1 i 4 M.length c (by omega) ?_
      refine Sx.lr 1 1 46 4 3 ga1 c M.length (i * 4) (ths M.length (adr M) (thM M) G) H (.int .i64 ((adr M i : Nat) : Int)) (ld_tat (m := M.length) (i := i) (a := (adr M)) (T := (thM M)) (G := G) (by omega)) ?_
      exact Sx.to 4 [(5, .int .i64 ((i : Nat) : Int)), (51, .bool ((decide (((i : Nat) : Int) < ((M.length : Nat) : Int))) && (((adr M i : Nat) : Int) == ((adr M i : Nat) : Int))))] (hK2 _ _ _ ⟨rfl, rfl⟩) (h2 := (by rw [h_g40]; try kernel_rfl))
    exact Sx.to 12 [(5, .int .i64 ((i : Nat) : Int)), (51, .bool ((decide (((i : Nat) : Int) < ((M.length : Nat) : Int))) && (((adr M i : Nat) : Int) == ((adr M i : Nat) : Int))))] (hK2 _ _ _ ⟨rfl, rfl⟩) (h2 := (by rw [h_g40]; try kernel_rfl))
  obtain ⟨rfl, rfl⟩ := hI2
  refine Sx.br 0 ((decide (((i : Nat) : Int) < ((M.length : Nat) : Int))) && (((adr M i : Nat) : Int) == ((adr M i : Nat) : Int))) (fun h_c51 => ?_) (fun h_c51 => ?_)
  · skip
    have p_c51 := h_c51; try simp [-List.getD_eq_getElem?_getD] at p_c51
    exact Sx.rt 8 [] H (.int .i64 ((i : Nat) : Int)) hK
  have p_c51 := h_c51; try simp [-List.getD_eq_getElem?_getD] at p_c51
  simp [hi] at h_c51
theorem dUsed_c (gh : Nat) (A : Option Addr) (c N : Nat) (G : Nat → Nat) (M : List Th) (w : World) (K : Ending → World → Prop) (H0 : Sp w [.blk gh (.cells #[.int .i64 ((N : Nat) : Int), .slice A M.length c] 30), .own 46 4 A c M.length (ths M.length (adr M) (thM M) G)]) (hm6 : tots M ≤ 1000000) (hK : ∀ w', Hs w [.blk gh (.cells #[.int .i64 ((N : Nat) : Int), .slice A M.length c] 30), .own 46 4 A c M.length (ths M.length (adr M) (thM M) G)] w' [.blk gh (.cells #[.int .i64 ((N : Nat) : Int), .slice A M.length c] 30), .own 46 4 A c M.length (ths M.length (adr M) (thM M) G)] → K (.returned (.int .i64 ((tots M : Nat) : Int))) w') :
    Calls Try.prog 18 #[.pointer (some ⟨gh, 0, none⟩)] w K := by
  obtain ⟨L0, hL0, H⟩ : ∃ L0, L0 = [.blk gh (.cells #[.int .i64 ((N : Nat) : Int), .slice A M.length c] 30), .own 46 4 A c M.length (ths M.length (adr M) (thM M) G)] ∧ Hs w L0 w [.blk gh (.cells #[.int .i64 ((N : Nat) : Int), .slice A M.length c] 30), .own 46 4 A c M.length (ths M.length (adr M) (thM M) G)] := ⟨_, rfl, Hs.refl H0⟩
  refine Sx.en (vs := [.pointer (some ⟨gh, 0, none⟩)]) 29 Try.func18 ?_
  have hml := len_le M
  refine Sx.l 11 0 H ?_
  refine Sx.br 4 (((M.length : Nat) : Int) == (0 : Int)) (fun h_c9 => ?_) (fun h_c9 => ?_)
  · skip
    have p_c9 := Gx.k1 h_c9
    have hm0 : M = [] := List.length_eq_zero_iff.1 (by omega)
    exact Sx.rt 7 [] H (.int .i64 0) (Gx.ret_as (v' := .int .i64 ((tots M : Nat) : Int)) (by rw [hm0]; rfl) (hK _ (pe H hL0 [0, 0])))
  have p_c9 := Gx.k0 h_c9
  obtain ⟨ga1, hga1⟩ := H.row 1 (A := A) (e := 46) (sz := 4) (cap := c) (n := M.length) (xs := (ths M.length (adr M) (thM M) G)) (by kernel_rfl) (by omega)
  subst hga1
  have hlast := tots_last (M := M) (by omega)
  refine Sx.dr 3 H [0, 1] [] (LJ := [.blk gh (.cells #[.int .i64 ((N : Nat) : Int), .slice (some ⟨ga1, 0, none⟩) M.length c] 30), .own 46 4 (some ⟨ga1, 0, none⟩) c M.length (ths M.length (adr M) (thM M) G)]) (by kernel_rfl) fun w1 H1 => ?_
  refine Sx.tk [(0, none), (1, none), (2, none), (3, some (0, [])), (4, none), (5, none), (6, none), (7, some (0, [])), (8, none)] (fun _ => (H1.sub [0, 0] (by kernel_rfl))) ?_
  refine Sx.tva 9 [] (.int .i64 (IntKind.i64.wrap (((M.length : Nat) : Int) - (1 : Int)))) (.int .i64 ((M.length - 1 : Nat) : Int)) (congrArg (Value.int .i64) (by rw [IntWalk.i64_in _ (by omega)]; omega)) (fun _ => (H1.sub [0, 0] (by kernel_rfl))) ?_
  refine Sx.tvg 10 [] ga1 (M.length - 1) 4 M.length c (by omega) (fun _ => (H1.sub [0, 0] (by kernel_rfl))) ?_
  refine Sx.tvl 11 [] 1 46 4 46 ga1 c M.length ((M.length - 1) * 4) (ths M.length (adr M) (thM M) G) (.agg #[.int .i64 ((adr M (M.length - 1) : Nat) : Int), .int .i64 ((thM M (M.length - 1)).kd), .int .i64 ((thM M (M.length - 1)).tg), .slice (some ⟨(G (M.length - 1)), 0, none⟩) ((thM M (M.length - 1)).l.length) ((thM M (M.length - 1)).l.length)]) (ld_t (m := M.length) (i := (M.length - 1)) (a := (adr M)) (T := (thM M)) (G := G) (by omega)) (fun _ => (H1.sub [0, 0] (by kernel_rfl))) ?_
  refine Sx.nmx ?_
  intro zx1
  refine Sx.on 12 ?_
  refine Sx.nw 0 H1 fun k1 w2 H2 => ?_
  refine Sx.bk (x := zx1) 12 (fun _ => (H2.sub [0, 0] (by kernel_rfl))) ?_
  refine Sx.nmx ?_
  intro zx2
  refine Sx.on 13 ?_
  refine Sx.s 0 2 H2 fun w3 H3 => ?_
  refine Sx.bk (x := zx2) 13 (fun _ => (H3.sub [0, 0] (by kernel_rfl))) ?_
  refine Sx.dn ?_
  refine Sx.l 4 2 H3 ?_
  refine Sx.v 0 (.int .i64 (IntKind.i64.wrap (((adr M (M.length - 1) : Nat) : Int) + (1 : Int)))) (.int .i64 (((adr M (M.length - 1)) + 1 : Nat) : Int)) (congrArg (Value.int .i64) (Gx.i64n (by omega) (by omega))) ?_
  refine Sx.l 1 2 H3 ?_
  refine Sx.v 1 (.int .i64 (IntKind.i64.wrap ((((adr M (M.length - 1)) + 1 : Nat) : Int) + (((thM M (M.length - 1)).l.length : Nat) : Int)))) (.int .i64 ((tots M : Nat) : Int)) (congrArg (Value.int .i64) (by rw [IntWalk.i64_in _ (by omega)]; omega)) ?_
  exact Sx.rt 4 [] H3 (.int .i64 ((tots M : Nat) : Int)) (hK _ (pe H3 hL0 [0, 0]))
set_option maxHeartbeats 4000000 in
theorem reached_c (gh : Nat) (A : Option Addr) (c N : Nat) (G : Nat → Nat) (M : List Th) (pa : Option Addr) (pc gr n : Nat) (Rt : Nat → Cl) (w : World) (K : Ending → World → Prop) (H0 : Sp w [.blk gh (.cells #[.int .i64 ((N : Nat) : Int), .slice A M.length c] 30), .own 46 4 A c M.length (ths M.length (adr M) (thM M) G), rwsI M.length G (lnM M) (fld M), .own 59 1 pa pc n (pls gr n), .own 43 2 (some ⟨gr, 0, none⟩) n n (cls n Rt)]) (hm6 : tots M ≤ 1000000) (hwf : Wf M (rts Rt n)) (hn : n < 1000000) (hK : ∀ (gi : Nat) w', Hs w [.blk gh (.cells #[.int .i64 ((N : Nat) : Int), .slice A M.length c] 30), .own 46 4 A c M.length (ths M.length (adr M) (thM M) G), rwsI M.length G (lnM M) (fld M), .own 59 1 pa pc n (pls gr n), .own 43 2 (some ⟨gr, 0, none⟩) n n (cls n Rt)] w' [.blk gh (.cells #[.int .i64 ((N : Nat) : Int), .slice A M.length c] 30), .own 46 4 A c M.length (ths M.length (adr M) (thM M) G), rwsI M.length G (lnM M) (fld M), .own 59 1 pa pc n (pls gr n), .own 43 2 (some ⟨gr, 0, none⟩) n n (cls n Rt), .own 4 1 (some ⟨gi, 0, none⟩) M.length M.length (bls M.length (rb M (rts Rt n)))] → K (.returned (.slice (some ⟨gi, 0, none⟩) M.length M.length)) w') :
    Calls Try.prog 25 #[.pointer (some ⟨gh, 0, none⟩), .slice pa n pc] w K := by
  obtain ⟨L0, hL0, H⟩ : ∃ L0, L0 = [.blk gh (.cells #[.int .i64 ((N : Nat) : Int), .slice A M.length c] 30), .own 46 4 A c M.length (ths M.length (adr M) (thM M) G), rwsI M.length G (lnM M) (fld M), .own 59 1 pa pc n (pls gr n), .own 43 2 (some ⟨gr, 0, none⟩) n n (cls n Rt)] ∧ Hs w L0 w [.blk gh (.cells #[.int .i64 ((N : Nat) : Int), .slice A M.length c] 30), .own 46 4 A c M.length (ths M.length (adr M) (thM M) G), rwsI M.length G (lnM M) (fld M), .own 59 1 pa pc n (pls gr n), .own 43 2 (some ⟨gr, 0, none⟩) n n (cls n Rt)] := ⟨_, rfl, Hs.refl H0⟩
  refine Sx.en (vs := [.pointer (some ⟨gh, 0, none⟩), .slice pa n pc]) 101 Try.func25 ?_
  have hml := len_le M
  refine Sx.l 10 0 H ?_
  refine Sx.mk 1 4 1 M.length (.bool false) H (by omega) (by omega) fun gi w1 H1 => ?_
  have H2 := H1; rw [bls_rep] at H2
  have H3 := H2.add (Gx.Ext.refl _) (it := .own 3 1 none 0 0 []) (World.ownsRow_nil _ _ _ _) (fun _ h => by cases h)
  have H4 := H3.pick (a := [.blk gh (.cells #[.int .i64 ((N : Nat) : Int), .slice A M.length c] 30), .own 46 4 A c M.length (ths M.length (adr M) (thM M) G), rwsI M.length G (lnM M) (fld M), .own 59 1 pa pc n (pls gr n), .own 43 2 (some ⟨gr, 0, none⟩) n n (cls n Rt), .own 4 1 (some ⟨gi, 0, none⟩) M.length M.length (bls M.length (fun _ => false)), .own 3 1 none 0 (([] : List Nat).length) (nts ([] : List Nat))]) [0, 0, 0, 0, 0, 0, 0] (by kernel_rfl)
  refine Sx.lp 15 (fun z l' w' => ∃ (i : Nat) (Q : Option Addr) (q : Nat) (td : List Nat), l' = [(0, .pointer (some ⟨gh, 0, none⟩)), (1, .slice pa n pc), (5, .slice (some ⟨gi, 0, none⟩) M.length M.length), (6, .slice Q td.length q), (7, .int .i64 ((i : Nat) : Int))] ∧ z = n - i ∧ Hs w L0 w' [.blk gh (.cells #[.int .i64 ((N : Nat) : Int), .slice A M.length c] 30), .own 46 4 A c M.length (ths M.length (adr M) (thM M) G), rwsI M.length G (lnM M) (fld M), .own 59 1 pa pc n (pls gr n), .own 43 2 (some ⟨gr, 0, none⟩) n n (cls n Rt), .own 4 1 (some ⟨gi, 0, none⟩) M.length M.length (bls M.length (fun _ => false)), .own 3 1 Q q td.length (nts td)] ∧ (i ≤ n) ∧ (Dk M (rts Rt n) (fun _ _ => False) (fun _ => false) td) ∧ (∀ j, j < i → ∀ k, tgt M (Rt j) k → k ∈ td) ∧ (td.length ≤ i)) _ [(0, .pointer (some ⟨gh, 0, none⟩)), (1, .slice pa n pc), (5, .slice (some ⟨gi, 0, none⟩) M.length M.length), (6, .slice none (([] : List Nat).length) 0), (7, .int .i64 ((0 : Nat) : Int))] ⟨0, none, 0, ([] : List Nat), rfl, rfl, H4, (Nat.zero_le _), (Dk.init _ _), (fun j hj => absurd hj (Nat.not_lt_zero _)), (Nat.le_refl _)⟩ (fun b1 z1 l1 w2 hI1 K1 hK1 => ?_)
  obtain ⟨i, Q, q, td, rfl, rfl, H5, hi, hD, hRt, hl⟩ := hI1
  refine Sx.br 9 (decide (((i : Nat) : Int) < ((n : Nat) : Int))) (fun h_c20 => ?_) (fun h_c20 => ?_)
  · skip
    have p_c20 := of_decide_eq_true h_c20
    obtain ⟨ga1, hga1⟩ := H5.row 3 (A := pa) (e := 59) (sz := 1) (cap := pc) (n := n) (xs := (pls gr n)) (by kernel_rfl) (by omega)
    subst hga1
    refine Sx.ir 8 ga1 i 1 n pc (by omega) ?_
    refine Sx.lr 0 3 59 1 59 ga1 pc n (i * 1) (pls gr n) H5 (.pointer (some (⟨gr, i * 2, none⟩))) (pls_ld (by omega)) ?_
    refine Sx.lr 2 4 43 2 4 gr n n (i * 2) (cls n Rt) H5 (.bool ((Rt i).p)) (ld_p (C := Rt) (by omega)) ?_
    refine Sx.nz 2 (.code (Sx.cat [1, 1, 1, 0, 1, 0, 0, 1, 0, 0, 1] (Sx.bodyOf Try.f25))) [.blk 1, .code (Sx.cat [1, 1, 1, 0, 1, 0, 0, 1, 1] (Sx.bodyOf Try.f25)), .to K1, .blk 0, .code (Sx.cat [1, 1, 1, 1] (Sx.bodyOf Try.f25))] [(0, .pointer (some ⟨gh, 0, none⟩)), (1, .slice (some ⟨ga1, 0, none⟩) n pc), (5, .slice (some ⟨gi, 0, none⟩) M.length M.length), (6, .slice Q td.length q), (7, .int .i64 ((i : Nat) : Int)), (29, .bool ((Rt i).p))] fun b2 => ?_
    refine Sx.br 0 ((Rt i).p) (fun h_c29 => ?_) (fun h_c29 => ?_)
    · skip
      have p_c29 := h_c29; try simp [-List.getD_eq_getElem?_getD] at p_c29
      have hil : i < n := by omega
      obtain ⟨kq, hkq⟩ := hwf.root _ (rts_mem hil) h_c29; have hkl := hkq.2.1
      refine Sx.ir 5 ga1 i 1 n pc (by omega) ?_
      refine Sx.lr 0 3 59 1 59 ga1 pc n (i * 1) (pls gr n) H5 (.pointer (some (⟨gr, i * 2, none⟩))) (pls_ld (by omega)) ?_
      refine Sx.lr 2 4 43 2 3 gr n n (i * 2 + 1) (cls n Rt) H5 (.int .i64 ((adr M kq : Nat) : Int)) (by have h := ld_n (P := Try.prog) (t := 3) (N := n) (C := Rt) (i := i) (by omega); rw [hkq.2.2] at h; exact h) ?_
      refine Sx.c 0 [0, 0] H5 (fun Hp R hR => At_c gh A c N G M kq w2 R Hp (by omega) hm6 (hR _ _ _ (.refl Hp) fun _ => ?_))
      refine Sx.nw 0 H5 fun k1 w3 H6 => ?_
      refine Sx.ap 0 6 7 8 1 0 3 1 71 1 k1 Q q td.length (nts td) [.int .i64 ((kq : Nat) : Int)] H6 (by omega) (by omega) (nts_app _ _) fun A1 cap1 w4 H7 => ?_
      refine Sx.v 6 (.int .i64 (IntKind.i64.wrap (((i : Nat) : Int) + (1 : Int)))) (.int .i64 ((i + 1 : Nat) : Int)) (congrArg (Value.int .i64) (Gx.i64n (by omega) (by omega))) ?_
      have H8 := H7; rw [show td.length + 1 = (td ++ [kq]).length by simp] at H8
      refine Sx.sl 0 6 (.slice A1 (td.length + 1) cap1) (.slice A1 (td ++ [kq]).length cap1) (by simp) ?_
      have H9 := H8.pick (a := [.blk gh (.cells #[.int .i64 ((N : Nat) : Int), .slice A M.length c] 30), .own 46 4 A c M.length (ths M.length (adr M) (thM M) G), rwsI M.length G (lnM M) (fld M), .own 59 1 (some ⟨ga1, 0, none⟩) pc n (pls gr n), .own 43 2 (some ⟨gr, 0, none⟩) n n (cls n Rt), .own 4 1 (some ⟨gi, 0, none⟩) M.length M.length (bls M.length (fun _ => false)), .own 3 1 A1 cap1 ((td ++ [kq]).length) (nts (td ++ [kq]))]) [0, 0, 0, 0, 0, 0, 0] (by kernel_rfl)
      exact Sx.to 2 [(0, .pointer (some ⟨gh, 0, none⟩)), (1, .slice (some ⟨ga1, 0, none⟩) n pc), (5, .slice (some ⟨gi, 0, none⟩) M.length M.length), (6, .slice A1 ((td ++ [kq]).length) cap1), (7, .int .i64 ((i + 1 : Nat) : Int))] (hK1 _ _ _ _ (by omega) ⟨i + 1, A1, cap1, (td ++ [kq]), rfl, rfl, H9, (by omega), (hD.push ⟨hkq.2.1, .root (rts_mem hil) hkq⟩), (fun j hj k hk => by rcases Nat.lt_or_ge j i with q | q; exact List.mem_append_left _ (hRt j q k hk); obtain rfl : j = i := (by omega); rw [tgt_inj hk hkq]; simp), (by simp; omega)⟩)
    have p_c29 := h_c29; try simp [-List.getD_eq_getElem?_getD] at p_c29
    have hno := h_c29; have hil : i < n := by omega
    refine Sx.nz 3 (.code (Sx.cat [1, 1, 1, 0, 1, 0, 0, 1, 1] (Sx.bodyOf Try.f25))) [.to K1, .blk 0, .code (Sx.cat [1, 1, 1, 1] (Sx.bodyOf Try.f25))] [(0, .pointer (some ⟨gh, 0, none⟩)), (1, .slice (some ⟨ga1, 0, none⟩) n pc), (5, .slice (some ⟨gi, 0, none⟩) M.length M.length), (6, .slice Q td.length q), (7, .int .i64 ((i : Nat) : Int))] fun b3 => ?_
    refine Sx.v 2 (.int .i64 (IntKind.i64.wrap (((i : Nat) : Int) + (1 : Int)))) (.int .i64 ((i + 1 : Nat) : Int)) (congrArg (Value.int .i64) (Gx.i64n (by omega) (by omega))) ?_
    have H10 := H5.pick (a := [.blk gh (.cells #[.int .i64 ((N : Nat) : Int), .slice A M.length c] 30), .own 46 4 A c M.length (ths M.length (adr M) (thM M) G), rwsI M.length G (lnM M) (fld M), .own 59 1 (some ⟨ga1, 0, none⟩) pc n (pls gr n), .own 43 2 (some ⟨gr, 0, none⟩) n n (cls n Rt), .own 4 1 (some ⟨gi, 0, none⟩) M.length M.length (bls M.length (fun _ => false)), .own 3 1 Q q td.length (nts td)]) [0, 0, 0, 0, 0, 0, 0] (by kernel_rfl)
    exact Sx.to 2 [(0, .pointer (some ⟨gh, 0, none⟩)), (1, .slice (some ⟨ga1, 0, none⟩) n pc), (5, .slice (some ⟨gi, 0, none⟩) M.length M.length), (6, .slice Q td.length q), (7, .int .i64 ((i + 1 : Nat) : Int))] (hK1 _ _ _ _ (by omega) ⟨i + 1, Q, q, td, rfl, rfl, H10, (by omega), hD, (fun j hj k hk => by rcases Nat.lt_or_ge j i with q | q; exact hRt j q k hk; obtain rfl : j = i := (by omega); exact absurd hk.1 (by rw [hno]; decide)), (by omega)⟩)
  refine Sx.nz 5 (.code (Sx.cat [1, 1, 1, 1] (Sx.bodyOf Try.f25))) [] [(0, .pointer (some ⟨gh, 0, none⟩)), (5, .slice (some ⟨gi, 0, none⟩) M.length M.length), (6, .slice Q td.length q)] fun b4 => ?_
  have H11 := H5.pick (a := [.blk gh (.cells #[.int .i64 ((N : Nat) : Int), .slice A M.length c] 30), .own 46 4 A c M.length (ths M.length (adr M) (thM M) G), rwsI M.length G (lnM M) (fld M), .own 59 1 pa pc n (pls gr n), .own 43 2 (some ⟨gr, 0, none⟩) n n (cls n Rt), .own 4 1 (some ⟨gi, 0, none⟩) M.length M.length (bls M.length (fun _ => false)), .own 3 1 Q q td.length (nts td)]) [0, 0, 0, 0, 0, 0, 0] (by kernel_rfl)
  have p_c20 := of_decide_eq_false h_c20
  refine Sx.lp 2 (fun z l' w' => ∃ (I : Nat → Bool) (Q : Option Addr) (q : Nat) (td : List Nat), l' = [(0, .pointer (some ⟨gh, 0, none⟩)), (5, .slice (some ⟨gi, 0, none⟩) M.length M.length), (6, .slice Q td.length q)] ∧ z = uns M I + td.length ∧ Hs w L0 w' [.blk gh (.cells #[.int .i64 ((N : Nat) : Int), .slice A M.length c] 30), .own 46 4 A c M.length (ths M.length (adr M) (thM M) G), rwsI M.length G (lnM M) (fld M), .own 59 1 pa pc n (pls gr n), .own 43 2 (some ⟨gr, 0, none⟩) n n (cls n Rt), .own 4 1 (some ⟨gi, 0, none⟩) M.length M.length (bls M.length I), .own 3 1 Q q td.length (nts td)] ∧ (Dk M (rts Rt n) (fun _ _ => False) I td) ∧ (∀ j, j < n → ∀ k, tgt M (Rt j) k → I k = true ∨ k ∈ td) ∧ (uns M I + td.length ≤ tots M + n)) _ [(0, .pointer (some ⟨gh, 0, none⟩)), (5, .slice (some ⟨gi, 0, none⟩) M.length M.length), (6, .slice Q td.length q)] ⟨(fun _ => false), Q, q, td, rfl, rfl, H11, hD, (fun j hj k hk => .inr (hRt j (by omega) k hk)), (by rw [uns_zero]; omega)⟩ (fun b5 z2 l2 w5 hI2 K2 hK2 => ?_)
  obtain ⟨I, Q, q, td, rfl, rfl, H12, hD, hRt, hl⟩ := hI2
  refine Or.elim (snoc_or td) (fun htd0 => ?_) (fun htd0 => Exists.elim htd0 fun td1 htd1 => Exists.elim htd1 fun a htd2 => ?_)
  · subst htd0
    refine Sx.v 5 (.bool (decide ((0 : Int) > (0 : Int)))) (.bool false) (rfl) ?_
    have H13 := H12; rw [bls_ext (J := rb M (rts Rt n)) (fun i _ => hD.all (rts_all fun j hj k hk => (hRt j hj k hk).resolve_right (by simp)) i)] at H13
    exact Sx.rt 15 [] H13 (.slice (some ⟨gi, 0, none⟩) M.length M.length) (hK gi _ (pe H13 hL0 [0, 0, 0, 0, 0, 0]))
  subst htd2
  obtain ⟨hal, har⟩ := hD.tdR a (by simp); have htl : (td1 ++ [a]).length = td1.length + 1 := by simp
  have H14 := H12; rw [htl] at H14 hl
  obtain ⟨g1, hg1⟩ := H14.row 6 (A := Q) (e := 3) (sz := 1) (cap := q) (n := td1.length + 1) (xs := nts (td1 ++ [a])) (by kernel_rfl) (by omega)
  subst hg1
  refine Sx.sl 0 6 (.slice (some ⟨g1, 0, none⟩) ((td1 ++ [a]).length) q) (.slice (some ⟨g1, 0, none⟩) (td1.length + 1) q) (by rw [htl]) ?_
  obtain ⟨ga2, hga2⟩ := H14.row 1 (A := A) (e := 46) (sz := 4) (cap := c) (n := M.length) (xs := (ths M.length (adr M) (thM M) G)) (by kernel_rfl) (by omega)
  subst hga2
  refine Sx.v 5 (.bool (decide (((td1.length + 1 : Nat) : Int) > (0 : Int)))) (.bool true) (congrArg Value.bool (decide_eq_true (by omega))) ?_
  refine Sx.nz 2 (.code (Sx.cat [1, 1, 1, 1, 0, 0, 0, 0, 1] (Sx.bodyOf Try.f25))) [.code (Sx.cat [1, 1, 1, 1, 0, 0, 0, 1] (Sx.bodyOf Try.f25)), .to K2, .blk 2, .code (Sx.cat [1, 1, 1, 1, 1] (Sx.bodyOf Try.f25))] [(0, .pointer (some ⟨gh, 0, none⟩)), (5, .slice (some ⟨gi, 0, none⟩) M.length M.length), (6, .slice (some ⟨g1, 0, none⟩) (td1.length + 1) q), (44, .bool true)] fun b7 => ?_
  refine Sx.v 9 (.int .i64 (IntKind.i64.wrap (((td1.length + 1 : Nat) : Int) - (1 : Int)))) (.int .i64 ((td1.length : Nat) : Int)) (congrArg (Value.int .i64) (Gx.i64n (by omega) (by omega))) ?_
  refine Sx.ir 0 g1 td1.length 1 (td1.length + 1) q (by omega) ?_
  refine Sx.lr 0 6 3 1 3 g1 q (td1.length + 1) (td1.length * 1) (nts (td1 ++ [a])) H14 (.int .i64 ((a : Nat) : Int)) nts_last ?_
  refine Sx.v 8 (.int .i64 (IntKind.i64.wrap (((td1.length + 1 : Nat) : Int) - (1 : Int)))) (.int .i64 ((td1.length : Nat) : Int)) (congrArg (Value.int .i64) (Gx.i64n (by omega) (by omega))) ?_
  refine Sx.slp 0 6 td1.length H14 (e := 3) (sz := 1) (cap := q) (len := (td1.length + 1)) (A := (some ⟨g1, 0, none⟩)) (xs := (nts (td1 ++ [a]))) (by kernel_rfl) (by omega) (nts_take _ _) fun H15 => ?_
  refine Sx.ir 11 gi a 1 M.length M.length (by omega) ?_
  refine Sx.lr 0 5 4 1 4 gi M.length M.length (a * 1) (bls M.length I) H15 (.bool (I a)) (ld_b (I := I) (by omega)) ?_
  refine Sx.br 3 (I a) (fun h_c63 => ?_) (fun h_c63 => ?_)
  · skip
    have hIa := h_c63
    have p_c63 := h_c63; try simp [-List.getD_eq_getElem?_getD] at p_c63
    have H16 := H15.pick (a := [.blk gh (.cells #[.int .i64 ((N : Nat) : Int), .slice (some ⟨ga2, 0, none⟩) M.length c] 30), .own 46 4 (some ⟨ga2, 0, none⟩) c M.length (ths M.length (adr M) (thM M) G), rwsI M.length G (lnM M) (fld M), .own 59 1 pa pc n (pls gr n), .own 43 2 (some ⟨gr, 0, none⟩) n n (cls n Rt), .own 4 1 (some ⟨gi, 0, none⟩) M.length M.length (bls M.length I), .own 3 1 (some ⟨g1, 0, none⟩) q td1.length (nts td1)]) [0, 0, 0, 0, 0, 0, 0] (by kernel_rfl)
    exact Sx.to 3 [(0, .pointer (some ⟨gh, 0, none⟩)), (5, .slice (some ⟨gi, 0, none⟩) M.length M.length), (6, .slice (some ⟨g1, 0, none⟩) td1.length q)] (hK2 _ _ _ _ (by omega) ⟨I, (some ⟨g1, 0, none⟩), q, td1, rfl, rfl, H16, (hD.skip hIa), (fun j hj k hk => by rcases hRt j hj k hk with q | q; exact .inl q; rcases List.mem_append.1 q with q | q; exact .inr q; exact .inl (by rw [List.mem_singleton.1 q]; exact hIa)), (by omega)⟩)
  have hIa := h_c63; obtain ⟨_, _, hD1⟩ := hD.mark; have hun := uns_mark (thM_get hal) hIa; have hsz : sz (thM M a) = (thM M a).l.length + 1 := rfl; have hat := adr_tots hal; have hlnM : lnM M a = (thM M a).l.length := rfl
  refine Sx.nz 2 (.code (Sx.cat [1, 1, 1, 1, 0, 0, 0, 1, 0, 1, 1, 1] (Sx.bodyOf Try.f25))) [.blk 3, .to K2, .blk 2, .code (Sx.cat [1, 1, 1, 1, 1] (Sx.bodyOf Try.f25))] [(0, .pointer (some ⟨gh, 0, none⟩)), (5, .slice (some ⟨gi, 0, none⟩) M.length M.length), (6, .slice (some ⟨g1, 0, none⟩) td1.length q), (8, .int .i64 ((a : Nat) : Int))] fun b8 => ?_
  have p_c63 := h_c63; try simp [-List.getD_eq_getElem?_getD] at p_c63
  refine Sx.ir 4 gi a 1 M.length M.length (by omega) ?_
  refine Sx.sr 0 5 4 1 4 gi M.length M.length (a * 1) (bls M.length I) H15 (.bool true) (by rw [bls_len]; omega) (bls_set _) fun w6 H17 => ?_
  have H18 := H17.pick (a := [.blk gh (.cells #[.int .i64 ((N : Nat) : Int), .slice (some ⟨ga2, 0, none⟩) M.length c] 30), .own 46 4 (some ⟨ga2, 0, none⟩) c M.length (ths M.length (adr M) (thM M) G), rwsI M.length G (lnM M) (fld M), .own 59 1 pa pc n (pls gr n), .own 43 2 (some ⟨gr, 0, none⟩) n n (cls n Rt), .own 4 1 (some ⟨gi, 0, none⟩) M.length M.length (bls M.length (setB I a)), .own 3 1 (some ⟨g1, 0, none⟩) q td1.length (nts td1)]) [0, 0, 0, 0, 0, 0, 0] (by kernel_rfl)
  refine Sx.lp 8 (fun z l' w' => ∃ (j : Nat) (Q2 : Option Addr) (q2 : Nat) (td2 : List Nat), l' = [(0, .pointer (some ⟨gh, 0, none⟩)), (5, .slice (some ⟨gi, 0, none⟩) M.length M.length), (6, .slice Q2 td2.length q2), (8, .int .i64 ((a : Nat) : Int)), (9, .int .i64 ((j : Nat) : Int))] ∧ z = (thM M a).l.length - j ∧ Hs w L0 w' [.blk gh (.cells #[.int .i64 ((N : Nat) : Int), .slice (some ⟨ga2, 0, none⟩) M.length c] 30), .own 46 4 (some ⟨ga2, 0, none⟩) c M.length (ths M.length (adr M) (thM M) G), rwsI M.length G (lnM M) (fld M), .own 59 1 pa pc n (pls gr n), .own 43 2 (some ⟨gr, 0, none⟩) n n (cls n Rt), .own 4 1 (some ⟨gi, 0, none⟩) M.length M.length (bls M.length (setB I a)), .own 3 1 Q2 q2 td2.length (nts td2)] ∧ (j ≤ (thM M a).l.length) ∧ (Dk M (rts Rt n) (fun j _ => j = a) (setB I a) td2) ∧ (∀ j', j' < j → ∀ k, tgt M (fld M a j') k → setB I a k = true ∨ k ∈ td2) ∧ (∀ j, j < n → ∀ k, tgt M (Rt j) k → setB I a k = true ∨ k ∈ td2) ∧ (td2.length ≤ td1.length + j)) _ [(0, .pointer (some ⟨gh, 0, none⟩)), (5, .slice (some ⟨gi, 0, none⟩) M.length M.length), (6, .slice (some ⟨g1, 0, none⟩) td1.length q), (8, .int .i64 ((a : Nat) : Int)), (9, .int .i64 ((0 : Nat) : Int))] ⟨0, (some ⟨g1, 0, none⟩), q, td1, rfl, rfl, H18, (Nat.zero_le _), hD1, (fun _ h => absurd h (Nat.not_lt_zero _)), (fun j hj k hk => by rcases hRt j hj k hk with q | q; exact .inl (by simp [setB, q]); rcases List.mem_append.1 q with q | q; exact .inr q; exact .inl (by simp [setB, List.mem_singleton.1 q])), (Nat.le_refl _)⟩ (fun b9 z3 l3 w7 hI3 K3 hK3 => ?_)
  obtain ⟨j, Q2, q2, td2, rfl, rfl, H19, hj, hD2, hF2, hR2, hl2⟩ := hI3
  refine Sx.l 7 0 H19 ?_
  refine Sx.ir 1 ga2 a 4 M.length c (by omega) ?_
  refine Sx.lr 1 1 46 4 31 ga2 c M.length (a * 4 + 3) (ths M.length (adr M) (thM M) G) H19 (.slice (some ⟨(G a), 0, none⟩) ((thM M a).l.length) ((thM M a).l.length)) (ld_tl (m := M.length) (i := a) (a := (adr M)) (T := (thM M)) (G := G) (by omega)) ?_
  refine Sx.br 4 (decide (((j : Nat) : Int) < (((thM M a).l.length : Nat) : Int))) (fun h_c77 => ?_) (fun h_c77 => ?_)
  · skip
    refine Sx.l 9 0 H19 ?_
    have p_c77 := of_decide_eq_true h_c77
    refine Sx.ir 1 ga2 a 4 M.length c (by omega) ?_
    refine Sx.lr 1 1 46 4 31 ga2 c M.length (a * 4 + 3) (ths M.length (adr M) (thM M) G) H19 (.slice (some ⟨(G a), 0, none⟩) ((thM M a).l.length) ((thM M a).l.length)) (ld_tl (m := M.length) (i := a) (a := (adr M)) (T := (thM M)) (G := G) (by omega)) ?_
    refine Sx.ir 1 (G a) j 2 ((thM M a).l.length) ((thM M a).l.length) (by omega) ?_
    refine Sx.lo (c := 2) (t := 43) 0 [.bool ((fld M a j).p), .int .i64 ((fld M a j).n)] (.agg #[.bool ((fld M a j).p), .int .i64 ((fld M a j).n)]) (rw_ld (m := M.length) (G := G) (ln := (lnM M)) (F := (fld M)) (i := a) (j := j) (H19.at 2 (by kernel_rfl)) (by omega) (by omega)) ?_
    refine Sx.nw 0 H19 fun k2 w8 H20 => ?_
    refine Sx.s 0 7 H20 fun w9 H21 => ?_
    refine Sx.nz 2 (.code (Sx.cat [1, 1, 1, 1, 0, 0, 0, 1, 0, 1, 1, 1, 1, 1, 0, 0, 1, 0, 0, 1] (Sx.bodyOf Try.f25))) [.blk 5, .code (Sx.cat [1, 1, 1, 1, 0, 0, 0, 1, 0, 1, 1, 1, 1, 1, 0, 0, 1, 1] (Sx.bodyOf Try.f25)), .to K3, .blk 4, .blk 3, .to K2, .blk 2, .code (Sx.cat [1, 1, 1, 1, 1] (Sx.bodyOf Try.f25))] [(0, .pointer (some ⟨gh, 0, none⟩)), (5, .slice (some ⟨gi, 0, none⟩) M.length M.length), (6, .slice Q2 td2.length q2), (8, .int .i64 ((a : Nat) : Int)), (9, .int .i64 ((j : Nat) : Int)), (10, .pointer (some ⟨k2, 0, none⟩))] fun b10 => ?_
    refine Sx.l 3 7 H21 ?_
    refine Sx.br 2 ((fld M a j).p) (fun h_c92 => ?_) (fun h_c92 => ?_)
    · skip
      have p_c92 := h_c92; try simp [-List.getD_eq_getElem?_getD] at p_c92
      have hjl : j < (thM M a).l.length := by omega
      obtain ⟨kq, hkq⟩ := hwf.fld _ (thM_mem hal) _ (fld_mem hjl) h_c92; have hkl := hkq.2.1
      have H22 := H21; rw [hkq.2.2] at H22
      refine Sx.l 4 7 H22 ?_
      refine Sx.c 0 [0, 0] H22 (fun Hp R hR => At_c gh (some ⟨ga2, 0, none⟩) c N G M kq w9 R Hp (by omega) hm6 (hR _ _ _ (.refl Hp) fun _ => ?_))
      refine Sx.nw 0 H22 fun k3 w10 H23 => ?_
      refine Sx.ap 0 6 8 8 1 0 3 1 71 1 k3 Q2 q2 td2.length (nts td2) [.int .i64 ((kq : Nat) : Int)] H23 (by omega) (by omega) (nts_app _ _) fun A2 cap2 w11 H24 => ?_
      refine Sx.v 6 (.int .i64 (IntKind.i64.wrap (((j : Nat) : Int) + (1 : Int)))) (.int .i64 ((j + 1 : Nat) : Int)) (congrArg (Value.int .i64) (Gx.i64n (by omega) (by omega))) ?_
      have H25 := H24; rw [show td2.length + 1 = (td2 ++ [kq]).length by simp] at H25
      refine Sx.sl 0 6 (.slice A2 (td2.length + 1) cap2) (.slice A2 (td2 ++ [kq]).length cap2) (by simp) ?_
      have H26 := H25.pick (a := [.blk gh (.cells #[.int .i64 ((N : Nat) : Int), .slice (some ⟨ga2, 0, none⟩) M.length c] 30), .own 46 4 (some ⟨ga2, 0, none⟩) c M.length (ths M.length (adr M) (thM M) G), rwsI M.length G (lnM M) (fld M), .own 59 1 pa pc n (pls gr n), .own 43 2 (some ⟨gr, 0, none⟩) n n (cls n Rt), .own 4 1 (some ⟨gi, 0, none⟩) M.length M.length (bls M.length (setB I a)), .own 3 1 A2 cap2 ((td2 ++ [kq]).length) (nts (td2 ++ [kq]))]) [0, 0, 0, 0, 0, 0, 0] (by kernel_rfl)
      exact Sx.to 2 [(0, .pointer (some ⟨gh, 0, none⟩)), (5, .slice (some ⟨gi, 0, none⟩) M.length M.length), (6, .slice A2 ((td2 ++ [kq]).length) cap2), (8, .int .i64 ((a : Nat) : Int)), (9, .int .i64 ((j + 1 : Nat) : Int))] (hK3 _ _ _ _ (by omega) ⟨j + 1, A2, cap2, (td2 ++ [kq]), rfl, rfl, H26, (by omega), (hD2.push ⟨hkq.2.1, .fld har (thM_get hal) (fld_mem hjl) hkq⟩), (fun j' hj' k hk => by rcases Nat.lt_or_ge j' j with q | q; exact (hF2 j' q k hk).imp_right (List.mem_append_left _); obtain rfl : j' = j := (by omega); rw [tgt_inj hk hkq]; exact .inr (by simp)), (fun j' hj' k hk => (hR2 j' hj' k hk).imp_right (List.mem_append_left _)), (by simp; omega)⟩)
    have p_c92 := h_c92; try simp [-List.getD_eq_getElem?_getD] at p_c92
    have hno := h_c92; have hjl : j < (thM M a).l.length := by omega
    refine Sx.nz 3 (.code (Sx.cat [1, 1, 1, 1, 0, 0, 0, 1, 0, 1, 1, 1, 1, 1, 0, 0, 1, 1] (Sx.bodyOf Try.f25))) [.to K3, .blk 4, .blk 3, .to K2, .blk 2, .code (Sx.cat [1, 1, 1, 1, 1] (Sx.bodyOf Try.f25))] [(0, .pointer (some ⟨gh, 0, none⟩)), (5, .slice (some ⟨gi, 0, none⟩) M.length M.length), (6, .slice Q2 td2.length q2), (8, .int .i64 ((a : Nat) : Int)), (9, .int .i64 ((j : Nat) : Int))] fun b11 => ?_
    refine Sx.v 2 (.int .i64 (IntKind.i64.wrap (((j : Nat) : Int) + (1 : Int)))) (.int .i64 ((j + 1 : Nat) : Int)) (congrArg (Value.int .i64) (Gx.i64n (by omega) (by omega))) ?_
    have H27 := H21.pick (a := [.blk gh (.cells #[.int .i64 ((N : Nat) : Int), .slice (some ⟨ga2, 0, none⟩) M.length c] 30), .own 46 4 (some ⟨ga2, 0, none⟩) c M.length (ths M.length (adr M) (thM M) G), rwsI M.length G (lnM M) (fld M), .own 59 1 pa pc n (pls gr n), .own 43 2 (some ⟨gr, 0, none⟩) n n (cls n Rt), .own 4 1 (some ⟨gi, 0, none⟩) M.length M.length (bls M.length (setB I a)), .own 3 1 Q2 q2 td2.length (nts td2)]) [0, 0, 0, 0, 0, 0, 0] (by kernel_rfl)
    exact Sx.to 2 [(0, .pointer (some ⟨gh, 0, none⟩)), (5, .slice (some ⟨gi, 0, none⟩) M.length M.length), (6, .slice Q2 td2.length q2), (8, .int .i64 ((a : Nat) : Int)), (9, .int .i64 ((j + 1 : Nat) : Int))] (hK3 _ _ _ _ (by omega) ⟨j + 1, Q2, q2, td2, rfl, rfl, H27, (by omega), hD2, (fun j' hj' k hk => by rcases Nat.lt_or_ge j' j with q | q; exact hF2 j' q k hk; obtain rfl : j' = j := (by omega); exact absurd hk.1 (by rw [hno]; decide)), hR2, (by omega)⟩)
  have p_c77 := of_decide_eq_false h_c77
  have H28 := H19.pick (a := [.blk gh (.cells #[.int .i64 ((N : Nat) : Int), .slice (some ⟨ga2, 0, none⟩) M.length c] 30), .own 46 4 (some ⟨ga2, 0, none⟩) c M.length (ths M.length (adr M) (thM M) G), rwsI M.length G (lnM M) (fld M), .own 59 1 pa pc n (pls gr n), .own 43 2 (some ⟨gr, 0, none⟩) n n (cls n Rt), .own 4 1 (some ⟨gi, 0, none⟩) M.length M.length (bls M.length (setB I a)), .own 3 1 Q2 q2 td2.length (nts td2)]) [0, 0, 0, 0, 0, 0, 0] (by kernel_rfl)
  exact Sx.to 5 [(0, .pointer (some ⟨gh, 0, none⟩)), (5, .slice (some ⟨gi, 0, none⟩) M.length M.length), (6, .slice Q2 td2.length q2)] (hK2 _ _ _ _ (by omega) ⟨(setB I a), Q2, q2, td2, rfl, rfl, H28, (hD2.done (thM_get hal) (fun cl hcl k hk => by obtain ⟨j', hj'⟩ := List.getElem?_of_mem hcl; have hjl := (List.getElem?_eq_some_iff.1 hj').1; rw [fld_get hjl] at hj'; obtain rfl := Option.some.inj hj'; exact hF2 j' (by omega) k hk)), hR2, (by omega)⟩)
end Go.Proofs.Ytlddkcdjegcleaa
