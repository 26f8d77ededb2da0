/- A part of the proof (YtlddkcdjegcleaaHw10), printed by a program of ours. -/
import Derived.Test.YtlddkcdjegcleaaProg
import Derived.Test.YtlddkcdjegcleaaHq
import Derived.Test.YtlddkcdjegcleaaHi
import Derived.Test.YtlddkcdjegcleaaHw1
import Derived.Test.YtlddkcdjegcleaaHw2
import Derived.Test.YtlddkcdjegcleaaHw3
import Derived.Test.YtlddkcdjegcleaaHw4
import Derived.Test.YtlddkcdjegcleaaHw5
import Derived.Test.YtlddkcdjegcleaaHw6
import Derived.Test.YtlddkcdjegcleaaHw7
import Derived.Test.YtlddkcdjegcleaaHw8
import Derived.Test.YtlddkcdjegcleaaHw9
set_option linter.unusedVariables false
set_option linter.unusedSimpArgs false
namespace Go.Proofs.Ytlddkcdjegcleaa
open Go.RowKit Go.Sx Go.Hp
attribute [local irreducible] Go.wpOps Go.Code.wp Go.wpOp Go.wpAnyH Go.Calls Go.Sx.Goal Go.Code.wpIn
set_option maxRecDepth 20000
set_option maxHeartbeats 4000000 in
theorem dmk_c (gh : Nat) (A : Option Addr) (c N : Nat) (G : Nat → Nat) (M : List Th) (pa : Option Addr) (pc gr n : Nat) (Rt : Nat → Cl) (kd tg z : Int) (o : Out) (w : World) (K : Ending → World → Prop) (H0 : Sp w [.blk gh (.cells #[.int .i64 ((N : Nat) : Int), .slice A M.length c] 30), .own 46 4 A c M.length (ths M.length (adr M) (thM M) G), rwsI M.length G (lnM M) (fld M), .own 59 1 pa pc n (pls gr n), .own 43 2 (some ⟨gr, 0, none⟩) n n (cls n Rt)]) (ho : o = mkF N n M Rt kd tg z) (hm6 : tots M ≤ 1000000) (hN6 : N ≤ 1000000) (hwf : Wf M (rts Rt n)) (hn : n < 1000000) (hK : ∀ (A' : Option Addr) (c' : Nat) (G' : Nat → Nat) w', Hs w [.blk gh (.cells #[.int .i64 ((N : Nat) : Int), .slice A M.length c] 30), .own 46 4 A c M.length (ths M.length (adr M) (thM M) G), rwsI M.length G (lnM M) (fld M), .own 59 1 pa pc n (pls gr n), .own 43 2 (some ⟨gr, 0, none⟩) n n (cls n Rt)] w' [.blk gh (.cells #[.int .i64 ((N : Nat) : Int), .slice A' o.M.length c'] 30), .own 46 4 A' c' o.M.length (ths o.M.length (adr o.M) (thM o.M) G'), rwsI o.M.length G' (lnM o.M) (fld o.M), .own 59 1 pa pc n (pls gr n), .own 43 2 (some ⟨gr, 0, none⟩) n n (cls n o.R)] → K (.returned (.tuple #[.int .i64 ((o.x : Nat) : Int), .int .i64 o.e])) w') :
    Calls Try.prog 8 #[.pointer (some ⟨gh, 0, none⟩), .int .i64 kd, .int .i64 tg, .int .i64 z, .slice pa n pc] w K := by
  obtain ⟨L0, hL0, H⟩ : ∃ L0, L0 = [.blk gh (.cells #[.int .i64 ((N : Nat) : Int), .slice A M.length c] 30), .own 46 4 A c M.length (ths M.length (adr M) (thM M) G), rwsI M.length G (lnM M) (fld M), .own 59 1 pa pc n (pls gr n), .own 43 2 (some ⟨gr, 0, none⟩) n n (cls n Rt)] ∧ Hs w L0 w [.blk gh (.cells #[.int .i64 ((N : Nat) : Int), .slice A M.length c] 30), .own 46 4 A c M.length (ths M.length (adr M) (thM M) G), rwsI M.length G (lnM M) (fld M), .own 59 1 pa pc n (pls gr n), .own 43 2 (some ⟨gr, 0, none⟩) n n (cls n Rt)] := ⟨_, rfl, Hs.refl H0⟩
  refine Sx.en (vs := [.pointer (some ⟨gh, 0, none⟩), .int .i64 kd, .int .i64 tg, .int .i64 z, .slice pa n pc]) 76 Try.func8 ?_
  refine Sx.cut 7 (fun l' w' => l' = [(0, .pointer (some ⟨gh, 0, none⟩)), (1, .int .i64 kd), (2, .int .i64 tg), (3, .int .i64 z), (4, .slice pa n pc), (34, .bool ((((((decide (kd < (0 : Int))) || (decide (kd > (4 : Int)))) || (decide (tg < (0 : Int)))) || (decide (tg > (65535 : Int)))) || (decide (z < (0 : Int)))) || (decide (z > (1000000 : Int)))))] ∧ w = w') (fun K1 hK1 => ?_) (fun b1 l1 w1 hI1 => ?_)
  · skip
    refine Sx.sp 4 15 (decide (kd < (0 : Int))) (fun h_g15 => ?_) (fun h_g15 => ?_)
    · skip
      exact Sx.to 20 [(0, .pointer (some ⟨gh, 0, none⟩)), (1, .int .i64 kd), (2, .int .i64 tg), (3, .int .i64 z), (4, .slice pa n pc), (34, .bool ((((((decide (kd < (0 : Int))) || (decide (kd > (4 : Int)))) || (decide (tg < (0 : Int)))) || (decide (tg > (65535 : Int)))) || (decide (z < (0 : Int)))) || (decide (z > (1000000 : Int)))))] (hK1 _ _ _ ⟨rfl, rfl⟩) (h2 := (by rw [h_g15]; try kernel_rfl))
    refine Sx.sp 4 19 (decide (kd > (4 : Int))) (fun h_g19 => ?_) (fun h_g19 => ?_)
    · skip
      exact Sx.to 16 [(0, .pointer (some ⟨gh, 0, none⟩)), (1, .int .i64 kd), (2, .int .i64 tg), (3, .int .i64 z), (4, .slice pa n pc), (34, .bool ((((((decide (kd < (0 : Int))) || (decide (kd > (4 : Int)))) || (decide (tg < (0 : Int)))) || (decide (tg > (65535 : Int)))) || (decide (z < (0 : Int)))) || (decide (z > (1000000 : Int)))))] (hK1 _ _ _ ⟨rfl, rfl⟩) (h2 := (by rw [h_g15, h_g19]; try kernel_rfl))
    refine Sx.sp 4 23 (decide (tg < (0 : Int))) (fun h_g23 => ?_) (fun h_g23 => ?_)
    · skip
      exact Sx.to 12 [(0, .pointer (some ⟨gh, 0, none⟩)), (1, .int .i64 kd), (2, .int .i64 tg), (3, .int .i64 z), (4, .slice pa n pc), (34, .bool ((((((decide (kd < (0 : Int))) || (decide (kd > (4 : Int)))) || (decide (tg < (0 : Int)))) || (decide (tg > (65535 : Int)))) || (decide (z < (0 : Int)))) || (decide (z > (1000000 : Int)))))] (hK1 _ _ _ ⟨rfl, rfl⟩) (h2 := (by rw [h_g15, h_g19, h_g23]; try kernel_rfl))
    refine Sx.sp 4 27 (decide (tg > (65535 : Int))) (fun h_g27 => ?_) (fun h_g27 => ?_)
    · skip
      exact Sx.to 8 [(0, .pointer (some ⟨gh, 0, none⟩)), (1, .int .i64 kd), (2, .int .i64 tg), (3, .int .i64 z), (4, .slice pa n pc), (34, .bool ((((((decide (kd < (0 : Int))) || (decide (kd > (4 : Int)))) || (decide (tg < (0 : Int)))) || (decide (tg > (65535 : Int)))) || (decide (z < (0 : Int)))) || (decide (z > (1000000 : Int)))))] (hK1 _ _ _ ⟨rfl, rfl⟩) (h2 := (by rw [h_g15, h_g19, h_g23, h_g27]; try kernel_rfl))
    refine Sx.sp 4 31 (decide (z < (0 : Int))) (fun h_g31 => ?_) (fun h_g31 => ?_)
    · skip
      exact Sx.to 4 [(0, .pointer (some ⟨gh, 0, none⟩)), (1, .int .i64 kd), (2, .int .i64 tg), (3, .int .i64 z), (4, .slice pa n pc), (34, .bool ((((((decide (kd < (0 : Int))) || (decide (kd > (4 : Int)))) || (decide (tg < (0 : Int)))) || (decide (tg > (65535 : Int)))) || (decide (z < (0 : Int)))) || (decide (z > (1000000 : Int)))))] (hK1 _ _ _ ⟨rfl, rfl⟩) (h2 := (by rw [h_g15, h_g19, h_g23, h_g27, h_g31]; try kernel_rfl))
    exact Sx.to 4 [(0, .pointer (some ⟨gh, 0, none⟩)), (1, .int .i64 kd), (2, .int .i64 tg), (3, .int .i64 z), (4, .slice pa n pc), (34, .bool ((((((decide (kd < (0 : Int))) || (decide (kd > (4 : Int)))) || (decide (tg < (0 : Int)))) || (decide (tg > (65535 : Int)))) || (decide (z < (0 : Int)))) || (decide (z > (1000000 : Int)))))] (hK1 _ _ _ ⟨rfl, rfl⟩) (h2 := (by rw [h_g15, h_g19, h_g23, h_g27, h_g31]; try kernel_rfl))
  obtain ⟨rfl, rfl⟩ := hI1
  refine Sx.br 0 ((((((decide (kd < (0 : Int))) || (decide (kd > (4 : Int)))) || (decide (tg < (0 : Int)))) || (decide (tg > (65535 : Int)))) || (decide (z < (0 : Int)))) || (decide (z > (1000000 : Int)))) (fun h_c34 => ?_) (fun h_c34 => ?_)
  · skip
    have p_c34 := h_c34; try simp [-List.getD_eq_getElem?_getD] at p_c34
    have ho2 := ho.trans (mkF_bad (by omega)); subst ho2
    exact Sx.rt 8 [] H (.tuple #[.int .i64 0, .int .i64 11]) (hK A c G _ (pe H hL0 [0, 0, 0, 0, 0]))
  have p_c34 := h_c34; try simp [-List.getD_eq_getElem?_getD] at p_c34
  obtain ⟨k, rfl⟩ : ∃ k : Nat, z = (k : Int) := ⟨z.toNat, by omega⟩
  have hok : 0 ≤ kd ∧ kd ≤ 4 ∧ 0 ≤ tg ∧ tg ≤ 65535 ∧ k ≤ 1000000 := by omega
  refine Sx.dr 4 H [0] [] (LJ := [.blk gh (.cells #[.int .i64 ((N : Nat) : Int), .slice A M.length c] 30)]) (by kernel_rfl) fun w2 H1 => ?_
  refine Sx.tk [(0, none), (2, none), (5, none), (6, none), (7, none), (8, some (0, []))] (fun _ => (H1.sub [0] (by kernel_rfl))) ?_
  refine Sx.nmx ?_
  intro zx1
  refine Sx.on 1 ?_
  refine Sx.c 0 [0, 0] H1 (fun Hp R hR => dUsed_c gh A c N G M w2 R Hp hm6 (fun w3 G1 => hR _ _ _ G1 fun H2 => ?_))
  refine Sx.bk (x := zx1) 1 (fun _ => (H2.sub [0] (by kernel_rfl))) ?_
  refine Sx.tva 3 [] (.int .i64 (IntKind.i64.wrap (((tots M : Nat) : Int) + ((k : Nat) : Int)))) (.int .i64 (((tots M) + k : Nat) : Int)) (congrArg (Value.int .i64) (Gx.i64n (by omega) (by omega))) (fun _ => (H2.sub [0] (by kernel_rfl))) ?_
  refine Sx.tva 4 [] (.int .i64 (IntKind.i64.wrap ((((tots M) + k : Nat) : Int) + (1 : Int)))) (.int .i64 ((((tots M) + k) + 1 : Nat) : Int)) (congrArg (Value.int .i64) (Gx.i64n (by omega) (by omega))) (fun _ => (H2.sub [0] (by kernel_rfl))) ?_
  refine Sx.tk [(9, none)] (fun _ => (H2.sub [0] (by kernel_rfl))) ?_
  refine Sx.dn ?_
  refine Sx.br 1 (decide (((((tots M) + k) + 1 : Nat) : Int) > ((N : Nat) : Int))) (fun h_c44 => ?_) (fun h_c44 => ?_)
  · skip
    have p_c44 := of_decide_eq_true h_c44
    refine Sx.c 3 [0, 0, 0, 0, 0] H2 (fun Hp R hR => dcol_c gh A c N G M pa pc gr n Rt (rb M (rts Rt n)) w3 R Hp rfl hm6 hwf hn (fun A1 c1 G2 w4 G3 => hR _ _ _ G3 fun H3 => ?_))
    have hm1 := Nat.le_trans (colM_le M Rt n) hm6; have hw1 := colM_wf hwf
    refine Sx.dr 4 H3 [0] [] (LJ := [.blk gh (.cells #[.int .i64 ((N : Nat) : Int), .slice A1 ((colM M Rt n).length) c1] 30)]) (by kernel_rfl) fun w5 H4 => ?_
    refine Sx.tk [(0, none), (2, none), (5, none), (6, none), (7, none), (8, some (0, []))] (fun _ => (H4.sub [0] (by kernel_rfl))) ?_
    refine Sx.nmx ?_
    intro zx2
    refine Sx.on 1 ?_
    refine Sx.c 0 [0, 0] H4 (fun Hp R hR => dUsed_c gh A1 c1 N G2 (colM M Rt n) w5 R Hp hm1 (fun w6 G4 => hR _ _ _ G4 fun H5 => ?_))
    refine Sx.bk (x := zx2) 1 (fun _ => (H5.sub [0] (by kernel_rfl))) ?_
    refine Sx.tva 3 [] (.int .i64 (IntKind.i64.wrap (((tots (colM M Rt n) : Nat) : Int) + ((k : Nat) : Int)))) (.int .i64 (((tots (colM M Rt n)) + k : Nat) : Int)) (congrArg (Value.int .i64) (Gx.i64n (by omega) (by omega))) (fun _ => (H5.sub [0] (by kernel_rfl))) ?_
    refine Sx.tva 4 [] (.int .i64 (IntKind.i64.wrap ((((tots (colM M Rt n)) + k : Nat) : Int) + (1 : Int)))) (.int .i64 ((((tots (colM M Rt n)) + k) + 1 : Nat) : Int)) (congrArg (Value.int .i64) (Gx.i64n (by omega) (by omega))) (fun _ => (H5.sub [0] (by kernel_rfl))) ?_
    refine Sx.tk [(9, none)] (fun _ => (H5.sub [0] (by kernel_rfl))) ?_
    refine Sx.dn ?_
    refine Sx.br 1 (decide (((((tots (colM M Rt n)) + k) + 1 : Nat) : Int) > ((N : Nat) : Int))) (fun h_c57 => ?_) (fun h_c57 => ?_)
    · skip
      have p_c57 := of_decide_eq_true h_c57
      have ho2 := ho.trans (mkF_full hok (by omega) (by omega)); subst ho2
      exact Sx.rt 8 [] H5 (.tuple #[.int .i64 0, .int .i64 18]) (hK A1 c1 G2 _ (pe H5 hL0 [0, 0, 0, 0, 0]))
    have p_c57 := of_decide_eq_false h_c57
    refine Sx.c 5 [0, 0] H5 (fun Hp R hR => dUsed_c gh A1 c1 N G2 (colM M Rt n) w6 R Hp hm1 (fun w7 G5 => hR _ _ _ G5 fun H6 => ?_))
    have hmlx := len_le (colM M Rt n)
    refine Sx.dr 4 H6 [0] [15] (LJ := [.blk gh (.cells #[.int .i64 ((N : Nat) : Int), .slice A1 ((colM M Rt n).length) c1] 30)]) (by kernel_rfl) fun w8 H7 => ?_
    refine Sx.tk [(0, none), (1, none), (2, none), (3, none), (4, some (0, [12, 13, 14, 15])), (5, none), (6, none), (7, none), (8, none)] (fun _ => (H7.sub [0] (by kernel_rfl))) ?_
    refine Sx.nmx ?_
    intro zx3
    refine Sx.on 9 ?_
    refine Sx.mkC 0 43 2 16 k (.agg #[.bool false, .int .i64 0]) [.bool false, .int .i64 0] H7 (by omega) (by omega) (cls_rep _) fun g1 w9 H8 => ?_
    refine Sx.bk (x := zx3) 9 (fun _ => (H8.sub [0] (by kernel_rfl))) ?_
    refine Sx.tk [(10, none)] (fun _ => (H8.sub [0] (by kernel_rfl))) ?_
    refine Sx.nmx ?_
    intro zx4
    refine Sx.on 11 ?_
    refine Sx.nw 0 H8 fun k1 w10 H9 => ?_
    refine Sx.bk (x := zx4) 11 (fun _ => (H9.sub [0] (by kernel_rfl))) ?_
    refine Sx.nmx ?_
    intro zx5
    refine Sx.on 12 ?_
    refine Sx.ap 0 1 6 48 1 0 46 4 28 1 k1 A1 c1 ((colM M Rt n).length) (ths ((colM M Rt n).length) (adr (colM M Rt n)) (thM (colM M Rt n)) G2) [.int .i64 ((tots (colM M Rt n) : Nat) : Int), .int .i64 kd, .int .i64 tg, .slice (some ⟨g1, 0, none⟩) k k] H9 (by omega) (by omega) ((congrArg (ths (colM M Rt n).length (adr (colM M Rt n)) (thM (colM M Rt n)) G2 ++ ·) (encT_nw _ _ _ _ _).symm).trans (ths_app _ _ _ _)) fun A2 cap1 w11 H10 => ?_
    refine Sx.bk (x := zx5) 12 (fun _ => (H10.sub [0] (by kernel_rfl))) ?_
    refine Sx.tk [(13, none), (14, none)] (fun _ => (H10.sub [0] (by kernel_rfl))) ?_
    refine Sx.nmx ?_
    intro zx6
    refine Sx.on 15 ?_
    refine Sx.s 0 0 H10 fun w12 H11 => ?_
    refine Sx.bk (x := zx6) 15 (fun h => Sx.nope h (by kernel_rfl)) ?_
    refine Sx.dn ?_
    have H12 := H11.pick (a := [.blk gh (.cells #[.int .i64 ((N : Nat) : Int), .slice A2 ((colM M Rt n).length + 1) cap1] 30), .own 46 4 A2 cap1 ((colM M Rt n).length + 1) (ths ((colM M Rt n).length + 1) (adr ((colM M Rt n) ++ [nw1 kd tg k])) (thM ((colM M Rt n) ++ [nw1 kd tg k])) (gAp G2 (colM M Rt n).length g1)), rwsI ((colM M Rt n).length) G2 (lnM (colM M Rt n)) (fld (colM M Rt n)), .own 59 1 pa pc n (pls gr n), .own 43 2 (some ⟨gr, 0, none⟩) n n (cls n (colR M Rt n)), .own 43 2 (some ⟨g1, 0, none⟩) k k (cls k (fun _ => ⟨false, 0⟩)), .blk k1 (.cells #[.int .i64 ((tots (colM M Rt n) : Nat) : Int), .int .i64 kd, .int .i64 tg, .slice (some ⟨g1, 0, none⟩) k k] 46)]) [0, 0, 0, 0, 0, 0, 0] (by kernel_rfl)
    have H13 := rw_push H12 [2, 4] (M := (colM M Rt n)) (G := G2) (g := g1) (k := k) kd tg (by kernel_rfl)
    have H14 := H13; rw [show (colM M Rt n).length + 1 = ((colM M Rt n) ++ [nw1 kd tg k]).length from by simp] at H14
    have ho2 := ho.trans (mkF_col hok (by omega) (by omega)); subst ho2
    exact Sx.rt 9 [] H14 (.tuple #[.int .i64 ((tots (colM M Rt n) : Nat) : Int), .int .i64 0]) (hK A2 cap1 (gAp G2 (colM M Rt n).length g1) _ (pe H14 hL0 [1, 1, 0, 0, 0]))
  refine Sx.dr 4 H2 [0] [] (LJ := [.blk gh (.cells #[.int .i64 ((N : Nat) : Int), .slice A M.length c] 30)]) (by kernel_rfl) fun w13 H15 => ?_
  refine Sx.tk [(0, none), (2, none), (5, none), (6, none), (7, none), (8, some (0, []))] (fun _ => (H15.sub [0] (by kernel_rfl))) ?_
  refine Sx.nmx ?_
  intro zx7
  refine Sx.on 1 ?_
  have p_c44 := of_decide_eq_false h_c44
  refine Sx.c 0 [0, 0] H15 (fun Hp R hR => dUsed_c gh A c N G M w13 R Hp hm6 (fun w14 G6 => hR _ _ _ G6 fun H16 => ?_))
  refine Sx.bk (x := zx7) 1 (fun _ => (H16.sub [0] (by kernel_rfl))) ?_
  refine Sx.tva 3 [] (.int .i64 (IntKind.i64.wrap (((tots M : Nat) : Int) + ((k : Nat) : Int)))) (.int .i64 (((tots M) + k : Nat) : Int)) (congrArg (Value.int .i64) (Gx.i64n (by omega) (by omega))) (fun _ => (H16.sub [0] (by kernel_rfl))) ?_
  refine Sx.tva 4 [] (.int .i64 (IntKind.i64.wrap ((((tots M) + k : Nat) : Int) + (1 : Int)))) (.int .i64 ((((tots M) + k) + 1 : Nat) : Int)) (congrArg (Value.int .i64) (Gx.i64n (by omega) (by omega))) (fun _ => (H16.sub [0] (by kernel_rfl))) ?_
  refine Sx.tk [(9, none)] (fun _ => (H16.sub [0] (by kernel_rfl))) ?_
  refine Sx.dn ?_
  refine Sx.br 1 (decide (((((tots M) + k) + 1 : Nat) : Int) > ((N : Nat) : Int))) (fun hk_ => absurd (h_c44.symm.trans hk_) (by decide)) (fun hk_ => ?_)
  refine Sx.c 5 [0, 0] H16 (fun Hp R hR => dUsed_c gh A c N G M w14 R Hp hm6 (fun w15 G7 => hR _ _ _ G7 fun H17 => ?_))
  have hmlx := len_le M
  refine Sx.dr 4 H17 [0] [15] (LJ := [.blk gh (.cells #[.int .i64 ((N : Nat) : Int), .slice A M.length c] 30)]) (by kernel_rfl) fun w16 H18 => ?_
  refine Sx.tk [(0, none), (1, none), (2, none), (3, none), (4, some (0, [12, 13, 14, 15])), (5, none), (6, none), (7, none), (8, none)] (fun _ => (H18.sub [0] (by kernel_rfl))) ?_
  refine Sx.nmx ?_
  intro zx8
  refine Sx.on 9 ?_
  refine Sx.mkC 0 43 2 16 k (.agg #[.bool false, .int .i64 0]) [.bool false, .int .i64 0] H18 (by omega) (by omega) (cls_rep _) fun g2 w17 H19 => ?_
  refine Sx.bk (x := zx8) 9 (fun _ => (H19.sub [0] (by kernel_rfl))) ?_
  refine Sx.tk [(10, none)] (fun _ => (H19.sub [0] (by kernel_rfl))) ?_
  refine Sx.nmx ?_
  intro zx9
  refine Sx.on 11 ?_
  refine Sx.nw 0 H19 fun k2 w18 H20 => ?_
  refine Sx.bk (x := zx9) 11 (fun _ => (H20.sub [0] (by kernel_rfl))) ?_
  refine Sx.nmx ?_
  intro zx10
  refine Sx.on 12 ?_
  refine Sx.ap 0 1 6 48 1 0 46 4 28 1 k2 A c M.length (ths M.length (adr M) (thM M) G) [.int .i64 ((tots M : Nat) : Int), .int .i64 kd, .int .i64 tg, .slice (some ⟨g2, 0, none⟩) k k] H20 (by omega) (by omega) ((congrArg (ths M.length (adr M) (thM M) G ++ ·) (encT_nw _ _ _ _ _).symm).trans (ths_app _ _ _ _)) fun A3 cap2 w19 H21 => ?_
  refine Sx.bk (x := zx10) 12 (fun _ => (H21.sub [0] (by kernel_rfl))) ?_
  refine Sx.tk [(13, none), (14, none)] (fun _ => (H21.sub [0] (by kernel_rfl))) ?_
  refine Sx.nmx ?_
  intro zx11
  refine Sx.on 15 ?_
  refine Sx.s 0 0 H21 fun w20 H22 => ?_
  refine Sx.bk (x := zx11) 15 (fun h => Sx.nope h (by kernel_rfl)) ?_
  refine Sx.dn ?_
  have H23 := H22.pick (a := [.blk gh (.cells #[.int .i64 ((N : Nat) : Int), .slice A3 (M.length + 1) cap2] 30), .own 46 4 A3 cap2 (M.length + 1) (ths (M.length + 1) (adr (M ++ [nw1 kd tg k])) (thM (M ++ [nw1 kd tg k])) (gAp G M.length g2)), rwsI M.length G (lnM M) (fld M), .own 59 1 pa pc n (pls gr n), .own 43 2 (some ⟨gr, 0, none⟩) n n (cls n Rt), .own 43 2 (some ⟨g2, 0, none⟩) k k (cls k (fun _ => ⟨false, 0⟩)), .blk k2 (.cells #[.int .i64 ((tots M : Nat) : Int), .int .i64 kd, .int .i64 tg, .slice (some ⟨g2, 0, none⟩) k k] 46)]) [0, 0, 0, 0, 0, 0, 0] (by kernel_rfl)
  have H24 := rw_push H23 [2, 4] (M := M) (G := G) (g := g2) (k := k) kd tg (by kernel_rfl)
  have H25 := H24; rw [show M.length + 1 = (M ++ [nw1 kd tg k]).length from by simp] at H25
  have ho2 := ho.trans (mkF_app hok (by omega)); subst ho2
  exact Sx.rt 9 [] H25 (.tuple #[.int .i64 ((tots M : Nat) : Int), .int .i64 0]) (hK A3 cap2 (gAp G M.length g2) _ (pe H25 hL0 [1, 1, 0, 0, 0]))
end Go.Proofs.Ytlddkcdjegcleaa
