/- A part of the proof (YtlddkcdjegcleaaHw7), printed by a program of ours. -/
import Derived.Test.YtlddkcdjegcleaaProg
import Derived.Test.YtlddkcdjegcleaaHq
import Derived.Test.YtlddkcdjegcleaaHd
import Derived.Test.YtlddkcdjegcleaaHw1
import Derived.Test.YtlddkcdjegcleaaHw2
import Derived.Test.YtlddkcdjegcleaaHw3
import Derived.Test.YtlddkcdjegcleaaHw4
import Derived.Test.YtlddkcdjegcleaaHw5
import Derived.Test.YtlddkcdjegcleaaHw6
set_option linter.unusedVariables false
set_option linter.unusedSimpArgs false
namespace Go.Proofs.Ytlddkcdjegcleaa
open Go.RowKit Go.Sx Go.Hp
attribute [local irreducible] Go.wpOps Go.Code.wp Go.wpOp Go.wpAnyH Go.Calls Go.Sx.Goal Go.Code.wpIn
set_option maxRecDepth 20000
theorem New_c (N nw : Nat) (w : World) (K : Ending → World → Prop) (H0 : Sp w []) (hN6 : N ≤ 1000000) (hnw : nw = N / 64 + 1) (hK : ∀ (hb g gm : Nat) w', Hs w [] w' [.blk hb (.cells #[.slice (some ⟨g, 0, none⟩) N N, .int .i64 ((0 : Nat) : Int), .slice (some ⟨gm, 0, none⟩) nw nw] 56), .own 43 2 (some ⟨g, 0, none⟩) N N (cls N (fun _ => ⟨false, 0⟩)), .own 72 1 (some ⟨gm, 0, none⟩) nw nw (wds .u64 nw (fun _ => 0))] → K (.returned (.tuple #[.pointer (some ⟨hb, 0, none⟩), .int .i64 0])) w') :
    Calls Try.prog 4 #[.int .i64 ((N : Nat) : Int)] w K := by
  obtain ⟨L0, hL0, H⟩ : ∃ L0, L0 = [] ∧ Hs w L0 w [] := ⟨_, rfl, Hs.refl H0⟩
  refine Sx.en (vs := [.int .i64 ((N : Nat) : Int)]) 18 Try.func4 ?_
  refine Sx.br 17 (decide (((N : Nat) : Int) > (1000000 : Int))) (fun h_c9 => ?_) (fun h_c9 => ?_)
  · skip
    have p_c9 := of_decide_eq_true h_c9
    simp at h_c9; omega
  refine Sx.dr 3 H [] [] (LJ := []) (by kernel_rfl) fun w1 H1 => ?_
  have p_c9 := of_decide_eq_false h_c9
  refine Sx.tk [(0, none), (2, none)] (fun _ => (Sx.spN (by kernel_rfl))) ?_
  refine Sx.tva 3 [] (.int .i64 (IntKind.i64.wrap (Int.tdiv ((N : Nat) : Int) (64 : Int)))) (.int .i64 ((N / 64 : Nat) : Int)) (congrArg (Value.int .i64) (by rw [IntWalk.i64_quo _ _ (by omega)]; omega)) (fun _ => (Sx.spN (by kernel_rfl))) ?_
  refine Sx.tva 4 [] (.int .i64 (IntKind.i64.wrap (((N / 64 : Nat) : Int) + (1 : Int)))) (.int .i64 ((nw : Nat) : Int)) (congrArg (Value.int .i64) (by rw [IntWalk.i64_in _ (by omega)]; omega)) (fun _ => (Sx.spN (by kernel_rfl))) ?_
  refine Sx.nmx ?_
  intro zx1
  refine Sx.on2 1 5 ?_ ?_
  · skip
    refine Sx.mkC 0 43 2 16 N (.agg #[.bool false, .int .i64 0]) [.bool false, .int .i64 0] H1 (by omega) (by omega) (cls_rep _) fun g w2 H2 => ?_
    refine Sx.bk (x := zx1) 1 (fun _ => (Sx.spN (by kernel_rfl))) ?_
    refine Sx.nmx ?_
    intro zx2
    refine Sx.on 5 ?_
    refine Sx.mk 0 72 8 nw (.int .u64 0) H2 (by omega) (by omega) fun gm w3 H3 => ?_
    refine Sx.bk (x := zx2) 5 (fun _ => (Sx.spN (by kernel_rfl))) ?_
    refine Sx.tk [(6, none)] (fun _ => (Sx.spN (by kernel_rfl))) ?_
    refine Sx.nmx ?_
    intro zx3
    refine Sx.on 7 ?_
    refine Sx.nw 0 H3 fun hb w4 H4 => ?_
    refine Sx.bk (x := zx3) 7 (fun _ => (Sx.spN (by kernel_rfl))) ?_
    refine Sx.tk [(8, none), (9, none)] (fun _ => (Sx.spN (by kernel_rfl))) ?_
    refine Sx.dn ?_
    have H5 := H4; rw [wds_rep] at H5
    exact Sx.rt 2 [] H5 (.tuple #[.pointer (some ⟨hb, 0, none⟩), .int .i64 0]) (hK hb g gm _ (pe H5 hL0 [2, 0, 0]))
  refine Sx.mk 0 72 8 nw (.int .u64 0) H1 (by omega) (by omega) fun gm w5 H6 => ?_
  refine Sx.bk (x := zx1) 5 (fun _ => (Sx.spN (by kernel_rfl))) ?_
  refine Sx.nmx ?_
  intro zx4
  refine Sx.on 1 ?_
  refine Sx.mkC 0 43 2 16 N (.agg #[.bool false, .int .i64 0]) [.bool false, .int .i64 0] H6 (by omega) (by omega) (cls_rep _) fun g w6 H7 => ?_
  refine Sx.bk (x := zx4) 1 (fun _ => (Sx.spN (by kernel_rfl))) ?_
  refine Sx.tk [(6, none)] (fun _ => (Sx.spN (by kernel_rfl))) ?_
  refine Sx.nmx ?_
  intro zx5
  refine Sx.on 7 ?_
  refine Sx.nw 0 H7 fun hb w7 H8 => ?_
  refine Sx.bk (x := zx5) 7 (fun _ => (Sx.spN (by kernel_rfl))) ?_
  refine Sx.tk [(8, none), (9, none)] (fun _ => (Sx.spN (by kernel_rfl))) ?_
  refine Sx.dn ?_
  have H9 := H8; rw [wds_rep] at H9
  exact Sx.rt 2 [] H9 (.tuple #[.pointer (some ⟨hb, 0, none⟩), .int .i64 0]) (hK hb g gm _ (pe H9 hL0 [2, 1, 0]))
theorem New_bad (z : Int) (w : World) (K : Ending → World → Prop) (H0 : Sp w []) (hz : z < 0 ∨ z > 1000000) (hK : ∀ w', Hs w [] w' [] → K (.returned (.tuple #[.pointer none, .int .i64 11])) w') :
    Calls Try.prog 4 #[.int .i64 z] w K := by
  obtain ⟨L0, hL0, H⟩ : ∃ L0, L0 = [] ∧ Hs w L0 w [] := ⟨_, rfl, Hs.refl H0⟩
  refine Sx.en (vs := [.int .i64 z]) 18 Try.func4 ?_
  refine Sx.cut 7 (fun l' w' => l' = [(0, .int .i64 z), (9, .bool ((decide (z < (0 : Int))) || (decide (z > (1000000 : Int)))))] ∧ w = w') (fun K1 hK1 => ?_) (fun b1 l1 w1 hI1 => ?_)
  · skip
    refine Sx.sp 4 6 (decide (z < (0 : Int))) (fun h_g6 => ?_) (fun h_g6 => ?_)
    · skip
      exact Sx.to 4 [(0, .int .i64 z), (9, .bool ((decide (z < (0 : Int))) || (decide (z > (1000000 : Int)))))] (hK1 _ _ _ ⟨rfl, rfl⟩) (h2 := (by rw [h_g6]; try kernel_rfl))
    exact Sx.to 4 [(0, .int .i64 z), (9, .bool ((decide (z < (0 : Int))) || (decide (z > (1000000 : Int)))))] (hK1 _ _ _ ⟨rfl, rfl⟩) (h2 := (by rw [h_g6]; try kernel_rfl))
  obtain ⟨rfl, rfl⟩ := hI1
  refine Sx.br 0 ((decide (z < (0 : Int))) || (decide (z > (1000000 : Int)))) (fun h_c9 => ?_) (fun h_c9 => ?_)
  · skip
    have p_c9 := h_c9; try simp [-List.getD_eq_getElem?_getD] at p_c9
    exact Sx.rt 8 [] H (.tuple #[.pointer none, .int .i64 11]) (hK _ (pe H hL0 []))
  have p_c9 := h_c9; try simp [-List.getD_eq_getElem?_getD] at p_c9
  simp at h_c9; omega
set_option maxHeartbeats 4000000 in
theorem make_c (hb g N u gm nw : Nat) (C : Nat → Cl) (gr n xb : Nat) (Rt : Nat → Cl) (W0 : Nat → Int) (M : List Th) (kd tg z : Int) (o : Out) (w : World) (K : Ending → World → Prop) (H0 : Sp w [.blk hb (.cells #[.slice (some ⟨g, 0, none⟩) N N, .int .i64 ((u : Nat) : Int), .slice (some ⟨gm, 0, none⟩) nw nw] 56), .own 43 2 (some ⟨g, 0, none⟩) N N (cls N C), .own 72 1 (some ⟨gm, 0, none⟩) nw nw (wds .u64 nw W0), .own 43 2 (some ⟨gr, 0, none⟩) n n (cls n Rt), .blk xb (.cells #[.slice (some ⟨gr, 0, none⟩) n n] 31)]) (ho : o = mkF N n M Rt kd tg z) (hg : Gd N n M C Rt) (hu : u = tots M) (hNw : N < 64 * nw) (hz0 : 64 * nw < 1000000000000) (hn : n < 1000000000) (hN6 : N ≤ 1000000) (hK : ∀ (C' : Nat → Cl) (W' : Nat → Int) w', Hs w [.blk hb (.cells #[.slice (some ⟨g, 0, none⟩) N N, .int .i64 ((u : Nat) : Int), .slice (some ⟨gm, 0, none⟩) nw nw] 56), .own 43 2 (some ⟨g, 0, none⟩) N N (cls N C), .own 72 1 (some ⟨gm, 0, none⟩) nw nw (wds .u64 nw W0), .own 43 2 (some ⟨gr, 0, none⟩) n n (cls n Rt), .blk xb (.cells #[.slice (some ⟨gr, 0, none⟩) n n] 31)] w' [.blk hb (.cells #[.slice (some ⟨g, 0, none⟩) N N, .int .i64 ((tots o.M : Nat) : Int), .slice (some ⟨gm, 0, none⟩) nw nw] 56), .own 43 2 (some ⟨g, 0, none⟩) N N (cls N C'), .own 72 1 (some ⟨gm, 0, none⟩) nw nw (wds .u64 nw W'), .own 43 2 (some ⟨gr, 0, none⟩) n n (cls n o.R), .blk xb (.cells #[.slice (some ⟨gr, 0, none⟩) n n] 31)] → (Gd N n o.M C' o.R) → K (.returned (.tuple #[.int .i64 ((o.x : Nat) : Int), .int .i64 o.e])) w') :
    Calls Try.prog 6 #[.pointer (some ⟨hb, 0, none⟩), .int .i64 kd, .int .i64 tg, .int .i64 z, .func (.func 17) #[] #[.pointer (some ⟨xb, 0, none⟩)]] w K := by
  obtain ⟨L0, hL0, H⟩ : ∃ L0, L0 = [.blk hb (.cells #[.slice (some ⟨g, 0, none⟩) N N, .int .i64 ((u : Nat) : Int), .slice (some ⟨gm, 0, none⟩) nw nw] 56), .own 43 2 (some ⟨g, 0, none⟩) N N (cls N C), .own 72 1 (some ⟨gm, 0, none⟩) nw nw (wds .u64 nw W0), .own 43 2 (some ⟨gr, 0, none⟩) n n (cls n Rt), .blk xb (.cells #[.slice (some ⟨gr, 0, none⟩) n n] 31)] ∧ Hs w L0 w [.blk hb (.cells #[.slice (some ⟨g, 0, none⟩) N N, .int .i64 ((u : Nat) : Int), .slice (some ⟨gm, 0, none⟩) nw nw] 56), .own 43 2 (some ⟨g, 0, none⟩) N N (cls N C), .own 72 1 (some ⟨gm, 0, none⟩) nw nw (wds .u64 nw W0), .own 43 2 (some ⟨gr, 0, none⟩) n n (cls n Rt), .blk xb (.cells #[.slice (some ⟨gr, 0, none⟩) n n] 31)] := ⟨_, rfl, Hs.refl H0⟩
  refine Sx.en (vs := [.pointer (some ⟨hb, 0, none⟩), .int .i64 kd, .int .i64 tg, .int .i64 z, .func (.func 17) #[] #[.pointer (some ⟨xb, 0, none⟩)]]) 99 Try.func6 ?_
  subst hu
  refine Sx.cut 7 (fun l' w' => l' = [(0, .pointer (some ⟨hb, 0, none⟩)), (1, .int .i64 kd), (2, .int .i64 tg), (3, .int .i64 z), (4, .func (.func 17) #[] #[.pointer (some ⟨xb, 0, none⟩)]), (34, .bool ((((((decide (kd < (0 : Int))) || (decide (kd > (4 : Int)))) || (decide (tg < (0 : Int)))) || (decide (tg > (65535 : Int)))) || (decide (z < (0 : Int)))) || (decide (z > (1000000 : Int)))))] ∧ w = w') (fun K1 hK1 => ?_) (fun b1 l1 w1 hI1 => ?_)
  · skip
    refine Sx.sp 4 15 (decide (kd < (0 : Int))) (fun h_g15 => ?_) (fun h_g15 => ?_)
    · skip
      exact Sx.to 20 [(0, .pointer (some ⟨hb, 0, none⟩)), (1, .int .i64 kd), (2, .int .i64 tg), (3, .int .i64 z), (4, .func (.func 17) #[] #[.pointer (some ⟨xb, 0, none⟩)]), (34, .bool ((((((decide (kd < (0 : Int))) || (decide (kd > (4 : Int)))) || (decide (tg < (0 : Int)))) || (decide (tg > (65535 : Int)))) || (decide (z < (0 : Int)))) || (decide (z > (1000000 : Int)))))] (hK1 _ _ _ ⟨rfl, rfl⟩) (h2 := (by rw [h_g15]; try kernel_rfl))
    refine Sx.sp 4 19 (decide (kd > (4 : Int))) (fun h_g19 => ?_) (fun h_g19 => ?_)
    · skip
      exact Sx.to 16 [(0, .pointer (some ⟨hb, 0, none⟩)), (1, .int .i64 kd), (2, .int .i64 tg), (3, .int .i64 z), (4, .func (.func 17) #[] #[.pointer (some ⟨xb, 0, none⟩)]), (34, .bool ((((((decide (kd < (0 : Int))) || (decide (kd > (4 : Int)))) || (decide (tg < (0 : Int)))) || (decide (tg > (65535 : Int)))) || (decide (z < (0 : Int)))) || (decide (z > (1000000 : Int)))))] (hK1 _ _ _ ⟨rfl, rfl⟩) (h2 := (by rw [h_g15, h_g19]; try kernel_rfl))
    refine Sx.sp 4 23 (decide (tg < (0 : Int))) (fun h_g23 => ?_) (fun h_g23 => ?_)
    · skip
      exact Sx.to 12 [(0, .pointer (some ⟨hb, 0, none⟩)), (1, .int .i64 kd), (2, .int .i64 tg), (3, .int .i64 z), (4, .func (.func 17) #[] #[.pointer (some ⟨xb, 0, none⟩)]), (34, .bool ((((((decide (kd < (0 : Int))) || (decide (kd > (4 : Int)))) || (decide (tg < (0 : Int)))) || (decide (tg > (65535 : Int)))) || (decide (z < (0 : Int)))) || (decide (z > (1000000 : Int)))))] (hK1 _ _ _ ⟨rfl, rfl⟩) (h2 := (by rw [h_g15, h_g19, h_g23]; try kernel_rfl))
    refine Sx.sp 4 27 (decide (tg > (65535 : Int))) (fun h_g27 => ?_) (fun h_g27 => ?_)
    · skip
      exact Sx.to 8 [(0, .pointer (some ⟨hb, 0, none⟩)), (1, .int .i64 kd), (2, .int .i64 tg), (3, .int .i64 z), (4, .func (.func 17) #[] #[.pointer (some ⟨xb, 0, none⟩)]), (34, .bool ((((((decide (kd < (0 : Int))) || (decide (kd > (4 : Int)))) || (decide (tg < (0 : Int)))) || (decide (tg > (65535 : Int)))) || (decide (z < (0 : Int)))) || (decide (z > (1000000 : Int)))))] (hK1 _ _ _ ⟨rfl, rfl⟩) (h2 := (by rw [h_g15, h_g19, h_g23, h_g27]; try kernel_rfl))
    refine Sx.sp 4 31 (decide (z < (0 : Int))) (fun h_g31 => ?_) (fun h_g31 => ?_)
    · skip
      exact Sx.to 4 [(0, .pointer (some ⟨hb, 0, none⟩)), (1, .int .i64 kd), (2, .int .i64 tg), (3, .int .i64 z), (4, .func (.func 17) #[] #[.pointer (some ⟨xb, 0, none⟩)]), (34, .bool ((((((decide (kd < (0 : Int))) || (decide (kd > (4 : Int)))) || (decide (tg < (0 : Int)))) || (decide (tg > (65535 : Int)))) || (decide (z < (0 : Int)))) || (decide (z > (1000000 : Int)))))] (hK1 _ _ _ ⟨rfl, rfl⟩) (h2 := (by rw [h_g15, h_g19, h_g23, h_g27, h_g31]; try kernel_rfl))
    exact Sx.to 4 [(0, .pointer (some ⟨hb, 0, none⟩)), (1, .int .i64 kd), (2, .int .i64 tg), (3, .int .i64 z), (4, .func (.func 17) #[] #[.pointer (some ⟨xb, 0, none⟩)]), (34, .bool ((((((decide (kd < (0 : Int))) || (decide (kd > (4 : Int)))) || (decide (tg < (0 : Int)))) || (decide (tg > (65535 : Int)))) || (decide (z < (0 : Int)))) || (decide (z > (1000000 : Int)))))] (hK1 _ _ _ ⟨rfl, rfl⟩) (h2 := (by rw [h_g15, h_g19, h_g23, h_g27, h_g31]; try kernel_rfl))
  obtain ⟨rfl, rfl⟩ := hI1
  refine Sx.br 0 ((((((decide (kd < (0 : Int))) || (decide (kd > (4 : Int)))) || (decide (tg < (0 : Int)))) || (decide (tg > (65535 : Int)))) || (decide (z < (0 : Int)))) || (decide (z > (1000000 : Int)))) (fun h_c34 => ?_) (fun h_c34 => ?_)
  · skip
    have p_c34 := h_c34; try simp [-List.getD_eq_getElem?_getD] at p_c34
    have ho2 := ho.trans (mkF_bad (by omega)); subst ho2
    exact Sx.rt 8 [] H (.tuple #[.int .i64 0, .int .i64 11]) (hK C W0 _ (pe H hL0 [0, 0, 0, 0, 0]) (hg))
  have p_c34 := h_c34; try simp [-List.getD_eq_getElem?_getD] at p_c34
  obtain ⟨k, rfl⟩ : ∃ k : Nat, z = (k : Int) := ⟨z.toNat, by omega⟩
  have hok : 0 ≤ kd ∧ kd ≤ 4 ∧ 0 ≤ tg ∧ tg ≤ 65535 ∧ k ≤ 1000000 := by omega
  have hle := hg.le
  refine Sx.dr 4 H [0] [] (LJ := [.blk hb (.cells #[.slice (some ⟨g, 0, none⟩) N N, .int .i64 ((tots M : Nat) : Int), .slice (some ⟨gm, 0, none⟩) nw nw] 56)]) (by kernel_rfl) fun w2 H1 => ?_
  refine Sx.tk [(0, none), (1, none), (2, none), (3, some (0, [])), (4, none)] (fun _ => (H1.sub [0] (by kernel_rfl))) ?_
  refine Sx.tva 5 [] (.int .i64 (IntKind.i64.wrap (((tots M : Nat) : Int) + ((k : Nat) : Int)))) (.int .i64 (((tots M) + k : Nat) : Int)) (congrArg (Value.int .i64) (Gx.i64n (by omega) (by omega))) (fun _ => (H1.sub [0] (by kernel_rfl))) ?_
  refine Sx.tva 6 [] (.int .i64 (IntKind.i64.wrap ((((tots M) + k : Nat) : Int) + (1 : Int)))) (.int .i64 ((((tots M) + k) + 1 : Nat) : Int)) (congrArg (Value.int .i64) (Gx.i64n (by omega) (by omega))) (fun _ => (H1.sub [0] (by kernel_rfl))) ?_
  refine Sx.tk [(7, none), (8, none), (9, none), (10, some (0, [])), (11, none), (12, none)] (fun _ => (H1.sub [0] (by kernel_rfl))) ?_
  refine Sx.dn ?_
  refine Sx.br 1 (decide (((((tots M) + k) + 1 : Nat) : Int) > ((N : Nat) : Int))) (fun h_c47 => ?_) (fun h_c47 => ?_)
  · skip
    have p_c47 := of_decide_eq_true h_c47
    refine Sx.c 4 [0, 0, 0, 0, 0] H1 (fun Hp R hR => collect_c hb g N (tots M) gm nw C gr n xb Rt W0 M (rb M (rts Rt n)) w2 R Hp rfl (hg).lays (hg).hd (hg).wf (by omega) (hg).le hNw hz0 hn hN6 (fun C1 W1 w3 G1 hl1 => hR _ _ _ G1 fun H2 => ?_))
    have hg1 := (hg).col hl1
    have H3 := H2; rw [← colM_tots] at H3
    have hleC := (hg1).le
    refine Sx.dr 3 H3 [0] [] (LJ := [.blk hb (.cells #[.slice (some ⟨g, 0, none⟩) N N, .int .i64 ((tots (colM M Rt n) : Nat) : Int), .slice (some ⟨gm, 0, none⟩) nw nw] 56)]) (by kernel_rfl) fun w4 H4 => ?_
    refine Sx.tk [(0, none), (1, none), (2, none), (3, some (0, [])), (4, none)] (fun _ => (H4.sub [0] (by kernel_rfl))) ?_
    refine Sx.tva 5 [] (.int .i64 (IntKind.i64.wrap (((tots (colM M Rt n) : Nat) : Int) + ((k : Nat) : Int)))) (.int .i64 (((tots (colM M Rt n)) + k : Nat) : Int)) (congrArg (Value.int .i64) (Gx.i64n (by omega) (by omega))) (fun _ => (H4.sub [0] (by kernel_rfl))) ?_
    refine Sx.tva 6 [] (.int .i64 (IntKind.i64.wrap ((((tots (colM M Rt n)) + k : Nat) : Int) + (1 : Int)))) (.int .i64 ((((tots (colM M Rt n)) + k) + 1 : Nat) : Int)) (congrArg (Value.int .i64) (Gx.i64n (by omega) (by omega))) (fun _ => (H4.sub [0] (by kernel_rfl))) ?_
    refine Sx.tk [(7, none), (8, none), (9, none), (10, some (0, [])), (11, none), (12, none)] (fun _ => (H4.sub [0] (by kernel_rfl))) ?_
    refine Sx.dn ?_
    refine Sx.br 1 (decide (((((tots (colM M Rt n)) + k) + 1 : Nat) : Int) > ((N : Nat) : Int))) (fun h_c63 => ?_) (fun h_c63 => ?_)
    · skip
      have p_c63 := of_decide_eq_true h_c63
      have ho2 := ho.trans (mkF_full hok (by omega) (by omega)); subst ho2
      exact Sx.rt 8 [] H4 (.tuple #[.int .i64 0, .int .i64 18]) (hK C1 W1 _ (pe H4 hL0 [0, 0, 0, 0, 0]) (hg1))
    refine Sx.l 7 0 H4 ?_
    refine Sx.l 8 0 H4 ?_
    have p_c63 := of_decide_eq_false h_c63
    refine Sx.v 1 (.int .i64 (IntKind.i64.wrap (((k : Nat) : Int) + (1 : Int)))) (.int .i64 ((k + 1 : Nat) : Int)) (congrArg (Value.int .i64) (Gx.i64n (by omega) (by omega))) ?_
    refine Sx.v 0 (.int .i64 (IntKind.i64.wrap (((tots (colM M Rt n) : Nat) : Int) + ((k + 1 : Nat) : Int)))) (.int .i64 (((tots (colM M Rt n)) + (k + 1) : Nat) : Int)) (congrArg (Value.int .i64) (Gx.i64n (by omega) (by omega))) ?_
    refine Sx.s 2 0 H4 fun w5 H5 => ?_
    refine Sx.dr 3 H5 [0] [] (LJ := [.blk hb (.cells #[.slice (some ⟨g, 0, none⟩) N N, .int .i64 (((tots (colM M Rt n)) + (k + 1) : Nat) : Int), .slice (some ⟨gm, 0, none⟩) nw nw] 56)]) (by kernel_rfl) fun w6 H6 => ?_
    refine Sx.tk [(0, none), (1, none), (2, none), (3, some (0, [])), (4, none), (5, none), (6, none), (7, none)] (fun _ => (H6.sub [0] (by kernel_rfl))) ?_
    refine Sx.nmx ?_
    intro zx1
    refine Sx.on 8 ?_
    refine Sx.c 0 [] H6 (fun Hp R hR => head_c kd tg ((k : Nat) : Int) (hdv (nw1 kd tg k)) w6 R Hp (hd_nw hok) (fun w7 G2 => hR _ _ _ G2 fun H7 => ?_))
    refine Sx.bk (x := zx1) 8 (fun _ => (H7.sub [0] (by kernel_rfl))) ?_
    refine Sx.tvg 9 [] g (tots (colM M Rt n)) 2 N N (by omega) (fun _ => (H7.sub [0] (by kernel_rfl))) ?_
    refine Sx.nmx ?_
    intro zx2
    refine Sx.on 10 ?_
    refine Sx.sra 0 1 43 2 43 g N N ((tots (colM M Rt n)) * 2) (cls N C1) [.bool false, .int .i64 (hdv (nw1 kd tg k))] H7 (by simp; omega) (cls_put C1 (by omega) ⟨false, (hdv (nw1 kd tg k))⟩) fun w8 H8 => ?_
    refine Sx.bk (x := zx2) 10 (fun _ => (H8.sub [0] (by kernel_rfl))) ?_
    refine Sx.dn ?_
    refine Sx.dr 2 H8 [0] [] (LJ := [.blk hb (.cells #[.slice (some ⟨g, 0, none⟩) N N, .int .i64 (((tots (colM M Rt n)) + (k + 1) : Nat) : Int), .slice (some ⟨gm, 0, none⟩) nw nw] 56)]) (by kernel_rfl) fun w9 H9 => ?_
    refine Sx.tk [(0, none), (1, none), (2, none), (3, some (0, [])), (4, none)] (fun _ => (H9.sub [0] (by kernel_rfl))) ?_
    refine Sx.tva 5 [] (.int .i64 (IntKind.i64.wrap (((tots (colM M Rt n) : Nat) : Int) + (1 : Int)))) (.int .i64 (((tots (colM M Rt n)) + 1 : Nat) : Int)) (congrArg (Value.int .i64) (Gx.i64n (by omega) (by omega))) (fun _ => (H9.sub [0] (by kernel_rfl))) ?_
    refine Sx.tk [(6, none), (7, none), (8, none), (9, some (0, []))] (fun _ => (H9.sub [0] (by kernel_rfl))) ?_
    refine Sx.tvs2 10 [] g N N ((tots (colM M Rt n)) + 1) ((tots (colM M Rt n)) + (k + 1)) 2 (by omega) (by omega) (fun _ => (H9.sub [0] (by kernel_rfl))) ?_
    refine Sx.nmx ?_
    intro zx3
    refine Sx.on 11 ?_
    have hkk : (((tots (colM M Rt n)) + (k + 1)) - ((tots (colM M Rt n)) + 1)) = k := by omega
    refine Sx.cle 0 1 43 2 31 N N g (slB g N ((tots (colM M Rt n)) + 1) 2) (((tots (colM M Rt n)) + (k + 1)) - ((tots (colM M Rt n)) + 1)) (N - ((tots (colM M Rt n)) + 1)) ((tots (colM M Rt n) + 1) * 2) (cls N (upd C1 (tots (colM M Rt n)) ⟨false, (hdv (nw1 kd tg k))⟩)) [.bool false, .int .i64 0] H9 (fun h => slB_lt (by omega)) (by simp; omega) (xs' := cls N (putC C1 (tots (colM M Rt n)) (nw1 kd tg k))) (by rw [hkk]; exact cls_clear _ _ _ (by omega)) (el := 43) (z := .agg #[.bool false, .int .i64 0]) fun w10 H10 => ?_
    refine Sx.bk (x := zx3) 11 (fun _ => (H10.sub [0] (by kernel_rfl))) ?_
    refine Sx.dn ?_
    have H12 := H10; rw [show (tots (colM M Rt n)) + (k + 1) = tots ((colM M Rt n) ++ [nw1 kd tg k]) from by rw [tots_nw]; omega] at H12
    have ho2 := ho.trans (mkF_col hok (by omega) (by omega)); subst ho2
    exact Sx.rt 9 [] H12 (.tuple #[.int .i64 ((tots (colM M Rt n) : Nat) : Int), .int .i64 0]) (hK (putC C1 (tots (colM M Rt n)) (nw1 kd tg k)) W1 _ (pe H12 hL0 [0, 0, 0, 0, 0]) ((hg1).app ⟨hok.1, hok.2.1⟩ ⟨hok.2.2.1, hok.2.2.2.1⟩ hok.2.2.2.2 (by omega)))
  refine Sx.l 7 0 H1 ?_
  refine Sx.l 8 0 H1 ?_
  have p_c47 := of_decide_eq_false h_c47
  refine Sx.v 1 (.int .i64 (IntKind.i64.wrap (((k : Nat) : Int) + (1 : Int)))) (.int .i64 ((k + 1 : Nat) : Int)) (congrArg (Value.int .i64) (Gx.i64n (by omega) (by omega))) ?_
  refine Sx.v 0 (.int .i64 (IntKind.i64.wrap (((tots M : Nat) : Int) + ((k + 1 : Nat) : Int)))) (.int .i64 (((tots M) + (k + 1) : Nat) : Int)) (congrArg (Value.int .i64) (Gx.i64n (by omega) (by omega))) ?_
  refine Sx.s 2 0 H1 fun w11 H13 => ?_
  refine Sx.dr 3 H13 [0] [] (LJ := [.blk hb (.cells #[.slice (some ⟨g, 0, none⟩) N N, .int .i64 (((tots M) + (k + 1) : Nat) : Int), .slice (some ⟨gm, 0, none⟩) nw nw] 56)]) (by kernel_rfl) fun w12 H14 => ?_
  refine Sx.tk [(0, none), (1, none), (2, none), (3, some (0, [])), (4, none), (5, none), (6, none), (7, none)] (fun _ => (H14.sub [0] (by kernel_rfl))) ?_
  refine Sx.nmx ?_
  intro zx4
  refine Sx.on 8 ?_
  refine Sx.c 0 [] H14 (fun Hp R hR => head_c kd tg ((k : Nat) : Int) (hdv (nw1 kd tg k)) w12 R Hp (hd_nw hok) (fun w13 G3 => hR _ _ _ G3 fun H15 => ?_))
  refine Sx.bk (x := zx4) 8 (fun _ => (H15.sub [0] (by kernel_rfl))) ?_
  refine Sx.tvg 9 [] g (tots M) 2 N N (by omega) (fun _ => (H15.sub [0] (by kernel_rfl))) ?_
  refine Sx.nmx ?_
  intro zx5
  refine Sx.on 10 ?_
  refine Sx.sra 0 1 43 2 43 g N N ((tots M) * 2) (cls N C) [.bool false, .int .i64 (hdv (nw1 kd tg k))] H15 (by simp; omega) (cls_put C (by omega) ⟨false, (hdv (nw1 kd tg k))⟩) fun w14 H16 => ?_
  refine Sx.bk (x := zx5) 10 (fun _ => (H16.sub [0] (by kernel_rfl))) ?_
  refine Sx.dn ?_
  refine Sx.dr 2 H16 [0] [] (LJ := [.blk hb (.cells #[.slice (some ⟨g, 0, none⟩) N N, .int .i64 (((tots M) + (k + 1) : Nat) : Int), .slice (some ⟨gm, 0, none⟩) nw nw] 56)]) (by kernel_rfl) fun w15 H17 => ?_
  refine Sx.tk [(0, none), (1, none), (2, none), (3, some (0, [])), (4, none)] (fun _ => (H17.sub [0] (by kernel_rfl))) ?_
  refine Sx.tva 5 [] (.int .i64 (IntKind.i64.wrap (((tots M : Nat) : Int) + (1 : Int)))) (.int .i64 (((tots M) + 1 : Nat) : Int)) (congrArg (Value.int .i64) (Gx.i64n (by omega) (by omega))) (fun _ => (H17.sub [0] (by kernel_rfl))) ?_
  refine Sx.tk [(6, none), (7, none), (8, none), (9, some (0, []))] (fun _ => (H17.sub [0] (by kernel_rfl))) ?_
  refine Sx.tvs2 10 [] g N N ((tots M) + 1) ((tots M) + (k + 1)) 2 (by omega) (by omega) (fun _ => (H17.sub [0] (by kernel_rfl))) ?_
  refine Sx.nmx ?_
  intro zx6
  refine Sx.on 11 ?_
  have hkk : (((tots M) + (k + 1)) - ((tots M) + 1)) = k := by omega
  refine Sx.cle 0 1 43 2 31 N N g (slB g N ((tots M) + 1) 2) (((tots M) + (k + 1)) - ((tots M) + 1)) (N - ((tots M) + 1)) ((tots M + 1) * 2) (cls N (upd C (tots M) ⟨false, (hdv (nw1 kd tg k))⟩)) [.bool false, .int .i64 0] H17 (fun h => slB_lt (by omega)) (by simp; omega) (xs' := cls N (putC C (tots M) (nw1 kd tg k))) (by rw [hkk]; exact cls_clear _ _ _ (by omega)) (el := 43) (z := .agg #[.bool false, .int .i64 0]) fun w16 H18 => ?_
  refine Sx.bk (x := zx6) 11 (fun _ => (H18.sub [0] (by kernel_rfl))) ?_
  refine Sx.dn ?_
  have H20 := H18; rw [show (tots M) + (k + 1) = tots (M ++ [nw1 kd tg k]) from by rw [tots_nw]; omega] at H20
  have ho2 := ho.trans (mkF_app hok (by omega)); subst ho2
  exact Sx.rt 9 [] H20 (.tuple #[.int .i64 ((tots M : Nat) : Int), .int .i64 0]) (hK (putC C (tots M) (nw1 kd tg k)) W0 _ (pe H20 hL0 [0, 0, 0, 0, 0]) ((hg).app ⟨hok.1, hok.2.1⟩ ⟨hok.2.2.1, hok.2.2.2.1⟩ hok.2.2.2.2 (by omega)))
end Go.Proofs.Ytlddkcdjegcleaa
