/- A part of the proof (YtlddkcdjegcleaaHw12), printed by a program of ours. -/
import Derived.Test.YtlddkcdjegcleaaProg
import Derived.Test.YtlddkcdjegcleaaHq
import Derived.Test.YtlddkcdjegcleaaHj
import Derived.Test.YtlddkcdjegcleaaHw1
import Derived.Test.YtlddkcdjegcleaaHw2
import Derived.Test.YtlddkcdjegcleaaHw3
import Derived.Test.YtlddkcdjegcleaaHw4
import Derived.Test.YtlddkcdjegcleaaHw5
import Derived.Test.YtlddkcdjegcleaaHw6
import Derived.Test.YtlddkcdjegcleaaHw7
import Derived.Test.YtlddkcdjegcleaaHw8
import Derived.Test.YtlddkcdjegcleaaHw9
import Derived.Test.YtlddkcdjegcleaaHw10
import Derived.Test.YtlddkcdjegcleaaHw11
set_option linter.unusedVariables false
set_option linter.unusedSimpArgs false
namespace Go.Proofs.Ytlddkcdjegcleaa
open Go.RowKit Go.Sx Go.Hp
attribute [local irreducible] Go.wpOps Go.Code.wp Go.wpOp Go.wpAnyH Go.Calls Go.Sx.Goal Go.Code.wpIn
set_option maxRecDepth 20000
theorem gd0 {N n : Nat} : Gd N n [] (fun _ => ⟨false, 0⟩) (fun _ => ⟨false, 0⟩) := ⟨⟨fun i t h => by simp at h, fun i t j c h => by simp at h⟩, fun t h => absurd h List.not_mem_nil, ⟨fun t h => absurd h List.not_mem_nil, fun c hc => by obtain ⟨_, _, rfl⟩ := List.mem_map.1 hc; exact Ok_no rfl, fun t h => absurd h List.not_mem_nil⟩, Nat.zero_le _⟩
set_option maxHeartbeats 8000000 in
theorem heaps_c (z : Int) (OA : Option Addr) (m oc : Nat) (kd rr aa bb cc : Nat → Int) (w : World) (K : Ending → World → Prop) (H0 : Sp w [entI w]) (hOps : Gx.Rd w OA m 5 (fun i => [.int .i64 (kd i), .int .i64 (rr i), .int .i64 (aa i), .int .i64 (bb i), .int .i64 (cc i)])) (hK : ∀ w', Hs w [entI w] w' [entI w] → K (.returned (.bool true)) w') :
    Calls Try.prog 3 #[.int .i64 z, .slice OA m oc] w K := by
  obtain ⟨L0, hL0, H⟩ : ∃ L0, L0 = [entI w] ∧ Hs w L0 w [entI w] := ⟨_, rfl, Hs.refl H0⟩
  refine Sx.en (vs := [.int .i64 z, .slice OA m oc]) 297 Try.func3 ?_
  refine Or.elim (Classical.em (z < 0 ∨ z > 1000000)) (fun hbad => ?_) (fun hgood => ?_)
  · skip
    refine Sx.c 8 [] H (fun Hp R hR => New_bad z w R Hp hbad (fun w1 G1 => hR _ _ _ G1 fun H1 => ?_))
    refine Sx.cut 8 (fun l' w' => l' = [(0, .int .i64 z), (1, .slice OA m oc), (5, .pointer none), (6, .int .i64 11), (39, .bool ((decide (z < (0 : Int))) || (decide (z > (1000000 : Int)))))] ∧ w1 = w') (fun K1 hK1 => ?_) (fun b1 l1 w2 hI1 => ?_)
    · skip
      refine Sx.sp 4 36 (decide (z < (0 : Int))) (fun h_g36 => ?_) (fun h_g36 => ?_)
      · skip
        exact Sx.to 4 [(0, .int .i64 z), (1, .slice OA m oc), (5, .pointer none), (6, .int .i64 11), (39, .bool ((decide (z < (0 : Int))) || (decide (z > (1000000 : Int)))))] (hK1 _ _ _ ⟨rfl, rfl⟩) (h2 := (by rw [h_g36]; try kernel_rfl))
      exact Sx.to 4 [(0, .int .i64 z), (1, .slice OA m oc), (5, .pointer none), (6, .int .i64 11), (39, .bool ((decide (z < (0 : Int))) || (decide (z > (1000000 : Int)))))] (hK1 _ _ _ ⟨rfl, rfl⟩) (h2 := (by rw [h_g36]; try kernel_rfl))
    obtain ⟨rfl, rfl⟩ := hI1
    refine Sx.br 0 ((decide (z < (0 : Int))) || (decide (z > (1000000 : Int)))) (fun h_c39 => ?_) (fun h_c39 => ?_)
    · skip
      refine Sx.nz 11 (.code (Sx.cat [1, 1, 0, 1, 0, 1] (Sx.bodyOf Try.f3))) [.code (Sx.cat [1, 1, 1] (Sx.bodyOf Try.f3))] [(4, .bool true)] fun b2 => ?_
      have p_c39 := h_c39; try simp [-List.getD_eq_getElem?_getD] at p_c39
      exact Sx.rt 2 [] H1 (.bool true) (hK _ (pe H1 hL0 [0]))
    have p_c39 := h_c39; try simp [-List.getD_eq_getElem?_getD] at p_c39
    simp at h_c39; omega
  obtain ⟨N, rfl⟩ : ∃ N : Nat, z = (N : Int) := ⟨z.toNat, by omega⟩
  obtain ⟨nw, hnw⟩ : ∃ nw, nw = N / 64 + 1 := ⟨_, rfl⟩
  have hN6 : N ≤ 1000000 := by omega
  have hNw : N < 64 * nw := by omega
  have hz0 : 64 * nw < 1000000000000 := by omega
  have hn : (6 : Nat) < 1000000000 := by omega
  have hn1 : (6 : Nat) < 1000000 := by omega
  refine Sx.nz 5 (.code (Sx.cat [1] (Sx.bodyOf Try.f3))) [] [(0, .int .i64 ((N : Nat) : Int)), (1, .slice OA m oc)] fun b3 => ?_
  refine Sx.c 3 [] H (fun Hp R hR => New_c N nw w R Hp hN6 hnw (fun hb g gm w3 G2 => hR _ _ _ G2 fun H2 => ?_))
  refine Sx.br 18 (decide (((N : Nat) : Int) > (1000000 : Int))) (fun h_c39 => ?_) (fun h_c39 => ?_)
  · skip
    have p_c39 := of_decide_eq_true h_c39
    simp at h_c39; omega
  refine Sx.nw 20 H2 fun gh w4 H3 => ?_
  have p_c39 := of_decide_eq_false h_c39
  refine Sx.mkC 5 43 2 16 6 (.agg #[.bool false, .int .i64 0]) [.bool false, .int .i64 0] H3 (by omega) (by omega) (cls_rep _) fun gr w5 H4 => ?_
  refine Sx.mkC 5 43 2 16 6 (.agg #[.bool false, .int .i64 0]) [.bool false, .int .i64 0] H4 (by omega) (by omega) (cls_rep _) fun gb w6 H5 => ?_
  have H6 := H5.add (Gx.Ext.refl _) (it := .own 46 4 none 0 0 []) (World.ownsRow_nil _ _ _ _) (fun _ h => by cases h)
  have H7 := rw_nil H6 (fun _ => 0) (lnM []) (fld [])
  have H8 := H7.pick (a := [entI w, .blk hb (.cells #[.slice (some ⟨g, 0, none⟩) N N, .int .i64 ((tots ([] : List Th) : Nat) : Int), .slice (some ⟨gm, 0, none⟩) nw nw] 56), .own 43 2 (some ⟨g, 0, none⟩) N N (cls N (fun _ => ⟨false, 0⟩)), .own 72 1 (some ⟨gm, 0, none⟩) nw nw (wds .u64 nw (fun _ => 0)), .blk gh (.cells #[.int .i64 ((N : Nat) : Int), .slice none (([] : List Th).length) 0] 30), .own 46 4 none 0 (([] : List Th).length) (ths (([] : List Th).length) (adr ([] : List Th)) (thM ([] : List Th)) (fun _ => 0)), rwsI (([] : List Th).length) (fun _ => 0) (lnM ([] : List Th)) (fld ([] : List Th)), .own 43 2 (some ⟨gr, 0, none⟩) 6 6 (cls 6 (fun _ => ⟨false, 0⟩)), .own 43 2 (some ⟨gb, 0, none⟩) 6 6 (cls 6 (fun _ => ⟨false, 0⟩))]) [3, 0, 0, 0, 0, 2, 2, 0, 0] (by kernel_rfl)
  refine Sx.lp 10 (fun z l' w' => ∃ (i : Nat) (C : Nat → Cl) (W : Nat → Int) (M : List Th) (Rt : Nat → Cl) (A : Option Addr) (c : Nat) (G : Nat → Nat), l' = [(1, .slice OA m oc), (5, .pointer (some ⟨hb, 0, none⟩)), (7, .pointer (some ⟨gh, 0, none⟩)), (8, .slice (some ⟨gr, 0, none⟩) 6 6), (9, .slice (some ⟨gb, 0, none⟩) 6 6), (10, .int .i64 ((i : Nat) : Int))] ∧ z = 300 - i ∧ Hs w L0 w' [entI w, .blk hb (.cells #[.slice (some ⟨g, 0, none⟩) N N, .int .i64 ((tots M : Nat) : Int), .slice (some ⟨gm, 0, none⟩) nw nw] 56), .own 43 2 (some ⟨g, 0, none⟩) N N (cls N C), .own 72 1 (some ⟨gm, 0, none⟩) nw nw (wds .u64 nw W), .blk gh (.cells #[.int .i64 ((N : Nat) : Int), .slice A M.length c] 30), .own 46 4 A c M.length (ths M.length (adr M) (thM M) G), rwsI M.length G (lnM M) (fld M), .own 43 2 (some ⟨gr, 0, none⟩) 6 6 (cls 6 Rt), .own 43 2 (some ⟨gb, 0, none⟩) 6 6 (cls 6 Rt)] ∧ (Gd N 6 M C Rt)) _ [(1, .slice OA m oc), (5, .pointer (some ⟨hb, 0, none⟩)), (7, .pointer (some ⟨gh, 0, none⟩)), (8, .slice (some ⟨gr, 0, none⟩) 6 6), (9, .slice (some ⟨gb, 0, none⟩) 6 6), (10, .int .i64 ((0 : Nat) : Int))] ⟨0, (fun _ => ⟨false, 0⟩), (fun _ => 0), ([] : List Th), (fun _ => ⟨false, 0⟩), none, 0, (fun _ => 0), rfl, rfl, H8, gd0⟩ (fun b4 z1 l2 w7 hI2 K2 hK2 => ?_)
  obtain ⟨i, C, W, M, Rt, A, c, G, rfl, rfl, H9, hg⟩ := hI2
  have hle := hg.le; have hm6 : tots M ≤ 1000000 := Nat.le_trans hg.le hN6; have hwf := hg.wf; have hml := len_le M
  refine Sx.cut 1 (fun l' w' => l' = [(1, .slice OA m oc), (5, .pointer (some ⟨hb, 0, none⟩)), (7, .pointer (some ⟨gh, 0, none⟩)), (8, .slice (some ⟨gr, 0, none⟩) 6 6), (9, .slice (some ⟨gb, 0, none⟩) 6 6), (10, .int .i64 ((i : Nat) : Int)), (64, .bool ((decide (((i : Nat) : Int) < ((m : Nat) : Int))) && (decide (((i : Nat) : Int) < (300 : Int)))))] ∧ w7 = w') (fun K3 hK3 => ?_) (fun b5 l3 w8 hI3 => ?_)
  · skip
    refine Sx.sp 6 61 (decide (((i : Nat) : Int) < ((m : Nat) : Int))) (fun h_g61 => ?_) (fun h_g61 => ?_)
    · skip
      exact Sx.to 4 [(1, .slice OA m oc), (5, .pointer (some ⟨hb, 0, none⟩)), (7, .pointer (some ⟨gh, 0, none⟩)), (8, .slice (some ⟨gr, 0, none⟩) 6 6), (9, .slice (some ⟨gb, 0, none⟩) 6 6), (10, .int .i64 ((i : Nat) : Int)), (64, .bool ((decide (((i : Nat) : Int) < ((m : Nat) : Int))) && (decide (((i : Nat) : Int) < (300 : Int)))))] (hK3 _ _ _ ⟨rfl, rfl⟩) (h2 := (by rw [h_g61]; try kernel_rfl))
    exact Sx.to 4 [(1, .slice OA m oc), (5, .pointer (some ⟨hb, 0, none⟩)), (7, .pointer (some ⟨gh, 0, none⟩)), (8, .slice (some ⟨gr, 0, none⟩) 6 6), (9, .slice (some ⟨gb, 0, none⟩) 6 6), (10, .int .i64 ((i : Nat) : Int)), (64, .bool ((decide (((i : Nat) : Int) < ((m : Nat) : Int))) && (decide (((i : Nat) : Int) < (300 : Int)))))] (hK3 _ _ _ ⟨rfl, rfl⟩) (h2 := (by rw [h_g61]; try kernel_rfl))
  obtain ⟨rfl, rfl⟩ := hI3
  refine Sx.br 0 ((decide (((i : Nat) : Int) < ((m : Nat) : Int))) && (decide (((i : Nat) : Int) < (300 : Int)))) (fun h_c64 => ?_) (fun h_c64 => ?_)
  · skip
    refine Sx.nz 2 (.code (Sx.cat [1, 1, 1, 1, 1, 1, 1, 0, 1, 0, 0, 1] (Sx.bodyOf Try.f3))) [.to K2, .blk 0, .code (Sx.cat [1, 1, 1, 1, 1, 1, 1, 1] (Sx.bodyOf Try.f3))] [(1, .slice OA m oc), (5, .pointer (some ⟨hb, 0, none⟩)), (7, .pointer (some ⟨gh, 0, none⟩)), (8, .slice (some ⟨gr, 0, none⟩) 6 6), (9, .slice (some ⟨gb, 0, none⟩) 6 6), (10, .int .i64 ((i : Nat) : Int))] fun b6 => ?_
    have p_c64 := h_c64; try simp [-List.getD_eq_getElem?_getD] at p_c64
    have hi3 : i < m ∧ i < 300 := by have h := h_c64; simp at h; omega
    obtain ⟨ad, hA, hcs⟩ := hOps i hi3.1
    refine Sx.ia 6 ad i 5 m oc hA (by omega) ?_
    refine Sx.lo (c := 5) (t := 33) 0 [.int .i64 (kd i), .int .i64 (rr i), .int .i64 (aa i), .int .i64 (bb i), .int .i64 (cc i)] (.agg #[.int .i64 (kd i), .int .i64 (rr i), .int .i64 (aa i), .int .i64 (bb i), .int .i64 (cc i)]) (ent_cells (H9.at 0 (it := entI w) (by kernel_rfl)) hcs (by omega)) ?_
    refine Sx.nw 0 H9 fun k1 w9 H10 => ?_
    refine Sx.s 0 9 H10 fun w10 H11 => ?_
    refine Sx.l 5 9 H11 ?_
    refine Sx.c 0 [] H11 (fun Hp R hR => mod_c (rr i) 6 w10 R Hp (by omega) (by omega) (hR _ _ _ (.refl Hp) fun _ => ?_))
    obtain ⟨rn, hrn⟩ : ∃ x : Nat, rr i % ((6 : Nat) : Int) = (x : Int) := ⟨(rr i % ((6 : Nat) : Int)).toNat, by omega⟩
    have hr6 : rn < 6 := by omega
    refine Sx.sl 4 12 (.int .i64 (rr i % ((6 : Nat) : Int))) (.int .i64 ((rn : Nat) : Int)) (by rw [hrn]) ?_
    refine Sx.l 2 9 H11 ?_
    refine Sx.c 0 [] H11 (fun Hp R hR => mod_c (aa i) 6 w10 R Hp (by omega) (by omega) (hR _ _ _ (.refl Hp) fun _ => ?_))
    refine Sx.nz 3 (.code (Sx.cat [1, 1, 1, 1, 1, 1, 1, 0, 1, 0, 0, 1, 0, 0, 1, 1, 1] (Sx.bodyOf Try.f3))) [.blk 1, .code (Sx.cat [1, 1, 1, 1, 1, 1, 1, 0, 1, 0, 0, 1, 1] (Sx.bodyOf Try.f3)), .to K2, .blk 0, .code (Sx.cat [1, 1, 1, 1, 1, 1, 1, 1] (Sx.bodyOf Try.f3))] [(1, .slice OA m oc), (5, .pointer (some ⟨hb, 0, none⟩)), (7, .pointer (some ⟨gh, 0, none⟩)), (8, .slice (some ⟨gr, 0, none⟩) 6 6), (9, .slice (some ⟨gb, 0, none⟩) 6 6), (10, .int .i64 ((i : Nat) : Int)), (11, .pointer (some ⟨k1, 0, none⟩)), (12, .int .i64 ((rn : Nat) : Int)), (13, .int .i64 ((aa i) % ((6 : Nat) : Int)))] fun b7 => ?_
    obtain ⟨kn, hkn⟩ : ∃ x : Nat, aa i % ((6 : Nat) : Int) = (x : Int) := ⟨(aa i % ((6 : Nat) : Int)).toNat, by omega⟩
    have hk6 : kn < 6 := by omega
    refine Sx.sl 1 13 (.int .i64 (aa i % ((6 : Nat) : Int))) (.int .i64 ((kn : Nat) : Int)) (by rw [hkn]) ?_
    refine Sx.cut 4 (fun l' w' => ∃ (C2 : Nat → Cl) (W2 : Nat → Int) (M2 : List Th) (R2 : Nat → Cl) (A2 : Option Addr) (c2 : Nat) (G2 : Nat → Nat), l' = [(1, .slice OA m oc), (5, .pointer (some ⟨hb, 0, none⟩)), (7, .pointer (some ⟨gh, 0, none⟩)), (8, .slice (some ⟨gr, 0, none⟩) 6 6), (9, .slice (some ⟨gb, 0, none⟩) 6 6), (10, .int .i64 ((i : Nat) : Int))] ∧ Hs w L0 w' [entI w, .blk hb (.cells #[.slice (some ⟨g, 0, none⟩) N N, .int .i64 ((tots M2 : Nat) : Int), .slice (some ⟨gm, 0, none⟩) nw nw] 56), .own 43 2 (some ⟨g, 0, none⟩) N N (cls N C2), .own 72 1 (some ⟨gm, 0, none⟩) nw nw (wds .u64 nw W2), .blk gh (.cells #[.int .i64 ((N : Nat) : Int), .slice A2 M2.length c2] 30), .own 46 4 A2 c2 M2.length (ths M2.length (adr M2) (thM M2) G2), rwsI M2.length G2 (lnM M2) (fld M2), .own 43 2 (some ⟨gr, 0, none⟩) 6 6 (cls 6 R2), .own 43 2 (some ⟨gb, 0, none⟩) 6 6 (cls 6 R2)] ∧ (Gd N 6 M2 C2 R2)) (fun K4 hK4 => ?_) (fun b8 l4 w11 hI4 => ?_)
    · skip
      refine Sx.l 3 9 H11 ?_
      refine Sx.c 0 [] H11 (fun Hp R hR => mod_c (kd i) 8 w10 R Hp (by omega) (by omega) (hR _ _ _ (.refl Hp) fun _ => ?_))
      refine Sx.cut 3 (fun l' w' => ∃ (q1 : Bool), l' = [(1, .slice OA m oc), (5, .pointer (some ⟨hb, 0, none⟩)), (7, .pointer (some ⟨gh, 0, none⟩)), (8, .slice (some ⟨gr, 0, none⟩) 6 6), (9, .slice (some ⟨gb, 0, none⟩) 6 6), (10, .int .i64 ((i : Nat) : Int)), (11, .pointer (some ⟨k1, 0, none⟩)), (12, .int .i64 ((rn : Nat) : Int)), (13, .int .i64 ((kn : Nat) : Int)), (79, .int .i64 ((kd i) % ((8 : Nat) : Int))), (91, .bool q1)] ∧ Hs w L0 w' [entI w, .blk hb (.cells #[.slice (some ⟨g, 0, none⟩) N N, .int .i64 ((tots M : Nat) : Int), .slice (some ⟨gm, 0, none⟩) nw nw] 56), .own 43 2 (some ⟨g, 0, none⟩) N N (cls N C), .own 72 1 (some ⟨gm, 0, none⟩) nw nw (wds .u64 nw W), .blk gh (.cells #[.int .i64 ((N : Nat) : Int), .slice A M.length c] 30), .own 46 4 A c M.length (ths M.length (adr M) (thM M) G), rwsI M.length G (lnM M) (fld M), .own 43 2 (some ⟨gr, 0, none⟩) 6 6 (cls 6 Rt), .own 43 2 (some ⟨gb, 0, none⟩) 6 6 (cls 6 Rt), .blk k1 (.cells #[.int .i64 (kd i), .int .i64 (rr i), .int .i64 (aa i), .int .i64 (bb i), .int .i64 (cc i)] 33)]) (fun K5 hK5 => ?_) (fun b9 l5 w12 hI5 => ?_)
      · skip
        refine Sx.br 6 (((kd i) % ((8 : Nat) : Int)) == (0 : Int)) (fun h_c91 => ?_) (fun h_c91 => ?_)
        · skip
          refine Sx.sl 1 91 (.bool (((kd i) % ((8 : Nat) : Int)) == (0 : Int))) (.bool true) (congrArg Value.bool h_c91) ?_
          have p_c91 := Gx.k1 h_c91
          have H12 := H11.pick (a := [entI w, .blk hb (.cells #[.slice (some ⟨g, 0, none⟩) N N, .int .i64 ((tots M : Nat) : Int), .slice (some ⟨gm, 0, none⟩) nw nw] 56), .own 43 2 (some ⟨g, 0, none⟩) N N (cls N C), .own 72 1 (some ⟨gm, 0, none⟩) nw nw (wds .u64 nw W), .blk gh (.cells #[.int .i64 ((N : Nat) : Int), .slice A M.length c] 30), .own 46 4 A c M.length (ths M.length (adr M) (thM M) G), rwsI M.length G (lnM M) (fld M), .own 43 2 (some ⟨gr, 0, none⟩) 6 6 (cls 6 Rt), .own 43 2 (some ⟨gb, 0, none⟩) 6 6 (cls 6 Rt), .blk k1 (.cells #[.int .i64 (kd i), .int .i64 (rr i), .int .i64 (aa i), .int .i64 (bb i), .int .i64 (cc i)] 33)]) [0, 0, 0, 0, 0, 0, 0, 0, 0, 0] (by kernel_rfl)
          exact Sx.to 0 [(1, .slice OA m oc), (5, .pointer (some ⟨hb, 0, none⟩)), (7, .pointer (some ⟨gh, 0, none⟩)), (8, .slice (some ⟨gr, 0, none⟩) 6 6), (9, .slice (some ⟨gb, 0, none⟩) 6 6), (10, .int .i64 ((i : Nat) : Int)), (11, .pointer (some ⟨k1, 0, none⟩)), (12, .int .i64 ((rn : Nat) : Int)), (13, .int .i64 ((kn : Nat) : Int)), (79, .int .i64 ((kd i) % ((8 : Nat) : Int))), (91, .bool true)] (hK5 _ _ _ ⟨true, rfl, H12⟩)
        refine Sx.nz 6 (.code (Sx.cat [1, 1, 1, 1, 1, 1, 1, 0, 1, 0, 0, 1, 0, 0, 1, 1, 1, 1, 0, 1, 0, 0, 1, 1, 1] (Sx.bodyOf Try.f3))) [.to K5, .blk 2, .to K4, .blk 1, .code (Sx.cat [1, 1, 1, 1, 1, 1, 1, 0, 1, 0, 0, 1, 1] (Sx.bodyOf Try.f3)), .to K2, .blk 0, .code (Sx.cat [1, 1, 1, 1, 1, 1, 1, 1] (Sx.bodyOf Try.f3))] [(1, .slice OA m oc), (5, .pointer (some ⟨hb, 0, none⟩)), (7, .pointer (some ⟨gh, 0, none⟩)), (8, .slice (some ⟨gr, 0, none⟩) 6 6), (9, .slice (some ⟨gb, 0, none⟩) 6 6), (10, .int .i64 ((i : Nat) : Int)), (11, .pointer (some ⟨k1, 0, none⟩)), (12, .int .i64 ((rn : Nat) : Int)), (13, .int .i64 ((kn : Nat) : Int)), (79, .int .i64 ((kd i) % ((8 : Nat) : Int))), (91, .bool (((kd i) % ((8 : Nat) : Int)) == (1 : Int)))] fun b10 => ?_
        refine Sx.br 0 (((kd i) % ((8 : Nat) : Int)) == (1 : Int)) (fun h_c91_1 => ?_) (fun h_c91_1 => ?_)
        · skip
          refine Sx.sl 1 91 (.bool (((kd i) % ((8 : Nat) : Int)) == (1 : Int))) (.bool true) (congrArg Value.bool h_c91_1) ?_
          have p_c91 := Gx.k0 h_c91
          have p_c91_1 := Gx.k1 h_c91_1
          have H13 := H11.pick (a := [entI w, .blk hb (.cells #[.slice (some ⟨g, 0, none⟩) N N, .int .i64 ((tots M : Nat) : Int), .slice (some ⟨gm, 0, none⟩) nw nw] 56), .own 43 2 (some ⟨g, 0, none⟩) N N (cls N C), .own 72 1 (some ⟨gm, 0, none⟩) nw nw (wds .u64 nw W), .blk gh (.cells #[.int .i64 ((N : Nat) : Int), .slice A M.length c] 30), .own 46 4 A c M.length (ths M.length (adr M) (thM M) G), rwsI M.length G (lnM M) (fld M), .own 43 2 (some ⟨gr, 0, none⟩) 6 6 (cls 6 Rt), .own 43 2 (some ⟨gb, 0, none⟩) 6 6 (cls 6 Rt), .blk k1 (.cells #[.int .i64 (kd i), .int .i64 (rr i), .int .i64 (aa i), .int .i64 (bb i), .int .i64 (cc i)] 33)]) [0, 0, 0, 0, 0, 0, 0, 0, 0, 0] (by kernel_rfl)
          exact Sx.to 0 [(1, .slice OA m oc), (5, .pointer (some ⟨hb, 0, none⟩)), (7, .pointer (some ⟨gh, 0, none⟩)), (8, .slice (some ⟨gr, 0, none⟩) 6 6), (9, .slice (some ⟨gb, 0, none⟩) 6 6), (10, .int .i64 ((i : Nat) : Int)), (11, .pointer (some ⟨k1, 0, none⟩)), (12, .int .i64 ((rn : Nat) : Int)), (13, .int .i64 ((kn : Nat) : Int)), (79, .int .i64 ((kd i) % ((8 : Nat) : Int))), (91, .bool true)] (hK5 _ _ _ ⟨true, rfl, H13⟩)
        have p_c91 := Gx.k0 h_c91
        have p_c91_1 := Gx.k0 h_c91_1
        have H14 := H11.pick (a := [entI w, .blk hb (.cells #[.slice (some ⟨g, 0, none⟩) N N, .int .i64 ((tots M : Nat) : Int), .slice (some ⟨gm, 0, none⟩) nw nw] 56), .own 43 2 (some ⟨g, 0, none⟩) N N (cls N C), .own 72 1 (some ⟨gm, 0, none⟩) nw nw (wds .u64 nw W), .blk gh (.cells #[.int .i64 ((N : Nat) : Int), .slice A M.length c] 30), .own 46 4 A c M.length (ths M.length (adr M) (thM M) G), rwsI M.length G (lnM M) (fld M), .own 43 2 (some ⟨gr, 0, none⟩) 6 6 (cls 6 Rt), .own 43 2 (some ⟨gb, 0, none⟩) 6 6 (cls 6 Rt), .blk k1 (.cells #[.int .i64 (kd i), .int .i64 (rr i), .int .i64 (aa i), .int .i64 (bb i), .int .i64 (cc i)] 33)]) [0, 0, 0, 0, 0, 0, 0, 0, 0, 0] (by kernel_rfl)
        exact Sx.to 4 [(1, .slice OA m oc), (5, .pointer (some ⟨hb, 0, none⟩)), (7, .pointer (some ⟨gh, 0, none⟩)), (8, .slice (some ⟨gr, 0, none⟩) 6 6), (9, .slice (some ⟨gb, 0, none⟩) 6 6), (10, .int .i64 ((i : Nat) : Int)), (11, .pointer (some ⟨k1, 0, none⟩)), (12, .int .i64 ((rn : Nat) : Int)), (13, .int .i64 ((kn : Nat) : Int)), (79, .int .i64 ((kd i) % ((8 : Nat) : Int))), (91, .bool (((kd i) % ((8 : Nat) : Int)) == (7 : Int)))] (hK5 _ _ _ ⟨(((kd i) % ((8 : Nat) : Int)) == (7 : Int)), rfl, H14⟩)
      obtain ⟨q1, rfl, H15⟩ := hI5
      refine Sx.br 0 q1 (fun h_c91 => ?_) (fun h_c91 => ?_)
      · skip
        refine Sx.l 3 9 H15 ?_
        have p_c91 := h_c91; try simp [-List.getD_eq_getElem?_getD] at p_c91
        refine Sx.c 0 [] H15 (fun Hp R hR => mod_c (aa i) 5 w12 R Hp (by omega) (by omega) (hR _ _ _ (.refl Hp) fun _ => ?_))
        refine Sx.nz 3 (.code (Sx.cat [1, 1, 1, 1, 1, 1, 1, 0, 1, 0, 0, 1, 0, 0, 1, 1, 1, 1, 0, 1, 0, 1, 0, 1] (Sx.bodyOf Try.f3))) [.blk 2, .to K4, .blk 1, .code (Sx.cat [1, 1, 1, 1, 1, 1, 1, 0, 1, 0, 0, 1, 1] (Sx.bodyOf Try.f3)), .to K2, .blk 0, .code (Sx.cat [1, 1, 1, 1, 1, 1, 1, 1] (Sx.bodyOf Try.f3))] [(1, .slice OA m oc), (5, .pointer (some ⟨hb, 0, none⟩)), (7, .pointer (some ⟨gh, 0, none⟩)), (8, .slice (some ⟨gr, 0, none⟩) 6 6), (9, .slice (some ⟨gb, 0, none⟩) 6 6), (10, .int .i64 ((i : Nat) : Int)), (11, .pointer (some ⟨k1, 0, none⟩)), (12, .int .i64 ((rn : Nat) : Int)), (15, .int .i64 ((aa i) % ((5 : Nat) : Int)))] fun b11 => ?_
        refine Sx.l 3 9 H15 ?_
        refine Sx.c 0 [] H15 (fun Hp R hR => mod_c (bb i) 65536 w12 R Hp (by omega) (by omega) (hR _ _ _ (.refl Hp) fun _ => ?_))
        refine Sx.l 6 9 H15 ?_
        refine Sx.c 0 [] H15 (fun Hp R hR => mod_c (cc i) 9 w12 R Hp (by omega) (by omega) (hR _ _ _ (.refl Hp) fun _ => ?_))
        refine Sx.cut 3 (fun l' w' => ∃ (kd0 : Int) (tg0 : Int) (z0 : Int), l' = [(1, .slice OA m oc), (5, .pointer (some ⟨hb, 0, none⟩)), (7, .pointer (some ⟨gh, 0, none⟩)), (8, .slice (some ⟨gr, 0, none⟩) 6 6), (9, .slice (some ⟨gb, 0, none⟩) 6 6), (10, .int .i64 ((i : Nat) : Int)), (12, .int .i64 ((rn : Nat) : Int)), (15, .int .i64 kd0), (16, .int .i64 tg0), (17, .int .i64 z0)] ∧ Hs w L0 w' [entI w, .blk hb (.cells #[.slice (some ⟨g, 0, none⟩) N N, .int .i64 ((tots M : Nat) : Int), .slice (some ⟨gm, 0, none⟩) nw nw] 56), .own 43 2 (some ⟨g, 0, none⟩) N N (cls N C), .own 72 1 (some ⟨gm, 0, none⟩) nw nw (wds .u64 nw W), .blk gh (.cells #[.int .i64 ((N : Nat) : Int), .slice A M.length c] 30), .own 46 4 A c M.length (ths M.length (adr M) (thM M) G), rwsI M.length G (lnM M) (fld M), .own 43 2 (some ⟨gr, 0, none⟩) 6 6 (cls 6 Rt), .own 43 2 (some ⟨gb, 0, none⟩) 6 6 (cls 6 Rt), .blk k1 (.cells #[.int .i64 (kd i), .int .i64 (rr i), .int .i64 (aa i), .int .i64 (bb i), .int .i64 (cc i)] 33)]) (fun K6 hK6 => ?_) (fun b12 l6 w13 hI6 => ?_)
        · skip
          refine Sx.l 3 9 H15 ?_
          refine Sx.c 0 [] H15 (fun Hp R hR => mod_c (kd i) 8 w12 R Hp (by omega) (by omega) (hR _ _ _ (.refl Hp) fun _ => ?_))
          refine Sx.br 3 (((kd i) % ((8 : Nat) : Int)) == (7 : Int)) (fun h_c107 => ?_) (fun h_c107 => ?_)
          · skip
            refine Sx.l 3 9 H15 ?_
            refine Sx.l 6 9 H15 ?_
            refine Sx.l 5 9 H15 ?_
            have p_c107 := Gx.k1 h_c107
            have H16 := H15.pick (a := [entI w, .blk hb (.cells #[.slice (some ⟨g, 0, none⟩) N N, .int .i64 ((tots M : Nat) : Int), .slice (some ⟨gm, 0, none⟩) nw nw] 56), .own 43 2 (some ⟨g, 0, none⟩) N N (cls N C), .own 72 1 (some ⟨gm, 0, none⟩) nw nw (wds .u64 nw W), .blk gh (.cells #[.int .i64 ((N : Nat) : Int), .slice A M.length c] 30), .own 46 4 A c M.length (ths M.length (adr M) (thM M) G), rwsI M.length G (lnM M) (fld M), .own 43 2 (some ⟨gr, 0, none⟩) 6 6 (cls 6 Rt), .own 43 2 (some ⟨gb, 0, none⟩) 6 6 (cls 6 Rt), .blk k1 (.cells #[.int .i64 (kd i), .int .i64 (rr i), .int .i64 (aa i), .int .i64 (bb i), .int .i64 (cc i)] 33)]) [0, 0, 0, 0, 0, 0, 0, 0, 0, 0] (by kernel_rfl)
            exact Sx.to 2 [(1, .slice OA m oc), (5, .pointer (some ⟨hb, 0, none⟩)), (7, .pointer (some ⟨gh, 0, none⟩)), (8, .slice (some ⟨gr, 0, none⟩) 6 6), (9, .slice (some ⟨gb, 0, none⟩) 6 6), (10, .int .i64 ((i : Nat) : Int)), (12, .int .i64 ((rn : Nat) : Int)), (15, .int .i64 (aa i)), (16, .int .i64 (bb i)), (17, .int .i64 (cc i))] (hK6 _ _ _ ⟨(aa i), (bb i), (cc i), rfl, H16⟩)
          have p_c107 := Gx.k0 h_c107
          have H17 := H15.pick (a := [entI w, .blk hb (.cells #[.slice (some ⟨g, 0, none⟩) N N, .int .i64 ((tots M : Nat) : Int), .slice (some ⟨gm, 0, none⟩) nw nw] 56), .own 43 2 (some ⟨g, 0, none⟩) N N (cls N C), .own 72 1 (some ⟨gm, 0, none⟩) nw nw (wds .u64 nw W), .blk gh (.cells #[.int .i64 ((N : Nat) : Int), .slice A M.length c] 30), .own 46 4 A c M.length (ths M.length (adr M) (thM M) G), rwsI M.length G (lnM M) (fld M), .own 43 2 (some ⟨gr, 0, none⟩) 6 6 (cls 6 Rt), .own 43 2 (some ⟨gb, 0, none⟩) 6 6 (cls 6 Rt), .blk k1 (.cells #[.int .i64 (kd i), .int .i64 (rr i), .int .i64 (aa i), .int .i64 (bb i), .int .i64 (cc i)] 33)]) [0, 0, 0, 0, 0, 0, 0, 0, 0, 0] (by kernel_rfl)
          exact Sx.to 1 [(1, .slice OA m oc), (5, .pointer (some ⟨hb, 0, none⟩)), (7, .pointer (some ⟨gh, 0, none⟩)), (8, .slice (some ⟨gr, 0, none⟩) 6 6), (9, .slice (some ⟨gb, 0, none⟩) 6 6), (10, .int .i64 ((i : Nat) : Int)), (12, .int .i64 ((rn : Nat) : Int)), (15, .int .i64 ((aa i) % ((5 : Nat) : Int))), (16, .int .i64 ((bb i) % ((65536 : Nat) : Int))), (17, .int .i64 ((cc i) % ((9 : Nat) : Int)))] (hK6 _ _ _ ⟨((aa i) % ((5 : Nat) : Int)), ((bb i) % ((65536 : Nat) : Int)), ((cc i) % ((9 : Nat) : Int)), rfl, H17⟩)
        obtain ⟨kd0, tg0, z0, rfl, H18⟩ := hI6
        refine Sx.c 7 [] H18 (fun Hp R hR => ranged_c (some ⟨gr, 0, none⟩) 6 6 w13 R Hp  (fun xb1 w14 G3 => hR _ _ _ G3 fun H19 => ?_))
        obtain ⟨o, ho⟩ : ∃ o, o = mkF N 6 M Rt kd0 tg0 z0 := ⟨_, rfl⟩
        refine Sx.c 0 [2, 2, 2, 5, 0] H19 (fun Hp R hR => make_c hb g N (tots M) gm nw C gr 6 xb1 Rt W M kd0 tg0 z0 o w14 R Hp ho hg rfl hNw hz0 hn hN6 (fun C1 W1 w15 G4 hg1 => hR _ _ _ G4 fun H20 => ?_))
        refine Sx.nz 7 (.code (Sx.cat [1, 1, 1, 1, 1, 1, 1, 0, 1, 0, 0, 1, 0, 0, 1, 1, 1, 1, 0, 1, 0, 1, 0, 1, 1, 1, 1, 1] (Sx.bodyOf Try.f3))) [.blk 2, .to K4, .blk 1, .code (Sx.cat [1, 1, 1, 1, 1, 1, 1, 0, 1, 0, 0, 1, 1] (Sx.bodyOf Try.f3)), .to K2, .blk 0, .code (Sx.cat [1, 1, 1, 1, 1, 1, 1, 1] (Sx.bodyOf Try.f3))] [(1, .slice OA m oc), (5, .pointer (some ⟨hb, 0, none⟩)), (7, .pointer (some ⟨gh, 0, none⟩)), (8, .slice (some ⟨gr, 0, none⟩) 6 6), (9, .slice (some ⟨gb, 0, none⟩) 6 6), (10, .int .i64 ((i : Nat) : Int)), (12, .int .i64 ((rn : Nat) : Int)), (15, .int .i64 kd0), (16, .int .i64 tg0), (17, .int .i64 z0), (18, .int .i64 ((o.x : Nat) : Int)), (19, .int .i64 o.e)] fun b13 => ?_
        refine Sx.c 7 [9] H20 (fun Hp R hR => places_c gb 6 Rt w15 R Hp (by omega) (fun A1 c1 w16 G5 => hR _ _ _ G5 fun H21 => ?_))
        refine Sx.c 0 [8, 8, 8, 1, 0] H21 (fun Hp R hR => dmk_c gh A c N G M A1 c1 gb 6 Rt kd0 tg0 z0 o w16 R Hp ho hm6 hN6 hwf hn1 (fun A2 c2 G6 w17 G7 => hR _ _ _ G7 fun H22 => ?_))
        refine Sx.v 12 (.bool (((o.x : Nat) : Int) != ((o.x : Nat) : Int))) (.bool false) (by simp) ?_
        refine Sx.v 3 (.bool (o.e != o.e)) (.bool false) (by simp) ?_
        refine Sx.br 12 (o.e == (0 : Int)) (fun h_c143 => ?_) (fun h_c143 => ?_)
        · skip
          have p_c143 := Gx.k1 h_c143
          refine Sx.ir 6 gr rn 2 6 6 (by omega) ?_
          refine Sx.sra 0 8 43 2 43 gr 6 6 (rn * 2) (cls 6 o.R) [.bool true, .int .i64 ((o.x : Nat) : Int)] H22 (by simp; omega) (cls_put o.R (by omega) ⟨true, ((o.x : Nat) : Int)⟩) fun w18 H23 => ?_
          refine Sx.ir 7 gb rn 2 6 6 (by omega) ?_
          refine Sx.sra 0 4 43 2 43 gb 6 6 (rn * 2) (cls 6 o.R) [.bool true, .int .i64 ((o.x : Nat) : Int)] H23 (by simp; omega) (cls_put o.R (by omega) ⟨true, ((o.x : Nat) : Int)⟩) fun w19 H24 => ?_
          have H25 := H24.pick (a := [entI w, .blk hb (.cells #[.slice (some ⟨g, 0, none⟩) N N, .int .i64 ((tots o.M : Nat) : Int), .slice (some ⟨gm, 0, none⟩) nw nw] 56), .own 43 2 (some ⟨g, 0, none⟩) N N (cls N C1), .own 72 1 (some ⟨gm, 0, none⟩) nw nw (wds .u64 nw W1), .blk gh (.cells #[.int .i64 ((N : Nat) : Int), .slice A2 o.M.length c2] 30), .own 46 4 A2 c2 o.M.length (ths o.M.length (adr o.M) (thM o.M) G6), rwsI o.M.length G6 (lnM o.M) (fld o.M), .own 43 2 (some ⟨gr, 0, none⟩) 6 6 (cls 6 (Go.Hp.upd o.R rn ⟨true, ((o.x : Nat) : Int)⟩)), .own 43 2 (some ⟨gb, 0, none⟩) 6 6 (cls 6 (Go.Hp.upd o.R rn ⟨true, ((o.x : Nat) : Int)⟩))]) [10, 5, 5, 5, 0, 0, 0, 2, 1] (by kernel_rfl)
          exact Sx.to 2 [(1, .slice OA m oc), (5, .pointer (some ⟨hb, 0, none⟩)), (7, .pointer (some ⟨gh, 0, none⟩)), (8, .slice (some ⟨gr, 0, none⟩) 6 6), (9, .slice (some ⟨gb, 0, none⟩) 6 6), (10, .int .i64 ((i : Nat) : Int))] (hK4 _ _ _ ⟨C1, W1, o.M, (Go.Hp.upd o.R rn ⟨true, ((o.x : Nat) : Int)⟩), A2, c2, G6, rfl, H25, (hg1.root rn (mkF_ok ho (by simpa using h_c143)))⟩)
        have p_c143 := Gx.k0 h_c143
        have H26 := H22.pick (a := [entI w, .blk hb (.cells #[.slice (some ⟨g, 0, none⟩) N N, .int .i64 ((tots o.M : Nat) : Int), .slice (some ⟨gm, 0, none⟩) nw nw] 56), .own 43 2 (some ⟨g, 0, none⟩) N N (cls N C1), .own 72 1 (some ⟨gm, 0, none⟩) nw nw (wds .u64 nw W1), .blk gh (.cells #[.int .i64 ((N : Nat) : Int), .slice A2 o.M.length c2] 30), .own 46 4 A2 c2 o.M.length (ths o.M.length (adr o.M) (thM o.M) G6), rwsI o.M.length G6 (lnM o.M) (fld o.M), .own 43 2 (some ⟨gr, 0, none⟩) 6 6 (cls 6 o.R), .own 43 2 (some ⟨gb, 0, none⟩) 6 6 (cls 6 o.R)]) [10, 5, 5, 5, 0, 0, 0, 2, 1] (by kernel_rfl)
        exact Sx.to 2 [(1, .slice OA m oc), (5, .pointer (some ⟨hb, 0, none⟩)), (7, .pointer (some ⟨gh, 0, none⟩)), (8, .slice (some ⟨gr, 0, none⟩) 6 6), (9, .slice (some ⟨gb, 0, none⟩) 6 6), (10, .int .i64 ((i : Nat) : Int))] (hK4 _ _ _ ⟨C1, W1, o.M, o.R, A2, c2, G6, rfl, H26, hg1⟩)
      refine Sx.cut 0 (fun l' w' => ∃ (q2 : Bool), l' = [(1, .slice OA m oc), (5, .pointer (some ⟨hb, 0, none⟩)), (7, .pointer (some ⟨gh, 0, none⟩)), (8, .slice (some ⟨gr, 0, none⟩) 6 6), (9, .slice (some ⟨gb, 0, none⟩) 6 6), (10, .int .i64 ((i : Nat) : Int)), (11, .pointer (some ⟨k1, 0, none⟩)), (12, .int .i64 ((rn : Nat) : Int)), (13, .int .i64 ((kn : Nat) : Int)), (79, .int .i64 ((kd i) % ((8 : Nat) : Int))), (154, .bool q2)] ∧ Hs w L0 w' [entI w, .blk hb (.cells #[.slice (some ⟨g, 0, none⟩) N N, .int .i64 ((tots M : Nat) : Int), .slice (some ⟨gm, 0, none⟩) nw nw] 56), .own 43 2 (some ⟨g, 0, none⟩) N N (cls N C), .own 72 1 (some ⟨gm, 0, none⟩) nw nw (wds .u64 nw W), .blk gh (.cells #[.int .i64 ((N : Nat) : Int), .slice A M.length c] 30), .own 46 4 A c M.length (ths M.length (adr M) (thM M) G), rwsI M.length G (lnM M) (fld M), .own 43 2 (some ⟨gr, 0, none⟩) 6 6 (cls 6 Rt), .own 43 2 (some ⟨gb, 0, none⟩) 6 6 (cls 6 Rt), .blk k1 (.cells #[.int .i64 (kd i), .int .i64 (rr i), .int .i64 (aa i), .int .i64 (bb i), .int .i64 (cc i)] 33)]) (fun K7 hK7 => ?_) (fun b14 l7 w20 hI7 => ?_)
      · skip
        refine Sx.nz 6 (.code (Sx.cat [1, 1, 1, 1, 1, 1, 1, 0, 1, 0, 0, 1, 0, 0, 1, 1, 1, 1, 0, 1, 0, 1, 1, 0, 1] (Sx.bodyOf Try.f3))) [.to K7, .blk 2, .to K4, .blk 1, .code (Sx.cat [1, 1, 1, 1, 1, 1, 1, 0, 1, 0, 0, 1, 1] (Sx.bodyOf Try.f3)), .to K2, .blk 0, .code (Sx.cat [1, 1, 1, 1, 1, 1, 1, 1] (Sx.bodyOf Try.f3))] [(1, .slice OA m oc), (5, .pointer (some ⟨hb, 0, none⟩)), (7, .pointer (some ⟨gh, 0, none⟩)), (8, .slice (some ⟨gr, 0, none⟩) 6 6), (9, .slice (some ⟨gb, 0, none⟩) 6 6), (10, .int .i64 ((i : Nat) : Int)), (11, .pointer (some ⟨k1, 0, none⟩)), (12, .int .i64 ((rn : Nat) : Int)), (13, .int .i64 ((kn : Nat) : Int)), (79, .int .i64 ((kd i) % ((8 : Nat) : Int))), (154, .bool (((kd i) % ((8 : Nat) : Int)) == (2 : Int)))] fun b15 => ?_
        refine Sx.br 0 (((kd i) % ((8 : Nat) : Int)) == (2 : Int)) (fun h_c154 => ?_) (fun h_c154 => ?_)
        · skip
          refine Sx.sl 1 154 (.bool (((kd i) % ((8 : Nat) : Int)) == (2 : Int))) (.bool true) (congrArg Value.bool h_c154) ?_
          have p_c91 := h_c91; try simp [-List.getD_eq_getElem?_getD] at p_c91
          have p_c154 := Gx.k1 h_c154
          have H27 := H15.pick (a := [entI w, .blk hb (.cells #[.slice (some ⟨g, 0, none⟩) N N, .int .i64 ((tots M : Nat) : Int), .slice (some ⟨gm, 0, none⟩) nw nw] 56), .own 43 2 (some ⟨g, 0, none⟩) N N (cls N C), .own 72 1 (some ⟨gm, 0, none⟩) nw nw (wds .u64 nw W), .blk gh (.cells #[.int .i64 ((N : Nat) : Int), .slice A M.length c] 30), .own 46 4 A c M.length (ths M.length (adr M) (thM M) G), rwsI M.length G (lnM M) (fld M), .own 43 2 (some ⟨gr, 0, none⟩) 6 6 (cls 6 Rt), .own 43 2 (some ⟨gb, 0, none⟩) 6 6 (cls 6 Rt), .blk k1 (.cells #[.int .i64 (kd i), .int .i64 (rr i), .int .i64 (aa i), .int .i64 (bb i), .int .i64 (cc i)] 33)]) [0, 0, 0, 0, 0, 0, 0, 0, 0, 0] (by kernel_rfl)
          exact Sx.to 0 [(1, .slice OA m oc), (5, .pointer (some ⟨hb, 0, none⟩)), (7, .pointer (some ⟨gh, 0, none⟩)), (8, .slice (some ⟨gr, 0, none⟩) 6 6), (9, .slice (some ⟨gb, 0, none⟩) 6 6), (10, .int .i64 ((i : Nat) : Int)), (11, .pointer (some ⟨k1, 0, none⟩)), (12, .int .i64 ((rn : Nat) : Int)), (13, .int .i64 ((kn : Nat) : Int)), (79, .int .i64 ((kd i) % ((8 : Nat) : Int))), (154, .bool true)] (hK7 _ _ _ ⟨true, rfl, H27⟩)
        have p_c91 := h_c91; try simp [-List.getD_eq_getElem?_getD] at p_c91
        have p_c154 := Gx.k0 h_c154
        have H28 := H15.pick (a := [entI w, .blk hb (.cells #[.slice (some ⟨g, 0, none⟩) N N, .int .i64 ((tots M : Nat) : Int), .slice (some ⟨gm, 0, none⟩) nw nw] 56), .own 43 2 (some ⟨g, 0, none⟩) N N (cls N C), .own 72 1 (some ⟨gm, 0, none⟩) nw nw (wds .u64 nw W), .blk gh (.cells #[.int .i64 ((N : Nat) : Int), .slice A M.length c] 30), .own 46 4 A c M.length (ths M.length (adr M) (thM M) G), rwsI M.length G (lnM M) (fld M), .own 43 2 (some ⟨gr, 0, none⟩) 6 6 (cls 6 Rt), .own 43 2 (some ⟨gb, 0, none⟩) 6 6 (cls 6 Rt), .blk k1 (.cells #[.int .i64 (kd i), .int .i64 (rr i), .int .i64 (aa i), .int .i64 (bb i), .int .i64 (cc i)] 33)]) [0, 0, 0, 0, 0, 0, 0, 0, 0, 0] (by kernel_rfl)
        exact Sx.to 4 [(1, .slice OA m oc), (5, .pointer (some ⟨hb, 0, none⟩)), (7, .pointer (some ⟨gh, 0, none⟩)), (8, .slice (some ⟨gr, 0, none⟩) 6 6), (9, .slice (some ⟨gb, 0, none⟩) 6 6), (10, .int .i64 ((i : Nat) : Int)), (11, .pointer (some ⟨k1, 0, none⟩)), (12, .int .i64 ((rn : Nat) : Int)), (13, .int .i64 ((kn : Nat) : Int)), (79, .int .i64 ((kd i) % ((8 : Nat) : Int))), (154, .bool (((kd i) % ((8 : Nat) : Int)) == (3 : Int)))] (hK7 _ _ _ ⟨(((kd i) % ((8 : Nat) : Int)) == (3 : Int)), rfl, H28⟩)
      obtain ⟨q2, rfl, H29⟩ := hI7
      refine Sx.br 0 q2 (fun h_c154 => ?_) (fun h_c154 => ?_)
      · skip
        have p_c91 := h_c91; try simp [-List.getD_eq_getElem?_getD] at p_c91
        have p_c154 := h_c154; try simp [-List.getD_eq_getElem?_getD] at p_c154
        refine Sx.ir 5 gb rn 2 6 6 (by omega) ?_
        refine Sx.lr 1 8 43 2 4 gb 6 6 (rn * 2) (cls 6 Rt) H29 (.bool ((Rt rn).p)) (ld_p (C := Rt) (by omega)) ?_
        refine Sx.nz 3 (.code (Sx.cat [1, 1, 1, 1, 1, 1, 1, 0, 1, 0, 0, 1, 0, 0, 1, 1, 1, 1, 0, 1, 0, 1, 1, 1, 0, 0, 1] (Sx.bodyOf Try.f3))) [.code (Sx.cat [1, 1, 1, 1, 1, 1, 1, 0, 1, 0, 0, 1, 0, 0, 1, 1, 1, 1, 0, 1, 0, 1, 1, 1, 0, 1] (Sx.bodyOf Try.f3)), .blk 2, .to K4, .blk 1, .code (Sx.cat [1, 1, 1, 1, 1, 1, 1, 0, 1, 0, 0, 1, 1] (Sx.bodyOf Try.f3)), .to K2, .blk 0, .code (Sx.cat [1, 1, 1, 1, 1, 1, 1, 1] (Sx.bodyOf Try.f3))] [(1, .slice OA m oc), (5, .pointer (some ⟨hb, 0, none⟩)), (7, .pointer (some ⟨gh, 0, none⟩)), (8, .slice (some ⟨gr, 0, none⟩) 6 6), (9, .slice (some ⟨gb, 0, none⟩) 6 6), (10, .int .i64 ((i : Nat) : Int)), (11, .pointer (some ⟨k1, 0, none⟩)), (12, .int .i64 ((rn : Nat) : Int)), (13, .int .i64 ((kn : Nat) : Int)), (162, .bool (!((Rt rn).p)))] fun b16 => ?_
        refine Sx.br 0 (!((Rt rn).p)) (fun h_c162 => ?_) (fun h_c162 => ?_)
        · skip
          have p_c162 := h_c162; try simp [-List.getD_eq_getElem?_getD] at p_c162
          refine Sx.v 8 (.int .i64 (IntKind.i64.wrap (((i : Nat) : Int) + (1 : Int)))) (.int .i64 ((i + 1 : Nat) : Int)) (congrArg (Value.int .i64) (Gx.i64n (by omega) (by omega))) ?_
          have H30 := H29.pick (a := [entI w, .blk hb (.cells #[.slice (some ⟨g, 0, none⟩) N N, .int .i64 ((tots M : Nat) : Int), .slice (some ⟨gm, 0, none⟩) nw nw] 56), .own 43 2 (some ⟨g, 0, none⟩) N N (cls N C), .own 72 1 (some ⟨gm, 0, none⟩) nw nw (wds .u64 nw W), .blk gh (.cells #[.int .i64 ((N : Nat) : Int), .slice A M.length c] 30), .own 46 4 A c M.length (ths M.length (adr M) (thM M) G), rwsI M.length G (lnM M) (fld M), .own 43 2 (some ⟨gr, 0, none⟩) 6 6 (cls 6 Rt), .own 43 2 (some ⟨gb, 0, none⟩) 6 6 (cls 6 Rt)]) [0, 0, 0, 0, 0, 0, 0, 0, 0] (by kernel_rfl)
          exact Sx.to 2 [(1, .slice OA m oc), (5, .pointer (some ⟨hb, 0, none⟩)), (7, .pointer (some ⟨gh, 0, none⟩)), (8, .slice (some ⟨gr, 0, none⟩) 6 6), (9, .slice (some ⟨gb, 0, none⟩) 6 6), (10, .int .i64 ((i + 1 : Nat) : Int))] (hK2 _ _ _ _ (by omega) ⟨i + 1, C, W, M, Rt, A, c, G, rfl, rfl, H30, hg⟩)
        have p_c162 := h_c162; try simp [-List.getD_eq_getElem?_getD] at p_c162
        have hp1 : (Rt rn).p = true := by simpa using h_c162
        obtain ⟨kq, hkq⟩ := hwf.root _ (rts_mem hr6) hp1; have hkl := hkq.2.1; have hat := adr_tots hkl
        obtain ⟨ga1, hga1⟩ := H29.row 5 (A := A) (e := 46) (sz := 4) (cap := c) (n := M.length) (xs := (ths M.length (adr M) (thM M) G)) (by kernel_rfl) (by omega)
        subst hga1
        refine Sx.dr 3 H29 [4, 8] [] (LJ := [.blk gh (.cells #[.int .i64 ((N : Nat) : Int), .slice (some ⟨ga1, 0, none⟩) M.length c] 30), .own 43 2 (some ⟨gb, 0, none⟩) 6 6 (cls 6 Rt)]) (by kernel_rfl) fun w21 H31 => ?_
        refine Sx.tk [(0, none), (1, none), (2, none), (3, some (0, [])), (4, none), (5, none), (6, none)] (fun _ => (H31.sub [4, 7] (by kernel_rfl))) ?_
        refine Sx.tvg 7 [] gb rn 2 6 6 (by omega) (fun _ => (H31.sub [4, 7] (by kernel_rfl))) ?_
        refine Sx.tk [(8, none)] (fun _ => (H31.sub [4, 7] (by kernel_rfl))) ?_
        refine Sx.tvl 9 [] 1 43 2 3 gb 6 6 (rn * 2 + 1) (cls 6 Rt) (.int .i64 ((adr M kq : Nat) : Int)) (by have h := ld_n (P := Try.prog) (t := 3) (N := 6) (C := Rt) (i := rn) (by omega); rw [hkq.2.2] at h; exact h) (fun _ => (H31.sub [4, 7] (by kernel_rfl))) ?_
        refine Sx.nmx ?_
        intro zx1
        refine Sx.on 10 ?_
        refine Sx.c 0 [4, 4] H31 (fun Hp R hR => At_c gh (some ⟨ga1, 0, none⟩) c N G M kq w21 R Hp (by omega) hm6 (hR _ _ _ (.refl Hp) fun _ => ?_))
        refine Sx.bk (x := zx1) 10 (fun _ => (H31.sub [4, 7] (by kernel_rfl))) ?_
        refine Sx.tvg 11 [] ga1 kq 4 M.length c (by omega) (fun _ => (H31.sub [4, 7] (by kernel_rfl))) ?_
        refine Sx.tk [(12, none)] (fun _ => (H31.sub [4, 7] (by kernel_rfl))) ?_
        refine Sx.dn ?_
        refine Sx.nz 1 (.code (Sx.cat [1, 1, 1, 1, 1, 1, 1, 0, 1, 0, 0, 1, 0, 0, 1, 1, 1, 1, 0, 1, 0, 1, 1, 1, 0, 1, 1] (Sx.bodyOf Try.f3))) [.blk 2, .to K4, .blk 1, .code (Sx.cat [1, 1, 1, 1, 1, 1, 1, 0, 1, 0, 0, 1, 1] (Sx.bodyOf Try.f3)), .to K2, .blk 0, .code (Sx.cat [1, 1, 1, 1, 1, 1, 1, 1] (Sx.bodyOf Try.f3))] [(1, .slice OA m oc), (5, .pointer (some ⟨hb, 0, none⟩)), (7, .pointer (some ⟨gh, 0, none⟩)), (8, .slice (some ⟨gr, 0, none⟩) 6 6), (9, .slice (some ⟨gb, 0, none⟩) 6 6), (10, .int .i64 ((i : Nat) : Int)), (11, .pointer (some ⟨k1, 0, none⟩)), (12, .int .i64 ((rn : Nat) : Int)), (13, .int .i64 ((kn : Nat) : Int)), (22, .pointer (some (⟨ga1, kq * 4, none⟩)))] fun b17 => ?_
        refine Sx.lr 6 5 46 4 31 ga1 c M.length (kq * 4 + 3) (ths M.length (adr M) (thM M) G) H31 (.slice (some ⟨(G kq), 0, none⟩) ((thM M kq).l.length) ((thM M kq).l.length)) (ld_tl (m := M.length) (i := kq) (a := (adr M)) (T := (thM M)) (G := G) (by omega)) ?_
        refine Sx.br 4 ((((thM M kq).l.length : Nat) : Int) == (0 : Int)) (fun h_c180 => ?_) (fun h_c180 => ?_)
        · skip
          have p_c180 := Gx.k1 h_c180
          refine Sx.v 8 (.int .i64 (IntKind.i64.wrap (((i : Nat) : Int) + (1 : Int)))) (.int .i64 ((i + 1 : Nat) : Int)) (congrArg (Value.int .i64) (Gx.i64n (by omega) (by omega))) ?_
          have H32 := H31.pick (a := [entI w, .blk hb (.cells #[.slice (some ⟨g, 0, none⟩) N N, .int .i64 ((tots M : Nat) : Int), .slice (some ⟨gm, 0, none⟩) nw nw] 56), .own 43 2 (some ⟨g, 0, none⟩) N N (cls N C), .own 72 1 (some ⟨gm, 0, none⟩) nw nw (wds .u64 nw W), .blk gh (.cells #[.int .i64 ((N : Nat) : Int), .slice (some ⟨ga1, 0, none⟩) M.length c] 30), .own 46 4 (some ⟨ga1, 0, none⟩) c M.length (ths M.length (adr M) (thM M) G), rwsI M.length G (lnM M) (fld M), .own 43 2 (some ⟨gr, 0, none⟩) 6 6 (cls 6 Rt), .own 43 2 (some ⟨gb, 0, none⟩) 6 6 (cls 6 Rt)]) [0, 0, 0, 0, 0, 0, 0, 0, 0] (by kernel_rfl)
          exact Sx.to 2 [(1, .slice OA m oc), (5, .pointer (some ⟨hb, 0, none⟩)), (7, .pointer (some ⟨gh, 0, none⟩)), (8, .slice (some ⟨gr, 0, none⟩) 6 6), (9, .slice (some ⟨gb, 0, none⟩) 6 6), (10, .int .i64 ((i + 1 : Nat) : Int))] (hK2 _ _ _ _ (by omega) ⟨i + 1, C, W, M, Rt, (some ⟨ga1, 0, none⟩), c, G, rfl, rfl, H32, hg⟩)
        have p_c180 := Gx.k0 h_c180
        have hht := hg.hd _ (thM_mem hkl); have hln := hht.ln; have hl0 : 0 < (thM M kq).l.length := by omega
        refine Sx.dr 3 H31 [9, 5] [] (LJ := [.blk k1 (.cells #[.int .i64 (kd i), .int .i64 (rr i), .int .i64 (aa i), .int .i64 (bb i), .int .i64 (cc i)] 33), .own 46 4 (some ⟨ga1, 0, none⟩) c M.length (ths M.length (adr M) (thM M) G)]) (by kernel_rfl) fun w22 H33 => ?_
        refine Sx.tk [(0, none), (1, some (0, [])), (2, none), (3, none), (4, none)] (fun _ => (H33.sub [9, 5] (by kernel_rfl))) ?_
        refine Sx.tvl 5 [] 1 46 4 31 ga1 c M.length (kq * 4 + 3) (ths M.length (adr M) (thM M) G) (.slice (some ⟨(G kq), 0, none⟩) ((thM M kq).l.length) ((thM M kq).l.length)) (ld_tl (m := M.length) (i := kq) (a := (adr M)) (T := (thM M)) (G := G) (by omega)) (fun _ => (H33.sub [9, 5] (by kernel_rfl))) ?_
        refine Sx.tk [(6, none)] (fun _ => (H33.sub [9, 5] (by kernel_rfl))) ?_
        refine Sx.nmx ?_
        intro zx2
        refine Sx.on 7 ?_
        refine Sx.c 0 [] H33 (fun Hp R hR => mod_c (cc i) ((thM M kq).l.length) w22 R Hp (by omega) (by omega) (hR _ _ _ (.refl Hp) fun _ => ?_))
        refine Sx.bk (x := zx2) 7 (fun _ => (H33.sub [9, 5] (by kernel_rfl))) ?_
        refine Sx.tk [(8, none)] (fun _ => (H33.sub [9, 5] (by kernel_rfl))) ?_
        refine Sx.dn ?_
        refine Sx.nz 1 (.code (Sx.cat [1, 1, 1, 1, 1, 1, 1, 0, 1, 0, 0, 1, 0, 0, 1, 1, 1, 1, 0, 1, 0, 1, 1, 1, 0, 1, 1, 1, 1] (Sx.bodyOf Try.f3))) [.blk 2, .to K4, .blk 1, .code (Sx.cat [1, 1, 1, 1, 1, 1, 1, 0, 1, 0, 0, 1, 1] (Sx.bodyOf Try.f3)), .to K2, .blk 0, .code (Sx.cat [1, 1, 1, 1, 1, 1, 1, 1] (Sx.bodyOf Try.f3))] [(1, .slice OA m oc), (5, .pointer (some ⟨hb, 0, none⟩)), (7, .pointer (some ⟨gh, 0, none⟩)), (8, .slice (some ⟨gr, 0, none⟩) 6 6), (9, .slice (some ⟨gb, 0, none⟩) 6 6), (10, .int .i64 ((i : Nat) : Int)), (11, .pointer (some ⟨k1, 0, none⟩)), (12, .int .i64 ((rn : Nat) : Int)), (13, .int .i64 ((kn : Nat) : Int)), (14, .int .i64 ((cc i) % (((thM M kq).l.length : Nat) : Int))), (22, .pointer (some (⟨ga1, kq * 4, none⟩)))] fun b18 => ?_
        have hj0 := Int.emod_nonneg (cc i) (show (((thM M kq).l.length : Nat) : Int) ≠ 0 by omega); have hj2 := Int.emod_lt_of_pos (cc i) (show (0 : Int) < (((thM M kq).l.length : Nat) : Int) by omega)
        obtain ⟨jn, hjn⟩ : ∃ jn : Nat, cc i % (((thM M kq).l.length : Nat) : Int) = (jn : Int) := ⟨(cc i % (((thM M kq).l.length : Nat) : Int)).toNat, by omega⟩
        have hjl : jn < (thM M kq).l.length := by omega
        refine Sx.sl 1 14 (.int .i64 (cc i % (((thM M kq).l.length : Nat) : Int))) (.int .i64 ((jn : Nat) : Int)) (by rw [hjn]) ?_
        have hfl : C (adr M kq + 1 + jn) = fld M kq jn := hg.lays.fl _ _ _ _ (thM_get hkl) (fld_get hjl); have hlnM : lnM M kq = (thM M kq).l.length := rfl
        refine Sx.ir 3 gb kn 2 6 6 (by omega) ?_
        refine Sx.lr 0 8 43 2 43 gb 6 6 (kn * 2) (cls 6 Rt) H33 (.agg #[.bool ((Rt kn).p), .int .i64 ((Rt kn).n)]) (ld_cell (C := Rt) (by omega)) ?_
        refine Sx.nw 0 H33 fun k2 w23 H34 => ?_
        refine Sx.s 0 10 H34 fun w24 H35 => ?_
        refine Sx.ir 6 gr kn 2 6 6 (by omega) ?_
        refine Sx.lr 0 7 43 2 43 gr 6 6 (kn * 2) (cls 6 Rt) H35 (.agg #[.bool ((Rt kn).p), .int .i64 ((Rt kn).n)]) (ld_cell (C := Rt) (by omega)) ?_
        refine Sx.nw 0 H35 fun k3 w25 H36 => ?_
        refine Sx.s 0 11 H36 fun w26 H37 => ?_
        refine Sx.cut 2 (fun l' w' => ∃ (p1 : Bool) (v1 : Int), l' = [(1, .slice OA m oc), (5, .pointer (some ⟨hb, 0, none⟩)), (7, .pointer (some ⟨gh, 0, none⟩)), (8, .slice (some ⟨gr, 0, none⟩) 6 6), (9, .slice (some ⟨gb, 0, none⟩) 6 6), (10, .int .i64 ((i : Nat) : Int)), (12, .int .i64 ((rn : Nat) : Int)), (14, .int .i64 ((jn : Nat) : Int)), (22, .pointer (some (⟨ga1, kq * 4, none⟩))), (23, .pointer (some ⟨k2, 0, none⟩)), (24, .pointer (some ⟨k3, 0, none⟩))] ∧ Hs w L0 w' [entI w, .blk hb (.cells #[.slice (some ⟨g, 0, none⟩) N N, .int .i64 ((tots M : Nat) : Int), .slice (some ⟨gm, 0, none⟩) nw nw] 56), .own 43 2 (some ⟨g, 0, none⟩) N N (cls N C), .own 72 1 (some ⟨gm, 0, none⟩) nw nw (wds .u64 nw W), .blk gh (.cells #[.int .i64 ((N : Nat) : Int), .slice (some ⟨ga1, 0, none⟩) M.length c] 30), .own 46 4 (some ⟨ga1, 0, none⟩) c M.length (ths M.length (adr M) (thM M) G), rwsI M.length G (lnM M) (fld M), .own 43 2 (some ⟨gr, 0, none⟩) 6 6 (cls 6 Rt), .own 43 2 (some ⟨gb, 0, none⟩) 6 6 (cls 6 Rt), .blk k1 (.cells #[.int .i64 (kd i), .int .i64 (rr i), .int .i64 (aa i), .int .i64 (bb i), .int .i64 (cc i)] 33), .blk k2 (.cells #[.bool p1, .int .i64 v1] 43), .blk k3 (.cells #[.bool p1, .int .i64 v1] 43)] ∧ (Ok M ⟨p1, v1⟩)) (fun K8 hK8 => ?_) (fun b19 l8 w27 hI8 => ?_)
        · skip
          refine Sx.l 3 9 H37 ?_
          refine Sx.c 0 [] H37 (fun Hp R hR => mod_c (kd i) 8 w26 R Hp (by omega) (by omega) (hR _ _ _ (.refl Hp) fun _ => ?_))
          refine Sx.nz 3 (.code (Sx.cat [1, 1, 1, 1, 1, 1, 1, 0, 1, 0, 0, 1, 0, 0, 1, 1, 1, 1, 0, 1, 0, 1, 1, 1, 0, 1, 1, 1, 1, 1, 1, 0, 1] (Sx.bodyOf Try.f3))) [.to K8, .blk 2, .to K4, .blk 1, .code (Sx.cat [1, 1, 1, 1, 1, 1, 1, 0, 1, 0, 0, 1, 1] (Sx.bodyOf Try.f3)), .to K2, .blk 0, .code (Sx.cat [1, 1, 1, 1, 1, 1, 1, 1] (Sx.bodyOf Try.f3))] [(1, .slice OA m oc), (5, .pointer (some ⟨hb, 0, none⟩)), (7, .pointer (some ⟨gh, 0, none⟩)), (8, .slice (some ⟨gr, 0, none⟩) 6 6), (9, .slice (some ⟨gb, 0, none⟩) 6 6), (10, .int .i64 ((i : Nat) : Int)), (11, .pointer (some ⟨k1, 0, none⟩)), (12, .int .i64 ((rn : Nat) : Int)), (14, .int .i64 ((jn : Nat) : Int)), (22, .pointer (some (⟨ga1, kq * 4, none⟩))), (23, .pointer (some ⟨k2, 0, none⟩)), (24, .pointer (some ⟨k3, 0, none⟩)), (200, .bool (((kd i) % ((8 : Nat) : Int)) == (3 : Int)))] fun b20 => ?_
          refine Sx.br 0 (((kd i) % ((8 : Nat) : Int)) == (3 : Int)) (fun h_c200 => ?_) (fun h_c200 => ?_)
          · skip
            refine Sx.l 3 9 H37 ?_
            refine Sx.s 1 10 H37 fun w28 H38 => ?_
            refine Sx.l 3 10 H38 ?_
            refine Sx.s 0 11 H38 fun w29 H39 => ?_
            have p_c200 := Gx.k1 h_c200
            have H40 := H39.pick (a := [entI w, .blk hb (.cells #[.slice (some ⟨g, 0, none⟩) N N, .int .i64 ((tots M : Nat) : Int), .slice (some ⟨gm, 0, none⟩) nw nw] 56), .own 43 2 (some ⟨g, 0, none⟩) N N (cls N C), .own 72 1 (some ⟨gm, 0, none⟩) nw nw (wds .u64 nw W), .blk gh (.cells #[.int .i64 ((N : Nat) : Int), .slice (some ⟨ga1, 0, none⟩) M.length c] 30), .own 46 4 (some ⟨ga1, 0, none⟩) c M.length (ths M.length (adr M) (thM M) G), rwsI M.length G (lnM M) (fld M), .own 43 2 (some ⟨gr, 0, none⟩) 6 6 (cls 6 Rt), .own 43 2 (some ⟨gb, 0, none⟩) 6 6 (cls 6 Rt), .blk k1 (.cells #[.int .i64 (kd i), .int .i64 (rr i), .int .i64 (aa i), .int .i64 (bb i), .int .i64 (cc i)] 33), .blk k2 (.cells #[.bool false, .int .i64 (aa i)] 43), .blk k3 (.cells #[.bool false, .int .i64 (aa i)] 43)]) [0, 0, 0, 0, 0, 0, 0, 0, 0, 0, 0, 0] (by kernel_rfl)
            exact Sx.to 1 [(1, .slice OA m oc), (5, .pointer (some ⟨hb, 0, none⟩)), (7, .pointer (some ⟨gh, 0, none⟩)), (8, .slice (some ⟨gr, 0, none⟩) 6 6), (9, .slice (some ⟨gb, 0, none⟩) 6 6), (10, .int .i64 ((i : Nat) : Int)), (12, .int .i64 ((rn : Nat) : Int)), (14, .int .i64 ((jn : Nat) : Int)), (22, .pointer (some (⟨ga1, kq * 4, none⟩))), (23, .pointer (some ⟨k2, 0, none⟩)), (24, .pointer (some ⟨k3, 0, none⟩))] (hK8 _ _ _ ⟨false, (aa i), rfl, H40, (Ok_no rfl)⟩)
          have p_c200 := Gx.k0 h_c200
          have H41 := H37.pick (a := [entI w, .blk hb (.cells #[.slice (some ⟨g, 0, none⟩) N N, .int .i64 ((tots M : Nat) : Int), .slice (some ⟨gm, 0, none⟩) nw nw] 56), .own 43 2 (some ⟨g, 0, none⟩) N N (cls N C), .own 72 1 (some ⟨gm, 0, none⟩) nw nw (wds .u64 nw W), .blk gh (.cells #[.int .i64 ((N : Nat) : Int), .slice (some ⟨ga1, 0, none⟩) M.length c] 30), .own 46 4 (some ⟨ga1, 0, none⟩) c M.length (ths M.length (adr M) (thM M) G), rwsI M.length G (lnM M) (fld M), .own 43 2 (some ⟨gr, 0, none⟩) 6 6 (cls 6 Rt), .own 43 2 (some ⟨gb, 0, none⟩) 6 6 (cls 6 Rt), .blk k1 (.cells #[.int .i64 (kd i), .int .i64 (rr i), .int .i64 (aa i), .int .i64 (bb i), .int .i64 (cc i)] 33), .blk k2 (.cells #[.bool ((Rt kn).p), .int .i64 ((Rt kn).n)] 43), .blk k3 (.cells #[.bool ((Rt kn).p), .int .i64 ((Rt kn).n)] 43)]) [0, 0, 0, 0, 0, 0, 0, 0, 0, 0, 0, 0] (by kernel_rfl)
          exact Sx.to 1 [(1, .slice OA m oc), (5, .pointer (some ⟨hb, 0, none⟩)), (7, .pointer (some ⟨gh, 0, none⟩)), (8, .slice (some ⟨gr, 0, none⟩) 6 6), (9, .slice (some ⟨gb, 0, none⟩) 6 6), (10, .int .i64 ((i : Nat) : Int)), (12, .int .i64 ((rn : Nat) : Int)), (14, .int .i64 ((jn : Nat) : Int)), (22, .pointer (some (⟨ga1, kq * 4, none⟩))), (23, .pointer (some ⟨k2, 0, none⟩)), (24, .pointer (some ⟨k3, 0, none⟩))] (hK8 _ _ _ ⟨((Rt kn).p), ((Rt kn).n), rfl, H41, (hwf.root _ (rts_mem hk6))⟩)
        obtain ⟨p1, v1, rfl, H42, hcok⟩ := hI8
        refine Sx.dr 1 H42 [5, 10] [] (LJ := [.own 46 4 (some ⟨ga1, 0, none⟩) c M.length (ths M.length (adr M) (thM M) G), .blk k2 (.cells #[.bool p1, .int .i64 v1] 43)]) (by kernel_rfl) fun w30 H43 => ?_
        refine Sx.tk [(0, none), (1, none), (2, none)] (fun _ => (H43.sub [5, 9] (by kernel_rfl))) ?_
        refine Sx.tvl 3 [] 0 46 4 31 ga1 c M.length (kq * 4 + 3) (ths M.length (adr M) (thM M) G) (.slice (some ⟨(G kq), 0, none⟩) ((thM M kq).l.length) ((thM M kq).l.length)) (ld_tl (m := M.length) (i := kq) (a := (adr M)) (T := (thM M)) (G := G) (by omega)) (fun _ => (H43.sub [5, 9] (by kernel_rfl))) ?_
        refine Sx.tk [(4, none), (5, some (1, []))] (fun _ => (H43.sub [5, 9] (by kernel_rfl))) ?_
        refine Sx.tvg 6 [] (G kq) jn 2 ((thM M kq).l.length) ((thM M kq).l.length) (by omega) (fun _ => (H43.sub [5, 9] (by kernel_rfl))) ?_
        refine Sx.nmx ?_
        intro zx3
        refine Sx.on 7 ?_
        refine Sx.srw 0 6 kq 43 (jn * 2) M.length G (lnM M) (fld M) (.agg #[.bool p1, .int .i64 v1]) H43 (by omega) (F' := (fldS M kq jn ⟨p1, v1⟩)) (by show jn * 2 + 2 ≤ lnM M kq * 2; omega) (fldS_set (K := lnM M kq) (c := ⟨p1, v1⟩) hjl) fldS_ne fun w31 H44 => ?_
        refine Sx.bk (x := zx3) 7 (fun _ => (H44.sub [5, 9] (by kernel_rfl))) ?_
        refine Sx.dn ?_
        refine Sx.nz 1 (.code (Sx.cat [1, 1, 1, 1, 1, 1, 1, 0, 1, 0, 0, 1, 0, 0, 1, 1, 1, 1, 0, 1, 0, 1, 1, 1, 0, 1, 1, 1, 1, 1, 1, 1, 1] (Sx.bodyOf Try.f3))) [.blk 2, .to K4, .blk 1, .code (Sx.cat [1, 1, 1, 1, 1, 1, 1, 0, 1, 0, 0, 1, 1] (Sx.bodyOf Try.f3)), .to K2, .blk 0, .code (Sx.cat [1, 1, 1, 1, 1, 1, 1, 1] (Sx.bodyOf Try.f3))] [(1, .slice OA m oc), (5, .pointer (some ⟨hb, 0, none⟩)), (7, .pointer (some ⟨gh, 0, none⟩)), (8, .slice (some ⟨gr, 0, none⟩) 6 6), (9, .slice (some ⟨gb, 0, none⟩) 6 6), (10, .int .i64 ((i : Nat) : Int)), (12, .int .i64 ((rn : Nat) : Int)), (14, .int .i64 ((jn : Nat) : Int)), (24, .pointer (some ⟨k3, 0, none⟩))] fun b21 => ?_
        refine Sx.dr 0 H44 [7, 11] [] (LJ := [.own 43 2 (some ⟨gr, 0, none⟩) 6 6 (cls 6 Rt), .blk k3 (.cells #[.bool p1, .int .i64 v1] 43)]) (by kernel_rfl) fun w32 H45 => ?_
        refine Sx.tk [(0, none), (1, none), (2, none)] (fun _ => (H45.sub [7, 10] (by kernel_rfl))) ?_
        refine Sx.tvg 3 [] gr rn 2 6 6 (by omega) (fun _ => (H45.sub [7, 10] (by kernel_rfl))) ?_
        refine Sx.tk [(4, none)] (fun _ => (H45.sub [7, 10] (by kernel_rfl))) ?_
        refine Sx.tvl 5 [] 0 43 2 3 gr 6 6 (rn * 2 + 1) (cls 6 Rt) (.int .i64 ((adr M kq : Nat) : Int)) (by have h := ld_n (P := Try.prog) (t := 3) (N := 6) (C := Rt) (i := rn) (by omega); rw [hkq.2.2] at h; exact h) (fun _ => (H45.sub [7, 10] (by kernel_rfl))) ?_
        refine Sx.tk [(6, none), (7, some (1, []))] (fun _ => (H45.sub [7, 10] (by kernel_rfl))) ?_
        refine Sx.nmx ?_
        intro zx4
        refine Sx.on 8 ?_
        refine Sx.c 0 [1, 1] H45 (fun Hp R hR => Set_c hb g N (tots M) gm nw C (adr M kq) jn p1 v1 w32 R Hp (by omega) (by omega) (fun w33 G8 => hR _ _ _ G8 fun H46 => ?_))
        refine Sx.bk (x := zx4) 8 (fun _ => (H46.sub [7, 10] (by kernel_rfl))) ?_
        refine Sx.dn ?_
        have H48 := H46.pick (a := [.blk hb (.cells #[.slice (some ⟨g, 0, none⟩) N N, .int .i64 ((tots M : Nat) : Int), .slice (some ⟨gm, 0, none⟩) nw nw] 56), .own 43 2 (some ⟨g, 0, none⟩) N N (cls N (upd C (adr M kq + 1 + jn) ⟨p1, v1⟩)), entI w, .own 72 1 (some ⟨gm, 0, none⟩) nw nw (wds .u64 nw W), .blk gh (.cells #[.int .i64 ((N : Nat) : Int), .slice (some ⟨ga1, 0, none⟩) M.length c] 30), .own 46 4 (some ⟨ga1, 0, none⟩) c M.length (ths M.length (adr M) (thM M) G), rwsI M.length G (lnM M) (fldS M kq jn ⟨p1, v1⟩), .own 43 2 (some ⟨gr, 0, none⟩) 6 6 (cls 6 Rt), .own 43 2 (some ⟨gb, 0, none⟩) 6 6 (cls 6 Rt), .blk k1 (.cells #[.int .i64 (kd i), .int .i64 (rr i), .int .i64 (aa i), .int .i64 (bb i), .int .i64 (cc i)] 33), .blk k2 (.cells #[.bool p1, .int .i64 v1] 43), .blk k3 (.cells #[.bool p1, .int .i64 v1] 43)]) [0, 0, 0, 0, 0, 0, 0, 0, 0, 0, 0, 0] (by kernel_rfl)
        have H47 := rw_st H48 6 (M := M) (k := kq) (j := jn) (c := ⟨p1, v1⟩) (G := G) hkl hjl (by kernel_rfl)
        have H49 := H47.pick (a := [.blk hb (.cells #[.slice (some ⟨g, 0, none⟩) N N, .int .i64 ((tots M : Nat) : Int), .slice (some ⟨gm, 0, none⟩) nw nw] 56), .own 43 2 (some ⟨g, 0, none⟩) N N (cls N (upd C (adr M kq + 1 + jn) ⟨p1, v1⟩)), entI w, .own 72 1 (some ⟨gm, 0, none⟩) nw nw (wds .u64 nw W), .blk gh (.cells #[.int .i64 ((N : Nat) : Int), .slice (some ⟨ga1, 0, none⟩) M.length c] 30), .own 46 4 (some ⟨ga1, 0, none⟩) c M.length (ths M.length (adr M) (thM M) G), rwsI ((stM M kq jn ⟨p1, v1⟩).length) G (lnM (stM M kq jn ⟨p1, v1⟩)) (fld (stM M kq jn ⟨p1, v1⟩)), .own 43 2 (some ⟨gr, 0, none⟩) 6 6 (cls 6 Rt), .own 43 2 (some ⟨gb, 0, none⟩) 6 6 (cls 6 Rt), .blk k1 (.cells #[.int .i64 (kd i), .int .i64 (rr i), .int .i64 (aa i), .int .i64 (bb i), .int .i64 (cc i)] 33), .blk k2 (.cells #[.bool p1, .int .i64 v1] 43), .blk k3 (.cells #[.bool p1, .int .i64 v1] 43)]) [0, 0, 0, 0, 0, 0, 0, 0, 0, 0, 0, 0] (by kernel_rfl)
        have H50 := H49; rw [ths_st (k := kq) (j := jn) (c := ⟨p1, v1⟩) G, ← stM_tots M kq jn ⟨p1, v1⟩, show M.length = (stM M kq jn ⟨p1, v1⟩).length from stM_len.symm] at H50
        have H51 := H50.pick (a := [entI w, .blk hb (.cells #[.slice (some ⟨g, 0, none⟩) N N, .int .i64 ((tots (stM M kq jn ⟨p1, v1⟩) : Nat) : Int), .slice (some ⟨gm, 0, none⟩) nw nw] 56), .own 43 2 (some ⟨g, 0, none⟩) N N (cls N (Go.Hp.upd C (adr M kq + 1 + jn) ⟨p1, v1⟩)), .own 72 1 (some ⟨gm, 0, none⟩) nw nw (wds .u64 nw W), .blk gh (.cells #[.int .i64 ((N : Nat) : Int), .slice (some ⟨ga1, 0, none⟩) ((stM M kq jn ⟨p1, v1⟩).length) c] 30), .own 46 4 (some ⟨ga1, 0, none⟩) c ((stM M kq jn ⟨p1, v1⟩).length) (ths ((stM M kq jn ⟨p1, v1⟩).length) (adr (stM M kq jn ⟨p1, v1⟩)) (thM (stM M kq jn ⟨p1, v1⟩)) G), rwsI ((stM M kq jn ⟨p1, v1⟩).length) G (lnM (stM M kq jn ⟨p1, v1⟩)) (fld (stM M kq jn ⟨p1, v1⟩)), .own 43 2 (some ⟨gr, 0, none⟩) 6 6 (cls 6 Rt), .own 43 2 (some ⟨gb, 0, none⟩) 6 6 (cls 6 Rt)]) [2, 0, 0, 0, 0, 0, 0, 0, 0] (by kernel_rfl)
        exact Sx.to 1 [(1, .slice OA m oc), (5, .pointer (some ⟨hb, 0, none⟩)), (7, .pointer (some ⟨gh, 0, none⟩)), (8, .slice (some ⟨gr, 0, none⟩) 6 6), (9, .slice (some ⟨gb, 0, none⟩) 6 6), (10, .int .i64 ((i : Nat) : Int))] (hK4 _ _ _ ⟨(Go.Hp.upd C (adr M kq + 1 + jn) ⟨p1, v1⟩), W, (stM M kq jn ⟨p1, v1⟩), Rt, (some ⟨ga1, 0, none⟩), c, G, rfl, H51, (hg.set hkl hjl hcok)⟩)
      refine Sx.nz 6 (.code (Sx.cat [1, 1, 1, 1, 1, 1, 1, 0, 1, 0, 0, 1, 0, 0, 1, 1, 1, 1, 0, 1, 0, 1, 1, 1, 1, 1] (Sx.bodyOf Try.f3))) [.blk 2, .to K4, .blk 1, .code (Sx.cat [1, 1, 1, 1, 1, 1, 1, 0, 1, 0, 0, 1, 1] (Sx.bodyOf Try.f3)), .to K2, .blk 0, .code (Sx.cat [1, 1, 1, 1, 1, 1, 1, 1] (Sx.bodyOf Try.f3))] [(1, .slice OA m oc), (5, .pointer (some ⟨hb, 0, none⟩)), (7, .pointer (some ⟨gh, 0, none⟩)), (8, .slice (some ⟨gr, 0, none⟩) 6 6), (9, .slice (some ⟨gb, 0, none⟩) 6 6), (10, .int .i64 ((i : Nat) : Int)), (11, .pointer (some ⟨k1, 0, none⟩)), (12, .int .i64 ((rn : Nat) : Int)), (13, .int .i64 ((kn : Nat) : Int)), (79, .int .i64 ((kd i) % ((8 : Nat) : Int))), (221, .bool (((kd i) % ((8 : Nat) : Int)) == (4 : Int)))] fun b22 => ?_
      refine Sx.br 0 (((kd i) % ((8 : Nat) : Int)) == (4 : Int)) (fun h_c221 => ?_) (fun h_c221 => ?_)
      · skip
        refine Sx.l 5 9 H29 ?_
        have p_c91 := h_c91; try simp [-List.getD_eq_getElem?_getD] at p_c91
        have p_c154 := h_c154; try simp [-List.getD_eq_getElem?_getD] at p_c154
        have p_c221 := Gx.k1 h_c221
        refine Sx.ir 1 gr rn 2 6 6 (by omega) ?_
        refine Sx.sra 0 7 43 2 43 gr 6 6 (rn * 2) (cls 6 Rt) [.bool false, .int .i64 (aa i)] H29 (by simp; omega) (cls_put Rt (by omega) ⟨false, (aa i)⟩) fun w34 H52 => ?_
        refine Sx.l 6 9 H52 ?_
        refine Sx.ir 1 gb rn 2 6 6 (by omega) ?_
        refine Sx.sra 0 8 43 2 43 gb 6 6 (rn * 2) (cls 6 Rt) [.bool false, .int .i64 (aa i)] H52 (by simp; omega) (cls_put Rt (by omega) ⟨false, (aa i)⟩) fun w35 H53 => ?_
        have H54 := H53.pick (a := [entI w, .blk hb (.cells #[.slice (some ⟨g, 0, none⟩) N N, .int .i64 ((tots M : Nat) : Int), .slice (some ⟨gm, 0, none⟩) nw nw] 56), .own 43 2 (some ⟨g, 0, none⟩) N N (cls N C), .own 72 1 (some ⟨gm, 0, none⟩) nw nw (wds .u64 nw W), .blk gh (.cells #[.int .i64 ((N : Nat) : Int), .slice A M.length c] 30), .own 46 4 A c M.length (ths M.length (adr M) (thM M) G), rwsI M.length G (lnM M) (fld M), .own 43 2 (some ⟨gr, 0, none⟩) 6 6 (cls 6 (Go.Hp.upd Rt rn ⟨false, aa i⟩)), .own 43 2 (some ⟨gb, 0, none⟩) 6 6 (cls 6 (Go.Hp.upd Rt rn ⟨false, aa i⟩))]) [0, 0, 0, 0, 0, 0, 0, 0, 0] (by kernel_rfl)
        exact Sx.to 2 [(1, .slice OA m oc), (5, .pointer (some ⟨hb, 0, none⟩)), (7, .pointer (some ⟨gh, 0, none⟩)), (8, .slice (some ⟨gr, 0, none⟩) 6 6), (9, .slice (some ⟨gb, 0, none⟩) 6 6), (10, .int .i64 ((i : Nat) : Int))] (hK4 _ _ _ ⟨C, W, M, (Go.Hp.upd Rt rn ⟨false, aa i⟩), A, c, G, rfl, H54, (hg.root rn (Ok_no rfl))⟩)
      refine Sx.br 6 (((kd i) % ((8 : Nat) : Int)) == (5 : Int)) (fun h_c235 => ?_) (fun h_c235 => ?_)
      · skip
        have p_c91 := h_c91; try simp [-List.getD_eq_getElem?_getD] at p_c91
        have p_c154 := h_c154; try simp [-List.getD_eq_getElem?_getD] at p_c154
        have p_c221 := Gx.k0 h_c221
        have p_c235 := Gx.k1 h_c235
        refine Sx.ir 5 gb kn 2 6 6 (by omega) ?_
        refine Sx.lr 1 8 43 2 4 gb 6 6 (kn * 2) (cls 6 Rt) H29 (.bool ((Rt kn).p)) (ld_p (C := Rt) (by omega)) ?_
        refine Sx.nz 3 (.code (Sx.cat [1, 1, 1, 1, 1, 1, 1, 0, 1, 0, 0, 1, 0, 0, 1, 1, 1, 1, 0, 1, 0, 1, 1, 1, 1, 1, 1, 1, 0, 0, 1] (Sx.bodyOf Try.f3))) [.code (Sx.cat [1, 1, 1, 1, 1, 1, 1, 0, 1, 0, 0, 1, 0, 0, 1, 1, 1, 1, 0, 1, 0, 1, 1, 1, 1, 1, 1, 1, 0, 1] (Sx.bodyOf Try.f3)), .blk 2, .to K4, .blk 1, .code (Sx.cat [1, 1, 1, 1, 1, 1, 1, 0, 1, 0, 0, 1, 1] (Sx.bodyOf Try.f3)), .to K2, .blk 0, .code (Sx.cat [1, 1, 1, 1, 1, 1, 1, 1] (Sx.bodyOf Try.f3))] [(1, .slice OA m oc), (5, .pointer (some ⟨hb, 0, none⟩)), (7, .pointer (some ⟨gh, 0, none⟩)), (8, .slice (some ⟨gr, 0, none⟩) 6 6), (9, .slice (some ⟨gb, 0, none⟩) 6 6), (10, .int .i64 ((i : Nat) : Int)), (11, .pointer (some ⟨k1, 0, none⟩)), (12, .int .i64 ((rn : Nat) : Int)), (13, .int .i64 ((kn : Nat) : Int)), (242, .bool (!((Rt kn).p)))] fun b23 => ?_
        refine Sx.br 0 (!((Rt kn).p)) (fun h_c242 => ?_) (fun h_c242 => ?_)
        · skip
          have p_c242 := h_c242; try simp [-List.getD_eq_getElem?_getD] at p_c242
          refine Sx.v 8 (.int .i64 (IntKind.i64.wrap (((i : Nat) : Int) + (1 : Int)))) (.int .i64 ((i + 1 : Nat) : Int)) (congrArg (Value.int .i64) (Gx.i64n (by omega) (by omega))) ?_
          have H55 := H29.pick (a := [entI w, .blk hb (.cells #[.slice (some ⟨g, 0, none⟩) N N, .int .i64 ((tots M : Nat) : Int), .slice (some ⟨gm, 0, none⟩) nw nw] 56), .own 43 2 (some ⟨g, 0, none⟩) N N (cls N C), .own 72 1 (some ⟨gm, 0, none⟩) nw nw (wds .u64 nw W), .blk gh (.cells #[.int .i64 ((N : Nat) : Int), .slice A M.length c] 30), .own 46 4 A c M.length (ths M.length (adr M) (thM M) G), rwsI M.length G (lnM M) (fld M), .own 43 2 (some ⟨gr, 0, none⟩) 6 6 (cls 6 Rt), .own 43 2 (some ⟨gb, 0, none⟩) 6 6 (cls 6 Rt)]) [0, 0, 0, 0, 0, 0, 0, 0, 0] (by kernel_rfl)
          exact Sx.to 2 [(1, .slice OA m oc), (5, .pointer (some ⟨hb, 0, none⟩)), (7, .pointer (some ⟨gh, 0, none⟩)), (8, .slice (some ⟨gr, 0, none⟩) 6 6), (9, .slice (some ⟨gb, 0, none⟩) 6 6), (10, .int .i64 ((i + 1 : Nat) : Int))] (hK2 _ _ _ _ (by omega) ⟨i + 1, C, W, M, Rt, A, c, G, rfl, rfl, H55, hg⟩)
        have p_c242 := h_c242; try simp [-List.getD_eq_getElem?_getD] at p_c242
        have hp1 : (Rt kn).p = true := by simpa using h_c242
        obtain ⟨kq, hkq⟩ := hwf.root _ (rts_mem hk6) hp1; have hkl := hkq.2.1; have hat := adr_tots hkl
        obtain ⟨ga2, hga2⟩ := H29.row 5 (A := A) (e := 46) (sz := 4) (cap := c) (n := M.length) (xs := (ths M.length (adr M) (thM M) G)) (by kernel_rfl) (by omega)
        subst hga2
        refine Sx.dr 3 H29 [4, 8, 5] [] (LJ := [.blk gh (.cells #[.int .i64 ((N : Nat) : Int), .slice (some ⟨ga2, 0, none⟩) M.length c] 30), .own 43 2 (some ⟨gb, 0, none⟩) 6 6 (cls 6 Rt), .own 46 4 (some ⟨ga2, 0, none⟩) c M.length (ths M.length (adr M) (thM M) G)]) (by kernel_rfl) fun w36 H56 => ?_
        refine Sx.tk [(0, none), (1, none), (2, none), (3, some (0, [])), (4, none), (5, none), (6, none)] (fun _ => (H56.sub [4, 7, 4] (by kernel_rfl))) ?_
        refine Sx.tvg 7 [] gb kn 2 6 6 (by omega) (fun _ => (H56.sub [4, 7, 4] (by kernel_rfl))) ?_
        refine Sx.tk [(8, none)] (fun _ => (H56.sub [4, 7, 4] (by kernel_rfl))) ?_
        refine Sx.tvl 9 [] 1 43 2 3 gb 6 6 (kn * 2 + 1) (cls 6 Rt) (.int .i64 ((adr M kq : Nat) : Int)) (by have h := ld_n (P := Try.prog) (t := 3) (N := 6) (C := Rt) (i := kn) (by omega); rw [hkq.2.2] at h; exact h) (fun _ => (H56.sub [4, 7, 4] (by kernel_rfl))) ?_
        refine Sx.nmx ?_
        intro zx5
        refine Sx.on2 10 13 ?_ ?_
        · skip
          refine Sx.c 0 [4, 4] H56 (fun Hp R hR => At_c gh (some ⟨ga2, 0, none⟩) c N G M kq w36 R Hp (by omega) hm6 (hR _ _ _ (.refl Hp) fun _ => ?_))
          refine Sx.bk (x := zx5) 10 (fun _ => (H56.sub [4, 7, 4] (by kernel_rfl))) ?_
          refine Sx.tvg 11 [] ga2 kq 4 M.length c (by omega) (fun _ => (H56.sub [4, 7, 4] (by kernel_rfl))) ?_
          refine Sx.tvl 12 [] 2 46 4 46 ga2 c M.length (kq * 4) (ths M.length (adr M) (thM M) G) (.agg #[.int .i64 ((adr M kq : Nat) : Int), .int .i64 ((thM M kq).kd), .int .i64 ((thM M kq).tg), .slice (some ⟨(G kq), 0, none⟩) ((thM M kq).l.length) ((thM M kq).l.length)]) (ld_t (m := M.length) (i := kq) (a := (adr M)) (T := (thM M)) (G := G) (by omega)) (fun _ => (H56.sub [4, 7, 4] (by kernel_rfl))) ?_
          refine Sx.nmx ?_
          intro zx6
          refine Sx.on 13 ?_
          refine Sx.nw 0 H56 fun k4 w37 H57 => ?_
          refine Sx.bk (x := zx6) 13 (fun _ => (H57.sub [4, 7, 4] (by kernel_rfl))) ?_
          refine Sx.nmx ?_
          intro zx7
          refine Sx.on 14 ?_
          refine Sx.s 0 10 H57 fun w38 H58 => ?_
          refine Sx.bk (x := zx7) 14 (fun _ => (H58.sub [4, 7, 4] (by kernel_rfl))) ?_
          refine Sx.dn ?_
          refine Sx.nz 1 (.code (Sx.cat [1, 1, 1, 1, 1, 1, 1, 0, 1, 0, 0, 1, 0, 0, 1, 1, 1, 1, 0, 1, 0, 1, 1, 1, 1, 1, 1, 1, 0, 1, 1] (Sx.bodyOf Try.f3))) [.blk 2, .to K4, .blk 1, .code (Sx.cat [1, 1, 1, 1, 1, 1, 1, 0, 1, 0, 0, 1, 1] (Sx.bodyOf Try.f3)), .to K2, .blk 0, .code (Sx.cat [1, 1, 1, 1, 1, 1, 1, 1] (Sx.bodyOf Try.f3))] [(1, .slice OA m oc), (5, .pointer (some ⟨hb, 0, none⟩)), (7, .pointer (some ⟨gh, 0, none⟩)), (8, .slice (some ⟨gr, 0, none⟩) 6 6), (9, .slice (some ⟨gb, 0, none⟩) 6 6), (10, .int .i64 ((i : Nat) : Int)), (11, .pointer (some ⟨k1, 0, none⟩)), (12, .int .i64 ((rn : Nat) : Int)), (13, .int .i64 ((kn : Nat) : Int)), (25, .pointer (some ⟨k4, 0, none⟩))] fun b24 => ?_
          refine Sx.l 4 10 H58 ?_
          refine Sx.br 4 ((((thM M kq).l.length : Nat) : Int) == (0 : Int)) (fun h_c259 => ?_) (fun h_c259 => ?_)
          · skip
            have p_c259 := Gx.k1 h_c259
            refine Sx.v 8 (.int .i64 (IntKind.i64.wrap (((i : Nat) : Int) + (1 : Int)))) (.int .i64 ((i + 1 : Nat) : Int)) (congrArg (Value.int .i64) (Gx.i64n (by omega) (by omega))) ?_
            have H59 := H58.pick (a := [entI w, .blk hb (.cells #[.slice (some ⟨g, 0, none⟩) N N, .int .i64 ((tots M : Nat) : Int), .slice (some ⟨gm, 0, none⟩) nw nw] 56), .own 43 2 (some ⟨g, 0, none⟩) N N (cls N C), .own 72 1 (some ⟨gm, 0, none⟩) nw nw (wds .u64 nw W), .blk gh (.cells #[.int .i64 ((N : Nat) : Int), .slice (some ⟨ga2, 0, none⟩) M.length c] 30), .own 46 4 (some ⟨ga2, 0, none⟩) c M.length (ths M.length (adr M) (thM M) G), rwsI M.length G (lnM M) (fld M), .own 43 2 (some ⟨gr, 0, none⟩) 6 6 (cls 6 Rt), .own 43 2 (some ⟨gb, 0, none⟩) 6 6 (cls 6 Rt)]) [0, 0, 0, 0, 0, 0, 0, 0, 0] (by kernel_rfl)
            exact Sx.to 2 [(1, .slice OA m oc), (5, .pointer (some ⟨hb, 0, none⟩)), (7, .pointer (some ⟨gh, 0, none⟩)), (8, .slice (some ⟨gr, 0, none⟩) 6 6), (9, .slice (some ⟨gb, 0, none⟩) 6 6), (10, .int .i64 ((i + 1 : Nat) : Int))] (hK2 _ _ _ _ (by omega) ⟨i + 1, C, W, M, Rt, (some ⟨ga2, 0, none⟩), c, G, rfl, rfl, H59, hg⟩)
          have p_c259 := Gx.k0 h_c259
          have hht := hg.hd _ (thM_mem hkl); have hln := hht.ln; have hl0 : 0 < (thM M kq).l.length := by omega
          refine Sx.l 5 9 H58 ?_
          refine Sx.l 1 10 H58 ?_
          refine Sx.c 1 [] H58 (fun Hp R hR => mod_c (cc i) ((thM M kq).l.length) w38 R Hp (by omega) (by omega) (hR _ _ _ (.refl Hp) fun _ => ?_))
          have hj0 := Int.emod_nonneg (cc i) (show (((thM M kq).l.length : Nat) : Int) ≠ 0 by omega); have hj2 := Int.emod_lt_of_pos (cc i) (show (0 : Int) < (((thM M kq).l.length : Nat) : Int) by omega)
          obtain ⟨jn, hjn⟩ : ∃ jn : Nat, cc i % (((thM M kq).l.length : Nat) : Int) = (jn : Int) := ⟨(cc i % (((thM M kq).l.length : Nat) : Int)).toNat, by omega⟩
          have hjl : jn < (thM M kq).l.length := by omega
          refine Sx.sl 4 14 (.int .i64 (cc i % (((thM M kq).l.length : Nat) : Int))) (.int .i64 ((jn : Nat) : Int)) (by rw [hjn]) ?_
          have hfl : C (adr M kq + 1 + jn) = fld M kq jn := hg.lays.fl _ _ _ _ (thM_get hkl) (fld_get hjl); have hlnM : lnM M kq = (thM M kq).l.length := rfl
          refine Sx.l 4 10 H58 ?_
          refine Sx.ir 1 (G kq) jn 2 ((thM M kq).l.length) ((thM M kq).l.length) (by omega) ?_
          refine Sx.lo (c := 2) (t := 43) 0 [.bool ((fld M kq jn).p), .int .i64 ((fld M kq jn).n)] (.agg #[.bool ((fld M kq jn).p), .int .i64 ((fld M kq jn).n)]) (rw_ld (m := M.length) (G := G) (ln := (lnM M)) (F := (fld M)) (i := kq) (j := jn) (H58.at 6 (by kernel_rfl)) (by omega) (by omega)) ?_
          refine Sx.ir 0 gb rn 2 6 6 (by omega) ?_
          refine Sx.sra 0 8 43 2 43 gb 6 6 (rn * 2) (cls 6 Rt) [.bool ((fld M kq jn).p), .int .i64 ((fld M kq jn).n)] H58 (by simp; omega) (cls_put Rt (by omega) ⟨((fld M kq jn).p), (fld M kq jn).n⟩) fun w39 H60 => ?_
          refine Sx.nz 2 (.code (Sx.cat [1, 1, 1, 1, 1, 1, 1, 0, 1, 0, 0, 1, 0, 0, 1, 1, 1, 1, 0, 1, 0, 1, 1, 1, 1, 1, 1, 1, 0, 1, 1, 1, 1, 1] (Sx.bodyOf Try.f3))) [.blk 2, .to K4, .blk 1, .code (Sx.cat [1, 1, 1, 1, 1, 1, 1, 0, 1, 0, 0, 1, 1] (Sx.bodyOf Try.f3)), .to K2, .blk 0, .code (Sx.cat [1, 1, 1, 1, 1, 1, 1, 1] (Sx.bodyOf Try.f3))] [(1, .slice OA m oc), (5, .pointer (some ⟨hb, 0, none⟩)), (7, .pointer (some ⟨gh, 0, none⟩)), (8, .slice (some ⟨gr, 0, none⟩) 6 6), (9, .slice (some ⟨gb, 0, none⟩) 6 6), (10, .int .i64 ((i : Nat) : Int)), (12, .int .i64 ((rn : Nat) : Int)), (13, .int .i64 ((kn : Nat) : Int)), (14, .int .i64 ((jn : Nat) : Int))] fun b25 => ?_
          refine Sx.ir 6 gr kn 2 6 6 (by omega) ?_
          refine Sx.lr 1 7 43 2 3 gr 6 6 (kn * 2 + 1) (cls 6 Rt) H60 (.int .i64 ((adr M kq : Nat) : Int)) (by have h := ld_n (P := Try.prog) (t := 3) (N := 6) (C := Rt) (i := kn) (by omega); rw [hkq.2.2] at h; exact h) ?_
          refine Sx.c 1 [1, 1] H60 (fun Hp R hR => Get_c hb g N (tots M) gm nw C (adr M kq) jn w39 R Hp (by omega) (by omega) (fun w40 G9 => hR _ _ _ G9 fun H61 => ?_))
          refine Sx.ir 0 gr rn 2 6 6 (by omega) ?_
          refine Sx.sra 0 7 43 2 43 gr 6 6 (rn * 2) (cls 6 Rt) [.bool ((C ((adr M kq) + 1 + jn)).p), .int .i64 ((C ((adr M kq) + 1 + jn)).n)] H61 (by simp; omega) (cls_put Rt (by omega) ⟨((C ((adr M kq) + 1 + jn)).p), (C ((adr M kq) + 1 + jn)).n⟩) fun w41 H62 => ?_
          have H64 := H62.pick (a := [.blk hb (.cells #[.slice (some ⟨g, 0, none⟩) N N, .int .i64 ((tots M : Nat) : Int), .slice (some ⟨gm, 0, none⟩) nw nw] 56), .own 43 2 (some ⟨g, 0, none⟩) N N (cls N C), entI w, .own 72 1 (some ⟨gm, 0, none⟩) nw nw (wds .u64 nw W), .blk gh (.cells #[.int .i64 ((N : Nat) : Int), .slice (some ⟨ga2, 0, none⟩) M.length c] 30), .own 46 4 (some ⟨ga2, 0, none⟩) c M.length (ths M.length (adr M) (thM M) G), rwsI M.length G (lnM M) (fld M), .own 43 2 (some ⟨gr, 0, none⟩) 6 6 (cls 6 (upd Rt rn ⟨((C ((adr M kq) + 1 + jn)).p), (C ((adr M kq) + 1 + jn)).n⟩)), .own 43 2 (some ⟨gb, 0, none⟩) 6 6 (cls 6 (upd Rt rn ⟨((fld M kq jn).p), (fld M kq jn).n⟩)), .blk k1 (.cells #[.int .i64 (kd i), .int .i64 (rr i), .int .i64 (aa i), .int .i64 (bb i), .int .i64 (cc i)] 33), .blk k4 (.cells #[.int .i64 ((adr M kq : Nat) : Int), .int .i64 ((thM M kq).kd), .int .i64 ((thM M kq).tg), .slice (some ⟨(G kq), 0, none⟩) ((thM M kq).l.length) ((thM M kq).l.length)] 46)]) [0, 0, 0, 0, 0, 0, 0, 0, 0, 0, 0] (by kernel_rfl)
          have H63 := H64; rw [hfl] at H63
          have H65 := H63.pick (a := [entI w, .blk hb (.cells #[.slice (some ⟨g, 0, none⟩) N N, .int .i64 ((tots M : Nat) : Int), .slice (some ⟨gm, 0, none⟩) nw nw] 56), .own 43 2 (some ⟨g, 0, none⟩) N N (cls N C), .own 72 1 (some ⟨gm, 0, none⟩) nw nw (wds .u64 nw W), .blk gh (.cells #[.int .i64 ((N : Nat) : Int), .slice (some ⟨ga2, 0, none⟩) M.length c] 30), .own 46 4 (some ⟨ga2, 0, none⟩) c M.length (ths M.length (adr M) (thM M) G), rwsI M.length G (lnM M) (fld M), .own 43 2 (some ⟨gr, 0, none⟩) 6 6 (cls 6 (Go.Hp.upd Rt rn ⟨(fld M kq jn).p, (fld M kq jn).n⟩)), .own 43 2 (some ⟨gb, 0, none⟩) 6 6 (cls 6 (Go.Hp.upd Rt rn ⟨(fld M kq jn).p, (fld M kq jn).n⟩))]) [2, 0, 0, 0, 0, 0, 0, 0, 0] (by kernel_rfl)
          exact Sx.to 2 [(1, .slice OA m oc), (5, .pointer (some ⟨hb, 0, none⟩)), (7, .pointer (some ⟨gh, 0, none⟩)), (8, .slice (some ⟨gr, 0, none⟩) 6 6), (9, .slice (some ⟨gb, 0, none⟩) 6 6), (10, .int .i64 ((i : Nat) : Int))] (hK4 _ _ _ ⟨C, W, M, (Go.Hp.upd Rt rn ⟨(fld M kq jn).p, (fld M kq jn).n⟩), (some ⟨ga2, 0, none⟩), c, G, rfl, H65, (hg.root rn (hwf.fld _ (thM_mem hkl) _ (fld_mem hjl)))⟩)
        refine Sx.nw 0 H56 fun k5 w42 H66 => ?_
        refine Sx.bk (x := zx5) 13 (fun _ => (H66.sub [4, 7, 4] (by kernel_rfl))) ?_
        refine Sx.nmx ?_
        intro zx8
        refine Sx.on 10 ?_
        refine Sx.c 0 [4, 4] H66 (fun Hp R hR => At_c gh (some ⟨ga2, 0, none⟩) c N G M kq w42 R Hp (by omega) hm6 (hR _ _ _ (.refl Hp) fun _ => ?_))
        refine Sx.bk (x := zx8) 10 (fun _ => (H66.sub [4, 7, 4] (by kernel_rfl))) ?_
        refine Sx.tvg 11 [] ga2 kq 4 M.length c (by omega) (fun _ => (H66.sub [4, 7, 4] (by kernel_rfl))) ?_
        refine Sx.tvl 12 [] 2 46 4 46 ga2 c M.length (kq * 4) (ths M.length (adr M) (thM M) G) (.agg #[.int .i64 ((adr M kq : Nat) : Int), .int .i64 ((thM M kq).kd), .int .i64 ((thM M kq).tg), .slice (some ⟨(G kq), 0, none⟩) ((thM M kq).l.length) ((thM M kq).l.length)]) (ld_t (m := M.length) (i := kq) (a := (adr M)) (T := (thM M)) (G := G) (by omega)) (fun _ => (H66.sub [4, 7, 4] (by kernel_rfl))) ?_
        refine Sx.nmx ?_
        intro zx9
        refine Sx.on 14 ?_
        refine Sx.s 0 10 H66 fun w43 H67 => ?_
        refine Sx.bk (x := zx9) 14 (fun _ => (H67.sub [4, 7, 4] (by kernel_rfl))) ?_
        refine Sx.dn ?_
        refine Sx.nz 1 (.code (Sx.cat [1, 1, 1, 1, 1, 1, 1, 0, 1, 0, 0, 1, 0, 0, 1, 1, 1, 1, 0, 1, 0, 1, 1, 1, 1, 1, 1, 1, 0, 1, 1] (Sx.bodyOf Try.f3))) [.blk 2, .to K4, .blk 1, .code (Sx.cat [1, 1, 1, 1, 1, 1, 1, 0, 1, 0, 0, 1, 1] (Sx.bodyOf Try.f3)), .to K2, .blk 0, .code (Sx.cat [1, 1, 1, 1, 1, 1, 1, 1] (Sx.bodyOf Try.f3))] [(1, .slice OA m oc), (5, .pointer (some ⟨hb, 0, none⟩)), (7, .pointer (some ⟨gh, 0, none⟩)), (8, .slice (some ⟨gr, 0, none⟩) 6 6), (9, .slice (some ⟨gb, 0, none⟩) 6 6), (10, .int .i64 ((i : Nat) : Int)), (11, .pointer (some ⟨k1, 0, none⟩)), (12, .int .i64 ((rn : Nat) : Int)), (13, .int .i64 ((kn : Nat) : Int)), (25, .pointer (some ⟨k5, 0, none⟩))] fun b26 => ?_
        refine Sx.l 4 10 H67 ?_
        refine Sx.br 4 ((((thM M kq).l.length : Nat) : Int) == (0 : Int)) (fun h_c259 => ?_) (fun h_c259 => ?_)
        · skip
          have p_c259 := Gx.k1 h_c259
          refine Sx.v 8 (.int .i64 (IntKind.i64.wrap (((i : Nat) : Int) + (1 : Int)))) (.int .i64 ((i + 1 : Nat) : Int)) (congrArg (Value.int .i64) (Gx.i64n (by omega) (by omega))) ?_
          have H68 := H67.pick (a := [entI w, .blk hb (.cells #[.slice (some ⟨g, 0, none⟩) N N, .int .i64 ((tots M : Nat) : Int), .slice (some ⟨gm, 0, none⟩) nw nw] 56), .own 43 2 (some ⟨g, 0, none⟩) N N (cls N C), .own 72 1 (some ⟨gm, 0, none⟩) nw nw (wds .u64 nw W), .blk gh (.cells #[.int .i64 ((N : Nat) : Int), .slice (some ⟨ga2, 0, none⟩) M.length c] 30), .own 46 4 (some ⟨ga2, 0, none⟩) c M.length (ths M.length (adr M) (thM M) G), rwsI M.length G (lnM M) (fld M), .own 43 2 (some ⟨gr, 0, none⟩) 6 6 (cls 6 Rt), .own 43 2 (some ⟨gb, 0, none⟩) 6 6 (cls 6 Rt)]) [0, 0, 0, 0, 0, 0, 0, 0, 0] (by kernel_rfl)
          exact Sx.to 2 [(1, .slice OA m oc), (5, .pointer (some ⟨hb, 0, none⟩)), (7, .pointer (some ⟨gh, 0, none⟩)), (8, .slice (some ⟨gr, 0, none⟩) 6 6), (9, .slice (some ⟨gb, 0, none⟩) 6 6), (10, .int .i64 ((i + 1 : Nat) : Int))] (hK2 _ _ _ _ (by omega) ⟨i + 1, C, W, M, Rt, (some ⟨ga2, 0, none⟩), c, G, rfl, rfl, H68, hg⟩)
        have p_c259 := Gx.k0 h_c259
        have hht := hg.hd _ (thM_mem hkl); have hln := hht.ln; have hl0 : 0 < (thM M kq).l.length := by omega
        refine Sx.l 5 9 H67 ?_
        refine Sx.l 1 10 H67 ?_
        refine Sx.c 1 [] H67 (fun Hp R hR => mod_c (cc i) ((thM M kq).l.length) w43 R Hp (by omega) (by omega) (hR _ _ _ (.refl Hp) fun _ => ?_))
        have hj0 := Int.emod_nonneg (cc i) (show (((thM M kq).l.length : Nat) : Int) ≠ 0 by omega); have hj2 := Int.emod_lt_of_pos (cc i) (show (0 : Int) < (((thM M kq).l.length : Nat) : Int) by omega)
        obtain ⟨jn, hjn⟩ : ∃ jn : Nat, cc i % (((thM M kq).l.length : Nat) : Int) = (jn : Int) := ⟨(cc i % (((thM M kq).l.length : Nat) : Int)).toNat, by omega⟩
        have hjl : jn < (thM M kq).l.length := by omega
        refine Sx.sl 4 14 (.int .i64 (cc i % (((thM M kq).l.length : Nat) : Int))) (.int .i64 ((jn : Nat) : Int)) (by rw [hjn]) ?_
        have hfl : C (adr M kq + 1 + jn) = fld M kq jn := hg.lays.fl _ _ _ _ (thM_get hkl) (fld_get hjl); have hlnM : lnM M kq = (thM M kq).l.length := rfl
        refine Sx.l 4 10 H67 ?_
        refine Sx.ir 1 (G kq) jn 2 ((thM M kq).l.length) ((thM M kq).l.length) (by omega) ?_
        refine Sx.lo (c := 2) (t := 43) 0 [.bool ((fld M kq jn).p), .int .i64 ((fld M kq jn).n)] (.agg #[.bool ((fld M kq jn).p), .int .i64 ((fld M kq jn).n)]) (rw_ld (m := M.length) (G := G) (ln := (lnM M)) (F := (fld M)) (i := kq) (j := jn) (H67.at 6 (by kernel_rfl)) (by omega) (by omega)) ?_
        refine Sx.ir 0 gb rn 2 6 6 (by omega) ?_
        refine Sx.sra 0 8 43 2 43 gb 6 6 (rn * 2) (cls 6 Rt) [.bool ((fld M kq jn).p), .int .i64 ((fld M kq jn).n)] H67 (by simp; omega) (cls_put Rt (by omega) ⟨((fld M kq jn).p), (fld M kq jn).n⟩) fun w44 H69 => ?_
        refine Sx.nz 2 (.code (Sx.cat [1, 1, 1, 1, 1, 1, 1, 0, 1, 0, 0, 1, 0, 0, 1, 1, 1, 1, 0, 1, 0, 1, 1, 1, 1, 1, 1, 1, 0, 1, 1, 1, 1, 1] (Sx.bodyOf Try.f3))) [.blk 2, .to K4, .blk 1, .code (Sx.cat [1, 1, 1, 1, 1, 1, 1, 0, 1, 0, 0, 1, 1] (Sx.bodyOf Try.f3)), .to K2, .blk 0, .code (Sx.cat [1, 1, 1, 1, 1, 1, 1, 1] (Sx.bodyOf Try.f3))] [(1, .slice OA m oc), (5, .pointer (some ⟨hb, 0, none⟩)), (7, .pointer (some ⟨gh, 0, none⟩)), (8, .slice (some ⟨gr, 0, none⟩) 6 6), (9, .slice (some ⟨gb, 0, none⟩) 6 6), (10, .int .i64 ((i : Nat) : Int)), (12, .int .i64 ((rn : Nat) : Int)), (13, .int .i64 ((kn : Nat) : Int)), (14, .int .i64 ((jn : Nat) : Int))] fun b27 => ?_
        refine Sx.ir 6 gr kn 2 6 6 (by omega) ?_
        refine Sx.lr 1 7 43 2 3 gr 6 6 (kn * 2 + 1) (cls 6 Rt) H69 (.int .i64 ((adr M kq : Nat) : Int)) (by have h := ld_n (P := Try.prog) (t := 3) (N := 6) (C := Rt) (i := kn) (by omega); rw [hkq.2.2] at h; exact h) ?_
        refine Sx.c 1 [1, 1] H69 (fun Hp R hR => Get_c hb g N (tots M) gm nw C (adr M kq) jn w44 R Hp (by omega) (by omega) (fun w45 G10 => hR _ _ _ G10 fun H70 => ?_))
        refine Sx.ir 0 gr rn 2 6 6 (by omega) ?_
        refine Sx.sra 0 7 43 2 43 gr 6 6 (rn * 2) (cls 6 Rt) [.bool ((C ((adr M kq) + 1 + jn)).p), .int .i64 ((C ((adr M kq) + 1 + jn)).n)] H70 (by simp; omega) (cls_put Rt (by omega) ⟨((C ((adr M kq) + 1 + jn)).p), (C ((adr M kq) + 1 + jn)).n⟩) fun w46 H71 => ?_
        have H73 := H71.pick (a := [.blk hb (.cells #[.slice (some ⟨g, 0, none⟩) N N, .int .i64 ((tots M : Nat) : Int), .slice (some ⟨gm, 0, none⟩) nw nw] 56), .own 43 2 (some ⟨g, 0, none⟩) N N (cls N C), entI w, .own 72 1 (some ⟨gm, 0, none⟩) nw nw (wds .u64 nw W), .blk gh (.cells #[.int .i64 ((N : Nat) : Int), .slice (some ⟨ga2, 0, none⟩) M.length c] 30), .own 46 4 (some ⟨ga2, 0, none⟩) c M.length (ths M.length (adr M) (thM M) G), rwsI M.length G (lnM M) (fld M), .own 43 2 (some ⟨gr, 0, none⟩) 6 6 (cls 6 (upd Rt rn ⟨((C ((adr M kq) + 1 + jn)).p), (C ((adr M kq) + 1 + jn)).n⟩)), .own 43 2 (some ⟨gb, 0, none⟩) 6 6 (cls 6 (upd Rt rn ⟨((fld M kq jn).p), (fld M kq jn).n⟩)), .blk k1 (.cells #[.int .i64 (kd i), .int .i64 (rr i), .int .i64 (aa i), .int .i64 (bb i), .int .i64 (cc i)] 33), .blk k5 (.cells #[.int .i64 ((adr M kq : Nat) : Int), .int .i64 ((thM M kq).kd), .int .i64 ((thM M kq).tg), .slice (some ⟨(G kq), 0, none⟩) ((thM M kq).l.length) ((thM M kq).l.length)] 46)]) [0, 0, 0, 0, 0, 0, 0, 0, 0, 0, 0] (by kernel_rfl)
        have H72 := H73; rw [hfl] at H72
        have H74 := H72.pick (a := [entI w, .blk hb (.cells #[.slice (some ⟨g, 0, none⟩) N N, .int .i64 ((tots M : Nat) : Int), .slice (some ⟨gm, 0, none⟩) nw nw] 56), .own 43 2 (some ⟨g, 0, none⟩) N N (cls N C), .own 72 1 (some ⟨gm, 0, none⟩) nw nw (wds .u64 nw W), .blk gh (.cells #[.int .i64 ((N : Nat) : Int), .slice (some ⟨ga2, 0, none⟩) M.length c] 30), .own 46 4 (some ⟨ga2, 0, none⟩) c M.length (ths M.length (adr M) (thM M) G), rwsI M.length G (lnM M) (fld M), .own 43 2 (some ⟨gr, 0, none⟩) 6 6 (cls 6 (Go.Hp.upd Rt rn ⟨(fld M kq jn).p, (fld M kq jn).n⟩)), .own 43 2 (some ⟨gb, 0, none⟩) 6 6 (cls 6 (Go.Hp.upd Rt rn ⟨(fld M kq jn).p, (fld M kq jn).n⟩))]) [2, 0, 0, 0, 0, 0, 0, 0, 0] (by kernel_rfl)
        exact Sx.to 2 [(1, .slice OA m oc), (5, .pointer (some ⟨hb, 0, none⟩)), (7, .pointer (some ⟨gh, 0, none⟩)), (8, .slice (some ⟨gr, 0, none⟩) 6 6), (9, .slice (some ⟨gb, 0, none⟩) 6 6), (10, .int .i64 ((i : Nat) : Int))] (hK4 _ _ _ ⟨C, W, M, (Go.Hp.upd Rt rn ⟨(fld M kq jn).p, (fld M kq jn).n⟩), (some ⟨ga2, 0, none⟩), c, G, rfl, H74, (hg.root rn (hwf.fld _ (thM_mem hkl) _ (fld_mem hjl)))⟩)
      have p_c91 := h_c91; try simp [-List.getD_eq_getElem?_getD] at p_c91
      have p_c154 := h_c154; try simp [-List.getD_eq_getElem?_getD] at p_c154
      have p_c221 := Gx.k0 h_c221
      have p_c235 := Gx.k0 h_c235
      refine Sx.c 4 [] H29 (fun Hp R hR => ranged_c (some ⟨gr, 0, none⟩) 6 6 w20 R Hp  (fun xb2 w47 G11 => hR _ _ _ G11 fun H75 => ?_))
      refine Sx.c 0 [2, 2, 2, 5, 0] H75 (fun Hp R hR => collect_c hb g N (tots M) gm nw C gr 6 xb2 Rt W M (rb M (rts Rt 6)) w47 R Hp rfl (hg).lays (hg).hd (hg).wf (by omega) (hg).le hNw hz0 hn hN6 (fun C2 W2 w48 G12 hl1 => hR _ _ _ G12 fun H76 => ?_))
      have hg2 := (hg).col hl1
      have H77 := H76; rw [← colM_tots] at H77
      refine Sx.nz 3 (.code (Sx.cat [1, 1, 1, 1, 1, 1, 1, 0, 1, 0, 0, 1, 0, 0, 1, 1, 1, 1, 0, 1, 0, 1, 1, 1, 1, 1, 1, 1, 1, 1] (Sx.bodyOf Try.f3))) [.blk 2, .to K4, .blk 1, .code (Sx.cat [1, 1, 1, 1, 1, 1, 1, 0, 1, 0, 0, 1, 1] (Sx.bodyOf Try.f3)), .to K2, .blk 0, .code (Sx.cat [1, 1, 1, 1, 1, 1, 1, 1] (Sx.bodyOf Try.f3))] [(1, .slice OA m oc), (5, .pointer (some ⟨hb, 0, none⟩)), (7, .pointer (some ⟨gh, 0, none⟩)), (8, .slice (some ⟨gr, 0, none⟩) 6 6), (9, .slice (some ⟨gb, 0, none⟩) 6 6), (10, .int .i64 ((i : Nat) : Int)), (26, .int .i64 ((nx M (rb M (rts Rt 6)) M.length : Nat) : Int))] fun b28 => ?_
      refine Sx.sl 1 26 (.int .i64 ((nx M (rb M (rts Rt 6)) M.length : Nat) : Int)) (.int .i64 ((tots (colM M Rt 6) : Nat) : Int)) (by rw [colM_tots]) ?_
      refine Sx.c 3 [9] H77 (fun Hp R hR => places_c gb 6 Rt w48 R Hp (by omega) (fun A3 c3 w49 G13 => hR _ _ _ G13 fun H78 => ?_))
      refine Sx.c 0 [8, 8, 8, 1, 0] H78 (fun Hp R hR => dcol_c gh A c N G M A3 c3 gb 6 Rt (rb M (rts Rt 6)) w49 R Hp rfl hm6 hwf hn1 (fun A4 c4 G14 w50 G15 => hR _ _ _ G15 fun H79 => ?_))
      have hm1 := Nat.le_trans (colM_le M Rt 6) hm6; have hw1 := colM_wf hwf
      refine Sx.v 7 (.bool (((tots (colM M Rt 6) : Nat) : Int) != ((tots (colM M Rt 6) : Nat) : Int))) (.bool false) (by simp) ?_
      have H80 := H79.pick (a := [entI w, .blk hb (.cells #[.slice (some ⟨g, 0, none⟩) N N, .int .i64 ((tots (colM M Rt 6) : Nat) : Int), .slice (some ⟨gm, 0, none⟩) nw nw] 56), .own 43 2 (some ⟨g, 0, none⟩) N N (cls N C2), .own 72 1 (some ⟨gm, 0, none⟩) nw nw (wds .u64 nw W2), .blk gh (.cells #[.int .i64 ((N : Nat) : Int), .slice A4 ((colM M Rt 6).length) c4] 30), .own 46 4 A4 c4 ((colM M Rt 6).length) (ths ((colM M Rt 6).length) (adr (colM M Rt 6)) (thM (colM M Rt 6)) G14), rwsI ((colM M Rt 6).length) G14 (lnM (colM M Rt 6)) (fld (colM M Rt 6)), .own 43 2 (some ⟨gr, 0, none⟩) 6 6 (cls 6 (colR M Rt 6)), .own 43 2 (some ⟨gb, 0, none⟩) 6 6 (cls 6 (colR M Rt 6))]) [10, 5, 5, 5, 0, 0, 0, 2, 1] (by kernel_rfl)
      exact Sx.to 5 [(1, .slice OA m oc), (5, .pointer (some ⟨hb, 0, none⟩)), (7, .pointer (some ⟨gh, 0, none⟩)), (8, .slice (some ⟨gr, 0, none⟩) 6 6), (9, .slice (some ⟨gb, 0, none⟩) 6 6), (10, .int .i64 ((i : Nat) : Int))] (hK4 _ _ _ ⟨C2, W2, (colM M Rt 6), (colR M Rt 6), A4, c4, G14, rfl, H80, hg2⟩)
    obtain ⟨C2, W2, M2, R2, A2, c2, G2, rfl, H81, hg2⟩ := hI4
    refine Sx.c 6 [1, 1, 2, 2, 2, 2, 2] H81 (fun Hp R hR => alike_c hb g N gm nw C2 gh A2 c2 G2 M2 gr gb 6 R2 w11 R Hp hg2 hN6 hn1 (fun w51 G16 => hR _ _ _ G16 fun H82 => ?_))
    refine Sx.nz 3 (.code (Sx.cat [1, 1, 1, 1, 1, 1, 1, 0, 1, 0, 0, 1, 0, 0, 1, 1, 1, 1, 1, 1] (Sx.bodyOf Try.f3))) [.blk 1, .code (Sx.cat [1, 1, 1, 1, 1, 1, 1, 0, 1, 0, 0, 1, 1] (Sx.bodyOf Try.f3)), .to K2, .blk 0, .code (Sx.cat [1, 1, 1, 1, 1, 1, 1, 1] (Sx.bodyOf Try.f3))] [(1, .slice OA m oc), (5, .pointer (some ⟨hb, 0, none⟩)), (7, .pointer (some ⟨gh, 0, none⟩)), (8, .slice (some ⟨gr, 0, none⟩) 6 6), (9, .slice (some ⟨gb, 0, none⟩) 6 6), (10, .int .i64 ((i : Nat) : Int)), (28, .bool true)] fun b29 => ?_
    refine Sx.v 12 (.int .i64 (IntKind.i64.wrap (((i : Nat) : Int) + (1 : Int)))) (.int .i64 ((i + 1 : Nat) : Int)) (congrArg (Value.int .i64) (Gx.i64n (by omega) (by omega))) ?_
    have H83 := H82.pick (a := [entI w, .blk hb (.cells #[.slice (some ⟨g, 0, none⟩) N N, .int .i64 ((tots M2 : Nat) : Int), .slice (some ⟨gm, 0, none⟩) nw nw] 56), .own 43 2 (some ⟨g, 0, none⟩) N N (cls N C2), .own 72 1 (some ⟨gm, 0, none⟩) nw nw (wds .u64 nw W2), .blk gh (.cells #[.int .i64 ((N : Nat) : Int), .slice A2 M2.length c2] 30), .own 46 4 A2 c2 M2.length (ths M2.length (adr M2) (thM M2) G2), rwsI M2.length G2 (lnM M2) (fld M2), .own 43 2 (some ⟨gr, 0, none⟩) 6 6 (cls 6 R2), .own 43 2 (some ⟨gb, 0, none⟩) 6 6 (cls 6 R2)]) [7, 0, 0, 5, 0, 0, 0, 0, 0] (by kernel_rfl)
    exact Sx.to 2 [(1, .slice OA m oc), (5, .pointer (some ⟨hb, 0, none⟩)), (7, .pointer (some ⟨gh, 0, none⟩)), (8, .slice (some ⟨gr, 0, none⟩) 6 6), (9, .slice (some ⟨gb, 0, none⟩) 6 6), (10, .int .i64 ((i + 1 : Nat) : Int))] (hK2 _ _ _ _ (by omega) ⟨i + 1, C2, W2, M2, R2, A2, c2, G2, rfl, rfl, H83, hg2⟩)
  refine Sx.nz 5 (.code (Sx.cat [1, 1, 1, 1, 1, 1, 1, 1] (Sx.bodyOf Try.f3))) [] [(5, .pointer (some ⟨hb, 0, none⟩)), (7, .pointer (some ⟨gh, 0, none⟩)), (8, .slice (some ⟨gr, 0, none⟩) 6 6), (9, .slice (some ⟨gb, 0, none⟩) 6 6)] fun b30 => ?_
  have p_c64 := h_c64; try simp [-List.getD_eq_getElem?_getD] at p_c64
  refine Sx.c 6 [1, 1, 2, 2, 2, 2, 2] H9 (fun Hp R hR => alike_c hb g N gm nw C gh A c G M gr gb 6 Rt w7 R Hp hg hN6 hn1 (fun w52 G17 => hR _ _ _ G17 fun H84 => ?_))
  exact Sx.rt 4 [] H84 (.bool true) (hK _ (pe H84 hL0 [7]))
end Go.Proofs.Ytlddkcdjegcleaa
