/- A part of the proof (YtokplpijjnkboaaStw6), printed by a program of ours. -/
import Derived.Test.YtokplpijjnkboaaProg
import Derived.Test.YtokplpijjnkboaaStk
import Derived.Test.YtokplpijjnkboaaStc
import Derived.Test.YtokplpijjnkboaaStd
import Derived.Test.YtokplpijjnkboaaStl
import Derived.Test.YtokplpijjnkboaaSte
import Derived.Test.YtokplpijjnkboaaStw1
import Derived.Test.YtokplpijjnkboaaStw2
import Derived.Test.YtokplpijjnkboaaStw3
import Derived.Test.YtokplpijjnkboaaStw4
import Derived.Test.YtokplpijjnkboaaStw5
set_option linter.unusedVariables false
set_option linter.unusedSimpArgs false
namespace Go.Proofs.Ytokplpijjnkboaa
open Go.RowKit Go.Sx Go.Stk
attribute [local irreducible] Go.wpOps Go.Code.wp Go.wpOp Go.wpAnyH Go.Calls Go.Sx.Goal
set_option maxRecDepth 20000
theorem copied_c (it : Sx.Item) (A : Option Addr) (n cap : Nat) (hm : List HS) (w : World) (K : Ending → World → Prop) (H0 : Sp w [it]) (hy : Sy it A hm) (hn : n = hm.length) (hb : tot (segsOf hm) + hm.length < 100000000000) (hK : ∀ (n' cap' : Nat) (A' : Option Addr) (hm' : List HS) (S' : Nat → Prop) w', Hs w [it] w' [srI S' A' cap' hm', it] → (n' = hm'.length) → (segsOf hm' = segsOf hm) → K (.returned (.slice A' n' cap')) w') :
    Calls Try.prog 31 #[.slice A n cap] w K := by
  obtain ⟨L0, hL0, H⟩ : ∃ L0, L0 = [it] ∧ Hs w L0 w [it] := ⟨_, rfl, Hs.refl H0⟩
  refine Sx.en (vs := [.slice A n cap]) 33 Try.func31 ?_
  have H1 := H.add (Gx.Ext.refl _) (it := .own 69 3 none 0 0 []) (World.ownsRow_nil _ _ _ _) (fun _ h => by cases h)
  have H2 := rw_nil H1
  have H3 := H2.pick (a := [.own 69 3 none 0 0 (recs ([])), rwI (fpA []) ([]), it]) [1, 1, 0] (by kernel_rfl)
  refine Sx.lp 17 (fun z l' w' => ∃ (i : Nat) (A2 : Option Addr) (c2 : Nat) (hm2 : List HS) (S2 : Nat → Prop), l' = [(0, .slice A n cap), (3, .slice A2 i c2), (4, .int .i64 ((i : Nat) : Int))] ∧ z = hm.length - i ∧ Hs w L0 w' [.own 69 3 A2 c2 i (recs hm2), rwI S2 hm2, it] ∧ (i ≤ hm.length) ∧ (segsOf hm2 = segsOf (hm.take i))) _ [(0, .slice A n cap), (3, .slice none 0 0), (4, .int .i64 ((0 : Nat) : Int))] ⟨0, none, 0, [], (fpA []), rfl, rfl, H3, (Nat.zero_le _), (by simp [segsOf])⟩ (fun b1 z1 l1 w1 hI1 K1 hK1 => ?_)
  obtain ⟨i, A2, c2, hm2, S2, rfl, rfl, H4, hi, hsg⟩ := hI1
  refine Sx.br 9 (decide (((i : Nat) : Int) < ((n : Nat) : Int))) (fun h_c8 => ?_) (fun h_c8 => ?_)
  · skip
    have p_c8 := of_decide_eq_true h_c8
    obtain ⟨⟨⟨hs1, tg1, fs1⟩, B1, c1⟩, hx1⟩ : ∃ x, hm[i]? = some x := ⟨_, List.getElem?_eq_getElem (by omega)⟩
    obtain ⟨a1, hA1⟩ := sg_addr (hy _ (H4.at 2 (it := it) (by kernel_rfl))) hx1
    have hl1 := seg_le hx1
    simp only at hl1
    refine Sx.dr 4 H4 [2] [] (LJ := [it]) (by kernel_rfl) fun w2 H5 => ?_
    refine Sx.tk [(0, none), (1, none), (2, none)] (fun _ => (H5.sub [2] (by kernel_rfl))) ?_
    refine Sx.tvi 3 [] a1 i 3 n cap hA1 (by omega) (fun _ => (H5.sub [2] (by kernel_rfl))) ?_
    refine Sx.tvf 4 [] (a1.add (i * 3)) 0 (fun _ => (H5.sub [2] (by kernel_rfl))) ?_
    refine Sx.tvo (c := 1) (t := 4) 5 [] [.bool hs1] (.bool hs1) (fun w' hs => (sg_cell (hy _ (sp_it hs 0 (it := it) (by kernel_rfl))) hA1 hx1 0 _ rfl)) (fun _ => (H5.sub [2] (by kernel_rfl))) ?_
    refine Sx.tk [(6, none), (7, none)] (fun _ => (H5.sub [2] (by kernel_rfl))) ?_
    refine Sx.tvi 8 [] a1 i 3 n cap hA1 (by omega) (fun _ => (H5.sub [2] (by kernel_rfl))) ?_
    refine Sx.tvf 9 [] (a1.add (i * 3)) 1 (fun _ => (H5.sub [2] (by kernel_rfl))) ?_
    refine Sx.tvo (c := 1) (t := 3) 10 [] [.int .i64 tg1] (.int .i64 tg1) (fun w' hs => (sg_cell (hy _ (sp_it hs 0 (it := it) (by kernel_rfl))) hA1 hx1 1 _ rfl)) (fun _ => (H5.sub [2] (by kernel_rfl))) ?_
    refine Sx.tk [(12, none), (13, none)] (fun _ => (H5.sub [2] (by kernel_rfl))) ?_
    refine Sx.tvi 14 [] a1 i 3 n cap hA1 (by omega) (fun _ => (H5.sub [2] (by kernel_rfl))) ?_
    refine Sx.tvf 15 [] (a1.add (i * 3)) 2 (fun _ => (H5.sub [2] (by kernel_rfl))) ?_
    refine Sx.tvo (c := 1) (t := 39) 16 [] [.slice B1 fs1.length c1] (.slice B1 fs1.length c1) (fun w' hs => (sg_cell (hy _ (sp_it hs 0 (it := it) (by kernel_rfl))) hA1 hx1 2 _ rfl)) (fun _ => (H5.sub [2] (by kernel_rfl))) ?_
    refine Sx.nmx ?_
    intro zx1
    refine Sx.on 11 ?_
    refine Sx.nw 0 H5 fun k1 w3 H6 => ?_
    refine Sx.bk (x := zx1) 11 (fun _ => (H6.sub [2] (by kernel_rfl))) ?_
    refine Sx.nmx ?_
    intro zx2
    refine Sx.on 17 ?_
    have H7 := Hs.toOwn (k := k1) (e := 3) (cs := #[]) H6 3 1 0 (by kernel_rfl) (by rfl) (by omega)
    refine Sx.aps 0 3 8 fs1.length 3 1 39 c1 B1 (some ⟨k1, 0, none⟩) 0 0 [] (ints fs1) H7 (fun h => row_none (hy _ (H7.at 2 (it := it) (by kernel_rfl))) hx1 h) (fun a ha => row_all (hy _ (H7.at 2 (it := it) (by kernel_rfl))) hx1 a ha) (by simp [ints]) (ints_one _) (by omega) (by omega) (Nat.le_refl 0) (xs' := ints fs1) rfl fun A1 cap1 w4 H8 => ?_
    refine Sx.bk (x := zx2) 17 (fun _ => (H8.sub [2] (by kernel_rfl))) ?_
    refine Sx.tk [(18, none)] (fun _ => (H8.sub [2] (by kernel_rfl))) ?_
    refine Sx.nmx ?_
    intro zx3
    refine Sx.on 19 ?_
    refine Sx.nw 0 H8 fun k2 w5 H9 => ?_
    refine Sx.bk (x := zx3) 19 (fun _ => (H9.sub [2] (by kernel_rfl))) ?_
    refine Sx.nmx ?_
    intro zx4
    refine Sx.on 20 ?_
    refine Sx.ap 0 0 4 40 1 0 69 3 47 1 k2 A2 c2 i (recs hm2) [.bool hs1, .int .i64 tg1, .slice A1 (0 + fs1.length) cap1] H9 (by omega) (by omega) rfl fun A2 cap2 w6 H10 => ?_
    refine Sx.bk (x := zx4) 20 (fun _ => (H10.sub [2] (by kernel_rfl))) ?_
    refine Sx.tk [(21, none)] (fun _ => (H10.sub [2] (by kernel_rfl))) ?_
    refine Sx.dn ?_
    refine Sx.v 4 (.int .i64 (IntKind.i64.wrap (((i : Nat) : Int) + (1 : Int)))) (.int .i64 ((i + 1 : Nat) : Int)) (congrArg (Value.int .i64) (Gx.i64n (by omega) (by omega))) ?_
    refine rec_join H10 [0, 2, 0] S2 A2 cap2 (i + 1) hm2 hs1 tg1 fs1 A1 cap1 (0 + fs1.length) (by simp) (by kernel_rfl) (fun S1 H11 => ?_)
    have H12 := H11.pick (a := [.own 69 3 A2 cap2 (i + 1) (recs (hm2 ++ [HS.mk (Seg.mk hs1 tg1 fs1) A1 cap1])), rwI S1 (hm2 ++ [HS.mk (Seg.mk hs1 tg1 fs1) A1 cap1]), it]) [0, 0, 0] (by kernel_rfl)
    exact Sx.to 2 [(0, .slice A n cap), (3, .slice A2 (i + 1) cap2), (4, .int .i64 ((i + 1 : Nat) : Int))] (hK1 _ _ _ _ (by omega) ⟨i + 1, A2, cap2, (hm2 ++ [HS.mk (Seg.mk hs1 tg1 fs1) A1 cap1]), S1, rfl, rfl, H12, (by omega), (by rw [segs_step hx1, segsOf_app, hsg]; simp [segsOf])⟩)
  have p_c8 := of_decide_eq_false h_c8
  have hl2 := congrArg List.length hsg
  simp only [segsOf_len, List.length_take] at hl2
  refine sr_cls H4 [0, 0] S2 A2 c2 i hm2 _ (by omega) rfl (by kernel_rfl) (fun S2 H13 => ?_)
  exact Sx.rt 12 [] H13 _ (hK i c2 A2 hm2 S2 _ (H13.pe hL0 [0, 0]) (by omega) (by rw [hsg, List.take_of_length_le (by omega)]))
theorem Flat_c (it : Sx.Item) (A : Option Addr) (n cap : Nat) (hm : List HS) (w : World) (K : Ending → World → Prop) (H0 : Sp w [it]) (hy : Sy it A hm) (hn : n = hm.length) (hb : tot (segsOf hm) + hm.length < 100000000000) (hK : ∀ (A1 : Option Addr) (c1 n1 : Nat) (A2 : Option Addr) (c2 n2 : Nat) w', Hs w [it] w' [.own 52 2 A1 c1 n1 (prs (allF 0 (segsOf hm))), .own 52 2 A2 c2 n2 (prs (tagsF 0 (segsOf hm))), it] → (n1 = (allF 0 (segsOf hm)).length) → (n2 = (tagsF 0 (segsOf hm)).length) → K (.returned (.tuple #[.slice A1 n1 c1, .slice A2 n2 c2])) w') :
    Calls Try.prog 19 #[.slice A n cap] w K := by
  obtain ⟨L0, hL0, H⟩ : ∃ L0, L0 = [it] ∧ Hs w L0 w [it] := ⟨_, rfl, Hs.refl H0⟩
  refine Sx.en (vs := [.slice A n cap]) 54 Try.func19 ?_
  have H1 := H.add (Gx.Ext.refl _) (it := .own 52 2 none 0 0 []) (World.ownsRow_nil _ _ _ _) (fun _ h => by cases h)
  have H2 := H1.add (Gx.Ext.refl _) (it := .own 52 2 none 0 0 []) (World.ownsRow_nil _ _ _ _) (fun _ h => by cases h)
  have H3 := H2.pick (a := [.own 52 2 none 0 0 ([]), .own 52 2 none 0 0 ([]), it]) [1, 1, 0] (by kernel_rfl)
  refine Sx.lp 23 (fun z l' w' => ∃ (i : Nat) (Ax : Option Addr) (kx : Nat) (n1 : Nat) (Ay : Option Addr) (ky : Nat) (n2 : Nat), l' = [(0, .slice A n cap), (4, .slice Ax n1 kx), (5, .slice Ay n2 ky), (6, .int .i64 ((i : Nat) : Int))] ∧ z = hm.length - i ∧ Hs w L0 w' [.own 52 2 Ax kx n1 (prs (allF 0 (segsOf (hm.take i)))), .own 52 2 Ay ky n2 (prs (tagsF 0 (segsOf (hm.take i)))), it] ∧ (i ≤ hm.length) ∧ (n1 = (allF 0 (segsOf (hm.take i))).length) ∧ (n2 = (tagsF 0 (segsOf (hm.take i))).length)) _ [(0, .slice A n cap), (4, .slice none 0 0), (5, .slice none 0 0), (6, .int .i64 ((0 : Nat) : Int))] ⟨0, none, 0, 0, none, 0, 0, rfl, rfl, H3, (Nat.zero_le _), (by simp [segsOf, allF]), (by simp [segsOf, tagsF])⟩ (fun b1 z1 l1 w1 hI1 K1 hK1 => ?_)
  obtain ⟨i, Ax, kx, n1, Ay, ky, n2, rfl, rfl, H4, hi, hn1, hn2⟩ := hI1
  refine Sx.br 9 (decide (((i : Nat) : Int) < ((n : Nat) : Int))) (fun h_c11 => ?_) (fun h_c11 => ?_)
  · skip
    have p_c11 := of_decide_eq_true h_c11
    obtain ⟨⟨⟨hs1, tg1, fs1⟩, B1, c1⟩, hx1⟩ : ∃ x, hm[i]? = some x := ⟨_, List.getElem?_eq_getElem (by omega)⟩
    obtain ⟨a1, hA1⟩ := sg_addr (hy _ (H4.at 2 (it := it) (by kernel_rfl))) hx1
    have hl1 := seg_le hx1
    simp only at hl1
    have hn1' := hn1; rw [allF_len] at hn1'
    have hn2' := tagsF_len 0 (segsOf (hm.take i)); rw [← hn2, segsOf_len, List.length_take] at hn2'
    have H5 := H4
    rw [show prs (allF 0 (segsOf (hm.take i))) = prs (allF 0 (segsOf (hm.take i)) ++ (fs1.take 0).map (fun f => ((i : Int), f))) by simp] at H5
    have H6 := H5.pick (a := [.own 52 2 Ax kx n1 (prs (allF 0 (segsOf (hm.take i)) ++ (fs1.take 0).map (fun f => ((i : Int), f)))), .own 52 2 Ay ky n2 (prs (tagsF 0 (segsOf (hm.take i)))), it]) [0, 0, 0] (by kernel_rfl)
    refine Sx.lp 11 (fun z l' w' => ∃ (j : Nat) (Az : Option Addr) (kz : Nat), l' = [(0, .slice A n cap), (4, .slice Az (n1 + j) kz), (5, .slice Ay n2 ky), (6, .int .i64 ((i : Nat) : Int)), (7, .int .i64 ((j : Nat) : Int))] ∧ z = fs1.length - j ∧ Hs w L0 w' [.own 52 2 Az kz (n1 + j) (prs (allF 0 (segsOf (hm.take i)) ++ (fs1.take j).map (fun f => ((i : Int), f)))), .own 52 2 Ay ky n2 (prs (tagsF 0 (segsOf (hm.take i)))), it] ∧ (j ≤ fs1.length)) _ [(0, .slice A n cap), (4, .slice Ax (n1 + 0) kx), (5, .slice Ay n2 ky), (6, .int .i64 ((i : Nat) : Int)), (7, .int .i64 ((0 : Nat) : Int))] ⟨0, Ax, kx, rfl, rfl, H6, (Nat.zero_le _)⟩ (fun b2 z2 l2 w2 hI2 K2 hK2 => ?_)
    obtain ⟨j, Az, kz, rfl, rfl, H7, hj⟩ := hI2
    refine Sx.ia 6 a1 i 3 n cap hA1 (by omega) ?_
    refine Sx.fa 0 (a1.add (i * 3)) 2 ?_
    refine Sx.lo (c := 1) (t := 39) 0 [.slice B1 fs1.length c1] (.slice B1 fs1.length c1) (sg_cell (hy _ (H7.at 2 (it := it) (by kernel_rfl))) hA1 hx1 2 _ rfl) ?_
    refine Sx.br 4 (decide (((j : Nat) : Int) < ((fs1.length : Nat) : Int))) (fun h_c21 => ?_) (fun h_c21 => ?_)
    · skip
      have p_c21 := of_decide_eq_true h_c21
      obtain ⟨f1, hf1⟩ : ∃ f, fs1[j]? = some f := ⟨_, List.getElem?_eq_getElem (by omega)⟩
      obtain ⟨bb1, hB1⟩ := row_addr (hy _ (H7.at 2 (it := it) (by kernel_rfl))) hx1 (j := j) (by show j < fs1.length; omega)
      refine Sx.ia 9 a1 i 3 n cap hA1 (by omega) ?_
      refine Sx.fa 0 (a1.add (i * 3)) 2 ?_
      refine Sx.lo (c := 1) (t := 39) 0 [.slice B1 fs1.length c1] (.slice B1 fs1.length c1) (sg_cell (hy _ (H7.at 2 (it := it) (by kernel_rfl))) hA1 hx1 2 _ rfl) ?_
      refine Sx.ia 1 bb1 j 1 fs1.length c1 hB1 (by omega) ?_
      refine Sx.lo (c := 1) (t := 3) 0 [.int .i64 f1] (.int .i64 f1) (row_cell (hy _ (H7.at 2 (it := it) (by kernel_rfl))) hx1 hB1 hf1) ?_
      refine Sx.nw 1 H7 fun k1 w3 H8 => ?_
      refine Sx.ap 0 0 3 16 1 0 52 2 44 1 k1 Az kz (n1 + j) (prs (allF 0 (segsOf (hm.take i)) ++ (fs1.take j).map (fun f => ((i : Int), f)))) [.int .i64 ((i : Nat) : Int), .int .i64 f1] H8 (by omega) (by omega) (all_more hf1 _) fun A1 cap1 w4 H9 => ?_
      refine Sx.v 6 (.int .i64 (IntKind.i64.wrap (((j : Nat) : Int) + (1 : Int)))) (.int .i64 ((j + 1 : Nat) : Int)) (congrArg (Value.int .i64) (Gx.i64n (by omega) (by omega))) ?_
      have H10 := H9.pick (a := [.own 52 2 A1 cap1 (n1 + j + 1) (prs (allF 0 (segsOf (hm.take i)) ++ (fs1.take (j + 1)).map (fun f => ((i : Int), f)))), .own 52 2 Ay ky n2 (prs (tagsF 0 (segsOf (hm.take i)))), it]) [0, 0, 0] (by kernel_rfl)
      exact Sx.to 2 [(0, .slice A n cap), (4, .slice A1 (n1 + j + 1) cap1), (5, .slice Ay n2 ky), (6, .int .i64 ((i : Nat) : Int)), (7, .int .i64 ((j + 1 : Nat) : Int))] (hK2 _ _ _ _ (by omega) ⟨j + 1, A1, cap1, rfl, rfl, H10, (by omega)⟩)
    have p_c21 := of_decide_eq_false h_c21
    refine Sx.ia 9 a1 i 3 n cap hA1 (by omega) ?_
    refine Sx.fa 0 (a1.add (i * 3)) 0 ?_
    refine Sx.lo (c := 1) (t := 4) 0 [.bool hs1] (.bool hs1) (sg_cell (hy _ (H7.at 2 (it := it) (by kernel_rfl))) hA1 hx1 0 _ rfl) ?_
    refine Sx.br 2 hs1 (fun h_c41 => ?_) (fun h_c41 => ?_)
    · skip
      have p_c41 := h_c41; try simp [-List.getD_eq_getElem?_getD] at p_c41
      refine Sx.ia 5 a1 i 3 n cap hA1 (by omega) ?_
      refine Sx.fa 0 (a1.add (i * 3)) 1 ?_
      refine Sx.lo (c := 1) (t := 3) 0 [.int .i64 tg1] (.int .i64 tg1) (sg_cell (hy _ (H7.at 2 (it := it) (by kernel_rfl))) hA1 hx1 1 _ rfl) ?_
      refine Sx.nw 1 H7 fun k2 w5 H11 => ?_
      refine Sx.ap 0 1 3 16 1 0 52 2 44 1 k2 Ay ky n2 (prs (tagsF 0 (segsOf (hm.take i)))) [.int .i64 ((i : Nat) : Int), .int .i64 tg1] H11 (by omega) (by omega) (prs_snoc _ _ _) fun A2 cap2 w6 H12 => ?_
      refine Sx.v 6 (.int .i64 (IntKind.i64.wrap (((i : Nat) : Int) + (1 : Int)))) (.int .i64 ((i + 1 : Nat) : Int)) (congrArg (Value.int .i64) (Gx.i64n (by omega) (by omega))) ?_
      obtain rfl : j = fs1.length := by omega
      have H13 := H12
      have e1 := flat_all hx1; have e2 := flat_tags hx1; simp only at e1 e2
      rw [h_c41] at e2; simp at e2
      rw [List.take_length, ← e1, ← e2] at H13
      have H14 := H13.pick (a := [.own 52 2 Az kz (n1 + fs1.length) (prs (allF 0 (segsOf (hm.take (i + 1))))), .own 52 2 A2 cap2 (n2 + 1) (prs (tagsF 0 (segsOf (hm.take (i + 1))))), it]) [0, 0, 0] (by kernel_rfl)
      exact Sx.to 2 [(0, .slice A n cap), (4, .slice Az (n1 + fs1.length) kz), (5, .slice A2 (n2 + 1) cap2), (6, .int .i64 ((i + 1 : Nat) : Int))] (hK1 _ _ _ _ (by omega) ⟨i + 1, Az, kz, n1 + fs1.length, A2, cap2, n2 + 1, rfl, rfl, H14, (by omega), (by rw [e1, hn1]; simp), (by rw [e2, hn2]; try simp)⟩)
    have p_c41 := h_c41; try simp [-List.getD_eq_getElem?_getD] at p_c41
    refine Sx.v 5 (.int .i64 (IntKind.i64.wrap (((i : Nat) : Int) + (1 : Int)))) (.int .i64 ((i + 1 : Nat) : Int)) (congrArg (Value.int .i64) (Gx.i64n (by omega) (by omega))) ?_
    obtain rfl : j = fs1.length := by omega
    have H15 := H7
    have e1 := flat_all hx1; have e2 := flat_tags hx1; simp only at e1 e2
    rw [h_c41] at e2; simp at e2
    rw [List.take_length, ← e1, ← e2] at H15
    have H16 := H15.pick (a := [.own 52 2 Az kz (n1 + fs1.length) (prs (allF 0 (segsOf (hm.take (i + 1))))), .own 52 2 Ay ky n2 (prs (tagsF 0 (segsOf (hm.take (i + 1))))), it]) [0, 0, 0] (by kernel_rfl)
    exact Sx.to 2 [(0, .slice A n cap), (4, .slice Az (n1 + fs1.length) kz), (5, .slice Ay n2 ky), (6, .int .i64 ((i + 1 : Nat) : Int))] (hK1 _ _ _ _ (by omega) ⟨i + 1, Az, kz, n1 + fs1.length, Ay, ky, n2, rfl, rfl, H16, (by omega), (by rw [e1, hn1]; simp), (by rw [e2, hn2]; try simp)⟩)
  have p_c11 := of_decide_eq_false h_c11
  have H17 := H4
  rw [List.take_of_length_le (show hm.length ≤ i by omega)] at H17 hn1 hn2
  exact Sx.rt 14 [] H17 _ (hK Ax kx n1 Ay ky n2 _ (H17.pe hL0 [0, 0, 0]) hn1 hn2)
end Go.Proofs.Ytokplpijjnkboaa
