/- A part of the proof (YtokplpijjnkboaaStw7), printed by a program of ours. -/
import Derived.Test.YtokplpijjnkboaaProg
import Derived.Test.YtokplpijjnkboaaStk
import Derived.Test.YtokplpijjnkboaaStc
import Derived.Test.YtokplpijjnkboaaStd
import Derived.Test.YtokplpijjnkboaaStl
import Derived.Test.YtokplpijjnkboaaSte
import Derived.Test.YtokplpijjnkboaaStf
import Derived.Test.YtokplpijjnkboaaStw1
import Derived.Test.YtokplpijjnkboaaStw2
import Derived.Test.YtokplpijjnkboaaStw3
import Derived.Test.YtokplpijjnkboaaStw4
import Derived.Test.YtokplpijjnkboaaStw5
import Derived.Test.YtokplpijjnkboaaStw6
set_option linter.unusedVariables false
set_option linter.unusedSimpArgs false
namespace Go.Proofs.Ytokplpijjnkboaa
open Go.RowKit Go.Sx Go.Stk
attribute [local irreducible] Go.wpOps Go.Code.wp Go.wpOp Go.wpAnyH Go.Calls Go.Sx.Goal
set_option maxRecDepth 20000
theorem dPut_c (b n cap : Nat) (A : Option Addr) (hm : List HS) (S : Nat → Prop) (it : Sx.Item) (Bq : Option Addr) (nq dq : Nat) (h2 : List HS) (w : World) (K : Ending → World → Prop) (H0 : Sp w [.blk b (.cells #[.slice A n cap] 49), srI S A cap hm, it]) (hn : n = hm.length) (hb : tot (segsOf hm) + hm.length < 100000000000) (hy : Sy it Bq h2) (hn2 : nq = h2.length) (hb2 : tot (segsOf h2) + h2.length < 100000000000) (hK : ∀ (n' cap' : Nat) (A' : Option Addr) (hm' : List HS) (S' : Nat → Prop) w', Hs w [.blk b (.cells #[.slice A n cap] 49), srI S A cap hm, it] w' [.blk b (.cells #[.slice A' n' cap'] 49), srI S' A' cap' hm', it] → (n' = hm'.length) → (segsOf hm' = segsOf hm ++ segsOf h2) → K (.returned (.tuple #[])) w') :
    Calls Try.prog 24 #[.pointer (some ⟨b, 0, none⟩), .slice Bq nq dq] w K := by
  obtain ⟨L0, hL0, H⟩ : ∃ L0, L0 = [.blk b (.cells #[.slice A n cap] 49), srI S A cap hm, it] ∧ Hs w L0 w [.blk b (.cells #[.slice A n cap] 49), srI S A cap hm, it] := ⟨_, rfl, Hs.refl H0⟩
  refine Sx.en (vs := [.pointer (some ⟨b, 0, none⟩), .slice Bq nq dq]) 14 Try.func24 ?_
  obtain rfl := hn
  refine sr_opn H 1 S A cap hm (by kernel_rfl) (fun S1 H1 => ?_)
  refine Sx.dr 0 H1 [2] [10] (LJ := [.blk b (.cells #[.slice A hm.length cap] 49)]) (by kernel_rfl) fun w1 H2 => ?_
  refine Sx.tk [(0, none), (1, none), (2, none), (3, none), (4, some (0, [7, 8, 9, 10])), (5, none)] (fun _ => (H2.sub [2] (by kernel_rfl))) ?_
  refine Sx.nmx ?_
  intro zx1
  refine Sx.on 6 ?_
  refine Sx.c 0 [3] H2 (fun Hp R hR => copied_c it Bq nq dq h2 w1 R Hp hy hn2 hb2 (fun n1 cap1 A1 hm1 S2 w2 G1 hf1 hf2 => hR _ _ _ G1 fun H3 => ?_))
  refine Sx.bk (x := zx1) 6 (fun _ => (H3.sub [4] (by kernel_rfl))) ?_
  refine Sx.nmx ?_
  intro zx2
  refine Sx.on 7 ?_
  subst hf1
  have hl2 : hm1.length = h2.length := by have := congrArg List.length hf2; simpa [segsOf] using this
  refine sr_opn H3 0 S2 A1 cap1 hm1 (by kernel_rfl) (fun S3 H4 => ?_)
  refine Sx.aps 0 3 40 hm1.length 69 3 47 cap1 A1 A cap hm.length (recs hm) (recs hm1) H4 (fun h => own_none (H4.at 0 (it := .own 69 3 A1 cap1 hm1.length (recs hm1)) (by kernel_rfl)) h) (fun a ha => own_cells (H4.at 0 (it := .own 69 3 A1 cap1 hm1.length (recs hm1)) (by kernel_rfl)) a ha) (recs_len _) (recs_one _) (by omega) (by omega) (own_cap (H4.at 3 (it := .own 69 3 A cap hm.length (recs hm)) (by kernel_rfl))) (recs_app _ _).symm fun A2 cap2 w3 H5 => ?_
  refine Sx.bk (x := zx2) 7 (fun _ => (H5.sub [5] (by kernel_rfl))) ?_
  refine Sx.tk [(8, none), (9, none)] (fun _ => (H5.sub [5] (by kernel_rfl))) ?_
  refine Sx.nmx ?_
  intro zx3
  refine Sx.on 10 ?_
  refine Sx.s 0 5 H5 fun w4 H6 => ?_
  refine Sx.bk (x := zx3) 10 (fun h => Sx.nope h (by kernel_rfl)) ?_
  refine Sx.dn ?_
  refine rw_cat H6 [4, 1] S1 S3 hm hm1 (by kernel_rfl) (fun S4 H7 => ?_)
  refine sr_cls H7 [3, 0] S4 A2 cap2 (hm.length + hm1.length) (hm ++ hm1) _ (by simp) rfl (by kernel_rfl) (fun S5 H8 => ?_)
  exact Sx.rt 0 [] H8 _ (hK (hm.length + hm1.length) cap2 A2 (hm ++ hm1) S5 _ (H8.pe hL0 [3, 0, 1]) (by simp) (by rw [segsOf_app, hf2]))
theorem dCut_c (b n cap : Nat) (A : Option Addr) (hm : List HS) (S : Nat → Prop) (k : Int) (deep : Bool) (w : World) (K : Ending → World → Prop) (H0 : Sp w [.blk b (.cells #[.slice A n cap] 49), srI S A cap hm]) (hn : n = hm.length) (hne : hm ≠ []) (hb : tot (segsOf hm) + hm.length < 100000000000) (hN : ∀ w', Hs w [.blk b (.cells #[.slice A n cap] 49), srI S A cap hm] w' [.blk b (.cells #[.slice A n cap] 49), srI S A cap hm] → cutR k (segsOf hm).reverse = none → K (.returned (.tuple #[.slice none 0 0, .int .i64 0, .bool false])) w') (hK : ∀ (n' cap' : Nat) (A' : Option Addr) (hm' : List HS) (S' : Nat → Prop) (n2 c2 : Nat) (A2 : Option Addr) (h2 : List HS) (S2 : Nat → Prop) (s : Seg) (r1 : List Seg) w', Hs w [.blk b (.cells #[.slice A n cap] 49), srI S A cap hm] w' [.blk b (.cells #[.slice A' n' cap'] 49), srI S' A' cap' hm', srI S2 A2 c2 h2] → (n' = hm'.length) → (n2 = h2.length) → (cutR k (segsOf hm).reverse = some (r1, s, (segsOf hm').reverse)) → (segsOf h2 = fixS deep s :: r1.reverse) → K (.returned (.tuple #[.slice A2 n2 c2, .int .i64 s.tag, .bool true])) w') :
    Calls Try.prog 20 #[.pointer (some ⟨b, 0, none⟩), .int .i64 k, .bool deep] w K := by
  obtain ⟨L0, hL0, H⟩ : ∃ L0, L0 = [.blk b (.cells #[.slice A n cap] 49), srI S A cap hm] ∧ Hs w L0 w [.blk b (.cells #[.slice A n cap] 49), srI S A cap hm] := ⟨_, rfl, Hs.refl H0⟩
  refine Sx.en (vs := [.pointer (some ⟨b, 0, none⟩), .int .i64 k, .bool deep]) 74 Try.func20 ?_
  obtain rfl := hn
  have hne' : 0 < hm.length := List.length_pos_iff.2 hne
  refine Sx.l 13 0 H ?_
  refine Sx.v 1 (.int .i64 (IntKind.i64.wrap (((hm.length : Nat) : Int) - (1 : Int)))) (.int .i64 (((hm.length : Nat) : Int) - (1 : Int))) (congrArg (Value.int .i64) (IntWalk.i64_in _ (by omega))) ?_
  refine Sx.lp 4 (fun z l' w' => ∃ (v : Int) (x : Nat), l' = [(0, .pointer (some ⟨b, 0, none⟩)), (1, .int .i64 k), (2, .bool deep), (9, .int .i64 v)] ∧ z = 0 + x ∧ w = w' ∧ (v = ((x : Nat) : Int) - 1) ∧ (x ≤ hm.length) ∧ (CutD k hm x)) _ [(0, .pointer (some ⟨b, 0, none⟩)), (1, .int .i64 k), (2, .bool deep), (9, .int .i64 (((hm.length : Nat) : Int) - (1 : Int)))] ⟨(((hm.length : Nat) : Int) - (1 : Int)), hm.length, rfl, rfl, rfl, (by omega), (Nat.le_refl _), (.init k hm)⟩ (fun b1 z1 l1 w1 hI1 K1 hK1 => ?_)
  obtain ⟨v, x, rfl, rfl, rfl, hv, hx, hc⟩ := hI1
  rcases x with _ | y
  · obtain rfl : v = -1 := by omega
    exact Sx.rt 21 [] H _ (hN _ (H.pe hL0 [0, 0]) hc.none)
  obtain rfl : v = ((y : Nat) : Int) := by omega
  obtain ⟨⟨⟨hs1, tg1, fs1⟩, B1, c1⟩, hx1⟩ : ∃ x, hm[y]? = some x := ⟨_, List.getElem?_eq_getElem (by omega)⟩
  obtain ⟨a1, hA1⟩ := sg_addr ((sy_sr (S := S) (A := A) (cap := cap) (hm := hm)) _ (H.at 1 (it := srI S A cap hm) (by kernel_rfl))) hx1
  have hl1 := seg_le hx1
  simp only at hl1
  refine Sx.cut 13 (fun l' w' => l' = [(0, .pointer (some ⟨b, 0, none⟩)), (1, .int .i64 k), (2, .bool deep), (9, .int .i64 ((y : Nat) : Int)), (43, .bool ((!hs1) || ((Int.tmod tg1 (3 : Int)) != k)))] ∧ w = w') (fun K2 hK2 => ?_) (fun b2 l2 w2 hI2 => ?_)
  · skip
    refine Sx.l 4 0 H ?_
    refine Sx.ia 1 a1 y 3 hm.length cap hA1 (by omega) ?_
    refine Sx.fa 0 (a1.add (y * 3)) 0 ?_
    refine Sx.lo (c := 1) (t := 4) 0 [.bool hs1] (.bool hs1) (sg_cell ((sy_sr (S := S) (A := A) (cap := cap) (hm := hm)) _ (H.at 1 (it := srI S A cap hm) (by kernel_rfl))) hA1 hx1 0 _ rfl) ?_
    refine Sx.sp 2 31 (!hs1) (fun h_g31 => ?_) (fun h_g31 => ?_)
    · skip
      exact Sx.to 13 [(0, .pointer (some ⟨b, 0, none⟩)), (1, .int .i64 k), (2, .bool deep), (9, .int .i64 ((y : Nat) : Int)), (43, .bool ((!hs1) || ((Int.tmod tg1 (3 : Int)) != k)))] (hK2 _ _ _ ⟨rfl, rfl⟩) (h2 := (by rw [h_g31]; try kernel_rfl))
    refine Sx.l 3 0 H ?_
    have p_g31 := h_g31; try simp [-List.getD_eq_getElem?_getD] at p_g31
    refine Sx.ia 1 a1 y 3 hm.length cap hA1 (by omega) ?_
    refine Sx.fa 0 (a1.add (y * 3)) 1 ?_
    refine Sx.lo (c := 1) (t := 3) 0 [.int .i64 tg1] (.int .i64 tg1) (sg_cell ((sy_sr (S := S) (A := A) (cap := cap) (hm := hm)) _ (H.at 1 (it := srI S A cap hm) (by kernel_rfl))) hA1 hx1 1 _ rfl) ?_
    refine Sx.v 0 (.int .i64 (Int.tmod tg1 (3 : Int))) (.int .i64 (Int.tmod tg1 (3 : Int))) (congrArg (Value.int .i64) (rfl)) ?_
    exact Sx.to 4 [(0, .pointer (some ⟨b, 0, none⟩)), (1, .int .i64 k), (2, .bool deep), (9, .int .i64 ((y : Nat) : Int)), (43, .bool ((!hs1) || ((Int.tmod tg1 (3 : Int)) != k)))] (hK2 _ _ _ ⟨rfl, rfl⟩) (h2 := (by rw [h_g31]; try kernel_rfl))
  obtain ⟨rfl, rfl⟩ := hI2
  refine Sx.br 0 ((!hs1) || ((Int.tmod tg1 (3 : Int)) != k)) (fun h_c43 => ?_) (fun h_c43 => ?_)
  · skip
    have p_c43 := h_c43; try simp [-List.getD_eq_getElem?_getD] at p_c43
    refine Sx.v 6 (.int .i64 (IntKind.i64.wrap (((y : Nat) : Int) - (1 : Int)))) (.int .i64 (((y : Nat) : Int) - (1 : Int))) (congrArg (Value.int .i64) (IntWalk.i64_in _ (by omega))) ?_
    exact Sx.to 2 [(0, .pointer (some ⟨b, 0, none⟩)), (1, .int .i64 k), (2, .bool deep), (9, .int .i64 (((y : Nat) : Int) - (1 : Int)))] (hK1 _ _ _ _ (by omega) ⟨(((y : Nat) : Int) - (1 : Int)), y, rfl, rfl, rfl, (by omega), (by omega), (hc.step hx1 (by have h := h_c43; revert h; unfold isHit hitB; cases hs1 <;> simp))⟩)
  obtain ⟨hh1, hh2⟩ : hs1 = true ∧ hitB k tg1 = true := by have h := h_c43; revert h; unfold hitB; cases hs1 <;> simp
  have hcut := hc.hit hx1 (by simp [isHit, hh1, hh2])
  refine Sx.l 7 0 H ?_
  have p_c43 := h_c43; try simp [-List.getD_eq_getElem?_getD] at p_c43
  refine Sx.sf 1 A hm.length cap y 3 (by omega) (sr_cap (H.at 1 (it := srI S A cap hm) (by kernel_rfl))) fun C1 hC1 hC2 => ?_
  refine Sx.c 0 [1] H (fun Hp R hR => copied_c (srI S A cap hm) C1 (hm.length - y) (cap - y) (hm.drop y) w R Hp (fun w h => (sr_read h).drop y (by omega) hC1 hC2) (by simp) (by have := tot_drop hm y; simp; omega) (fun n1 cap1 A1 hm1 S1 w3 G1 hf1 hf2 => hR _ _ _ G1 fun H1 => ?_))
  rw [drop_at hx1] at hf2
  obtain ⟨B2, c2, tl1, rfl, ht1⟩ := segs_cons (s := Seg.mk hs1 tg1 fs1) (m := segsOf (hm.drop (y + 1))) hf2
  obtain rfl : n1 = tl1.length + 1 := by simpa using hf1
  refine sr_opn H1 0 S1 A1 cap1 (HS.mk (Seg.mk hs1 tg1 fs1) B2 c2 :: tl1) (by kernel_rfl) (fun S2 H2 => ?_)
  have H3 := H2.pick (a := [.own 69 3 A1 cap1 (tl1.length + 1) (rec3 hs1 tg1 B2 fs1.length c2 ++ recs tl1), rwI S2 (HS.mk (Seg.mk hs1 tg1 fs1) B2 c2 :: tl1), srI S A cap hm, .blk b (.cells #[.slice A hm.length cap] 49)]) [0, 0, 0, 0] (by kernel_rfl)
  obtain ⟨g1, rfl⟩ := H3.row 0 (A := A1) (e := 69) (sz := 3) (cap := cap1) (n := tl1.length + 1) (xs := rec3 hs1 tg1 B2 fs1.length c2 ++ recs tl1) (by kernel_rfl) (by omega)
  refine Sx.ir 6 g1 0 3 (tl1.length + 1) cap1 (by omega) ?_
  refine Sx.lr 1 0 69 3 3 g1 cap1 (tl1.length + 1) (0 * 3 + 1) (rec3 hs1 tg1 B2 fs1.length c2 ++ recs tl1) H3 (.int .i64 tg1) (first_ld (off := 1) (r := rec3 hs1 tg1 B2 fs1.length c2) rfl) ?_
  refine Sx.br 10 (!deep) (fun h_c56 => ?_) (fun h_c56 => ?_)
  · skip
    have p_c56 := h_c56; try simp [-List.getD_eq_getElem?_getD] at p_c56
    refine Sx.ir 3 g1 0 3 (tl1.length + 1) cap1 (by omega) ?_
    refine Sx.sr 1 0 69 3 4 g1 cap1 (tl1.length + 1) (0 * 3) (rec3 hs1 tg1 B2 fs1.length c2 ++ recs tl1) H3 (.bool false) (first_lt _ _ 0 (by simp)) (first_set _ _ 0 _ (by simp)) fun w4 H4 => ?_
    refine Sx.ir 4 g1 0 3 (tl1.length + 1) cap1 (by omega) ?_
    refine Sx.sr 1 0 69 3 3 g1 cap1 (tl1.length + 1) (0 * 3 + 1) (rec3 false tg1 B2 fs1.length c2 ++ recs tl1) H4 (.int .i64 0) (first_lt _ _ 1 (by simp)) (first_set _ _ 1 _ (by simp)) fun w5 H5 => ?_
    refine Sx.l 8 3 H5 ?_
    refine sr_opn H5 2 S A cap hm (by kernel_rfl) (fun S3 H6 => ?_)
    refine rw_split H6 1 S3 hm y (by kernel_rfl) (fun S4 H7 => ?_)
    refine Sx.slp 1 1 y H7 (e := 69) (sz := 3) (cap := cap) (len := hm.length) (A := A) (xs := recs hm) (by kernel_rfl) (by omega) (recs_take _ _ (by omega)) fun H8 => ?_
    refine sr_cls H8 [1, 0] S4 A cap y (hm.take y) _ (by simp; omega) rfl (by kernel_rfl) (fun S5 H9 => ?_)
    refine Sx.s 2 3 H9 fun w6 H10 => ?_
    refine sr_cls H10 [1, 1] S2 (some ⟨g1, 0, none⟩) cap1 (tl1.length + 1) (HS.mk (Seg.mk false (0 : Int) fs1) B2 c2 :: tl1) _ (by simp) rfl (by kernel_rfl) (fun S6 H11 => ?_)
    exact Sx.rt 17 [] H11 _ (hK y cap A (hm.take y) S5 (tl1.length + 1) cap1 (some ⟨g1, 0, none⟩) (HS.mk (Seg.mk false (0 : Int) fs1) B2 c2 :: tl1) S6 (Seg.mk hs1 tg1 fs1) _ _ (H11.pe hL0 [2, 1, 0]) (by simp; omega) (by simp) hcut (by simp at h_c56; rw [List.reverse_reverse, ← ht1]; simp [segsOf, fixS, h_c56, hh1]))
  refine Sx.l 8 3 H3 ?_
  have p_c56 := h_c56; try simp [-List.getD_eq_getElem?_getD] at p_c56
  refine sr_opn H3 2 S A cap hm (by kernel_rfl) (fun S7 H12 => ?_)
  refine rw_split H12 1 S7 hm y (by kernel_rfl) (fun S8 H13 => ?_)
  refine Sx.slp 1 1 y H13 (e := 69) (sz := 3) (cap := cap) (len := hm.length) (A := A) (xs := recs hm) (by kernel_rfl) (by omega) (recs_take _ _ (by omega)) fun H14 => ?_
  refine sr_cls H14 [1, 0] S8 A cap y (hm.take y) _ (by simp; omega) rfl (by kernel_rfl) (fun S9 H15 => ?_)
  refine Sx.s 2 3 H15 fun w7 H16 => ?_
  refine sr_cls H16 [1, 1] S2 (some ⟨g1, 0, none⟩) cap1 (tl1.length + 1) (HS.mk (Seg.mk hs1 tg1 fs1) B2 c2 :: tl1) _ (by simp) rfl (by kernel_rfl) (fun S10 H17 => ?_)
  exact Sx.rt 17 [] H17 _ (hK y cap A (hm.take y) S9 (tl1.length + 1) cap1 (some ⟨g1, 0, none⟩) (HS.mk (Seg.mk hs1 tg1 fs1) B2 c2 :: tl1) S10 (Seg.mk hs1 tg1 fs1) _ _ (H17.pe hL0 [2, 1, 0]) (by simp; omega) (by simp) hcut (by simp at h_c56; rw [List.reverse_reverse, ← ht1]; simp [segsOf, fixS, h_c56, hh1]))
end Go.Proofs.Ytokplpijjnkboaa
