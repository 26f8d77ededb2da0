/- A part of the proof (YtfkkocjheeoobaaInf4), printed by a program of ours. -/
import Derived.Test.YtfkkocjheeoobaaPx
import Derived.Test.YtfkkocjheeoobaaShelf
import Derived.Test.YtfkkocjheeoobaaPs
import Derived.Test.YtfkkocjheeoobaaPu
set_option linter.unusedVariables false
set_option linter.unusedSimpArgs false
set_option linter.unusedVariables false
set_option linter.unusedSimpArgs false
namespace Go.Proofs.Ytfkkocjheeoobaa
open Go.RowKit Go.Sx Go.Inf
attribute [local irreducible] Go.wpOps Go.Code.wp Go.wpOp Go.wpAnyH Go.Calls Go.Sx.Goal
set_option maxRecDepth 20000
theorem Whole_c (S : Nat → Prop) (bg : Nat) (g : G) (r : Nat) (w : World) (K : Ending → World → Prop) (H0 : Sp w [GI S bg g]) (k v : Nat) (l : List Nm) (hf : whole k g r [] = some (l, v)) (hK : ∀ (S' : Nat → Prop) (S2' : Nat → Prop) (A' : Option Addr) (n' : Nat) (c' : Nat) w', Hs w [GI S bg g] w' [GI S' bg g, strI S2' A' l] → (n' = l.length) → (n' ≤ c') → K (.returned (.tuple #[.slice A' n' c', .int .i64 (v : Int)])) w') :
    Calls Try.prog 45 #[.pointer (some ⟨bg, 0, none⟩), .int .i64 ((r : Nat) : Int)] w K := by
  obtain ⟨L0, hL0, H⟩ : ∃ L0, L0 = [GI S bg g] ∧ Hs w L0 w [GI S bg g] := ⟨_, rfl, Hs.refl H0⟩
  refine Sx.en (vs := [.pointer (some ⟨bg, 0, none⟩), .int .i64 ((r : Nat) : Int)]) 58 Try.func45 ?_
  obtain ⟨⟨⟨kA, kC⟩, ⟨aA, aC⟩, ⟨bA, bC⟩, ⟨rA, rC⟩, ⟨lA, lC⟩, ⟨oA, oC⟩, ⟨nA, nC⟩, mbt, mbr, msl, mS, nk, no⟩, H1⟩ := G_open H 0 (S := S) (bg := bg) (g := g) (by kernel_rfl)
  obtain ⟨lk, la, lb, lr, ll, lo, ln, ls⟩ := G_len H1
  simp only at lk la lb lr ll lo ln ls
  have hr0 : r < no := by rw [← lo]; exact whole_lt hf
  obtain ⟨wo, rfl⟩ := H1.row 6 (A := oA) (e := 30) (sz := 1) (cap := oC) (n := no) (xs := (msl.map slV)) (by kernel_rfl) (by omega)
  obtain ⟨wn, rfl⟩ := H1.row 7 (A := nA) (e := 3) (sz := 1) (cap := nC) (n := no) (xs := (onats (g.next))) (by kernel_rfl) (by omega)
  have H2 := H1.add (Gx.Ext.refl _) (it := strI (fun _ => False) none []) strI_nil (fun _ h => h.elim)
  refine Sx.lp 12 (fun z l' w' => ∃ (r : Nat) (A4 : Option Addr) (n4 : Nat) (c4 : Nat) (S4 : Nat → Prop) (acc : List Nm), l' = [(0, .pointer (some ⟨bg, 0, none⟩)), (1, .int .i64 ((r : Nat) : Int)), (6, .slice A4 n4 c4)] ∧ Hs w L0 w' [.blk bg (.cells #[.slice kA nk kC, .slice aA nk aC, .slice bA nk bC, .slice rA nk rC, .slice lA nk lC, .slice (some ⟨wo, 0, none⟩) no oC, .slice (some ⟨wn, 0, none⟩) no nC, .map (some mbt), .map (some mbr)] 94), .own 3 1 kA kC nk (nats (g.kind)), .own 3 1 aA aC nk (onats (g.a)), .own 3 1 bA bC nk (onats (g.b)), .own 3 1 rA rC nk (nats (g.row)), .own 3 1 lA lC nk (onats (g.link)), .own 30 1 (some ⟨wo, 0, none⟩) oC no (msl.map slV), .own 3 1 (some ⟨wn, 0, none⟩) nC no (onats (g.next)), mapN mbt g.tv, mapN mbr g.rv, rowsI mS msl g.ops, strI S4 A4 acc] ∧ (whole z g r acc = some (l, v)) ∧ (n4 = acc.length) ∧ (n4 ≤ c4)) k [(0, .pointer (some ⟨bg, 0, none⟩)), (1, .int .i64 ((r : Nat) : Int)), (6, .slice none 0 0)] ⟨r, none, 0, 0, (fun _ => False), [], rfl, H2, hf, rfl, (Nat.le_refl _)⟩ (fun b1 z1 l1 w1 hI1 K1 hK1 => ?_)
  obtain ⟨r, A4, n4, c4, S4, acc, rfl, H3, hf, hn4, hc4⟩ := hI1
  rcases z1 with _ | z
  · exact absurd hf (by simp [whole])
  have hr1 : r < no := by rw [← lo]; exact whole_lt hf
  obtain ⟨lr, nx, hol, hbig, hnx, hw1, hw2, hw3⟩ := whole_cases hf
  obtain ⟨sv, hsv⟩ : ∃ sv, msl[r]? = some sv := ⟨_, List.getElem?_eq_getElem (by omega)⟩
  have hsl := (rows_at (S := mS) H3 10 (by kernel_rfl) hsv hol).1
  refine Sx.lp 8 (fun z l' w' => ∃ (i : Nat) (A5 : Option Addr) (n5 : Nat) (c5 : Nat) (S5 : Nat → Prop) (ac : List Nm), l' = [(0, .pointer (some ⟨bg, 0, none⟩)), (1, .int .i64 ((r : Nat) : Int)), (6, .slice A5 n5 c5), (7, .int .i64 ((i : Nat) : Int))] ∧ z = lr.length - i ∧ Hs w L0 w' [.blk bg (.cells #[.slice kA nk kC, .slice aA nk aC, .slice bA nk bC, .slice rA nk rC, .slice lA nk lC, .slice (some ⟨wo, 0, none⟩) no oC, .slice (some ⟨wn, 0, none⟩) no nC, .map (some mbt), .map (some mbr)] 94), .own 3 1 kA kC nk (nats (g.kind)), .own 3 1 aA aC nk (onats (g.a)), .own 3 1 bA bC nk (onats (g.b)), .own 3 1 rA rC nk (nats (g.row)), .own 3 1 lA lC nk (onats (g.link)), .own 30 1 (some ⟨wo, 0, none⟩) oC no (msl.map slV), .own 3 1 (some ⟨wn, 0, none⟩) nC no (onats (g.next)), mapN mbt g.tv, mapN mbr g.rv, rowsI mS msl g.ops, strI S5 A5 ac] ∧ (n5 = ac.length) ∧ (n5 ≤ c5) ∧ (putAll ac (lr.drop i) = putAll acc lr) ∧ (ac.length = acc.length + i) ∧ (i ≤ lr.length)) _ [(0, .pointer (some ⟨bg, 0, none⟩)), (1, .int .i64 ((r : Nat) : Int)), (6, .slice A4 n4 c4), (7, .int .i64 ((0 : Nat) : Int))] ⟨0, A4, n4, c4, S4, acc, rfl, rfl, H3, hn4, hc4, rfl, rfl, (Nat.zero_le _)⟩ (fun b2 z2 l2 w2 hI2 K2 hK2 => ?_)
  obtain ⟨i, A5, n5, c5, S5, ac, rfl, rfl, H4, hn5, hc5, hac, hal, hil⟩ := hI2
  refine Sx.l 7 0 H4 ?_
  refine Sx.ir 1 wo r 1 no oC (by omega) ?_
  refine Sx.lr 0 6 30 1 30 wo oC no (r * 1) (msl.map slV) H4 (.slice sv.1 sv.2.1 sv.2.2) (sl_at hsv) ?_
  refine Sx.br 4 (decide (((i : Nat) : Int) < ((sv.2.1 : Nat) : Int))) (fun h_c17 => ?_) (fun h_c17 => ?_)
  · skip
    refine Sx.l 9 0 H4 ?_
    have p_c17 := of_decide_eq_true h_c17
    refine Sx.ir 1 wo r 1 no oC (by omega) ?_
    refine Sx.lr 0 6 30 1 30 wo oC no (r * 1) (msl.map slV) H4 (.slice sv.1 sv.2.1 sv.2.2) (sl_at hsv) ?_
    obtain ⟨a1, ha1, _, hc1⟩ := (rows_at (S := mS) H4 10 (by kernel_rfl) hsv hol).2 i _ (gn_at (l := lr) (i := i) (by omega))
    refine Sx.ia 1 a1 i 1 sv.2.1 sv.2.2 ha1 (by omega) ?_
    refine Sx.lo (c := 1) (t := 9) 0 [.string (gn lr i)] (.string (gn lr i)) hc1 ?_
    refine Sx.c 0 [11] H4 (fun Hp1 R1 hR1 => put_c S5 A5 n5 c5 ac (gn lr i) w2 R1 Hp1 (by omega) (by omega) (by omega) (fun S1 A1 n1 c1 w3 G1 hn1 hc2 => hR1 _ _ _ G1 fun H5 => ?_))
    refine Sx.v 6 (.int .i64 (IntKind.i64.wrap (((i : Nat) : Int) + (1 : Int)))) (.int .i64 ((i + 1 : Nat) : Int)) (congrArg (Value.int .i64) (Gx.i64n (by omega) (by omega))) ?_
    have H6 := H5.pick (a := [.blk bg (.cells #[.slice kA nk kC, .slice aA nk aC, .slice bA nk bC, .slice rA nk rC, .slice lA nk lC, .slice (some ⟨wo, 0, none⟩) no oC, .slice (some ⟨wn, 0, none⟩) no nC, .map (some mbt), .map (some mbr)] 94), .own 3 1 kA kC nk (nats (g.kind)), .own 3 1 aA aC nk (onats (g.a)), .own 3 1 bA bC nk (onats (g.b)), .own 3 1 rA rC nk (nats (g.row)), .own 3 1 lA lC nk (onats (g.link)), .own 30 1 (some ⟨wo, 0, none⟩) oC no (msl.map slV), .own 3 1 (some ⟨wn, 0, none⟩) nC no (onats (g.next)), mapN mbt g.tv, mapN mbr g.rv, rowsI mS msl g.ops, strI S1 A1 (putN ac (gn lr i))]) [2, 2, 2, 2, 2, 2, 2, 2, 2, 2, 2, 1] (by kernel_rfl)
    exact Sx.to 2 [(0, .pointer (some ⟨bg, 0, none⟩)), (1, .int .i64 ((r : Nat) : Int)), (6, .slice A1 n1 c1), (7, .int .i64 (((i + 1) : Nat) : Int))] (hK2 _ _ _ _ (by omega) ⟨(i + 1), A1, n1, c1, S1, (putN ac (gn lr i)), rfl, rfl, H6, hn1, hc2, (by rw [← putAll_step ac (by omega)]; exact hac), (by rw [putN_len]; omega), (by omega)⟩)
  have p_c17 := of_decide_eq_false h_c17
  have hd : ac = putAll acc lr := by have := hac; rw [List.drop_of_length_le (by omega)] at this; exact this
  subst hd
  refine Sx.l 11 0 H4 ?_
  refine Sx.ir 1 wn r 1 no nC (by omega) ?_
  refine Sx.lr 0 7 3 1 3 wn nC no (r * 1) (onats (g.next)) H4 (.int .i64 (eI nx)) (onats_at hnx) ?_
  refine Sx.br 3 ((eI nx) == (-1 : Int)) (fun h_c39 => ?_) (fun h_c39 => ?_)
  · skip
    obtain ⟨rfl, rfl⟩ := hw1 (eI_none h_c39)
    refine Sx.rt 13 [] H4 (.tuple #[.slice A5 n5 c5, .int .i64 ((r : Nat) : Int)]) ?_
    obtain ⟨S2, H7⟩ := G_close H4 [0, 0, 0, 0, 0, 0, 0, 0, 0, 0, 0] (bg := bg) (g := g) ⟨(kA, kC), (aA, aC), (bA, bC), (rA, rC), (lA, lC), ((some ⟨wo, 0, none⟩), oC), ((some ⟨wn, 0, none⟩), nC), mbt, mbr, msl, mS, nk, no⟩ (by kernel_rfl)
    subst hL0
    exact Gx.ret_as (v' := .tuple #[.slice A5 n5 c5, .int .i64 ((r : Nat) : Int)]) (by rfl) (hK S2 S5 A5 n5 c5 _ (H7.pick (a := [GI S2 bg g, strI S5 A5 (putAll acc lr)]) [0, 0] (by kernel_rfl)) (hn5) (hc5))
  refine Sx.l 8 0 H4 ?_
  have p_c39 := Gx.k0 h_c39
  refine Sx.ir 1 wn r 1 no nC (by omega) ?_
  refine Sx.lr 0 7 3 1 3 wn nC no (r * 1) (onats (g.next)) H4 (.int .i64 (eI nx)) (onats_at hnx) ?_
  refine Sx.br 3 ((eI nx) == (0 : Int)) (fun h_c49 => ?_) (fun h_c49 => ?_)
  · skip
    obtain ⟨rfl, rfl⟩ := hw2 (eI_zero h_c49)
    refine Sx.rt 12 [] H4 (.tuple #[.slice A5 n5 c5, .int .i64 0]) ?_
    obtain ⟨S3, H8⟩ := G_close H4 [0, 0, 0, 0, 0, 0, 0, 0, 0, 0, 0] (bg := bg) (g := g) ⟨(kA, kC), (aA, aC), (bA, bC), (rA, rC), (lA, lC), ((some ⟨wo, 0, none⟩), oC), ((some ⟨wn, 0, none⟩), nC), mbt, mbr, msl, mS, nk, no⟩ (by kernel_rfl)
    subst hL0
    exact Gx.ret_as (v' := .tuple #[.slice A5 n5 c5, .int .i64 0]) (by rfl) (hK S3 S5 A5 n5 c5 _ (H8.pick (a := [GI S3 bg g, strI S5 A5 (putAll acc lr)]) [0, 0] (by kernel_rfl)) (hn5) (hc5))
  obtain ⟨q, rfl⟩ := eI_pos h_c39 h_c49
  refine Sx.l 6 0 H4 ?_
  refine Sx.ir 1 wn r 1 no nC (by omega) ?_
  refine Sx.lr 0 7 3 1 3 wn nC no (r * 1) (onats (g.next)) H4 (.int .i64 ((q + 1 : Nat) : Int)) (onats_at hnx) ?_
  have H9 := H4.pick (a := [.blk bg (.cells #[.slice kA nk kC, .slice aA nk aC, .slice bA nk bC, .slice rA nk rC, .slice lA nk lC, .slice (some ⟨wo, 0, none⟩) no oC, .slice (some ⟨wn, 0, none⟩) no nC, .map (some mbt), .map (some mbr)] 94), .own 3 1 kA kC nk (nats (g.kind)), .own 3 1 aA aC nk (onats (g.a)), .own 3 1 bA bC nk (onats (g.b)), .own 3 1 rA rC nk (nats (g.row)), .own 3 1 lA lC nk (onats (g.link)), .own 30 1 (some ⟨wo, 0, none⟩) oC no (msl.map slV), .own 3 1 (some ⟨wn, 0, none⟩) nC no (onats (g.next)), mapN mbt g.tv, mapN mbr g.rv, rowsI mS msl g.ops, strI S5 A5 (putAll acc lr)]) [0, 0, 0, 0, 0, 0, 0, 0, 0, 0, 0, 0] (by kernel_rfl)
  exact Sx.to 3 [(0, .pointer (some ⟨bg, 0, none⟩)), (1, .int .i64 (((q + 1) : Nat) : Int)), (6, .slice A5 n5 c5)] (hK1 _ _ _ _ (Nat.lt_succ_self _) ⟨(q + 1), A5, n5, c5, S5, (putAll acc lr), rfl, H9, (hw3 q rfl), hn5, hc5⟩)
theorem less_c (Sa : Nat → Prop) (Aa : Option Addr) (an ac : Nat) (a : List Nm) (Sb : Nat → Prop) (Ab : Option Addr) (bn bc : Nat) (b : List Nm) (w : World) (K : Ending → World → Prop) (H0 : Sp w [strI Sa Aa a, strI Sb Ab b]) (han : an = a.length) (hbn : bn = b.length) (haz : a.length < 1000000000) (hbz : b.length < 1000000000) (hK : ∀ (S' : Nat → Prop) (A' : Option Addr) (n' : Nat) (cap' : Nat) w', Hs w [strI Sa Aa a, strI Sb Ab b] w' [strI Sa Aa a, strI Sb Ab b, strI S' A' (less a b)] → (n' = (less a b).length) → (n' ≤ cap') → K (.returned (.slice A' n' cap')) w') :
    Calls Try.prog 50 #[.slice Aa an ac, .slice Ab bn bc] w K := by
  obtain ⟨L0, hL0, H⟩ : ∃ L0, L0 = [strI Sa Aa a, strI Sb Ab b] ∧ Hs w L0 w [strI Sa Aa a, strI Sb Ab b] := ⟨_, rfl, Hs.refl H0⟩
  refine Sx.en (vs := [.slice Aa an ac, .slice Ab bn bc]) 59 Try.func50 ?_
  refine Sx.mk 14 4 1 bn (.bool false) H (by omega) (by omega) fun g1 w1 H1 => ?_
  rw [show List.replicate bn (Value.bool false) = ubs (b.map fun x => (x, false)) by rw [hbn]; exact ubs_new b] at H1
  have H2 := H1.add (Gx.Ext.refl _) (it := .own 9 1 none 0 0 []) (World.ownsRow_nil _ _ _ _) (fun _ h => by cases h)
  refine Sx.lp 10 (fun z l' w' => ∃ (i : Nat) (us : Us) (A5 : Option Addr) (c5 : Nat) (n5 : Nat) (acc : List Nm), l' = [(0, .slice Aa an ac), (1, .slice Ab bn bc), (5, .slice A5 n5 c5), (6, .slice (some ⟨g1, 0, none⟩) bn bn), (7, .int .i64 ((i : Nat) : Int))] ∧ z = a.length - i ∧ Hs w L0 w' [strI Sa Aa a, strI Sb Ab b, .own 4 1 (some ⟨g1, 0, none⟩) bn bn (ubs us), .own 9 1 A5 c5 n5 (strs acc)] ∧ (i ≤ a.length) ∧ (us.map (·.1) = b) ∧ (us.length = bn) ∧ (n5 = acc.length) ∧ (acc.length ≤ i) ∧ (acc ++ lessG (a.drop i) us = less a b)) _ [(0, .slice Aa an ac), (1, .slice Ab bn bc), (5, .slice none 0 0), (6, .slice (some ⟨g1, 0, none⟩) bn bn), (7, .int .i64 ((0 : Nat) : Int))] ⟨0, (b.map fun x => (x, false)), none, 0, 0, [], rfl, rfl, H2, (Nat.zero_le _), (by rw [List.map_map]; exact List.map_id _), (by rw [List.length_map]; omega), rfl, (Nat.le_refl _), rfl⟩ (fun b1 z1 l1 w2 hI1 K1 hK1 => ?_)
  obtain ⟨i, us, A5, c5, n5, acc, rfl, rfl, H3, hi, hus, hul, hn5, hal, hl⟩ := hI1
  have hb0 : us.length = b.length := by rw [← hus, List.length_map]
  refine Sx.br 9 (decide (((i : Nat) : Int) < ((an : Nat) : Int))) (fun h_c16 => ?_) (fun h_c16 => ?_)
  · skip
    have p_c16 := of_decide_eq_true h_c16
    refine Sx.lp 16 (fun z l' w' => ∃ (j : Nat) (o : Option Nat), l' = [(0, .slice Aa an ac), (1, .slice Ab bn bc), (5, .slice A5 n5 c5), (6, .slice (some ⟨g1, 0, none⟩) bn bn), (7, .int .i64 ((i : Nat) : Int)), (8, .int .i64 (eI o)), (9, .int .i64 ((j : Nat) : Int))] ∧ z = bn - j ∧ Hs w L0 w' [strI Sa Aa a, strI Sb Ab b, .own 4 1 (some ⟨g1, 0, none⟩) bn bn (ubs us), .own 9 1 A5 c5 n5 (strs acc)] ∧ (j ≤ bn) ∧ (Fs (gn a i) us j o)) _ [(0, .slice Aa an ac), (1, .slice Ab bn bc), (5, .slice A5 n5 c5), (6, .slice (some ⟨g1, 0, none⟩) bn bn), (7, .int .i64 ((i : Nat) : Int)), (8, .int .i64 (eI none)), (9, .int .i64 ((0 : Nat) : Int))] ⟨0, none, rfl, rfl, H3, (Nat.zero_le _), (Fs0 _ _)⟩ (fun b2 z2 l2 w3 hI2 K2 hK2 => ?_)
    obtain ⟨j, o, rfl, rfl, H4, hj, hfs⟩ := hI2
    rcases hu : ugot us j with _ | _
    · skip
      refine Sx.cut 1 (fun l' w' => l' = [(0, .slice Aa an ac), (1, .slice Ab bn bc), (5, .slice A5 n5 c5), (6, .slice (some ⟨g1, 0, none⟩) bn bn), (7, .int .i64 ((i : Nat) : Int)), (8, .int .i64 (eI o)), (9, .int .i64 ((j : Nat) : Int)), (26, .bool ((decide (((j : Nat) : Int) < ((bn : Nat) : Int))) && (decide ((eI o) < (0 : Int)))))] ∧ w3 = w') (fun K3 hK3 => ?_) (fun b3 l3 w4 hI3 => ?_)
      · skip
        refine Sx.sp 6 23 (decide (((j : Nat) : Int) < ((bn : Nat) : Int))) (fun h_g23 => ?_) (fun h_g23 => ?_)
        · skip
          exact Sx.to 4 [(0, .slice Aa an ac), (1, .slice Ab bn bc), (5, .slice A5 n5 c5), (6, .slice (some ⟨g1, 0, none⟩) bn bn), (7, .int .i64 ((i : Nat) : Int)), (8, .int .i64 (eI o)), (9, .int .i64 ((j : Nat) : Int)), (26, .bool ((decide (((j : Nat) : Int) < ((bn : Nat) : Int))) && (decide ((eI o) < (0 : Int)))))] (hK3 _ _ _ ⟨rfl, rfl⟩) (h2 := (by rw [h_g23]; try kernel_rfl))
        exact Sx.to 4 [(0, .slice Aa an ac), (1, .slice Ab bn bc), (5, .slice A5 n5 c5), (6, .slice (some ⟨g1, 0, none⟩) bn bn), (7, .int .i64 ((i : Nat) : Int)), (8, .int .i64 (eI o)), (9, .int .i64 ((j : Nat) : Int)), (26, .bool ((decide (((j : Nat) : Int) < ((bn : Nat) : Int))) && (decide ((eI o) < (0 : Int)))))] (hK3 _ _ _ ⟨rfl, rfl⟩) (h2 := (by rw [h_g23]; try kernel_rfl))
      obtain ⟨rfl, rfl⟩ := hI3
      refine Sx.br 0 ((decide (((j : Nat) : Int) < ((bn : Nat) : Int))) && (decide ((eI o) < (0 : Int)))) (fun h_c26 => ?_) (fun h_c26 => ?_)
      · skip
        obtain ⟨pa, pb⟩ := and2 h_c26
        have hlt := of_decide_eq_true pa
        have ho := eI_lt pb
        refine Sx.dr 5 H4 [2, 1, 0] [] (LJ := [.own 4 1 (some ⟨g1, 0, none⟩) bn bn (ubs us), strI Sb Ab b, strI Sa Aa a]) (by kernel_rfl) fun w5 H5 => ?_
        refine Sx.tk [(0, none), (1, none)] (fun _ => (H5.sub [2, 1, 0] (by kernel_rfl))) ?_
        refine Sx.tvg 2 [] g1 j 1 bn bn (by omega) (fun _ => (H5.sub [2, 1, 0] (by kernel_rfl))) ?_
        refine Sx.tvl 3 [] 0 4 1 4 g1 bn bn (j * 1) (ubs us) (.bool false) (ub_at (by omega) hu) (fun _ => (H5.sub [2, 1, 0] (by kernel_rfl))) ?_
        obtain ⟨a1, ha1, _, hc1⟩ := (H5.at 1 (it := strI Sb Ab b) (by kernel_rfl)).1 j _ (gn_at (l := b) (by omega))
        refine Sx.tk [(4, none), (5, none), (6, none), (7, none)] (fun _ => (H5.sub [2, 1, 0] (by kernel_rfl))) ?_
        refine Sx.tvi 8 [] a1 j 1 bn bc ha1 (by omega) (fun _ => (H5.sub [2, 1, 0] (by kernel_rfl))) ?_
        refine Sx.tvo (c := 1) (t := 9) 9 [] [.string (gn b j)] (.string (gn b j)) (fun w' hs => (sp_at hs 1 (it := strI Sb Ab b) (by kernel_rfl)).1.one ha1 (gn_at (by omega))) (fun _ => (H5.sub [2, 1, 0] (by kernel_rfl))) ?_
        obtain ⟨a2, ha2, _, hc2⟩ := (H5.at 0 (it := strI Sa Aa a) (by kernel_rfl)).1 i _ (gn_at (l := a) (by omega))
        refine Sx.tk [(10, none), (11, none)] (fun _ => (H5.sub [2, 1, 0] (by kernel_rfl))) ?_
        refine Sx.tvi 12 [] a2 i 1 an ac ha2 (by omega) (fun _ => (H5.sub [2, 1, 0] (by kernel_rfl))) ?_
        refine Sx.tvo (c := 1) (t := 9) 13 [] [.string (gn a i)] (.string (gn a i)) (fun w' hs => (sp_at hs 2 (it := strI Sa Aa a) (by kernel_rfl)).1.one ha2 (gn_at (by omega))) (fun _ => (H5.sub [2, 1, 0] (by kernel_rfl))) ?_
        refine Sx.tk [(14, none), (15, none)] (fun _ => (H5.sub [2, 1, 0] (by kernel_rfl))) ?_
        refine Sx.dn ?_
        refine Sx.br 1 ((gn b j).toList == (gn a i).toList) (fun h_c44 => ?_) (fun h_c44 => ?_)
        · skip
          refine Sx.v 8 (.int .i64 (IntKind.i64.wrap (((j : Nat) : Int) + (1 : Int)))) (.int .i64 ((j + 1 : Nat) : Int)) (congrArg (Value.int .i64) (Gx.i64n (by omega) (by omega))) ?_
          exact Sx.to 2 [(0, .slice Aa an ac), (1, .slice Ab bn bc), (5, .slice A5 n5 c5), (6, .slice (some ⟨g1, 0, none⟩) bn bn), (7, .int .i64 ((i : Nat) : Int)), (8, .int .i64 (eI (some j))), (9, .int .i64 (((j + 1) : Nat) : Int))] (hK2 _ _ _ _ (by omega) ⟨(j + 1), (some j), rfl, rfl, H5, (by omega), (Fs_hit ho hfs hus (by omega) hu h_c44)⟩)
        refine Sx.v 5 (.int .i64 (IntKind.i64.wrap (((j : Nat) : Int) + (1 : Int)))) (.int .i64 ((j + 1 : Nat) : Int)) (congrArg (Value.int .i64) (Gx.i64n (by omega) (by omega))) ?_
        exact Sx.to 2 [(0, .slice Aa an ac), (1, .slice Ab bn bc), (5, .slice A5 n5 c5), (6, .slice (some ⟨g1, 0, none⟩) bn bn), (7, .int .i64 ((i : Nat) : Int)), (8, .int .i64 (eI o)), (9, .int .i64 (((j + 1) : Nat) : Int))] (hK2 _ _ _ _ (by omega) ⟨(j + 1), o, rfl, rfl, H5, (by omega), (Fs_miss ho hfs hus (by omega) (.inr h_c44))⟩)
      have hfe : firstN (gn a i) us = o := Fs_end' hfs (by
        rcases and0 h_c26 with q | q
        · exact .inl (by have := of_decide_eq_false q; omega)
        · obtain ⟨q', hq'⟩ := eI_ge q; exact .inr (by rw [hq']; simp))
      rw [less_drop us (by have := of_decide_eq_true h_c16; omega), hfe] at hl
      refine Sx.br 11 (decide ((eI o) < (0 : Int))) (fun h_c47 => ?_) (fun h_c47 => ?_)
      · skip
        have ho := eI_lt h_c47
        subst ho
        simp only at hl
        obtain ⟨a3, ha3, _, hc3⟩ := (H4.at 0 (it := strI Sa Aa a) (by kernel_rfl)).1 i _ (gn_at (l := a) (by omega))
        refine Sx.ia 4 a3 i 1 an ac ha3 (by omega) ?_
        refine Sx.lo (c := 1) (t := 9) 0 [.string (gn a i)] (.string (gn a i)) hc3 ?_
        refine Sx.nw 0 H4 fun k1 w6 H6 => ?_
        refine Sx.ap 0 3 4 16 1 0 9 1 30 1 k1 A5 c5 n5 (strs acc) [.string (gn a i)] H6 (by omega) (by omega) (strs_app _ _) fun A1 cap1 w7 H7 => ?_
        refine Sx.v 6 (.int .i64 (IntKind.i64.wrap (((i : Nat) : Int) + (1 : Int)))) (.int .i64 ((i + 1 : Nat) : Int)) (congrArg (Value.int .i64) (Gx.i64n (by omega) (by omega))) ?_
        have H8 := H7.pick (a := [strI Sa Aa a, strI Sb Ab b, .own 4 1 (some ⟨g1, 0, none⟩) bn bn (ubs us), .own 9 1 A1 cap1 (n5 + 1) (strs (acc ++ [gn a i]))]) [0, 0, 0, 0] (by kernel_rfl)
        exact Sx.to 2 [(0, .slice Aa an ac), (1, .slice Ab bn bc), (5, .slice A1 (n5 + 1) cap1), (6, .slice (some ⟨g1, 0, none⟩) bn bn), (7, .int .i64 (((i + 1) : Nat) : Int))] (hK1 _ _ _ _ (by omega) ⟨(i + 1), us, A1, cap1, n5 + 1, (acc ++ [gn a i]), rfl, rfl, H8, (by omega), hus, hul, (by rw [List.length_append]; simp; omega), (by rw [List.length_append]; simp; omega), (by rw [List.append_assoc]; exact hl)⟩)
      obtain ⟨q, rfl⟩ := eI_ge h_c47
      simp only at hl
      have hq := (first_lt hfe).1
      refine Sx.ir 3 g1 q 1 bn bn (by omega) ?_
      refine Sx.sr 0 2 4 1 4 g1 bn bn (q * 1) (ubs us) H4 (.bool true) (by rw [ubs_len]; omega) (ubs_set us q (gn a i)) fun w8 H9 => ?_
      refine Sx.v 5 (.int .i64 (IntKind.i64.wrap (((i : Nat) : Int) + (1 : Int)))) (.int .i64 ((i + 1 : Nat) : Int)) (congrArg (Value.int .i64) (Gx.i64n (by omega) (by omega))) ?_
      have H10 := H9.pick (a := [strI Sa Aa a, strI Sb Ab b, .own 4 1 (some ⟨g1, 0, none⟩) bn bn (ubs (us.set q (gn a i, true))), .own 9 1 A5 c5 n5 (strs acc)]) [0, 0, 0, 0] (by kernel_rfl)
      exact Sx.to 2 [(0, .slice Aa an ac), (1, .slice Ab bn bc), (5, .slice A5 n5 c5), (6, .slice (some ⟨g1, 0, none⟩) bn bn), (7, .int .i64 (((i + 1) : Nat) : Int))] (hK1 _ _ _ _ (by omega) ⟨(i + 1), (us.set q (gn a i, true)), A5, c5, n5, acc, rfl, rfl, H10, (by omega), (first_set hfe hus), (by rw [List.length_set]; exact hul), hn5, (by omega), hl⟩)
    refine Sx.cut 1 (fun l' w' => l' = [(0, .slice Aa an ac), (1, .slice Ab bn bc), (5, .slice A5 n5 c5), (6, .slice (some ⟨g1, 0, none⟩) bn bn), (7, .int .i64 ((i : Nat) : Int)), (8, .int .i64 (eI o)), (9, .int .i64 ((j : Nat) : Int)), (26, .bool ((decide (((j : Nat) : Int) < ((bn : Nat) : Int))) && (decide ((eI o) < (0 : Int)))))] ∧ w3 = w') (fun K4 hK4 => ?_) (fun b4 l4 w9 hI4 => ?_)
    · skip
      refine Sx.sp 6 23 (decide (((j : Nat) : Int) < ((bn : Nat) : Int))) (fun h_g23 => ?_) (fun h_g23 => ?_)
      · skip
        exact Sx.to 4 [(0, .slice Aa an ac), (1, .slice Ab bn bc), (5, .slice A5 n5 c5), (6, .slice (some ⟨g1, 0, none⟩) bn bn), (7, .int .i64 ((i : Nat) : Int)), (8, .int .i64 (eI o)), (9, .int .i64 ((j : Nat) : Int)), (26, .bool ((decide (((j : Nat) : Int) < ((bn : Nat) : Int))) && (decide ((eI o) < (0 : Int)))))] (hK4 _ _ _ ⟨rfl, rfl⟩) (h2 := (by rw [h_g23]; try kernel_rfl))
      exact Sx.to 4 [(0, .slice Aa an ac), (1, .slice Ab bn bc), (5, .slice A5 n5 c5), (6, .slice (some ⟨g1, 0, none⟩) bn bn), (7, .int .i64 ((i : Nat) : Int)), (8, .int .i64 (eI o)), (9, .int .i64 ((j : Nat) : Int)), (26, .bool ((decide (((j : Nat) : Int) < ((bn : Nat) : Int))) && (decide ((eI o) < (0 : Int)))))] (hK4 _ _ _ ⟨rfl, rfl⟩) (h2 := (by rw [h_g23]; try kernel_rfl))
    obtain ⟨rfl, rfl⟩ := hI4
    refine Sx.br 0 ((decide (((j : Nat) : Int) < ((bn : Nat) : Int))) && (decide ((eI o) < (0 : Int)))) (fun h_c26 => ?_) (fun h_c26 => ?_)
    · skip
      obtain ⟨pa, pb⟩ := and2 h_c26
      have hlt := of_decide_eq_true pa
      have ho := eI_lt pb
      refine Sx.dr 5 H4 [2] [] (LJ := [.own 4 1 (some ⟨g1, 0, none⟩) bn bn (ubs us)]) (by kernel_rfl) fun w10 H11 => ?_
      refine Sx.tk [(0, none), (1, none)] (fun _ => (H11.sub [2] (by kernel_rfl))) ?_
      refine Sx.tvg 2 [] g1 j 1 bn bn (by omega) (fun _ => (H11.sub [2] (by kernel_rfl))) ?_
      refine Sx.tvl 3 [] 0 4 1 4 g1 bn bn (j * 1) (ubs us) (.bool true) (ub_at (by omega) hu) (fun _ => (H11.sub [2] (by kernel_rfl))) ?_
      refine Sx.tk [(4, none), (5, none), (6, none), (7, none), (8, none), (9, none), (10, none), (11, none), (12, none), (13, none), (14, none), (15, none)] (fun _ => (H11.sub [2] (by kernel_rfl))) ?_
      refine Sx.dn ?_
      refine Sx.v 7 (.int .i64 (IntKind.i64.wrap (((j : Nat) : Int) + (1 : Int)))) (.int .i64 ((j + 1 : Nat) : Int)) (congrArg (Value.int .i64) (Gx.i64n (by omega) (by omega))) ?_
      exact Sx.to 2 [(0, .slice Aa an ac), (1, .slice Ab bn bc), (5, .slice A5 n5 c5), (6, .slice (some ⟨g1, 0, none⟩) bn bn), (7, .int .i64 ((i : Nat) : Int)), (8, .int .i64 (eI o)), (9, .int .i64 (((j + 1) : Nat) : Int))] (hK2 _ _ _ _ (by omega) ⟨(j + 1), o, rfl, rfl, H11, (by omega), (Fs_miss ho hfs hus (by omega) (.inl hu))⟩)
    have hfe : firstN (gn a i) us = o := Fs_end' hfs (by
      rcases and0 h_c26 with q | q
      · exact .inl (by have := of_decide_eq_false q; omega)
      · obtain ⟨q', hq'⟩ := eI_ge q; exact .inr (by rw [hq']; simp))
    rw [less_drop us (by have := of_decide_eq_true h_c16; omega), hfe] at hl
    refine Sx.br 11 (decide ((eI o) < (0 : Int))) (fun h_c47 => ?_) (fun h_c47 => ?_)
    · skip
      have ho := eI_lt h_c47
      subst ho
      simp only at hl
      obtain ⟨a4, ha4, _, hc4⟩ := (H4.at 0 (it := strI Sa Aa a) (by kernel_rfl)).1 i _ (gn_at (l := a) (by omega))
      refine Sx.ia 4 a4 i 1 an ac ha4 (by omega) ?_
      refine Sx.lo (c := 1) (t := 9) 0 [.string (gn a i)] (.string (gn a i)) hc4 ?_
      refine Sx.nw 0 H4 fun k2 w11 H12 => ?_
      refine Sx.ap 0 3 4 16 1 0 9 1 30 1 k2 A5 c5 n5 (strs acc) [.string (gn a i)] H12 (by omega) (by omega) (strs_app _ _) fun A2 cap2 w12 H13 => ?_
      refine Sx.v 6 (.int .i64 (IntKind.i64.wrap (((i : Nat) : Int) + (1 : Int)))) (.int .i64 ((i + 1 : Nat) : Int)) (congrArg (Value.int .i64) (Gx.i64n (by omega) (by omega))) ?_
      have H14 := H13.pick (a := [strI Sa Aa a, strI Sb Ab b, .own 4 1 (some ⟨g1, 0, none⟩) bn bn (ubs us), .own 9 1 A2 cap2 (n5 + 1) (strs (acc ++ [gn a i]))]) [0, 0, 0, 0] (by kernel_rfl)
      exact Sx.to 2 [(0, .slice Aa an ac), (1, .slice Ab bn bc), (5, .slice A2 (n5 + 1) cap2), (6, .slice (some ⟨g1, 0, none⟩) bn bn), (7, .int .i64 (((i + 1) : Nat) : Int))] (hK1 _ _ _ _ (by omega) ⟨(i + 1), us, A2, cap2, n5 + 1, (acc ++ [gn a i]), rfl, rfl, H14, (by omega), hus, hul, (by rw [List.length_append]; simp; omega), (by rw [List.length_append]; simp; omega), (by rw [List.append_assoc]; exact hl)⟩)
    obtain ⟨q, rfl⟩ := eI_ge h_c47
    simp only at hl
    have hq := (first_lt hfe).1
    refine Sx.ir 3 g1 q 1 bn bn (by omega) ?_
    refine Sx.sr 0 2 4 1 4 g1 bn bn (q * 1) (ubs us) H4 (.bool true) (by rw [ubs_len]; omega) (ubs_set us q (gn a i)) fun w13 H15 => ?_
    refine Sx.v 5 (.int .i64 (IntKind.i64.wrap (((i : Nat) : Int) + (1 : Int)))) (.int .i64 ((i + 1 : Nat) : Int)) (congrArg (Value.int .i64) (Gx.i64n (by omega) (by omega))) ?_
    have H16 := H15.pick (a := [strI Sa Aa a, strI Sb Ab b, .own 4 1 (some ⟨g1, 0, none⟩) bn bn (ubs (us.set q (gn a i, true))), .own 9 1 A5 c5 n5 (strs acc)]) [0, 0, 0, 0] (by kernel_rfl)
    exact Sx.to 2 [(0, .slice Aa an ac), (1, .slice Ab bn bc), (5, .slice A5 n5 c5), (6, .slice (some ⟨g1, 0, none⟩) bn bn), (7, .int .i64 (((i + 1) : Nat) : Int))] (hK1 _ _ _ _ (by omega) ⟨(i + 1), (us.set q (gn a i, true)), A5, c5, n5, acc, rfl, rfl, H16, (by omega), (first_set hfe hus), (by rw [List.length_set]; exact hul), hn5, (by omega), hl⟩)
  refine Sx.rt 12 [] H3 (.slice A5 n5 c5) ?_
  have p_c16 := of_decide_eq_false h_c16
  have hd : acc = less a b := by have := hl; rw [List.drop_of_length_le (by omega)] at this; simpa [lessG] using this
  subst hd
  have hcp := own_cap (H3.at 3 (it := .own 9 1 A5 c5 (n5) (strs (less a b))) (by kernel_rfl))
  have H17 := Hs.toStr H3 3 (e := 9) (n := n5) (cap := c5) (A := A5) (l := less a b) (by kernel_rfl)
  subst hL0
  exact hK (fun c => (Value.slice A5 (n5) c5).ownBlock = some c) A5 _ c5 _ (H17.pick (a := [strI Sa Aa a, strI Sb Ab b, strI (fun c => (Value.slice A5 (n5) c5).ownBlock = some c) A5 (less a b)]) [0, 0, 1] (by kernel_rfl)) hn5 hcp
theorem SameRow_c (S : Nat → Prop) (bg : Nat) (g : G) (r : Nat) (s : Nat) (w : World) (K : Ending → World → Prop) (H0 : Sp w [GI S bg g]) (k : Nat) (g' : G) (t : Bool) (hf : sameRow k g r s = some (g', t)) (hK : ∀ (S' : Nat → Prop) w', Hs w [GI S bg g] w' [GI S' bg g'] → K (.returned (.bool t)) w') :
    Calls Try.prog 41 #[.pointer (some ⟨bg, 0, none⟩), .int .i64 ((r : Nat) : Int), .int .i64 ((s : Nat) : Int)] w K := by
  obtain ⟨L0, hL0, H⟩ : ∃ L0, L0 = [GI S bg g] ∧ Hs w L0 w [GI S bg g] := ⟨_, rfl, Hs.refl H0⟩
  refine Sx.en (vs := [.pointer (some ⟨bg, 0, none⟩), .int .i64 ((r : Nat) : Int), .int .i64 ((s : Nat) : Int)]) 85 Try.func41 ?_
  obtain ⟨a, v, b, u, hw1, hw2, hs1, hs2, hs3, hs4, hs5⟩ := sameRow_cases hf
  have lz1 := whole_len hw1
  have lz2 := whole_len hw2
  have wv1 := whole_v hw1
  have wv2 := whole_v hw2
  refine Sx.c 9 [0] H (fun Hp1 R1 hR1 => Whole_c S bg g r w R1 Hp1 _ v a hw1 (fun S1 S2 A1 n1 c1 w1 G1 hn1 hc1 => hR1 _ _ _ G1 fun H1 => ?_))
  refine Sx.c 11 [0] H1 (fun Hp2 R2 hR2 => Whole_c S1 bg g s w1 R2 Hp2 _ u b hw2 (fun S3 S4 A2 n2 c2 w2 G2 hn2 hc2 => hR2 _ _ _ G2 fun H2 => ?_))
  refine Sx.c 11 [2, 1] H2 (fun Hp3 R3 hR3 => less_c S2 A1 n1 c1 a S4 A2 n2 c2 b w2 R3 Hp3 (by omega) (by omega) lz1 lz2 (fun S5 A3 n3 c3 w3 G3 hn3 hc3 => hR3 _ _ _ G3 fun H3 => ?_))
  refine Sx.c 7 [1, 0] H3 (fun Hp4 R4 hR4 => less_c S4 A2 n2 c2 b S2 A1 n1 c1 a w3 R4 Hp4 (by omega) (by omega) lz2 lz1 (fun S6 A4 n4 c4 w4 G4 hn4 hc4 => hR4 _ _ _ G4 fun H4 => ?_))
  refine Sx.br 11 (((v : Nat) : Int) == ((u : Nat) : Int)) (fun h_c34 => ?_) (fun h_c34 => ?_)
  · skip
    obtain ⟨rfl, rfl⟩ := hs1 (by have := Gx.k1 h_c34; omega)
    refine Sx.cut 0 (fun l' w' => l' = [(6, .bool ((((n3 : Nat) : Int) == (0 : Int)) && (((n4 : Nat) : Int) == (0 : Int))))] ∧ w4 = w') (fun K1 hK1 => ?_) (fun b1 l1 w5 hI1 => ?_)
    · skip
      refine Sx.sp 5 38 (((n3 : Nat) : Int) == (0 : Int)) (fun h_g38 => ?_) (fun h_g38 => ?_)
      · skip
        exact Sx.to 6 [(6, .bool ((((n3 : Nat) : Int) == (0 : Int)) && (((n4 : Nat) : Int) == (0 : Int))))] (hK1 _ _ _ ⟨rfl, rfl⟩) (h2 := (by rw [h_g38]; try kernel_rfl))
      exact Sx.to 6 [(6, .bool ((((n3 : Nat) : Int) == (0 : Int)) && (((n4 : Nat) : Int) == (0 : Int))))] (hK1 _ _ _ ⟨rfl, rfl⟩) (h2 := (by rw [h_g38]; try kernel_rfl))
    obtain ⟨rfl, rfl⟩ := hI1
    refine Sx.rt 2 [] H4 (.bool ((((n3 : Nat) : Int) == (0 : Int)) && (((n4 : Nat) : Int) == (0 : Int)))) ?_
    subst hL0
    exact Gx.ret_as (v' := .bool ((less a b).isEmpty && (less b a).isEmpty)) (by rw [hn3, hn4, len0, len0]) (hK S3 _ (H4.pick (a := [GI S3 bg _]) [4] (by kernel_rfl)))
  have hne : v ≠ u := by have := Gx.k0 h_c34; omega
  refine Sx.cut 3 (fun l' w' => l' = [(0, .pointer (some ⟨bg, 0, none⟩)), (8, .int .i64 ((v : Nat) : Int)), (10, .int .i64 ((u : Nat) : Int)), (11, .slice A3 n3 c3), (12, .slice A4 n4 c4), (58, .bool (((((v : Nat) : Int) == (0 : Int)) && (decide (((n4 : Nat) : Int) > (0 : Int)))) || ((((u : Nat) : Int) == (0 : Int)) && (decide (((n3 : Nat) : Int) > (0 : Int))))))] ∧ w4 = w') (fun K2 hK2 => ?_) (fun b2 l2 w6 hI2 => ?_)
  · skip
    refine Sx.sp 4 45 (((v : Nat) : Int) == (0 : Int)) (fun h_g45 => ?_) (fun h_g45 => ?_)
    · skip
      refine Sx.sp 5 50 (decide (((n4 : Nat) : Int) > (0 : Int))) (fun h_g50 => ?_) (fun h_g50 => ?_)
      · skip
        exact Sx.to 9 [(0, .pointer (some ⟨bg, 0, none⟩)), (8, .int .i64 ((v : Nat) : Int)), (10, .int .i64 ((u : Nat) : Int)), (11, .slice A3 n3 c3), (12, .slice A4 n4 c4), (58, .bool (((((v : Nat) : Int) == (0 : Int)) && (decide (((n4 : Nat) : Int) > (0 : Int)))) || ((((u : Nat) : Int) == (0 : Int)) && (decide (((n3 : Nat) : Int) > (0 : Int))))))] (hK2 _ _ _ ⟨rfl, rfl⟩) (h2 := (by rw [h_g45, h_g50]; try kernel_rfl))
      refine Sx.sp 3 53 (((u : Nat) : Int) == (0 : Int)) (fun h_g53 => ?_) (fun h_g53 => ?_)
      · skip
        exact Sx.to 6 [(0, .pointer (some ⟨bg, 0, none⟩)), (8, .int .i64 ((v : Nat) : Int)), (10, .int .i64 ((u : Nat) : Int)), (11, .slice A3 n3 c3), (12, .slice A4 n4 c4), (58, .bool (((((v : Nat) : Int) == (0 : Int)) && (decide (((n4 : Nat) : Int) > (0 : Int)))) || ((((u : Nat) : Int) == (0 : Int)) && (decide (((n3 : Nat) : Int) > (0 : Int))))))] (hK2 _ _ _ ⟨rfl, rfl⟩) (h2 := (by rw [h_g45, h_g50, h_g53]; try kernel_rfl))
      exact Sx.to 6 [(0, .pointer (some ⟨bg, 0, none⟩)), (8, .int .i64 ((v : Nat) : Int)), (10, .int .i64 ((u : Nat) : Int)), (11, .slice A3 n3 c3), (12, .slice A4 n4 c4), (58, .bool (((((v : Nat) : Int) == (0 : Int)) && (decide (((n4 : Nat) : Int) > (0 : Int)))) || ((((u : Nat) : Int) == (0 : Int)) && (decide (((n3 : Nat) : Int) > (0 : Int))))))] (hK2 _ _ _ ⟨rfl, rfl⟩) (h2 := (by rw [h_g45, h_g50, h_g53]; try kernel_rfl))
    refine Sx.sp 8 53 (((u : Nat) : Int) == (0 : Int)) (fun h_g53 => ?_) (fun h_g53 => ?_)
    · skip
      exact Sx.to 6 [(0, .pointer (some ⟨bg, 0, none⟩)), (8, .int .i64 ((v : Nat) : Int)), (10, .int .i64 ((u : Nat) : Int)), (11, .slice A3 n3 c3), (12, .slice A4 n4 c4), (58, .bool (((((v : Nat) : Int) == (0 : Int)) && (decide (((n4 : Nat) : Int) > (0 : Int)))) || ((((u : Nat) : Int) == (0 : Int)) && (decide (((n3 : Nat) : Int) > (0 : Int))))))] (hK2 _ _ _ ⟨rfl, rfl⟩) (h2 := (by rw [h_g45, h_g53]; try kernel_rfl))
    exact Sx.to 6 [(0, .pointer (some ⟨bg, 0, none⟩)), (8, .int .i64 ((v : Nat) : Int)), (10, .int .i64 ((u : Nat) : Int)), (11, .slice A3 n3 c3), (12, .slice A4 n4 c4), (58, .bool (((((v : Nat) : Int) == (0 : Int)) && (decide (((n4 : Nat) : Int) > (0 : Int)))) || ((((u : Nat) : Int) == (0 : Int)) && (decide (((n3 : Nat) : Int) > (0 : Int))))))] (hK2 _ _ _ ⟨rfl, rfl⟩) (h2 := (by rw [h_g45, h_g53]; try kernel_rfl))
  obtain ⟨rfl, rfl⟩ := hI2
  refine Sx.br 0 (((((v : Nat) : Int) == (0 : Int)) && (decide (((n4 : Nat) : Int) > (0 : Int)))) || ((((u : Nat) : Int) == (0 : Int)) && (decide (((n3 : Nat) : Int) > (0 : Int))))) (fun h_c58 => ?_) (fun h_c58 => ?_)
  · skip
    have hsr : srB v u (less a b) (less b a) = true := by show ((v == 0) && !(less b a).isEmpty || (u == 0) && !(less a b).isEmpty) = true; rw [← nat0 v, ← nat0 u, ← len1 (less a b), ← len1 (less b a), ← hn3, ← hn4]; exact h_c58
    obtain ⟨rfl, rfl⟩ := hs2 hne hsr
    refine Sx.rt 7 [] H4 (.bool false) ?_
    subst hL0
    exact Gx.ret_as (v' := .bool false) (by rfl) (hK S3 _ (H4.pick (a := [GI S3 bg _]) [4] (by kernel_rfl)))
  have hsr : srB v u (less a b) (less b a) = false := by show ((v == 0) && !(less b a).isEmpty || (u == 0) && !(less a b).isEmpty) = false; rw [← nat0 v, ← nat0 u, ← len1 (less a b), ← len1 (less b a), ← hn3, ← hn4]; exact h_c58
  refine Sx.br 11 (((v : Nat) : Int) == (0 : Int)) (fun h_c71 => ?_) (fun h_c71 => ?_)
  · skip
    have hv0 : v = 0 := by have := Gx.k1 h_c71; omega
    obtain ⟨rfl, rfl⟩ := hs3 hne hsr hv0
    refine Sx.c 4 [4, 3] H4 (fun Hp5 R5 hR5 => stands_c S3 bg g u S5 A3 n3 c3 (less a b) 0 (some 0) w4 R5 Hp5 (by omega) (by omega) rfl (fun S7 w7 G5 => hR5 _ _ _ G5 fun H5 => ?_))
    refine Sx.rt 9 [] H5 (.bool true) ?_
    subst hL0
    exact Gx.ret_as (v' := .bool true) (by rfl) (hK S7 _ (H5.pick (a := [GI S7 bg _]) [0] (by kernel_rfl)))
  have hv0 : v ≠ 0 := by have := Gx.k0 h_c71; omega
  refine Sx.br 7 (((u : Nat) : Int) == (0 : Int)) (fun h_c78 => ?_) (fun h_c78 => ?_)
  · skip
    have hu0 : u = 0 := by have := Gx.k1 h_c78; omega
    obtain ⟨rfl, rfl⟩ := hs4 hne hsr hv0 hu0
    refine Sx.c 4 [4, 2] H4 (fun Hp6 R6 hR6 => stands_c S3 bg g v S6 A4 n4 c4 (less b a) 0 (some 0) w4 R6 Hp6 (by omega) (by omega) rfl (fun S8 w8 G6 => hR6 _ _ _ G6 fun H6 => ?_))
    refine Sx.rt 9 [] H6 (.bool true) ?_
    subst hL0
    exact Gx.ret_as (v' := .bool true) (by rfl) (hK S8 _ (H6.pick (a := [GI S8 bg _]) [0] (by kernel_rfl)))
  have hu0 : u ≠ 0 := by have := Gx.k0 h_c78; omega
  obtain ⟨g1, x, hop, rfl, rfl⟩ := hs5 hne hsr hv0 hu0
  have hol := opn_len hop
  refine Sx.c 3 [4] H4 (fun Hp7 R7 hR7 => Open_c S3 bg g w4 R7 Hp7 g1 x hop (fun S9 w9 G7 => hR7 _ _ _ G7 fun H7 => ?_))
  refine Sx.c 9 [0, 2] H7 (fun Hp8 R8 hR8 => stands_c S9 bg g1 v S6 A4 n4 c4 (less b a) ((x : Nat) : Int) (some x) w9 R8 Hp8 (by omega) (by omega) rfl (fun S10 w10 G8 => hR8 _ _ _ G8 fun H8 => ?_))
  refine Sx.c 7 [0, 2] H8 (fun Hp9 R9 hR9 => stands_c S10 bg (g1.stands v (less b a) (some x)) u S5 A3 n3 c3 (less a b) ((x : Nat) : Int) (some x) w10 R9 Hp9 (by rw [stands_len]; omega) (by omega) rfl (fun S11 w11 G9 => hR9 _ _ _ G9 fun H9 => ?_))
  refine Sx.rt 9 [] H9 (.bool true) ?_
  subst hL0
  exact Gx.ret_as (v' := .bool true) (by rfl) (hK S11 _ (H9.pick (a := [GI S11 bg _]) [0] (by kernel_rfl)))
set_option maxHeartbeats 8000000 in
theorem Same_c_s (k : Nat) (ih : ∀ (S : Nat → Prop) (bg : Nat) (g : G) (m n : Nat) (w : World) (K : Ending → World → Prop) (H0 : Sp w [GI S bg g]) (g' : G) (t : Bool) (hf : same k g m n = some (g', t)) (hK : ∀ (S' : Nat → Prop) w', Hs w [GI S bg g] w' [GI S' bg g'] → K (.returned (.bool t)) w'),
    Calls Try.prog 19 #[.pointer (some ⟨bg, 0, none⟩), .int .i64 ((m : Nat) : Int), .int .i64 ((n : Nat) : Int)] w K) (S : Nat → Prop) (bg : Nat) (g : G) (m n : Nat) (w : World) (K : Ending → World → Prop) (H0 : Sp w [GI S bg g]) (g' : G) (t : Bool) (hf : same (k + 1) g m n = some (g', t)) (hK : ∀ (S' : Nat → Prop) w', Hs w [GI S bg g] w' [GI S' bg g'] → K (.returned (.bool t)) w') :
    Calls Try.prog 19 #[.pointer (some ⟨bg, 0, none⟩), .int .i64 ((m : Nat) : Int), .int .i64 ((n : Nat) : Int)] w K := by
  obtain ⟨L0, hL0, H⟩ : ∃ L0, L0 = [GI S bg g] ∧ Hs w L0 w [GI S bg g] := ⟨_, rfl, Hs.refl H0⟩
  refine Sx.en (vs := [.pointer (some ⟨bg, 0, none⟩), .int .i64 ((m : Nat) : Int), .int .i64 ((n : Nat) : Int)]) 148 Try.func19 ?_
  obtain ⟨m1, n1, hm, hn, hs0, hs1⟩ := same_cases hf
  refine Sx.c 9 [0] H (fun Hp1 R1 hR1 => Find_c S bg g m w R1 Hp1 _ m1 hm (fun S1 w1 G1 => hR1 _ _ _ G1 fun H1 => ?_))
  refine Sx.c 7 [0] H1 (fun Hp2 R2 hR2 => Find_c S1 bg g n w1 R2 Hp2 _ n1 hn (fun S2 w2 G2 => hR2 _ _ _ G2 fun H2 => ?_))
  refine Sx.br 11 (((m1 : Nat) : Int) == ((n1 : Nat) : Int)) (fun h_c17 => ?_) (fun h_c17 => ?_)
  · skip
    obtain ⟨rfl, rfl⟩ := hs0 (by have := Gx.k1 h_c17; omega)
    refine Sx.rt 7 [] H2 (.bool true) ?_
    subst hL0
    exact Gx.ret_as (v' := .bool true) (by rfl) (hK S2 _ (H2.pick (a := [GI S2 bg g]) [0] (by kernel_rfl)))
  obtain ⟨km, kn, hkm, hkn, ha1, ha2, ha3, ha4⟩ := hs1 (by have := Gx.k0 h_c17; omega)
  obtain ⟨⟨⟨kA, kC⟩, ⟨aA, aC⟩, ⟨bA, bC⟩, ⟨rA, rC⟩, ⟨lA, lC⟩, ⟨oA, oC⟩, ⟨nA, nC⟩, mbt, mbr, msl, mS, nk, no⟩, H3⟩ := G_open H2 0 (S := S2) (bg := bg) (g := g) (by kernel_rfl)
  obtain ⟨lk, la, lb, lr, ll, lo, ln, ls⟩ := G_len H3
  simp only at lk la lb lr ll lo ln ls
  have hml : m1 < nk := by rw [← lk]; exact at_lt hkm
  have hnl : n1 < nk := by rw [← lk]; exact at_lt hkn
  obtain ⟨wk, rfl⟩ := H3.row 1 (A := kA) (e := 3) (sz := 1) (cap := kC) (n := nk) (xs := (nats (g.kind))) (by kernel_rfl) (by omega)
  obtain ⟨wl, rfl⟩ := H3.row 5 (A := lA) (e := 3) (sz := 1) (cap := lC) (n := nk) (xs := (onats (g.link))) (by kernel_rfl) (by omega)
  refine Sx.l 8 0 H3 ?_
  refine Sx.ir 1 wk m1 1 nk kC (by omega) ?_
  refine Sx.lr 0 1 3 1 3 wk kC nk (m1 * 1) (nats (g.kind)) H3 (.int .i64 ((km : Nat) : Int)) (nats_at hkm) ?_
  refine Sx.br 3 (((km : Nat) : Int) == (0 : Int)) (fun h_c25 => ?_) (fun h_c25 => ?_)
  · skip
    obtain ⟨rfl, rfl⟩ := ha1 (by have := Gx.k1 h_c25; omega)
    refine Sx.l 5 0 H3 ?_
    refine Sx.ir 2 wl m1 1 nk lC (by omega) ?_
    refine Sx.sr 0 5 3 1 3 wl lC nk (m1 * 1) (onats (g.link)) H3 (.int .i64 ((n1 : Nat) : Int)) (by rw [onats_len]; omega) (onats_set (o := (some n1)) _ _ rfl) fun w3 H4 => ?_
    refine Sx.rt 9 [] H4 (.bool true) ?_
    obtain ⟨S3, H5⟩ := G_close H4 [0, 0, 0, 0, 0, 0, 0, 0, 0, 0, 0] (bg := bg) (g := (lnk0 g m1 n1)) ⟨((some ⟨wk, 0, none⟩), kC), (aA, aC), (bA, bC), (rA, rC), ((some ⟨wl, 0, none⟩), lC), (oA, oC), (nA, nC), mbt, mbr, msl, mS, nk, no⟩ (by kernel_rfl)
    subst hL0
    exact Gx.ret_as (v' := .bool true) (by rfl) (hK S3 _ (H5.pick (a := [GI S3 bg (lnk0 g m1 n1)]) [0] (by kernel_rfl)))
  have hk1 : km ≠ 0 := by have := Gx.k0 h_c25; omega
  refine Sx.l 8 0 H3 ?_
  refine Sx.ir 1 wk n1 1 nk kC (by omega) ?_
  refine Sx.lr 0 1 3 1 3 wk kC nk (n1 * 1) (nats (g.kind)) H3 (.int .i64 ((kn : Nat) : Int)) (nats_at hkn) ?_
  refine Sx.br 3 (((kn : Nat) : Int) == (0 : Int)) (fun h_c40 => ?_) (fun h_c40 => ?_)
  · skip
    obtain ⟨rfl, rfl⟩ := ha2 hk1 (by have := Gx.k1 h_c40; omega)
    refine Sx.l 5 0 H3 ?_
    refine Sx.ir 2 wl n1 1 nk lC (by omega) ?_
    refine Sx.sr 0 5 3 1 3 wl lC nk (n1 * 1) (onats (g.link)) H3 (.int .i64 ((m1 : Nat) : Int)) (by rw [onats_len]; omega) (onats_set (o := (some m1)) _ _ rfl) fun w4 H6 => ?_
    refine Sx.rt 9 [] H6 (.bool true) ?_
    obtain ⟨S4, H7⟩ := G_close H6 [0, 0, 0, 0, 0, 0, 0, 0, 0, 0, 0] (bg := bg) (g := (lnk0 g n1 m1)) ⟨((some ⟨wk, 0, none⟩), kC), (aA, aC), (bA, bC), (rA, rC), ((some ⟨wl, 0, none⟩), lC), (oA, oC), (nA, nC), mbt, mbr, msl, mS, nk, no⟩ (by kernel_rfl)
    subst hL0
    exact Gx.ret_as (v' := .bool true) (by rfl) (hK S4 _ (H7.pick (a := [GI S4 bg (lnk0 g n1 m1)]) [0] (by kernel_rfl)))
  have hk2 : kn ≠ 0 := by have := Gx.k0 h_c40; omega
  refine Sx.dr 4 H3 [0, 1] [] (LJ := [.blk bg (.cells #[.slice (some ⟨wk, 0, none⟩) nk kC, .slice aA nk aC, .slice bA nk bC, .slice rA nk rC, .slice (some ⟨wl, 0, none⟩) nk lC, .slice oA no oC, .slice nA no nC, .map (some mbt), .map (some mbr)] 94), .own 3 1 (some ⟨wk, 0, none⟩) kC nk (nats (g.kind))]) (by kernel_rfl) fun w5 H8 => ?_
  refine Sx.tk [(0, none), (1, none), (2, none), (3, some (0, [])), (4, none)] (fun _ => (H8.sub [0, 0] (by kernel_rfl))) ?_
  refine Sx.tvg 5 [] wk m1 1 nk kC (by omega) (fun _ => (H8.sub [0, 0] (by kernel_rfl))) ?_
  refine Sx.tvl 6 [] 1 3 1 3 wk kC nk (m1 * 1) (nats (g.kind)) (.int .i64 ((km : Nat) : Int)) (nats_at hkm) (fun _ => (H8.sub [0, 0] (by kernel_rfl))) ?_
  refine Sx.tk [(7, none), (8, none), (9, none), (10, some (0, [])), (11, none)] (fun _ => (H8.sub [0, 0] (by kernel_rfl))) ?_
  refine Sx.tvg 12 [] wk n1 1 nk kC (by omega) (fun _ => (H8.sub [0, 0] (by kernel_rfl))) ?_
  refine Sx.tvl 13 [] 1 3 1 3 wk kC nk (n1 * 1) (nats (g.kind)) (.int .i64 ((kn : Nat) : Int)) (nats_at hkn) (fun _ => (H8.sub [0, 0] (by kernel_rfl))) ?_
  refine Sx.tk [(14, none)] (fun _ => (H8.sub [0, 0] (by kernel_rfl))) ?_
  refine Sx.dn ?_
  refine Sx.br 1 (((km : Nat) : Int) != ((kn : Nat) : Int)) (fun h_c62 => ?_) (fun h_c62 => ?_)
  · skip
    obtain ⟨rfl, rfl⟩ := ha3 hk1 hk2 (by have : ¬ ((km : Int) = (kn : Int)) := (by simpa using h_c62); omega)
    refine Sx.rt 7 [] H8 (.bool false) ?_
    obtain ⟨S5, H9⟩ := G_close H8 [0, 0, 0, 0, 0, 0, 0, 0, 0, 0, 0] (bg := bg) (g := g) ⟨((some ⟨wk, 0, none⟩), kC), (aA, aC), (bA, bC), (rA, rC), ((some ⟨wl, 0, none⟩), lC), (oA, oC), (nA, nC), mbt, mbr, msl, mS, nk, no⟩ (by kernel_rfl)
    subst hL0
    exact Gx.ret_as (v' := .bool false) (by rfl) (hK S5 _ (H9.pick (a := [GI S5 bg g]) [0] (by kernel_rfl)))
  have hk3 : km = kn := by have : ((km : Int) = (kn : Int)) := (by simpa using h_c62); omega
  obtain ⟨x, hx, hx0, hx1⟩ := ha4 hk1 hk2 hk3
  obtain ⟨wa, rfl⟩ := H8.row 2 (A := aA) (e := 3) (sz := 1) (cap := aC) (n := nk) (xs := (onats (g.a))) (by kernel_rfl) (by omega)
  refine Sx.l 7 0 H8 ?_
  refine Sx.ir 2 wl m1 1 nk lC (by omega) ?_
  refine Sx.sr 0 5 3 1 3 wl lC nk (m1 * 1) (onats (g.link)) H8 (.int .i64 ((n1 : Nat) : Int)) (by rw [onats_len]; omega) (onats_set (o := (some n1)) _ _ rfl) fun w6 H10 => ?_
  refine Sx.cut 2 (fun l' w' => ∃ (g1 : G) (S1 : Nat → Prop), l' = [(0, .pointer (some ⟨bg, 0, none⟩)), (1, .int .i64 ((m1 : Nat) : Int)), (2, .int .i64 ((n1 : Nat) : Int))] ∧ Hs w L0 w' [GI S1 bg g1] ∧ (SB k g1 m1 n1 km g' t) ∧ (g1.kind[m1]? = some km)) (fun K1 hK1 => ?_) (fun b1 l1 w7 hI1 => ?_)
  · skip
    refine Sx.l 5 0 H10 ?_
    refine Sx.ir 1 wa m1 1 nk aC (by omega) ?_
    refine Sx.lr 0 2 3 1 3 wa aC nk (m1 * 1) (onats (g.a)) H10 (.int .i64 (eI x)) (onats_at hx) ?_
    refine Sx.br 3 (decide ((eI x) ≥ (0 : Int))) (fun h_c77 => ?_) (fun h_c77 => ?_)
    · skip
      obtain ⟨p, rfl⟩ := eI_ge1 h_c77
      obtain ⟨q, t2, g2, hq, hsm, hr0, hr1⟩ := hx1 p rfl
      have hnl : n1 < nk := by rw [← la]; exact at_lt hq
      refine Sx.dr 1 H10 [0, 2] [15] (LJ := [.blk bg (.cells #[.slice (some ⟨wk, 0, none⟩) nk kC, .slice (some ⟨wa, 0, none⟩) nk aC, .slice bA nk bC, .slice rA nk rC, .slice (some ⟨wl, 0, none⟩) nk lC, .slice oA no oC, .slice nA no nC, .map (some mbt), .map (some mbr)] 94), .own 3 1 (some ⟨wa, 0, none⟩) aC nk (onats (g.a))]) (by kernel_rfl) fun w8 H11 => ?_
      refine Sx.tk [(0, none), (1, none), (2, none), (3, none), (4, some (0, [6, 7, 15, 16])), (5, none)] (fun _ => (H11.sub [0, 1] (by kernel_rfl))) ?_
      refine Sx.tvg 6 [7, 15, 16] wa m1 1 nk aC (by omega) (fun _ => (H11.sub [0, 1] (by kernel_rfl))) ?_
      refine Sx.tvl 7 [15, 16] 1 3 1 3 wa aC nk (m1 * 1) (onats (g.a)) (.int .i64 ((p : Nat) : Int)) (onats_some hx) (fun _ => (H11.sub [0, 1] (by kernel_rfl))) ?_
      refine Sx.tk [(8, none), (9, none), (10, none), (11, some (0, [13, 14, 15, 16])), (12, none)] (fun _ => (H11.sub [0, 1] (by kernel_rfl))) ?_
      refine Sx.tvg 13 [14, 15, 16] wa n1 1 nk aC (by omega) (fun _ => (H11.sub [0, 1] (by kernel_rfl))) ?_
      refine Sx.tvl 14 [15, 16] 1 3 1 3 wa aC nk (n1 * 1) (onats (g.a)) (.int .i64 ((q : Nat) : Int)) (onats_some hq) (fun _ => (H11.sub [0, 1] (by kernel_rfl))) ?_
      refine Sx.nmx ?_
      intro zx1
      refine Sx.on 15 ?_
      obtain ⟨S6, H12⟩ := G_close H11 [0, 0, 0, 0, 0, 0, 0, 0, 0, 0, 0] (bg := bg) (g := (lnk0 g m1 n1)) ⟨((some ⟨wk, 0, none⟩), kC), ((some ⟨wa, 0, none⟩), aC), (bA, bC), (rA, rC), ((some ⟨wl, 0, none⟩), lC), (oA, oC), (nA, nC), mbt, mbr, msl, mS, nk, no⟩ (by kernel_rfl)
      refine Sx.c 0 [0] H12 (fun Hp3 R3 hR3 => ih S6 bg (lnk0 g m1 n1) p q w8 R3 Hp3 g2 t2 hsm (fun S7 w9 G3 => hR3 _ _ _ G3 fun H13 => ?_))
      refine Sx.bk (x := zx1) 15 (fun h => Sx.nope h (by kernel_rfl)) ?_
      refine Sx.tk [(16, none)] (fun h => Sx.nope h (by kernel_rfl)) ?_
      refine Sx.dn ?_
      refine Sx.br 7 (!t2) (fun h_c95 => ?_) (fun h_c95 => ?_)
      · skip
        have ht2 : t2 = false := by simpa using h_c95
        obtain ⟨rfl, rfl⟩ := hr0 ht2
        refine Sx.rt 7 [] H13 (.bool false) ?_
        subst hL0
        exact Gx.ret_as (v' := .bool false) (by rfl) (hK S7 _ (H13.pick (a := [GI S7 bg g2]) [0] (by kernel_rfl)))
      have ht2 : t2 = true := by simpa using h_c95
      exact Sx.to 1 [(0, .pointer (some ⟨bg, 0, none⟩)), (1, .int .i64 ((m1 : Nat) : Int)), (2, .int .i64 ((n1 : Nat) : Int))] (hK1 _ _ _ ⟨g2, S7, rfl, H13, (hr1 ht2), (by rw [same_kind hsm]; exact hkm)⟩)
    have hnone := eI_ge0 h_c77
    obtain ⟨S8, H14⟩ := G_close H10 [0, 0, 0, 0, 0, 0, 0, 0, 0, 0, 0] (bg := bg) (g := (lnk0 g m1 n1)) ⟨((some ⟨wk, 0, none⟩), kC), ((some ⟨wa, 0, none⟩), aC), (bA, bC), (rA, rC), ((some ⟨wl, 0, none⟩), lC), (oA, oC), (nA, nC), mbt, mbr, msl, mS, nk, no⟩ (by kernel_rfl)
    exact Sx.to 1 [(0, .pointer (some ⟨bg, 0, none⟩)), (1, .int .i64 ((m1 : Nat) : Int)), (2, .int .i64 ((n1 : Nat) : Int))] (hK1 _ _ _ ⟨(lnk0 g m1 n1), S8, rfl, H14, (hx0 hnone), hkm⟩)
  obtain ⟨g1, S1, rfl, H15, hB, hkm⟩ := hI1
  obtain ⟨⟨⟨kA1, kC1⟩, ⟨aA1, aC1⟩, ⟨bA1, bC1⟩, ⟨rA1, rC1⟩, ⟨lA1, lC1⟩, ⟨oA1, oC1⟩, ⟨nA1, nC1⟩, mbt1, mbr1, msl1, mS1, nk1, no1⟩, H16⟩ := G_open H15 0 (S := S1) (bg := bg) (g := g1) (by kernel_rfl)
  obtain ⟨lk1, la1, lb1, lr1, ll1, lo1, ln1, ls1⟩ := G_len H16
  simp only at lk1 la1 lb1 lr1 ll1 lo1 ln1 ls1
  obtain ⟨y, hy, hy0, hy1⟩ := hB
  have hml : m1 < nk1 := by rw [← lb1]; exact at_lt hy
  obtain ⟨wb1, rfl⟩ := H16.row 3 (A := bA1) (e := 3) (sz := 1) (cap := bC1) (n := nk1) (xs := (onats (g1.b))) (by kernel_rfl) (by omega)
  refine Sx.cut 0 (fun l' w' => ∃ (g2 : G) (S2 : Nat → Prop), l' = [(0, .pointer (some ⟨bg, 0, none⟩)), (1, .int .i64 ((m1 : Nat) : Int)), (2, .int .i64 ((n1 : Nat) : Int))] ∧ Hs w L0 w' [GI S2 bg g2] ∧ (SC k g2 m1 n1 km g' t) ∧ (g2.kind[m1]? = some km)) (fun K2 hK2 => ?_) (fun b2 l2 w10 hI2 => ?_)
  · skip
    refine Sx.l 5 0 H16 ?_
    refine Sx.ir 1 wb1 m1 1 nk1 bC1 (by omega) ?_
    refine Sx.lr 0 3 3 1 3 wb1 bC1 nk1 (m1 * 1) (onats (g1.b)) H16 (.int .i64 (eI y)) (onats_at hy) ?_
    refine Sx.br 3 (decide ((eI y) ≥ (0 : Int))) (fun h_c103 => ?_) (fun h_c103 => ?_)
    · skip
      obtain ⟨p, rfl⟩ := eI_ge1 h_c103
      obtain ⟨q, t2, g2, hq, hsm, hr0, hr1⟩ := hy1 p rfl
      have hnl : n1 < nk1 := by rw [← lb1]; exact at_lt hq
      refine Sx.dr 1 H16 [0, 3] [15] (LJ := [.blk bg (.cells #[.slice kA1 nk1 kC1, .slice aA1 nk1 aC1, .slice (some ⟨wb1, 0, none⟩) nk1 bC1, .slice rA1 nk1 rC1, .slice lA1 nk1 lC1, .slice oA1 no1 oC1, .slice nA1 no1 nC1, .map (some mbt1), .map (some mbr1)] 94), .own 3 1 (some ⟨wb1, 0, none⟩) bC1 nk1 (onats (g1.b))]) (by kernel_rfl) fun w11 H17 => ?_
      refine Sx.tk [(0, none), (1, none), (2, none), (3, none), (4, some (0, [6, 7, 15, 16])), (5, none)] (fun _ => (H17.sub [0, 2] (by kernel_rfl))) ?_
      refine Sx.tvg 6 [7, 15, 16] wb1 m1 1 nk1 bC1 (by omega) (fun _ => (H17.sub [0, 2] (by kernel_rfl))) ?_
      refine Sx.tvl 7 [15, 16] 1 3 1 3 wb1 bC1 nk1 (m1 * 1) (onats (g1.b)) (.int .i64 ((p : Nat) : Int)) (onats_some hy) (fun _ => (H17.sub [0, 2] (by kernel_rfl))) ?_
      refine Sx.tk [(8, none), (9, none), (10, none), (11, some (0, [13, 14, 15, 16])), (12, none)] (fun _ => (H17.sub [0, 2] (by kernel_rfl))) ?_
      refine Sx.tvg 13 [14, 15, 16] wb1 n1 1 nk1 bC1 (by omega) (fun _ => (H17.sub [0, 2] (by kernel_rfl))) ?_
      refine Sx.tvl 14 [15, 16] 1 3 1 3 wb1 bC1 nk1 (n1 * 1) (onats (g1.b)) (.int .i64 ((q : Nat) : Int)) (onats_some hq) (fun _ => (H17.sub [0, 2] (by kernel_rfl))) ?_
      refine Sx.nmx ?_
      intro zx2
      refine Sx.on 15 ?_
      obtain ⟨S9, H18⟩ := G_close H17 [0, 0, 0, 0, 0, 0, 0, 0, 0, 0, 0] (bg := bg) (g := g1) ⟨(kA1, kC1), (aA1, aC1), ((some ⟨wb1, 0, none⟩), bC1), (rA1, rC1), (lA1, lC1), (oA1, oC1), (nA1, nC1), mbt1, mbr1, msl1, mS1, nk1, no1⟩ (by kernel_rfl)
      refine Sx.c 0 [0] H18 (fun Hp4 R4 hR4 => ih S9 bg g1 p q w11 R4 Hp4 g2 t2 hsm (fun S10 w12 G4 => hR4 _ _ _ G4 fun H19 => ?_))
      refine Sx.bk (x := zx2) 15 (fun h => Sx.nope h (by kernel_rfl)) ?_
      refine Sx.tk [(16, none)] (fun h => Sx.nope h (by kernel_rfl)) ?_
      refine Sx.dn ?_
      refine Sx.br 7 (!t2) (fun h_c121 => ?_) (fun h_c121 => ?_)
      · skip
        have ht2 : t2 = false := by simpa using h_c121
        obtain ⟨rfl, rfl⟩ := hr0 ht2
        refine Sx.rt 7 [] H19 (.bool false) ?_
        subst hL0
        exact Gx.ret_as (v' := .bool false) (by rfl) (hK S10 _ (H19.pick (a := [GI S10 bg g2]) [0] (by kernel_rfl)))
      have ht2 : t2 = true := by simpa using h_c121
      exact Sx.to 1 [(0, .pointer (some ⟨bg, 0, none⟩)), (1, .int .i64 ((m1 : Nat) : Int)), (2, .int .i64 ((n1 : Nat) : Int))] (hK2 _ _ _ ⟨g2, S10, rfl, H19, (hr1 ht2), (by rw [same_kind hsm]; exact hkm)⟩)
    have hnone := eI_ge0 h_c103
    obtain ⟨S11, H20⟩ := G_close H16 [0, 0, 0, 0, 0, 0, 0, 0, 0, 0, 0] (bg := bg) (g := g1) ⟨(kA1, kC1), (aA1, aC1), ((some ⟨wb1, 0, none⟩), bC1), (rA1, rC1), (lA1, lC1), (oA1, oC1), (nA1, nC1), mbt1, mbr1, msl1, mS1, nk1, no1⟩ (by kernel_rfl)
    exact Sx.to 1 [(0, .pointer (some ⟨bg, 0, none⟩)), (1, .int .i64 ((m1 : Nat) : Int)), (2, .int .i64 ((n1 : Nat) : Int))] (hK2 _ _ _ ⟨g1, S11, rfl, H20, (hy0 hnone), hkm⟩)
  obtain ⟨g2, S2, rfl, H21, hC, hkm⟩ := hI2
  obtain ⟨⟨⟨kA2, kC2⟩, ⟨aA2, aC2⟩, ⟨bA2, bC2⟩, ⟨rA2, rC2⟩, ⟨lA2, lC2⟩, ⟨oA2, oC2⟩, ⟨nA2, nC2⟩, mbt2, mbr2, msl2, mS2, nk2, no2⟩, H22⟩ := G_open H21 0 (S := S2) (bg := bg) (g := g2) (by kernel_rfl)
  obtain ⟨lk2, la2, lb2, lr2, ll2, lo2, ln2, ls2⟩ := G_len H22
  simp only at lk2 la2 lb2 lr2 ll2 lo2 ln2 ls2
  have hml : m1 < nk2 := by rw [← lk2]; exact at_lt hkm
  obtain ⟨wk2, rfl⟩ := H22.row 1 (A := kA2) (e := 3) (sz := 1) (cap := kC2) (n := nk2) (xs := (nats (g2.kind))) (by kernel_rfl) (by omega)
  rcases Decidable.em (km = 6) with h6 | h6
  · skip
    subst h6
    obtain ⟨r, s, hr, hs, hf6⟩ := hC.2 rfl
    have hnl : n1 < nk2 := by rw [← lr2]; exact at_lt hs
    obtain ⟨wr2, rfl⟩ := H22.row 4 (A := rA2) (e := 3) (sz := 1) (cap := rC2) (n := nk2) (xs := (nats (g2.row))) (by kernel_rfl) (by omega)
    refine Sx.dr 1 H22 [0, 1, 4] [24] (LJ := [.blk bg (.cells #[.slice (some ⟨wk2, 0, none⟩) nk2 kC2, .slice aA2 nk2 aC2, .slice bA2 nk2 bC2, .slice (some ⟨wr2, 0, none⟩) nk2 rC2, .slice lA2 nk2 lC2, .slice oA2 no2 oC2, .slice nA2 no2 nC2, .map (some mbt2), .map (some mbr2)] 94), .own 3 1 (some ⟨wk2, 0, none⟩) kC2 nk2 (nats (g2.kind)), .own 3 1 (some ⟨wr2, 0, none⟩) rC2 nk2 (nats (g2.row))]) (by kernel_rfl) fun w13 H23 => ?_
    refine Sx.tk [(0, none), (1, none), (2, none), (3, some (0, [5, 6, 7, 8, 9, 10, 11, 12, 13, 14, 15, 16, 17, 18, 19, 20, 21, 22, 23, 24, 25, 26])), (4, none)] (fun _ => (H23.sub [0, 0, 2] (by kernel_rfl))) ?_
    refine Sx.tvg 5 [6, 7, 8, 9, 10, 11, 12, 13, 14, 15, 16, 17, 18, 19, 20, 21, 22, 23, 24, 25, 26] wk2 m1 1 nk2 kC2 (by omega) (fun _ => (H23.sub [0, 0, 2] (by kernel_rfl))) ?_
    refine Sx.tvl 6 [7, 8, 9, 10, 11, 12, 13, 14, 15, 16, 17, 18, 19, 20, 21, 22, 23, 24, 25, 26] 1 3 1 3 wk2 kC2 nk2 (m1 * 1) (nats (g2.kind)) (.int .i64 6) (nats_at (n := 6) hkm) (fun _ => (H23.sub [0, 0, 2] (by kernel_rfl))) ?_
    refine Sx.tva 7 [8, 9, 10, 11, 12, 13, 14, 15, 16, 17, 18, 19, 20, 21, 22, 23, 24, 25, 26] (.bool false) (.bool false) (rfl) (fun _ => (H23.sub [0, 0, 2] (by kernel_rfl))) ?_
    refine Sx.tk [(8, none), (9, none), (10, none), (11, none), (12, none), (13, some (0, [15, 16, 24, 25, 26])), (14, none)] (fun _ => (H23.sub [0, 0, 2] (by kernel_rfl))) ?_
    refine Sx.tvg 15 [16, 24, 25, 26] wr2 m1 1 nk2 rC2 (by omega) (fun _ => (H23.sub [0, 0, 2] (by kernel_rfl))) ?_
    refine Sx.tvl 16 [24, 25, 26] 2 3 1 3 wr2 rC2 nk2 (m1 * 1) (nats (g2.row)) (.int .i64 ((r : Nat) : Int)) (nats_at hr) (fun _ => (H23.sub [0, 0, 2] (by kernel_rfl))) ?_
    refine Sx.tk [(17, none), (18, none), (19, none), (20, some (0, [22, 23, 24, 25, 26])), (21, none)] (fun _ => (H23.sub [0, 0, 2] (by kernel_rfl))) ?_
    refine Sx.tvg 22 [23, 24, 25, 26] wr2 n1 1 nk2 rC2 (by omega) (fun _ => (H23.sub [0, 0, 2] (by kernel_rfl))) ?_
    refine Sx.tvl 23 [24, 25, 26] 2 3 1 3 wr2 rC2 nk2 (n1 * 1) (nats (g2.row)) (.int .i64 ((s : Nat) : Int)) (nats_at hs) (fun _ => (H23.sub [0, 0, 2] (by kernel_rfl))) ?_
    refine Sx.nmx ?_
    intro zx3
    refine Sx.on 24 ?_
    obtain ⟨S12, H24⟩ := G_close H23 [0, 0, 0, 0, 0, 0, 0, 0, 0, 0, 0] (bg := bg) (g := g2) ⟨((some ⟨wk2, 0, none⟩), kC2), (aA2, aC2), (bA2, bC2), ((some ⟨wr2, 0, none⟩), rC2), (lA2, lC2), (oA2, oC2), (nA2, nC2), mbt2, mbr2, msl2, mS2, nk2, no2⟩ (by kernel_rfl)
    refine Sx.c 0 [0] H24 (fun Hp5 R5 hR5 => SameRow_c S12 bg g2 r s w13 R5 Hp5 _ g' t hf6 (fun S13 w14 G5 => hR5 _ _ _ G5 fun H25 => ?_))
    refine Sx.bk (x := zx3) 24 (fun h => Sx.nope h (by kernel_rfl)) ?_
    refine Sx.tk [(25, none), (26, none)] (fun h => Sx.nope h (by kernel_rfl)) ?_
    refine Sx.dn ?_
    refine Sx.rt 2 [] H25 (.bool t) ?_
    subst hL0
    exact Gx.ret_as (v' := .bool t) (by rfl) (hK S13 _ (H25.pick (a := [GI S13 bg g']) [0] (by kernel_rfl)))
  obtain ⟨rfl, rfl⟩ := hC.1 h6
  refine Sx.dr 1 H22 [0, 1] [] (LJ := [.blk bg (.cells #[.slice (some ⟨wk2, 0, none⟩) nk2 kC2, .slice aA2 nk2 aC2, .slice bA2 nk2 bC2, .slice rA2 nk2 rC2, .slice lA2 nk2 lC2, .slice oA2 no2 oC2, .slice nA2 no2 nC2, .map (some mbt2), .map (some mbr2)] 94), .own 3 1 (some ⟨wk2, 0, none⟩) kC2 nk2 (nats (g2.kind))]) (by kernel_rfl) fun w15 H26 => ?_
  refine Sx.tk [(0, none), (1, none), (2, none), (3, some (0, [])), (4, none)] (fun _ => (H26.sub [0, 0] (by kernel_rfl))) ?_
  refine Sx.tvg 5 [] wk2 m1 1 nk2 kC2 (by omega) (fun _ => (H26.sub [0, 0] (by kernel_rfl))) ?_
  refine Sx.tvl 6 [] 1 3 1 3 wk2 kC2 nk2 (m1 * 1) (nats (g2.kind)) (.int .i64 ((km : Nat) : Int)) (nats_at hkm) (fun _ => (H26.sub [0, 0] (by kernel_rfl))) ?_
  refine Sx.tva 7 [] (.bool (((km : Nat) : Int) != (6 : Int))) (.bool true) (congrArg Value.bool (ne6 h6)) (fun _ => (H26.sub [0, 0] (by kernel_rfl))) ?_
  refine Sx.tk [(8, none), (9, none), (10, none), (11, none), (12, none), (13, none), (14, none), (15, none), (16, none), (17, none), (18, none), (19, none), (20, none), (21, none), (22, none), (23, none), (24, none), (25, none), (26, none)] (fun _ => (H26.sub [0, 0] (by kernel_rfl))) ?_
  refine Sx.dn ?_
  refine Sx.rt 2 [] H26 (.bool true) ?_
  obtain ⟨S14, H27⟩ := G_close H26 [0, 0, 0, 0, 0, 0, 0, 0, 0, 0, 0] (bg := bg) (g := g2) ⟨((some ⟨wk2, 0, none⟩), kC2), (aA2, aC2), (bA2, bC2), (rA2, rC2), (lA2, lC2), (oA2, oC2), (nA2, nC2), mbt2, mbr2, msl2, mS2, nk2, no2⟩ (by kernel_rfl)
  subst hL0
  exact Gx.ret_as (v' := .bool true) (by rfl) (hK S14 _ (H27.pick (a := [GI S14 bg g2]) [0] (by kernel_rfl)))
theorem Same_c (k : Nat) : ∀ (S : Nat → Prop) (bg : Nat) (g : G) (m n : Nat) (w : World) (K : Ending → World → Prop) (H0 : Sp w [GI S bg g]) (g' : G) (t : Bool) (hf : same k g m n = some (g', t)) (hK : ∀ (S' : Nat → Prop) w', Hs w [GI S bg g] w' [GI S' bg g'] → K (.returned (.bool t)) w'),
    Calls Try.prog 19 #[.pointer (some ⟨bg, 0, none⟩), .int .i64 ((m : Nat) : Int), .int .i64 ((n : Nat) : Int)] w K := by
  induction k with
  | zero => intro S bg g m n w K H0 g' t hf; exact absurd hf (by simp [same])
  | succ k ih => exact Same_c_s k ih
set_option maxHeartbeats 8000000 in
theorem round_c_s (k : Nat) (ih : ∀ (S : Nat → Prop) (bg : Nat) (g : G) (n : Nat) (bs : Nat) (s : Seen) (w : World) (K : Ending → World → Prop) (H0 : Sp w [GI S bg g, seenM bs s]) (r : Bool) (s' : Seen) (hf : round k g n s = some (r, s')) (hK : ∀ (S' : Nat → Prop) w', Hs w [GI S bg g, seenM bs s] w' [GI S' bg g, seenM bs s'] → K (.returned (.bool r)) w'),
    Calls Try.prog 42 #[.pointer (some ⟨bg, 0, none⟩), .int .i64 ((n : Nat) : Int), .map (some bs)] w K) (S : Nat → Prop) (bg : Nat) (g : G) (n : Nat) (bs : Nat) (s : Seen) (w : World) (K : Ending → World → Prop) (H0 : Sp w [GI S bg g, seenM bs s]) (r : Bool) (s' : Seen) (hf : round (k + 1) g n s = some (r, s')) (hK : ∀ (S' : Nat → Prop) w', Hs w [GI S bg g, seenM bs s] w' [GI S' bg g, seenM bs s'] → K (.returned (.bool r)) w') :
    Calls Try.prog 42 #[.pointer (some ⟨bg, 0, none⟩), .int .i64 ((n : Nat) : Int), .map (some bs)] w K := by
  obtain ⟨L0, hL0, H⟩ : ∃ L0, L0 = [GI S bg g, seenM bs s] ∧ Hs w L0 w [GI S bg g, seenM bs s] := ⟨_, rfl, Hs.refl H0⟩
  refine Sx.en (vs := [.pointer (some ⟨bg, 0, none⟩), .int .i64 ((n : Nat) : Int), .map (some bs)]) 62 Try.func42 ?_
  obtain ⟨u1, hn, hs0, hs1⟩ := round_cases hf
  refine Sx.c 9 [0] H (fun Hp1 R1 hR1 => Find_c S bg g n w R1 Hp1 _ u1 hn (fun S1 w1 G1 => hR1 _ _ _ G1 fun H1 => ?_))
  refine lks (t := 66) (kt := 3) (et := 3) 8 1 bs u1 s H1 (by kernel_rfl) ?_
  refine Sx.br 3 (decide (((s.at u1 : Nat) : Int) > (0 : Int))) (fun h_c15 => ?_) (fun h_c15 => ?_)
  · skip
    have p_c15 := of_decide_eq_true h_c15
    obtain ⟨hr, rfl⟩ := hs0 (by omega)
    refine lks (t := 66) (kt := 3) (et := 3) 4 1 bs u1 s H1 (by kernel_rfl) ?_
    refine Sx.rt 6 [] H1 (.bool (((s.at u1 : Nat) : Int) == (1 : Int))) ?_
    subst hL0
    exact Gx.ret_as (v' := .bool r) (by rw [← hr]; rw [seen_beq]) (hK S1 _ (H1.pick (a := [GI S1 bg g, seenM bs _]) [0, 0] (by kernel_rfl)))
  have p_c15 := of_decide_eq_false h_c15
  obtain ⟨y, hy, hy0, hy1⟩ := hs1 (by omega)
  obtain ⟨⟨⟨kA, kC⟩, ⟨aA, aC⟩, ⟨bA, bC⟩, ⟨rA, rC⟩, ⟨lA, lC⟩, ⟨oA, oC⟩, ⟨nA, nC⟩, mbt, mbr, msl, mS, nk, no⟩, H2⟩ := G_open H1 0 (S := S1) (bg := bg) (g := g) (by kernel_rfl)
  obtain ⟨lk, la, lb, lr, ll, lo, ln, ls⟩ := G_len H2
  simp only at lk la lb lr ll lo ln ls
  have hnl : u1 < nk := by rw [← la]; exact at_lt hy
  obtain ⟨wa, rfl⟩ := H2.row 2 (A := aA) (e := 3) (sz := 1) (cap := aC) (n := nk) (xs := (onats (g.a))) (by kernel_rfl) (by omega)
  refine mus (t := 66) (kt := 3) (et := 3) 6 11 bs u1 1 s H2 (by kernel_rfl) fun w2 H3 => ?_
  refine Sx.cut 2 (fun l' w' => ∃ (S1 : Nat → Prop) (s1 : Seen), l' = [(0, .pointer (some ⟨bg, 0, none⟩)), (1, .int .i64 ((u1 : Nat) : Int)), (2, .map (some bs))] ∧ Hs w L0 w' [GI S1 bg g, seenM bs s1] ∧ (RB k g u1 s1 r s')) (fun K1 hK1 => ?_) (fun b1 l1 w3 hI1 => ?_)
  · skip
    refine Sx.l 5 0 H3 ?_
    refine Sx.ir 1 wa u1 1 nk aC (by omega) ?_
    refine Sx.lr 0 2 3 1 3 wa aC nk (u1 * 1) (onats (g.a)) H3 (.int .i64 (eI y)) (onats_at hy) ?_
    refine Sx.br 3 (decide ((eI y) ≥ (0 : Int))) (fun h_c29 => ?_) (fun h_c29 => ?_)
    · skip
      obtain ⟨p, rfl⟩ := eI_ge1 h_c29
      obtain ⟨t2, s2, hsm, hr0, hr1⟩ := hy1 p rfl
      refine Sx.l 6 0 H3 ?_
      refine Sx.ir 1 wa u1 1 nk aC (by omega) ?_
      refine Sx.lr 0 2 3 1 3 wa aC nk (u1 * 1) (onats (g.a)) H3 (.int .i64 ((p : Nat) : Int)) (onats_some hy) ?_
      obtain ⟨S2, H4⟩ := G_close H3 [0, 0, 0, 0, 0, 0, 0, 0, 0, 0, 0] (bg := bg) (g := g) ⟨(kA, kC), ((some ⟨wa, 0, none⟩), aC), (bA, bC), (rA, rC), (lA, lC), (oA, oC), (nA, nC), mbt, mbr, msl, mS, nk, no⟩ (by kernel_rfl)
      refine Sx.c 1 [0, 0] H4 (fun Hp2 R2 hR2 => ih S2 bg g p bs (s.put u1 1) w2 R2 Hp2 t2 s2 hsm (fun S3 w4 G2 => hR2 _ _ _ G2 fun H5 => ?_))
      refine Sx.br 8 t2 (fun h_c40 => ?_) (fun h_c40 => ?_)
      · skip
        obtain ⟨rfl, rfl⟩ := hr0 h_c40
        refine Sx.rt 7 [] H5 (.bool true) ?_
        subst hL0
        exact Gx.ret_as (v' := .bool true) (by rfl) (hK S3 _ (H5.pick (a := [GI S3 bg g, seenM bs _]) [0, 0] (by kernel_rfl)))
      have ht2 : t2 = false := h_c40
      exact Sx.to 1 [(0, .pointer (some ⟨bg, 0, none⟩)), (1, .int .i64 ((u1 : Nat) : Int)), (2, .map (some bs))] (hK1 _ _ _ ⟨S3, s2, rfl, H5, (hr1 ht2)⟩)
    have hnone := eI_ge0 h_c29
    obtain ⟨S4, H6⟩ := G_close H3 [0, 0, 0, 0, 0, 0, 0, 0, 0, 0, 0] (bg := bg) (g := g) ⟨(kA, kC), ((some ⟨wa, 0, none⟩), aC), (bA, bC), (rA, rC), (lA, lC), (oA, oC), (nA, nC), mbt, mbr, msl, mS, nk, no⟩ (by kernel_rfl)
    exact Sx.to 1 [(0, .pointer (some ⟨bg, 0, none⟩)), (1, .int .i64 ((u1 : Nat) : Int)), (2, .map (some bs))] (hK1 _ _ _ ⟨S4, s.put u1 1, rfl, H6, (hy0 hnone)⟩)
  obtain ⟨S1, s1, rfl, H7, hB⟩ := hI1
  obtain ⟨y, hy, hy0, hy1⟩ := hB
  obtain ⟨⟨⟨kA1, kC1⟩, ⟨aA1, aC1⟩, ⟨bA1, bC1⟩, ⟨rA1, rC1⟩, ⟨lA1, lC1⟩, ⟨oA1, oC1⟩, ⟨nA1, nC1⟩, mbt1, mbr1, msl1, mS1, nk1, no1⟩, H8⟩ := G_open H7 0 (S := S1) (bg := bg) (g := g) (by kernel_rfl)
  obtain ⟨lk1, la1, lb1, lr1, ll1, lo1, ln1, ls1⟩ := G_len H8
  simp only at lk1 la1 lb1 lr1 ll1 lo1 ln1 ls1
  have hnl : u1 < nk1 := by rw [← lb1]; exact at_lt hy
  obtain ⟨wb1, rfl⟩ := H8.row 3 (A := bA1) (e := 3) (sz := 1) (cap := bC1) (n := nk1) (xs := (onats (g.b))) (by kernel_rfl) (by omega)
  refine Sx.cut 0 (fun l' w' => ∃ (S2 : Nat → Prop) (s3 : Seen), l' = [(1, .int .i64 ((u1 : Nat) : Int)), (2, .map (some bs))] ∧ Hs w L0 w' [GI S2 bg g, seenM bs s3] ∧ (false = r ∧ s3.put u1 2 = s')) (fun K2 hK2 => ?_) (fun b2 l2 w5 hI2 => ?_)
  · skip
    refine Sx.l 5 0 H8 ?_
    refine Sx.ir 1 wb1 u1 1 nk1 bC1 (by omega) ?_
    refine Sx.lr 0 3 3 1 3 wb1 bC1 nk1 (u1 * 1) (onats (g.b)) H8 (.int .i64 (eI y)) (onats_at hy) ?_
    refine Sx.br 3 (decide ((eI y) ≥ (0 : Int))) (fun h_c48 => ?_) (fun h_c48 => ?_)
    · skip
      obtain ⟨p, rfl⟩ := eI_ge1 h_c48
      obtain ⟨t2, s2, hsm, hr0, hr1⟩ := hy1 p rfl
      refine Sx.l 6 0 H8 ?_
      refine Sx.ir 1 wb1 u1 1 nk1 bC1 (by omega) ?_
      refine Sx.lr 0 3 3 1 3 wb1 bC1 nk1 (u1 * 1) (onats (g.b)) H8 (.int .i64 ((p : Nat) : Int)) (onats_some hy) ?_
      obtain ⟨S5, H9⟩ := G_close H8 [0, 0, 0, 0, 0, 0, 0, 0, 0, 0, 0] (bg := bg) (g := g) ⟨(kA1, kC1), (aA1, aC1), ((some ⟨wb1, 0, none⟩), bC1), (rA1, rC1), (lA1, lC1), (oA1, oC1), (nA1, nC1), mbt1, mbr1, msl1, mS1, nk1, no1⟩ (by kernel_rfl)
      refine Sx.c 1 [0, 0] H9 (fun Hp3 R3 hR3 => ih S5 bg g p bs s1 w3 R3 Hp3 t2 s2 hsm (fun S6 w6 G3 => hR3 _ _ _ G3 fun H10 => ?_))
      refine Sx.br 8 t2 (fun h_c59 => ?_) (fun h_c59 => ?_)
      · skip
        obtain ⟨rfl, rfl⟩ := hr0 h_c59
        refine Sx.rt 7 [] H10 (.bool true) ?_
        subst hL0
        exact Gx.ret_as (v' := .bool true) (by rfl) (hK S6 _ (H10.pick (a := [GI S6 bg g, seenM bs _]) [0, 0] (by kernel_rfl)))
      have ht2 : t2 = false := h_c59
      exact Sx.to 1 [(1, .int .i64 ((u1 : Nat) : Int)), (2, .map (some bs))] (hK2 _ _ _ ⟨S6, s2, rfl, H10, (hr1 ht2)⟩)
    have hnone := eI_ge0 h_c48
    obtain ⟨S7, H11⟩ := G_close H8 [0, 0, 0, 0, 0, 0, 0, 0, 0, 0, 0] (bg := bg) (g := g) ⟨(kA1, kC1), (aA1, aC1), ((some ⟨wb1, 0, none⟩), bC1), (rA1, rC1), (lA1, lC1), (oA1, oC1), (nA1, nC1), mbt1, mbr1, msl1, mS1, nk1, no1⟩ (by kernel_rfl)
    exact Sx.to 1 [(1, .int .i64 ((u1 : Nat) : Int)), (2, .map (some bs))] (hK2 _ _ _ ⟨S7, s1, rfl, H11, (hy0 hnone)⟩)
  obtain ⟨S2, s3, rfl, H12, hC⟩ := hI2
  obtain ⟨rfl, rfl⟩ := hC
  refine mus (t := 66) (kt := 3) (et := 3) 4 1 bs u1 2 s3 H12 (by kernel_rfl) fun w7 H13 => ?_
  refine Sx.rt 8 [] H13 (.bool false) ?_
  subst hL0
  exact Gx.ret_as (v' := .bool false) (by rfl) (hK S2 _ (H13.pick (a := [GI S2 bg g, seenM bs _]) [0, 0] (by kernel_rfl)))
theorem round_c (k : Nat) : ∀ (S : Nat → Prop) (bg : Nat) (g : G) (n : Nat) (bs : Nat) (s : Seen) (w : World) (K : Ending → World → Prop) (H0 : Sp w [GI S bg g, seenM bs s]) (r : Bool) (s' : Seen) (hf : round k g n s = some (r, s')) (hK : ∀ (S' : Nat → Prop) w', Hs w [GI S bg g, seenM bs s] w' [GI S' bg g, seenM bs s'] → K (.returned (.bool r)) w'),
    Calls Try.prog 42 #[.pointer (some ⟨bg, 0, none⟩), .int .i64 ((n : Nat) : Int), .map (some bs)] w K := by
  induction k with
  | zero => intro S bg g n bs s w K H0 r s' hf; exact absurd hf (by simp [round])
  | succ k ih => exact round_c_s k ih
theorem Round_c (S : Nat → Prop) (bg : Nat) (g : G) (n : Nat) (w : World) (K : Ending → World → Prop) (H0 : Sp w [GI S bg g]) (k : Nat) (r : Bool) (s' : Seen) (hf : round k g n [] = some (r, s')) (hK : ∀ (S' : Nat → Prop) w', Hs w [GI S bg g] w' [GI S' bg g] → K (.returned (.bool r)) w') :
    Calls Try.prog 20 #[.pointer (some ⟨bg, 0, none⟩), .int .i64 ((n : Nat) : Int)] w K := by
  obtain ⟨L0, hL0, H⟩ : ∃ L0, L0 = [GI S bg g] ∧ Hs w L0 w [GI S bg g] := ⟨_, rfl, Hs.refl H0⟩
  refine Sx.en (vs := [.pointer (some ⟨bg, 0, none⟩), .int .i64 ((n : Nat) : Int)]) 9 Try.func20 ?_
  refine Sx.nw 9 H fun k1 w1 H1 => ?_
  have H2 := mapI_new (.int .i64) encN (bt := k1) (i := 1) H1 (by kernel_rfl)
  refine Sx.c 0 [0, 0] H2 (fun Hp1 R1 hR1 => (round_c _) S bg g n k1 ([]) w1 R1 Hp1 r s' hf (fun S1 w2 G1 => hR1 _ _ _ G1 fun H3 => ?_))
  refine Sx.rt 4 [] H3 (.bool r) ?_
  subst hL0
  exact Gx.ret_as (v' := .bool r) (by rfl) (hK S1 _ (H3.pick (a := [GI S1 bg g]) [0] (by kernel_rfl)))
set_option maxHeartbeats 8000000 in
theorem parts_c_s (k : Nat) (ih : ∀ (S : Nat → Prop) (bg : Nat) (g : G) (n : Nat) (bs : Nat) (s : Seen) (w : World) (K : Ending → World → Prop) (H0 : Sp w [GI S bg g, seenM bs s]) (r : Nat) (s' : Seen) (hf : parts k g n s = some (r, s')) (hK : ∀ (S' : Nat → Prop) w', Hs w [GI S bg g, seenM bs s] w' [GI S' bg g, seenM bs s'] → K (.returned (.int .i64 (r : Int))) w'),
    Calls Try.prog 43 #[.pointer (some ⟨bg, 0, none⟩), .int .i64 ((n : Nat) : Int), .map (some bs)] w K) (S : Nat → Prop) (bg : Nat) (g : G) (n : Nat) (bs : Nat) (s : Seen) (w : World) (K : Ending → World → Prop) (H0 : Sp w [GI S bg g, seenM bs s]) (r : Nat) (s' : Seen) (hf : parts (k + 1) g n s = some (r, s')) (hK : ∀ (S' : Nat → Prop) w', Hs w [GI S bg g, seenM bs s] w' [GI S' bg g, seenM bs s'] → K (.returned (.int .i64 (r : Int))) w') :
    Calls Try.prog 43 #[.pointer (some ⟨bg, 0, none⟩), .int .i64 ((n : Nat) : Int), .map (some bs)] w K := by
  obtain ⟨L0, hL0, H⟩ : ∃ L0, L0 = [GI S bg g, seenM bs s] ∧ Hs w L0 w [GI S bg g, seenM bs s] := ⟨_, rfl, Hs.refl H0⟩
  refine Sx.en (vs := [.pointer (some ⟨bg, 0, none⟩), .int .i64 ((n : Nat) : Int), .map (some bs)]) 90 Try.func43 ?_
  obtain ⟨u1, hn, hs0, hs1⟩ := parts_cases hf
  refine Sx.c 9 [0] H (fun Hp1 R1 hR1 => Find_c S bg g n w R1 Hp1 _ u1 hn (fun S1 w1 G1 => hR1 _ _ _ G1 fun H1 => ?_))
  refine lks (t := 66) (kt := 3) (et := 3) 8 1 bs u1 s H1 (by kernel_rfl) ?_
  refine Sx.br 3 (decide (((s.at u1 : Nat) : Int) > (0 : Int))) (fun h_c16 => ?_) (fun h_c16 => ?_)
  · skip
    have p_c16 := of_decide_eq_true h_c16
    obtain ⟨rfl, rfl⟩ := hs0 (by omega)
    refine lks (t := 66) (kt := 3) (et := 3) 4 1 bs u1 s H1 (by kernel_rfl) ?_
    refine Sx.rt 5 [] H1 (.int .i64 ((s.at u1 : Nat) : Int)) ?_
    subst hL0
    exact Gx.ret_as (v' := .int .i64 ((s.at u1 : Nat) : Int)) (by rfl) (hK S1 _ (H1.pick (a := [GI S1 bg g, seenM bs _]) [0, 0] (by kernel_rfl)))
  have p_c16 := of_decide_eq_false h_c16
  obtain ⟨y, hy, hy0, hy1⟩ := hs1 (by omega)
  obtain ⟨⟨⟨kA, kC⟩, ⟨aA, aC⟩, ⟨bA, bC⟩, ⟨rA, rC⟩, ⟨lA, lC⟩, ⟨oA, oC⟩, ⟨nA, nC⟩, mbt, mbr, msl, mS, nk, no⟩, H2⟩ := G_open H1 0 (S := S1) (bg := bg) (g := g) (by kernel_rfl)
  obtain ⟨lk, la, lb, lr, ll, lo, ln, ls⟩ := G_len H2
  simp only at lk la lb lr ll lo ln ls
  have hnl : u1 < nk := by rw [← la]; exact at_lt hy
  obtain ⟨wa, rfl⟩ := H2.row 2 (A := aA) (e := 3) (sz := 1) (cap := aC) (n := nk) (xs := (onats (g.a))) (by kernel_rfl) (by omega)
  refine Sx.cut 7 (fun l' w' => ∃ (S1 : Nat → Prop) (s1 : Seen) (d1 : Nat), l' = [(0, .pointer (some ⟨bg, 0, none⟩)), (1, .int .i64 ((u1 : Nat) : Int)), (2, .map (some bs)), (7, .int .i64 ((d1 : Nat) : Int))] ∧ Hs w L0 w' [GI S1 bg g, seenM bs s1] ∧ (PB k g u1 d1 s1 r s')) (fun K1 hK1 => ?_) (fun b1 l1 w2 hI1 => ?_)
  · skip
    refine Sx.l 5 0 H2 ?_
    refine Sx.ir 1 wa u1 1 nk aC (by omega) ?_
    refine Sx.lr 0 2 3 1 3 wa aC nk (u1 * 1) (onats (g.a)) H2 (.int .i64 (eI y)) (onats_at hy) ?_
    refine Sx.br 3 (decide ((eI y) ≥ (0 : Int))) (fun h_c27 => ?_) (fun h_c27 => ?_)
    · skip
      obtain ⟨p, rfl⟩ := eI_ge1 h_c27
      obtain ⟨j, s2, hsm, hr1⟩ := hy1 p rfl
      have hle := PB_le hr1
      refine Sx.l 6 0 H2 ?_
      refine Sx.ir 1 wa u1 1 nk aC (by omega) ?_
      refine Sx.lr 0 2 3 1 3 wa aC nk (u1 * 1) (onats (g.a)) H2 (.int .i64 ((p : Nat) : Int)) (onats_some hy) ?_
      obtain ⟨S2, H3⟩ := G_close H2 [0, 0, 0, 0, 0, 0, 0, 0, 0, 0, 0] (bg := bg) (g := g) ⟨(kA, kC), ((some ⟨wa, 0, none⟩), aC), (bA, bC), (rA, rC), (lA, lC), (oA, oC), (nA, nC), mbt, mbr, msl, mS, nk, no⟩ (by kernel_rfl)
      refine Sx.c 1 [0, 0] H3 (fun Hp2 R2 hR2 => ih S2 bg g p bs s w1 R2 Hp2 j s2 hsm (fun S3 w3 G2 => hR2 _ _ _ G2 fun H4 => ?_))
      refine Sx.v 0 (.int .i64 (IntKind.i64.wrap ((1 : Int) + ((j : Nat) : Int)))) (.int .i64 ((1 + j : Nat) : Int)) (congrArg (Value.int .i64) (Gx.i64n (by omega) (by omega))) ?_
      exact Sx.to 2 [(0, .pointer (some ⟨bg, 0, none⟩)), (1, .int .i64 ((u1 : Nat) : Int)), (2, .map (some bs)), (7, .int .i64 ((1 + j : Nat) : Int))] (hK1 _ _ _ ⟨S3, s2, 1 + j, rfl, H4, hr1⟩)
    have hnone := eI_ge0 h_c27
    obtain ⟨S4, H5⟩ := G_close H2 [0, 0, 0, 0, 0, 0, 0, 0, 0, 0, 0] (bg := bg) (g := g) ⟨(kA, kC), ((some ⟨wa, 0, none⟩), aC), (bA, bC), (rA, rC), (lA, lC), (oA, oC), (nA, nC), mbt, mbr, msl, mS, nk, no⟩ (by kernel_rfl)
    exact Sx.to 1 [(0, .pointer (some ⟨bg, 0, none⟩)), (1, .int .i64 ((u1 : Nat) : Int)), (2, .map (some bs)), (7, .int .i64 1)] (hK1 _ _ _ ⟨S4, s, 1, rfl, H5, (hy0 hnone)⟩)
  obtain ⟨S1, s1, d1, rfl, H6, hB⟩ := hI1
  have hle1 := PB_le hB
  obtain ⟨y, hy, hy0, hy1⟩ := hB
  obtain ⟨⟨⟨kA1, kC1⟩, ⟨aA1, aC1⟩, ⟨bA1, bC1⟩, ⟨rA1, rC1⟩, ⟨lA1, lC1⟩, ⟨oA1, oC1⟩, ⟨nA1, nC1⟩, mbt1, mbr1, msl1, mS1, nk1, no1⟩, H7⟩ := G_open H6 0 (S := S1) (bg := bg) (g := g) (by kernel_rfl)
  obtain ⟨lk1, la1, lb1, lr1, ll1, lo1, ln1, ls1⟩ := G_len H7
  simp only at lk1 la1 lb1 lr1 ll1 lo1 ln1 ls1
  have hnl : u1 < nk1 := by rw [← lb1]; exact at_lt hy
  obtain ⟨wb1, rfl⟩ := H7.row 3 (A := bA1) (e := 3) (sz := 1) (cap := bC1) (n := nk1) (xs := (onats (g.b))) (by kernel_rfl) (by omega)
  refine Sx.cut 0 (fun l' w' => ∃ (S2 : Nat → Prop) (s3 : Seen) (d2 : Nat), l' = [(0, .pointer (some ⟨bg, 0, none⟩)), (1, .int .i64 ((u1 : Nat) : Int)), (2, .map (some bs)), (7, .int .i64 ((d2 : Nat) : Int))] ∧ Hs w L0 w' [GI S2 bg g, seenM bs s3] ∧ (PC k g u1 d2 s3 r s')) (fun K2 hK2 => ?_) (fun b2 l2 w4 hI2 => ?_)
  · skip
    refine Sx.l 5 0 H7 ?_
    refine Sx.ir 1 wb1 u1 1 nk1 bC1 (by omega) ?_
    refine Sx.lr 0 3 3 1 3 wb1 bC1 nk1 (u1 * 1) (onats (g.b)) H7 (.int .i64 (eI y)) (onats_at hy) ?_
    refine Sx.br 3 (decide ((eI y) ≥ (0 : Int))) (fun h_c47 => ?_) (fun h_c47 => ?_)
    · skip
      obtain ⟨p, rfl⟩ := eI_ge1 h_c47
      obtain ⟨j, s2, hsm, hr1⟩ := hy1 p rfl
      have hle := PC_le hr1
      refine Sx.l 6 0 H7 ?_
      refine Sx.ir 1 wb1 u1 1 nk1 bC1 (by omega) ?_
      refine Sx.lr 0 3 3 1 3 wb1 bC1 nk1 (u1 * 1) (onats (g.b)) H7 (.int .i64 ((p : Nat) : Int)) (onats_some hy) ?_
      obtain ⟨S5, H8⟩ := G_close H7 [0, 0, 0, 0, 0, 0, 0, 0, 0, 0, 0] (bg := bg) (g := g) ⟨(kA1, kC1), (aA1, aC1), ((some ⟨wb1, 0, none⟩), bC1), (rA1, rC1), (lA1, lC1), (oA1, oC1), (nA1, nC1), mbt1, mbr1, msl1, mS1, nk1, no1⟩ (by kernel_rfl)
      refine Sx.c 1 [0, 0] H8 (fun Hp3 R3 hR3 => ih S5 bg g p bs s1 w2 R3 Hp3 j s2 hsm (fun S6 w5 G3 => hR3 _ _ _ G3 fun H9 => ?_))
      refine Sx.v 0 (.int .i64 (IntKind.i64.wrap (((d1 : Nat) : Int) + ((j : Nat) : Int)))) (.int .i64 ((d1 + j : Nat) : Int)) (congrArg (Value.int .i64) (Gx.i64n (by omega) (by omega))) ?_
      exact Sx.to 2 [(0, .pointer (some ⟨bg, 0, none⟩)), (1, .int .i64 ((u1 : Nat) : Int)), (2, .map (some bs)), (7, .int .i64 ((d1 + j : Nat) : Int))] (hK2 _ _ _ ⟨S6, s2, d1 + j, rfl, H9, hr1⟩)
    have hnone := eI_ge0 h_c47
    obtain ⟨S7, H10⟩ := G_close H7 [0, 0, 0, 0, 0, 0, 0, 0, 0, 0, 0] (bg := bg) (g := g) ⟨(kA1, kC1), (aA1, aC1), ((some ⟨wb1, 0, none⟩), bC1), (rA1, rC1), (lA1, lC1), (oA1, oC1), (nA1, nC1), mbt1, mbr1, msl1, mS1, nk1, no1⟩ (by kernel_rfl)
    exact Sx.to 1 [(0, .pointer (some ⟨bg, 0, none⟩)), (1, .int .i64 ((u1 : Nat) : Int)), (2, .map (some bs)), (7, .int .i64 ((d1 : Nat) : Int))] (hK2 _ _ _ ⟨S7, s1, d1, rfl, H10, (hy0 hnone)⟩)
  obtain ⟨S2, s3, d2, rfl, H11, hC⟩ := hI2
  obtain ⟨kd, hkd, hk0, hk1⟩ := hC
  obtain ⟨⟨⟨kA2, kC2⟩, ⟨aA2, aC2⟩, ⟨bA2, bC2⟩, ⟨rA2, rC2⟩, ⟨lA2, lC2⟩, ⟨oA2, oC2⟩, ⟨nA2, nC2⟩, mbt2, mbr2, msl2, mS2, nk2, no2⟩, H12⟩ := G_open H11 0 (S := S2) (bg := bg) (g := g) (by kernel_rfl)
  obtain ⟨lk2, la2, lb2, lr2, ll2, lo2, ln2, ls2⟩ := G_len H12
  simp only at lk2 la2 lb2 lr2 ll2 lo2 ln2 ls2
  have hnl : u1 < nk2 := by rw [← lk2]; exact at_lt hkd
  obtain ⟨wk2, rfl⟩ := H12.row 1 (A := kA2) (e := 3) (sz := 1) (cap := kC2) (n := nk2) (xs := (nats (g.kind))) (by kernel_rfl) (by omega)
  obtain ⟨wr2, rfl⟩ := H12.row 4 (A := rA2) (e := 3) (sz := 1) (cap := rC2) (n := nk2) (xs := (nats (g.row))) (by kernel_rfl) (by omega)
  refine Sx.cut 0 (fun l' w' => ∃ (S3 : Nat → Prop) (s4 : Seen) (d3 : Nat), l' = [(1, .int .i64 ((u1 : Nat) : Int)), (2, .map (some bs)), (7, .int .i64 ((d3 : Nat) : Int))] ∧ Hs w L0 w' [GI S3 bg g, seenM bs s4] ∧ (PD u1 d3 0 s4 r s')) (fun K3 hK3 => ?_) (fun b3 l3 w6 hI3 => ?_)
  · skip
    refine Sx.l 5 0 H12 ?_
    refine Sx.ir 1 wk2 u1 1 nk2 kC2 (by omega) ?_
    refine Sx.lr 0 1 3 1 3 wk2 kC2 nk2 (u1 * 1) (nats (g.kind)) H12 (.int .i64 ((kd : Nat) : Int)) (nats_at hkd) ?_
    refine Sx.br 3 (((kd : Nat) : Int) == (6 : Int)) (fun h_c67 => ?_) (fun h_c67 => ?_)
    · skip
      have p_c67 := Gx.k1 h_c67
      obtain ⟨q, l, v, hq, hw, hd⟩ := hk1 (by omega)
      have hle := hd.1
      refine Sx.l 6 0 H12 ?_
      refine Sx.ir 1 wr2 u1 1 nk2 rC2 (by omega) ?_
      refine Sx.lr 0 4 3 1 3 wr2 rC2 nk2 (u1 * 1) (nats (g.row)) H12 (.int .i64 ((q : Nat) : Int)) (nats_at hq) ?_
      obtain ⟨S8, H13⟩ := G_close H12 [0, 0, 0, 0, 0, 0, 0, 0, 0, 0, 0] (bg := bg) (g := g) ⟨((some ⟨wk2, 0, none⟩), kC2), (aA2, aC2), (bA2, bC2), ((some ⟨wr2, 0, none⟩), rC2), (lA2, lC2), (oA2, oC2), (nA2, nC2), mbt2, mbr2, msl2, mS2, nk2, no2⟩ (by kernel_rfl)
      refine Sx.c 0 [0] H13 (fun Hp4 R4 hR4 => Whole_c S8 bg g q w4 R4 Hp4 _ v l hw (fun S9 S10 A1 n1 c1 w7 G4 hn1 hc1 => hR4 _ _ _ G4 fun H14 => ?_))
      refine Sx.v 11 (.int .i64 (IntKind.i64.wrap (((d2 : Nat) : Int) + ((n1 : Nat) : Int)))) (.int .i64 ((d2 + n1 : Nat) : Int)) (congrArg (Value.int .i64) (Gx.i64n (by omega) (by omega))) ?_
      have hj : n1 = l.length := by omega
      have H15 := H14.pick (a := [GI S9 bg g, seenM bs s3]) [0, 1] (by kernel_rfl)
      exact Sx.to 2 [(1, .int .i64 ((u1 : Nat) : Int)), (2, .map (some bs)), (7, .int .i64 ((d2 + n1 : Nat) : Int))] (hK3 _ _ _ ⟨S9, s3, d2 + n1, rfl, H15, (by have := hd; unfold PD at this ⊢; simpa [hj] using this)⟩)
    have p_c67 := Gx.k0 h_c67
    have hd := hk0 (by omega)
    obtain ⟨S11, H16⟩ := G_close H12 [0, 0, 0, 0, 0, 0, 0, 0, 0, 0, 0] (bg := bg) (g := g) ⟨((some ⟨wk2, 0, none⟩), kC2), (aA2, aC2), (bA2, bC2), ((some ⟨wr2, 0, none⟩), rC2), (lA2, lC2), (oA2, oC2), (nA2, nC2), mbt2, mbr2, msl2, mS2, nk2, no2⟩ (by kernel_rfl)
    exact Sx.to 1 [(1, .int .i64 ((u1 : Nat) : Int)), (2, .map (some bs)), (7, .int .i64 ((d2 : Nat) : Int))] (hK3 _ _ _ ⟨S11, s3, d2, rfl, H16, hd⟩)
  obtain ⟨S3, s4, d3, rfl, H17, hD⟩ := hI3
  obtain ⟨hd0, hd1, rfl⟩ := hD
  refine Sx.br 7 (decide (((d3 : Nat) : Int) > (1000000 : Int))) (fun h_c85 => ?_) (fun h_c85 => ?_)
  · skip
    have p_c85 := of_decide_eq_true h_c85
    rw [Nat.add_zero] at hd1
    have hm : min (d3 + 0) 1000000 = 1000000 := by omega
    have hr9 : r = 1000000 := by omega
    subst hr9
    refine mus (t := 66) (kt := 3) (et := 3) 9 1 bs u1 1000000 s4 H17 (by kernel_rfl) fun w8 H18 => ?_
    refine Sx.rt 9 [] H18 (.int .i64 1000000) ?_
    rw [hm] at hK
    subst hL0
    exact Gx.ret_as (v' := .int .i64 1000000) (by rfl) (hK S3 _ (H18.pick (a := [GI S3 bg g, seenM bs _]) [0, 0] (by kernel_rfl)))
  have p_c85 := of_decide_eq_false h_c85
  have hm : min (d3 + 0) 1000000 = d3 := by omega
  have hr9 : d3 = r := by omega
  subst hr9
  refine mus (t := 66) (kt := 3) (et := 3) 7 1 bs u1 d3 s4 H17 (by kernel_rfl) fun w9 H19 => ?_
  refine Sx.rt 9 [] H19 (.int .i64 ((d3 : Nat) : Int)) ?_
  rw [hm] at hK
  subst hL0
  exact Gx.ret_as (v' := .int .i64 ((d3 : Nat) : Int)) (by rfl) (hK S3 _ (H19.pick (a := [GI S3 bg g, seenM bs _]) [0, 0] (by kernel_rfl)))
theorem parts_c (k : Nat) : ∀ (S : Nat → Prop) (bg : Nat) (g : G) (n : Nat) (bs : Nat) (s : Seen) (w : World) (K : Ending → World → Prop) (H0 : Sp w [GI S bg g, seenM bs s]) (r : Nat) (s' : Seen) (hf : parts k g n s = some (r, s')) (hK : ∀ (S' : Nat → Prop) w', Hs w [GI S bg g, seenM bs s] w' [GI S' bg g, seenM bs s'] → K (.returned (.int .i64 (r : Int))) w'),
    Calls Try.prog 43 #[.pointer (some ⟨bg, 0, none⟩), .int .i64 ((n : Nat) : Int), .map (some bs)] w K := by
  induction k with
  | zero => intro S bg g n bs s w K H0 r s' hf; exact absurd hf (by simp [parts])
  | succ k ih => exact parts_c_s k ih
theorem Parts_c (S : Nat → Prop) (bg : Nat) (g : G) (n : Nat) (w : World) (K : Ending → World → Prop) (H0 : Sp w [GI S bg g]) (k : Nat) (r : Nat) (s' : Seen) (hf : parts k g n [] = some (r, s')) (hK : ∀ (S' : Nat → Prop) w', Hs w [GI S bg g] w' [GI S' bg g] → K (.returned (.int .i64 (r : Int))) w') :
    Calls Try.prog 21 #[.pointer (some ⟨bg, 0, none⟩), .int .i64 ((n : Nat) : Int)] w K := by
  obtain ⟨L0, hL0, H⟩ : ∃ L0, L0 = [GI S bg g] ∧ Hs w L0 w [GI S bg g] := ⟨_, rfl, Hs.refl H0⟩
  refine Sx.en (vs := [.pointer (some ⟨bg, 0, none⟩), .int .i64 ((n : Nat) : Int)]) 9 Try.func21 ?_
  refine Sx.nw 9 H fun k1 w1 H1 => ?_
  have H2 := mapI_new (.int .i64) encN (bt := k1) (i := 1) H1 (by kernel_rfl)
  refine Sx.c 0 [0, 0] H2 (fun Hp1 R1 hR1 => (parts_c _) S bg g n k1 ([]) w1 R1 Hp1 r s' hf (fun S1 w2 G1 => hR1 _ _ _ G1 fun H3 => ?_))
  refine Sx.rt 4 [] H3 (.int .i64 ((r : Nat) : Int)) ?_
  subst hL0
  exact Gx.ret_as (v' := .int .i64 ((r : Nat) : Int)) (by rfl) (hK S1 _ (H3.pick (a := [GI S1 bg g]) [0] (by kernel_rfl)))
theorem number_c (bm : Nat) (l : List (Int × Nat)) (u : Nat) (w : World) (K : Ending → World → Prop) (H0 : Sp w [mapN bm l]) (hz : l.length < 1000000000) (hK : ∀ w', Hs w [mapN bm l] w' [mapN bm (numb l u).1] → K (.returned (.int .i64 ((numb l u).2 : Int))) w') :
    Calls Try.prog 44 #[.map (some bm), .int .i64 ((u : Nat) : Int)] w K := by
  obtain ⟨L0, hL0, H⟩ : ∃ L0, L0 = [mapN bm l] ∧ Hs w L0 w [mapN bm l] := ⟨_, rfl, Hs.refl H0⟩
  refine Sx.en (vs := [.map (some bm), .int .i64 ((u : Nat) : Int)]) 22 Try.func44 ?_
  obtain ⟨o, ho⟩ : ∃ o, lookI (u : Int) l = o := ⟨_, rfl⟩
  refine lki (t := 66) (kt := 3) (et := 3) 9 0 bm ((u : Nat) : Int) l o ho H (by kernel_rfl) ?_
  refine Sx.br 14 (!o.isSome) (fun h_c14 => ?_) (fun h_c14 => ?_)
  · skip
    have ho' := isSome_f h_c14
    rw [numb_none (ho.trans ho')] at hK
    refine mli (t := 66) (kt := 3) (et := 3) 3 0 bm l H (by kernel_rfl) ?_
    refine Sx.v 0 (.int .i64 (IntKind.i64.wrap (((l.length : Nat) : Int) + (1 : Int)))) (.int .i64 ((l.length + 1 : Nat) : Int)) (congrArg (Value.int .i64) (Gx.i64n (by omega) (by omega))) ?_
    refine mui (t := 66) (kt := 3) (et := 3) 7 0 bm ((u : Nat) : Int) (l.length + 1) l (ho.trans ho') H (by kernel_rfl) fun w1 H1 => ?_
    refine Sx.rt 9 [] H1 (.int .i64 ((l.length + 1 : Nat) : Int)) ?_
    subst hL0
    exact Gx.ret_as (v' := .int .i64 ((l.length + 1 : Nat) : Int)) (by rfl) (hK  _ (H1.pick (a := [mapN bm _]) [0] (by kernel_rfl)))
  obtain ⟨q, hq⟩ := isSome_t h_c14
  rw [numb_some (ho.trans hq)] at hK
  refine Sx.rt 9 [] H (.int .i64 ((o.getD 0 : Nat) : Int)) ?_
  subst hL0
  exact Gx.ret_as (v' := .int .i64 (q : Int)) (by rw [hq]; rfl) (hK  _ (H.pick (a := [mapN bm _]) [0] (by kernel_rfl)))
theorem Fresh_c  (w : World) (K : Ending → World → Prop) (H0 : Sp w []) (hK : ∀ (bt : Nat) (br : Nat) w', Hs w [] w' [mapN bt [], mapN br []] → K (.returned (.agg #[.map (some bt), .map (some br)])) w') :
    Calls Try.prog 22 #[] w K := by
  obtain ⟨L0, hL0, H⟩ : ∃ L0, L0 = [] ∧ Hs w L0 w [] := ⟨_, rfl, Hs.refl H0⟩
  refine Sx.en (vs := []) 4 Try.func22 ?_
  refine Sx.nw 2 H fun k1 w1 H1 => ?_
  refine Sx.nw 4 H1 fun k2 w2 H2 => ?_
  have H3 := mapI_new (.int .i64) encN (bt := k2) (i := 1) H2 (by kernel_rfl)
  refine Sx.nw 0 H3 fun k3 w3 H4 => ?_
  have H5 := mapI_new (.int .i64) encN (bt := k3) (i := 2) H4 (by kernel_rfl)
  refine Sx.s 1 0 H5 fun w4 H6 => ?_
  refine Sx.rt 3 [0] H6 (.agg #[.map (some k2), .map (some k3)]) ?_
  subst hL0
  exact hK k2 k3 _ (H6.pick (a := [mapN k2 [], mapN k3 []]) [1, 1] (by kernel_rfl))
theorem New_c  (w : World) (K : Ending → World → Prop) (H0 : Sp w []) (hK : ∀ (S' : Nat → Prop) (bg : Nat) w', Hs w [] w' [GI S' bg G.new] → K (.returned (.pointer (some ⟨bg, 0, none⟩))) w') :
    Calls Try.prog 17 #[] w K := by
  obtain ⟨L0, hL0, H⟩ : ∃ L0, L0 = [] ∧ Hs w L0 w [] := ⟨_, rfl, Hs.refl H0⟩
  refine Sx.en (vs := []) 7 Try.func17 ?_
  refine Sx.nw 7 H fun k1 w1 H1 => ?_
  refine Sx.nw 0 H1 fun k2 w2 H2 => ?_
  refine Sx.nw 0 H2 fun k3 w3 H3 => ?_
  have H4 := mapI_new (.int .i64) encN (bt := k3) (i := 2) H3 (by kernel_rfl)
  refine Sx.nw 0 H4 fun k4 w4 H5 => ?_
  have H6 := mapI_new (.int .i64) encN (bt := k4) (i := 3) H5 (by kernel_rfl)
  refine Sx.nw 1 H6 fun k5 w5 H7 => ?_
  refine Sx.rt 4 [] H7 (.pointer (some ⟨k5, 0, none⟩)) ?_
  have H8 := Hs.toOwn (k := k1) (e := 30) (cs := #[.slice none 0 0]) H7 0 1 1 (by kernel_rfl) (by rfl) (by omega)
  have H9 := Hs.toOwn (k := k2) (e := 3) (cs := #[.int .i64 0]) H8 1 1 1 (by kernel_rfl) (by rfl) (by omega)
  have H10 := H9.add (Gx.Ext.refl _) (it := .own 3 1 none 0 0 []) (World.ownsRow_nil _ _ _ _) (fun _ h => by cases h)
  have H11 := H10.add (Gx.Ext.refl _) (it := .own 3 1 none 0 0 []) (World.ownsRow_nil _ _ _ _) (fun _ h => by cases h)
  have H12 := H11.add (Gx.Ext.refl _) (it := .own 3 1 none 0 0 []) (World.ownsRow_nil _ _ _ _) (fun _ h => by cases h)
  have H13 := H12.add (Gx.Ext.refl _) (it := .own 3 1 none 0 0 []) (World.ownsRow_nil _ _ _ _) (fun _ h => by cases h)
  have H14 := H13.add (Gx.Ext.refl _) (it := .own 3 1 none 0 0 []) (World.ownsRow_nil _ _ _ _) (fun _ h => by cases h)
  have H15 := H14.add (Gx.Ext.refl _) (it := rowsI (fun _ => False) [(none, 0, 0)] [[]]) rowsI_new (fun _ h => h.elim)
  obtain ⟨S1, H16⟩ := G_close H15 [4, 4, 4, 4, 4, 4, 0, 0, 0, 0, 0] (bg := k5) (g := G.new) ⟨(none, 0), (none, 0), (none, 0), (none, 0), (none, 0), (some ⟨k1, 0, none⟩, 1), (some ⟨k2, 0, none⟩, 1), k3, k4, [(none, 0, 0)], (fun _ => False), 0, 1⟩ (by kernel_rfl)
  subst hL0
  exact hK S1 k5 _ (H16.pick (a := [GI S1 k5 G.new]) [0] (by kernel_rfl))
end Go.Proofs.Ytfkkocjheeoobaa
