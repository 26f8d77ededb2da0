/- A part of the proof (YtokplpijjnkboaaStw2), printed by a program of ours. -/
import Derived.Test.YtokplpijjnkboaaProg
import Derived.Test.YtokplpijjnkboaaStk
import Derived.Test.YtokplpijjnkboaaStw1
set_option linter.unusedVariables false
set_option linter.unusedSimpArgs false
namespace Go.Proofs.Ytokplpijjnkboaa
open Go.RowKit Go.Sx Go.Stk
attribute [local irreducible] Go.wpOps Go.Code.wp Go.wpOp Go.wpAnyH Go.Calls Go.Sx.Goal
set_option maxRecDepth 20000
theorem segments_c (p : Option Addr) (m : List Seg) (Q : Nat → Prop) (w : World) (K : Ending → World → Prop) (H0 : Sp w [sgI Q p m]) (hb : m.length < 100000000000) (hK : ∀ (A : Option Addr) (bs : List Nat) w', Hs w [sgI Q p m] w' [sgI Q p m, .own 54 1 A m.length m.length (ptrs bs), psI Q 0 bs m] → K (.returned (.slice A m.length m.length)) w') :
    Calls Try.prog 32 #[.agg #[.pointer p]] w K := by
  obtain ⟨L0, hL0, H⟩ : ∃ L0, L0 = [sgI Q p m] ∧ Hs w L0 w [sgI Q p m] := ⟨_, rfl, Hs.refl H0⟩
  refine Sx.en (vs := [.agg #[.pointer p]]) 25 Try.func32 ?_
  refine Sx.nw 2 H fun k1 w1 H1 => ?_
  refine Sx.l 5 1 H1 ?_
  refine Sx.c 0 [0] H1 (fun Hp R hR => Segments_c p m Q w1 R Hp  (fun w2 G1 => hR _ _ _ G1 fun H2 => ?_))
  refine Sx.mk 0 54 8 m.length (.pointer none) H2 (by omega) (by omega) fun g1 w3 H3 => ?_
  refine Sx.l 7 1 H3 ?_
  have hM : m.length = m.length := rfl
  have H4 := row_nil H3 2 54 1 m.length m.length (some ⟨g1, 0, none⟩) (List.replicate m.length (.pointer none)) (by kernel_rfl)
  have H5 := sg_dup H4 0 Q p m (by kernel_rfl)
  have H6 := ps_nil H5 0 Q 0 p m (by kernel_rfl)
  have H7 := H6.pick (a := [sgI Q p m, .own 54 1 (some ⟨g1, 0, none⟩) m.length m.length (List.replicate m.length (.pointer none) ++ ptrs []), sgI Q p m, psI Q 0 ([]) ([])]) [0, 1, 1, 1] (by kernel_rfl)
  refine Sx.lp 4 (fun z l' w' => ∃ (p1 : Option Addr) (m1 : List Seg) (m2 : List Seg) (bs : List Nat), l' = [(3, .slice (some ⟨g1, 0, none⟩) m.length m.length), (4, .pointer p1)] ∧ z = 0 + m1.length ∧ Hs w L0 w' [sgI Q p m, .own 54 1 (some ⟨g1, 0, none⟩) m.length m.length (List.replicate m1.length (Value.pointer none) ++ ptrs bs), sgI Q p1 m1, psI Q 0 bs m2] ∧ (m = m1 ++ m2)) _ [(3, .slice (some ⟨g1, 0, none⟩) m.length m.length), (4, .pointer p)] ⟨p, m, [], [], rfl, rfl, H7, (List.append_nil _).symm⟩ (fun b1 z1 l1 w4 hI1 K1 hK1 => ?_)
  obtain ⟨p1, m1, m2, bs, rfl, rfl, H8, hm⟩ := hI1
  refine sg_cases H8 2 Q p1 m1 (by kernel_rfl) (fun hp hl => ?_) (fun b2 hs1 tg1 fs1 m1 p1 t1 hp hl H9 => ?_)
  · subst hp hl
    obtain rfl : m = m2 := by simpa using hm
    exact Sx.rt 20 [] H8 _ (hK (some ⟨g1, 0, none⟩) bs _ (H8.pe hL0 [0, 0, 1]))
  subst hp hl
  have hl := congrArg List.length hm; simp at hl
  refine Sx.lo (a := ⟨b2, 5, none⟩) (c := 1) (t := 3) 17 [.int .i64 ((m1.length + 1 : Nat) : Int)] (.int .i64 ((m1.length + 1 : Nat) : Int)) (said H9 4 (says_rb (Q := Q) (cs := sgC hs1 tg1 fs1 t1 p1 m1) (e := 66)) (by kernel_rfl) 5 1) ?_
  refine Sx.v 0 (.int .i64 (IntKind.i64.wrap (((m1.length + 1 : Nat) : Int) - (1 : Int)))) (.int .i64 ((m1.length : Nat) : Int)) (congrArg (Value.int .i64) (Gx.i64n (by omega) (by omega))) ?_
  refine Sx.ir 1 g1 m1.length 1 m.length m.length (by omega) ?_
  refine Sx.sr 0 1 54 1 54 g1 m.length m.length (m1.length * 1) (List.replicate (m1 ++ [Seg.mk hs1 tg1 fs1]).length (Value.pointer none) ++ ptrs bs) H9 (.pointer (some ⟨b2, 0, none⟩)) (by rw [Nat.mul_one]; simp <;> omega) (show _ = List.replicate m1.length (Value.pointer none) ++ ptrs (b2 :: bs) by rw [Nat.mul_one, show (m1 ++ [Seg.mk hs1 tg1 fs1]).length = m1.length + 1 by simp]; exact row_set _ _ _) fun w5 H10 => ?_
  refine Sx.lo (a := ⟨b2, 3, none⟩) (c := 1) (t := 54) 7 [.pointer p1] (.pointer p1) (said H10 4 (says_rb (Q := Q) (cs := sgC hs1 tg1 fs1 t1 p1 m1) (e := 66)) (by kernel_rfl) 3 1) ?_
  have H11 := ps_cons H10 3 4 5 Q bs m2 b2 hs1 tg1 fs1 t1 p1 m1 (by kernel_rfl) (by kernel_rfl) (by kernel_rfl)
  have H12 := H11.pick (a := [sgI Q p m, .own 54 1 (some ⟨g1, 0, none⟩) m.length m.length (List.replicate m1.length (Value.pointer none) ++ ptrs (b2 :: bs)), sgI Q p1 m1, psI Q 0 (b2 :: bs) (Seg.mk hs1 tg1 fs1 :: m2)]) [0, 0, 4, 4] (by kernel_rfl)
  exact Sx.to 2 [(3, .slice (some ⟨g1, 0, none⟩) m.length m.length), (4, .pointer p1)] (hK1 _ _ _ _ (by simp) ⟨p1, m1, (Seg.mk hs1 tg1 fs1 :: m2), (b2 :: bs), rfl, rfl, H12, (by rw [hm]; simp)⟩)
theorem Put_c (sb : Nat) (p : Option Addr) (m : List Seg) (Q : Nat → Prop) (pb : Nat) (Qp : Nat → Prop) (q : Option Addr) (mp : List Seg) (Qq : Nat → Prop) (w : World) (K : Ending → World → Prop) (H0 : Sp w [.blk sb (.cells #[.pointer p] 58), sgI Q p m, rbI Qp pb [.pointer q] 78, sgI Qq q mp]) (hb : tot m + m.length + tot mp + mp.length < 100000000000) (hK : ∀ (Q' : Nat → Prop) (p' : Option Addr) w', Hs w [.blk sb (.cells #[.pointer p] 58), sgI Q p m, rbI Qp pb [.pointer q] 78, sgI Qq q mp] w' [.blk sb (.cells #[.pointer p'] 58), sgI Q' p' (m ++ mp), rbI Qp pb [.pointer q] 78, sgI Qq q mp] → K (.returned (.tuple #[])) w') :
    Calls Try.prog 23 #[.pointer (some ⟨sb, 0, none⟩), .pointer (some ⟨pb, 0, none⟩)] w K := by
  obtain ⟨L0, hL0, H⟩ : ∃ L0, L0 = [.blk sb (.cells #[.pointer p] 58), sgI Q p m, rbI Qp pb [.pointer q] 78, sgI Qq q mp] ∧ Hs w L0 w [.blk sb (.cells #[.pointer p] 58), sgI Q p m, rbI Qp pb [.pointer q] 78, sgI Qq q mp] := ⟨_, rfl, Hs.refl H0⟩
  refine Sx.en (vs := [.pointer (some ⟨sb, 0, none⟩), .pointer (some ⟨pb, 0, none⟩)]) 30 Try.func23 ?_
  refine Sx.lo (a := ⟨pb, 0, none⟩) (c := 1) (t := 56) 15 [.pointer q] (.agg #[.pointer q]) (said H 2 (says_rb (Q := Qp) (cs := [.pointer q]) (e := 78)) (by kernel_rfl) 0 1) ?_
  refine Sx.c 0 [3] H (fun Hp R hR => segments_c q mp Qq w R Hp (by omega) (fun A1 bs1 w1 G1 => hR _ _ _ G1 fun H1 => ?_))
  have H2 := H1.pick (a := [.blk sb (.cells #[.pointer p] 58), sgI Q p m, rbI Qp pb [.pointer q] 78, sgI Qq q mp, .own 54 1 A1 mp.length mp.length (ptrs bs1), psI Qq 0 bs1 mp]) [3, 3, 3, 0, 0, 0] (by kernel_rfl)
  refine Sx.lp 5 (fun z l' w' => ∃ (i : Nat) (p1 : Option Addr) (m1 : List Seg) (Q1 : Nat → Prop), l' = [(0, .pointer (some ⟨sb, 0, none⟩)), (12, .slice A1 mp.length mp.length), (13, .int .i64 ((mp.length : Nat) : Int)), (14, .int .i64 ((i : Nat) : Int))] ∧ z = mp.length - i ∧ Hs w L0 w' [.blk sb (.cells #[.pointer p1] 58), sgI Q1 p1 m1, rbI Qp pb [.pointer q] 78, sgI Qq q mp, .own 54 1 A1 mp.length mp.length (ptrs bs1), psI Qq 0 bs1 mp] ∧ (i ≤ mp.length) ∧ (m1 = m ++ mp.take i)) _ [(0, .pointer (some ⟨sb, 0, none⟩)), (12, .slice A1 mp.length mp.length), (13, .int .i64 ((mp.length : Nat) : Int)), (14, .int .i64 ((0 : Nat) : Int))] ⟨0, p, m, Q, rfl, rfl, H2, (Nat.zero_le _), (by simp)⟩ (fun b1 z1 l1 w2 hI1 K1 hK1 => ?_)
  obtain ⟨i, p1, m1, Q1, rfl, rfl, H3, hi, hm1⟩ := hI1
  refine Sx.br 6 (decide (((i : Nat) : Int) < ((mp.length : Nat) : Int))) (fun h_c15 => ?_) (fun h_c15 => ?_)
  · skip
    have p_c15 := of_decide_eq_true h_c15
    obtain ⟨⟨hs1, tg1, fs1⟩, hmi1⟩ : ∃ s, (mp)[i]? = some s := ⟨_, List.getElem?_eq_getElem (by omega)⟩
    refine ps_at H3 5 Qq 0 bs1 mp i hs1 tg1 fs1 (by kernel_rfl) hmi1 (fun b2 t1 u1 x1 y1 hbi1 H4 => ?_)
    obtain ⟨g1, rfl⟩ := H4.row 4 (A := A1) (e := 54) (sz := 1) (cap := mp.length) (n := mp.length) (xs := (ptrs bs1)) (by kernel_rfl) (by omega)
    have hta := tot_at hmi1
    have htm : tot m1 = tot m + tot (mp.take i) := by rw [hm1, tot_app]
    have hlm : m1.length = m.length + i := by rw [hm1]; simp; omega
    simp only at hta
    refine Sx.ir 6 g1 i 1 mp.length mp.length (by omega) ?_
    refine Sx.lr 0 4 54 1 54 g1 mp.length mp.length (i * 1) (ptrs bs1) H4 (.pointer (some ⟨b2, 0, none⟩)) (ptrs_ld hbi1) ?_
    refine Sx.l 10 0 H4 ?_
    refine Sx.c 0 [6, 6, 1] H4 (fun Hp R hR => on_c b2 (rbI Qq b2 [.bool hs1, .int .i64 tg1, .pointer t1, .pointer u1, .int .i64 x1, .int .i64 y1] 66) hs1 tg1 fs1 t1 u1 x1 y1 Qq p1 m1 Q1 w2 R Hp (says_rb (Q := Qq) (cs := [.bool hs1, .int .i64 tg1, .pointer t1, .pointer u1, .int .i64 x1, .int .i64 y1]) (e := 66)) (by omega) (by omega) (fun Q1 p1 w3 G2 => hR _ _ _ G2 fun H5 => ?_))
    refine Sx.s 3 2 H5 fun w4 H6 => ?_
    refine Sx.v 4 (.int .i64 (IntKind.i64.wrap (((i : Nat) : Int) + (1 : Int)))) (.int .i64 ((i + 1 : Nat) : Int)) (congrArg (Value.int .i64) (Gx.i64n (by omega) (by omega))) ?_
    have H7 := H6.pick (a := [.blk sb (.cells #[.pointer p1] 58), sgI Q1 p1 (m1 ++ [Seg.mk hs1 tg1 fs1]), rbI Qp pb [.pointer q] 78, sgI Qq q mp, .own 54 1 (some ⟨g1, 0, none⟩) mp.length mp.length (ptrs bs1), psI Qq 0 bs1 mp]) [2, 1, 1, 1, 1, 1] (by kernel_rfl)
    exact Sx.to 2 [(0, .pointer (some ⟨sb, 0, none⟩)), (12, .slice (some ⟨g1, 0, none⟩) mp.length mp.length), (13, .int .i64 ((mp.length : Nat) : Int)), (14, .int .i64 ((i + 1 : Nat) : Int))] (hK1 _ _ _ _ (by omega) ⟨i + 1, p1, (m1 ++ [Seg.mk hs1 tg1 fs1]), Q1, rfl, rfl, H7, (by omega), (by rw [hm1, List.take_add_one, hmi1]; simp)⟩)
  have p_c15 := of_decide_eq_false h_c15
  have e : m1 = m ++ mp := by rw [hm1, List.take_of_length_le (by omega)]
  subst e
  exact Sx.rt 4 [] H3 _ (hK Q1 p1 _ (H3.pe hL0 [0, 0, 0, 0]))
theorem TagsY_c (l kb : Nat) (acc : (Nat → Prop) → Nat → Sx.Item) (S : Nat → Prop) (p : Option Addr) (m : List Seg) (Q : Nat → Prop) (w : World) (K : Ending → World → Prop) (H0 : Sp w [acc S 0, .blk kb (.cells #[.pointer p] 56), sgI Q p m]) (hb : m.length < 100000000000) (hy : Yc Try.prog l acc (tagsF 0 m)) (hK : ∀ (S' : Nat → Prop) w', Hs w [acc S 0, .blk kb (.cells #[.pointer p] 56), sgI Q p m] w' [acc S' (tagsF 0 m).length, .blk kb (.cells #[.pointer p] 56), sgI Q p m] → K (.returned (.tuple #[])) w') :
    Calls Try.prog 42 #[.func (.yield l) #[] #[], .pointer (some ⟨kb, 0, none⟩)] w K := by
  obtain ⟨L0, hL0, H⟩ : ∃ L0, L0 = [acc S 0, .blk kb (.cells #[.pointer p] 56), sgI Q p m] ∧ Hs w L0 w [acc S 0, .blk kb (.cells #[.pointer p] 56), sgI Q p m] := ⟨_, rfl, Hs.refl H0⟩
  refine Sx.en (vs := [.func (.yield l) #[] #[], .pointer (some ⟨kb, 0, none⟩)]) 28 Try.func42 ?_
  refine Sx.l 2 1 H ?_
  refine Sx.c 0 [2] H (fun Hp R hR => segments_c p m Q w R Hp (by omega) (fun A1 bs1 w1 G1 => hR _ _ _ G1 fun H1 => ?_))
  have H2 := H1.pick (a := [acc S 0, .blk kb (.cells #[.pointer p] 56), sgI Q p m, .own 54 1 A1 m.length m.length (ptrs bs1), psI Q 0 bs1 m]) [3, 3, 0, 0, 0] (by kernel_rfl)
  refine Sx.lp 5 (fun z l' w' => ∃ (i : Nat) (k : Nat) (S1 : Nat → Prop), l' = [(0, .func (.yield l) #[] #[]), (6, .slice A1 m.length m.length), (7, .int .i64 ((m.length : Nat) : Int)), (8, .int .i64 ((i : Nat) : Int))] ∧ z = m.length - i ∧ Hs w L0 w' [acc S1 k, .blk kb (.cells #[.pointer p] 56), sgI Q p m, .own 54 1 A1 m.length m.length (ptrs bs1), psI Q 0 bs1 m] ∧ (i ≤ m.length) ∧ (k = (tagsF 0 (m.take i)).length)) _ [(0, .func (.yield l) #[] #[]), (6, .slice A1 m.length m.length), (7, .int .i64 ((m.length : Nat) : Int)), (8, .int .i64 ((0 : Nat) : Int))] ⟨0, 0, S, rfl, rfl, H2, (Nat.zero_le _), (by simp [tagsF])⟩ (fun b1 z1 l1 w2 hI1 K1 hK1 => ?_)
  obtain ⟨i, k, S1, rfl, rfl, H3, hi, hk⟩ := hI1
  refine Sx.br 6 (decide (((i : Nat) : Int) < ((m.length : Nat) : Int))) (fun h_c9 => ?_) (fun h_c9 => ?_)
  · skip
    have p_c9 := of_decide_eq_true h_c9
    obtain ⟨⟨hs1, tg1, fs1⟩, hmi1⟩ : ∃ s, (m)[i]? = some s := ⟨_, List.getElem?_eq_getElem (by omega)⟩
    refine ps_at H3 4 Q 0 bs1 m i hs1 tg1 fs1 (by kernel_rfl) hmi1 (fun b2 t1 u1 x1 y1 hbi1 H4 => ?_)
    obtain ⟨g1, rfl⟩ := H4.row 3 (A := A1) (e := 54) (sz := 1) (cap := m.length) (n := m.length) (xs := (ptrs bs1)) (by kernel_rfl) (by omega)
    refine Sx.ir 7 g1 i 1 m.length m.length (by omega) ?_
    refine Sx.lr 0 3 54 1 54 g1 m.length m.length (i * 1) (ptrs bs1) H4 (.pointer (some ⟨b2, 0, none⟩)) (ptrs_ld hbi1) ?_
    refine Sx.lo (a := ⟨b2, 0, none⟩) (c := 1) (t := 4) 9 [.bool hs1] (.bool hs1) (said H4 5 (says_rb (Q := Q) (cs := [.bool hs1, .int .i64 tg1, .pointer t1, .pointer u1, .int .i64 x1, .int .i64 y1]) (e := 66)) (by kernel_rfl) 0 1) ?_
    refine Sx.sp 1 17 hs1 (fun h_g17 => ?_) (fun h_g17 => ?_)
    · skip
      refine Sx.lo (a := ⟨b2, 1, none⟩) (c := 1) (t := 3) 5 [.int .i64 tg1] (.int .i64 tg1) (said H4 5 (says_rb (Q := Q) (cs := [.bool hs1, .int .i64 tg1, .pointer t1, .pointer u1, .int .i64 x1, .int .i64 y1]) (e := 66)) (by kernel_rfl) 1 1) ?_
      have p_g17 := h_g17; try simp [-List.getD_eq_getElem?_getD] at p_g17
      refine Sx.y 0 [0] H4 (l := l) (args := [.int .i64 ((i : Nat) : Int), .int .i64 tg1]) (fun Hp R hR => hy k ((i : Nat) : Int) tg1 S1 w2 R (by rw [hk]; apply tags_at (fs := fs1); rw [hmi1]; simp [*]) Hp (fun S1 w3 G2 => hR _ _ _ G2 fun H5 => ?_))
      refine Sx.v 9 (.int .i64 (IntKind.i64.wrap (((i : Nat) : Int) + (1 : Int)))) (.int .i64 ((i + 1 : Nat) : Int)) (congrArg (Value.int .i64) (Gx.i64n (by omega) (by omega))) ?_
      have H6 := H5.pick (a := [acc S1 (k + 1), .blk kb (.cells #[.pointer p] 56), sgI Q p m, .own 54 1 (some ⟨g1, 0, none⟩) m.length m.length (ptrs bs1), psI Q 0 bs1 m]) [0, 0, 0, 0, 0] (by kernel_rfl)
      exact Sx.to 2 [(0, .func (.yield l) #[] #[]), (6, .slice (some ⟨g1, 0, none⟩) m.length m.length), (7, .int .i64 ((m.length : Nat) : Int)), (8, .int .i64 ((i + 1 : Nat) : Int))] (hK1 _ _ _ _ (by omega) ⟨i + 1, k + 1, S1, rfl, rfl, H6, (by omega), (by rw [tags_step hmi1, hk]; simp [*])⟩)
    have p_g17 := h_g17; try simp [-List.getD_eq_getElem?_getD] at p_g17
    refine Sx.v 16 (.int .i64 (IntKind.i64.wrap (((i : Nat) : Int) + (1 : Int)))) (.int .i64 ((i + 1 : Nat) : Int)) (congrArg (Value.int .i64) (Gx.i64n (by omega) (by omega))) ?_
    have H7 := H4.pick (a := [acc S1 k, .blk kb (.cells #[.pointer p] 56), sgI Q p m, .own 54 1 (some ⟨g1, 0, none⟩) m.length m.length (ptrs bs1), psI Q 0 bs1 m]) [0, 0, 0, 0, 0] (by kernel_rfl)
    exact Sx.to 2 [(0, .func (.yield l) #[] #[]), (6, .slice (some ⟨g1, 0, none⟩) m.length m.length), (7, .int .i64 ((m.length : Nat) : Int)), (8, .int .i64 ((i + 1 : Nat) : Int))] (hK1 _ _ _ _ (by omega) ⟨i + 1, k, S1, rfl, rfl, H7, (by omega), (by rw [tags_step hmi1, hk]; simp [*])⟩)
  have p_c9 := of_decide_eq_false h_c9
  have e : k = (tagsF 0 m).length := by rw [hk, List.take_of_length_le (by omega)]
  subst e
  exact Sx.rt 4 [] H3 _ (hK S1 _ (H3.pe hL0 [0, 0, 0]))
theorem AllY_c (l kb : Nat) (acc : (Nat → Prop) → Nat → Sx.Item) (S : Nat → Prop) (p : Option Addr) (m : List Seg) (Q : Nat → Prop) (w : World) (K : Ending → World → Prop) (H0 : Sp w [acc S 0, .blk kb (.cells #[.pointer p] 56), sgI Q p m]) (hb : tot m + m.length < 100000000000) (hy : Yc Try.prog l acc (allF 0 m)) (hK : ∀ (S' : Nat → Prop) w', Hs w [acc S 0, .blk kb (.cells #[.pointer p] 56), sgI Q p m] w' [acc S' (allF 0 m).length, .blk kb (.cells #[.pointer p] 56), sgI Q p m] → K (.returned (.tuple #[])) w') :
    Calls Try.prog 41 #[.func (.yield l) #[] #[], .pointer (some ⟨kb, 0, none⟩)] w K := by
  obtain ⟨L0, hL0, H⟩ : ∃ L0, L0 = [acc S 0, .blk kb (.cells #[.pointer p] 56), sgI Q p m] ∧ Hs w L0 w [acc S 0, .blk kb (.cells #[.pointer p] 56), sgI Q p m] := ⟨_, rfl, Hs.refl H0⟩
  refine Sx.en (vs := [.func (.yield l) #[] #[], .pointer (some ⟨kb, 0, none⟩)]) 57 Try.func41 ?_
  refine Sx.l 2 1 H ?_
  refine Sx.c 0 [2] H (fun Hp R hR => segments_c p m Q w R Hp (by omega) (fun A1 bs1 w1 G1 => hR _ _ _ G1 fun H1 => ?_))
  have H2 := H1.pick (a := [acc S 0, .blk kb (.cells #[.pointer p] 56), sgI Q p m, .own 54 1 A1 m.length m.length (ptrs bs1), psI Q 0 bs1 m]) [3, 3, 0, 0, 0] (by kernel_rfl)
  refine Sx.lp 5 (fun z l' w' => ∃ (i : Nat) (k : Nat) (S1 : Nat → Prop), l' = [(0, .func (.yield l) #[] #[]), (10, .slice A1 m.length m.length), (11, .int .i64 ((m.length : Nat) : Int)), (12, .int .i64 ((i : Nat) : Int))] ∧ z = m.length - i ∧ Hs w L0 w' [acc S1 k, .blk kb (.cells #[.pointer p] 56), sgI Q p m, .own 54 1 A1 m.length m.length (ptrs bs1), psI Q 0 bs1 m] ∧ (i ≤ m.length) ∧ (k = (allF 0 (m.take i)).length)) _ [(0, .func (.yield l) #[] #[]), (10, .slice A1 m.length m.length), (11, .int .i64 ((m.length : Nat) : Int)), (12, .int .i64 ((0 : Nat) : Int))] ⟨0, 0, S, rfl, rfl, H2, (Nat.zero_le _), (by simp [allF])⟩ (fun b1 z1 l1 w2 hI1 K1 hK1 => ?_)
  obtain ⟨i, k, S1, rfl, rfl, H3, hi, hk⟩ := hI1
  refine Sx.br 6 (decide (((i : Nat) : Int) < ((m.length : Nat) : Int))) (fun h_c13 => ?_) (fun h_c13 => ?_)
  · skip
    have p_c13 := of_decide_eq_true h_c13
    obtain ⟨⟨hs1, tg1, fs1⟩, hmi1⟩ : ∃ s, (m)[i]? = some s := ⟨_, List.getElem?_eq_getElem (by omega)⟩
    refine ps_at H3 4 Q 0 bs1 m i hs1 tg1 fs1 (by kernel_rfl) hmi1 (fun b2 t1 u1 x1 y1 hbi1 H4 => ?_)
    obtain ⟨g1, rfl⟩ := H4.row 3 (A := A1) (e := 54) (sz := 1) (cap := m.length) (n := m.length) (xs := (ptrs bs1)) (by kernel_rfl) (by omega)
    have hta := tot_at hmi1
    simp only at hta
    refine Sx.ir 7 g1 i 1 m.length m.length (by omega) ?_
    refine Sx.lr 0 3 54 1 54 g1 m.length m.length (i * 1) (ptrs bs1) H4 (.pointer (some ⟨b2, 0, none⟩)) (ptrs_ld hbi1) ?_
    refine Sx.lo (a := ⟨b2, 2, none⟩) (c := 1) (t := 64) 9 [.pointer t1] (.pointer t1) (said H4 5 (says_rb (Q := Q) (cs := [.bool hs1, .int .i64 tg1, .pointer t1, .pointer u1, .int .i64 x1, .int .i64 y1]) (e := 66)) (by kernel_rfl) 2 1) ?_
    refine Sx.c 0 [6] H4 (fun Hp R hR => count_c t1 fs1 Q w2 R Hp  (hR _ _ _ (.refl Hp) fun _ => ?_))
    refine Sx.mk 0 3 8 fs1.length (.int .i64 0) H4 (by omega) (by omega) fun g2 w3 H5 => ?_
    refine Sx.lo (a := ⟨b2, 2, none⟩) (c := 1) (t := 64) 9 [.pointer t1] (.pointer t1) (said H5 5 (says_rb (Q := Q) (cs := [.bool hs1, .int .i64 tg1, .pointer t1, .pointer u1, .int .i64 x1, .int .i64 y1]) (e := 66)) (by kernel_rfl) 2 1) ?_
    have H6 := ints_nil H5 7 3 1 fs1.length fs1.length (some ⟨g2, 0, none⟩) (List.replicate fs1.length (.int .i64 0)) (by kernel_rfl)
    have H7 := H6.pick (a := [acc S1 k, .blk kb (.cells #[.pointer p] 56), sgI Q p m, .own 54 1 (some ⟨g1, 0, none⟩) m.length m.length (ptrs bs1), psI Q 0 bs1 m, .own 3 1 (some ⟨g2, 0, none⟩) fs1.length fs1.length (List.replicate fs1.length (.int .i64 0) ++ ints []), frI Q t1 fs1]) [0, 0, 0, 0, 0, 2, 1] (by kernel_rfl)
    refine Sx.lp 4 (fun z l' w' => ∃ (p2 : Option Addr) (l1 : List Int) (l2 : List Int), l' = [(0, .func (.yield l) #[] #[]), (3, .int .i64 ((i : Nat) : Int)), (5, .slice (some ⟨g2, 0, none⟩) fs1.length fs1.length), (6, .pointer p2), (10, .slice (some ⟨g1, 0, none⟩) m.length m.length), (11, .int .i64 ((m.length : Nat) : Int)), (12, .int .i64 ((i : Nat) : Int))] ∧ z = 0 + l1.length ∧ Hs w L0 w' [acc S1 k, .blk kb (.cells #[.pointer p] 56), sgI Q p m, .own 54 1 (some ⟨g1, 0, none⟩) m.length m.length (ptrs bs1), psI Q 0 bs1 m, .own 3 1 (some ⟨g2, 0, none⟩) fs1.length fs1.length (List.replicate l1.length (Value.int .i64 0) ++ ints l2), frI Q p2 l1] ∧ (fs1 = l1 ++ l2)) _ [(0, .func (.yield l) #[] #[]), (3, .int .i64 ((i : Nat) : Int)), (5, .slice (some ⟨g2, 0, none⟩) fs1.length fs1.length), (6, .pointer t1), (10, .slice (some ⟨g1, 0, none⟩) m.length m.length), (11, .int .i64 ((m.length : Nat) : Int)), (12, .int .i64 ((i : Nat) : Int))] ⟨t1, fs1, [], rfl, rfl, H7, (List.append_nil _).symm⟩ (fun b3 z2 l2 w4 hI2 K2 hK2 => ?_)
    obtain ⟨p2, l1, l2, rfl, rfl, H8, hfs⟩ := hI2
    refine fr_cases H8 6 Q p2 l1 (by kernel_rfl) (fun hp hl => ?_) (fun b4 f1 l3 p1 hp hl H9 => ?_)
    · subst hp hl
      obtain rfl : fs1 = l2 := by simpa using hfs
      have H10 := H8.pick (a := [acc S1 k, .blk kb (.cells #[.pointer p] 56), sgI Q p m, .own 54 1 (some ⟨g1, 0, none⟩) m.length m.length (ptrs bs1), psI Q 0 bs1 m, .own 3 1 (some ⟨g2, 0, none⟩) fs1.length fs1.length (List.replicate ([] : List Int).length (Value.int .i64 0) ++ ints fs1)]) [0, 0, 0, 0, 0, 0] (by kernel_rfl)
      refine Sx.lp 21 (fun z l' w' => ∃ (j : Nat) (S2 : Nat → Prop), l' = [(0, .func (.yield l) #[] #[]), (3, .int .i64 ((i : Nat) : Int)), (10, .slice (some ⟨g1, 0, none⟩) m.length m.length), (11, .int .i64 ((m.length : Nat) : Int)), (12, .int .i64 ((i : Nat) : Int)), (44, .slice (some ⟨g2, 0, none⟩) fs1.length fs1.length), (45, .int .i64 ((fs1.length : Nat) : Int)), (46, .int .i64 ((j : Nat) : Int))] ∧ z = fs1.length - j ∧ Hs w L0 w' [acc S2 (k + j), .blk kb (.cells #[.pointer p] 56), sgI Q p m, .own 54 1 (some ⟨g1, 0, none⟩) m.length m.length (ptrs bs1), psI Q 0 bs1 m, .own 3 1 (some ⟨g2, 0, none⟩) fs1.length fs1.length (ints fs1)] ∧ (j ≤ fs1.length)) _ [(0, .func (.yield l) #[] #[]), (3, .int .i64 ((i : Nat) : Int)), (10, .slice (some ⟨g1, 0, none⟩) m.length m.length), (11, .int .i64 ((m.length : Nat) : Int)), (12, .int .i64 ((i : Nat) : Int)), (44, .slice (some ⟨g2, 0, none⟩) fs1.length fs1.length), (45, .int .i64 ((fs1.length : Nat) : Int)), (46, .int .i64 ((0 : Nat) : Int))] ⟨0, S1, rfl, rfl, H10, (Nat.zero_le _)⟩ (fun b5 z3 l4 w5 hI3 K3 hK3 => ?_)
      obtain ⟨j, S2, rfl, rfl, H11, hj⟩ := hI3
      refine Sx.br 6 (decide (((j : Nat) : Int) < ((fs1.length : Nat) : Int))) (fun h_c47 => ?_) (fun h_c47 => ?_)
      · skip
        have p_c47 := of_decide_eq_true h_c47
        obtain ⟨f2, hf1⟩ : ∃ f, fs1[j]? = some f := ⟨_, List.getElem?_eq_getElem (by omega)⟩
        refine Sx.ir 6 g2 j 1 fs1.length fs1.length (by omega) ?_
        refine Sx.lr 0 5 3 1 3 g2 fs1.length fs1.length (j * 1) (ints fs1) H11 (.int .i64 f2) (ints_ld hf1) ?_
        refine Sx.y 8 [0] H11 (l := l) (args := [.int .i64 ((i : Nat) : Int), .int .i64 f2]) (fun Hp R hR => hy (k + j) ((i : Nat) : Int) f2 S2 w5 R (by rw [hk]; exact all_at hmi1 hf1) Hp (fun S1 w6 G2 => hR _ _ _ G2 fun H12 => ?_))
        refine Sx.v 8 (.int .i64 (IntKind.i64.wrap (((j : Nat) : Int) + (1 : Int)))) (.int .i64 ((j + 1 : Nat) : Int)) (congrArg (Value.int .i64) (Gx.i64n (by omega) (by omega))) ?_
        have H13 := H12.pick (a := [acc S1 (k + j + 1), .blk kb (.cells #[.pointer p] 56), sgI Q p m, .own 54 1 (some ⟨g1, 0, none⟩) m.length m.length (ptrs bs1), psI Q 0 bs1 m, .own 3 1 (some ⟨g2, 0, none⟩) fs1.length fs1.length (ints fs1)]) [0, 0, 0, 0, 0, 0] (by kernel_rfl)
        exact Sx.to 2 [(0, .func (.yield l) #[] #[]), (3, .int .i64 ((i : Nat) : Int)), (10, .slice (some ⟨g1, 0, none⟩) m.length m.length), (11, .int .i64 ((m.length : Nat) : Int)), (12, .int .i64 ((i : Nat) : Int)), (44, .slice (some ⟨g2, 0, none⟩) fs1.length fs1.length), (45, .int .i64 ((fs1.length : Nat) : Int)), (46, .int .i64 ((j + 1 : Nat) : Int))] (hK3 _ _ _ _ (by omega) ⟨j + 1, S1, rfl, rfl, H13, (by omega)⟩)
      have p_c47 := of_decide_eq_false h_c47
      refine Sx.v 7 (.int .i64 (IntKind.i64.wrap (((i : Nat) : Int) + (1 : Int)))) (.int .i64 ((i + 1 : Nat) : Int)) (congrArg (Value.int .i64) (Gx.i64n (by omega) (by omega))) ?_
      have H14 := H11.pick (a := [acc S2 (k + j), .blk kb (.cells #[.pointer p] 56), sgI Q p m, .own 54 1 (some ⟨g1, 0, none⟩) m.length m.length (ptrs bs1), psI Q 0 bs1 m]) [0, 0, 0, 0, 0] (by kernel_rfl)
      exact Sx.to 2 [(0, .func (.yield l) #[] #[]), (10, .slice (some ⟨g1, 0, none⟩) m.length m.length), (11, .int .i64 ((m.length : Nat) : Int)), (12, .int .i64 ((i + 1 : Nat) : Int))] (hK1 _ _ _ _ (by omega) ⟨i + 1, k + j, S2, rfl, rfl, H14, (by omega), (by have := all_step hmi1; simp only at this; omega)⟩)
    subst hp hl
    have hl := congrArg List.length hfs; simp at hl
    refine Sx.dr 12 H9 [7] [] (LJ := [rbI Q b4 (frC f1 p1 l3) 73]) (by kernel_rfl) fun w7 H15 => ?_
    refine Sx.tk [(0, none), (1, none), (2, none), (3, none)] (fun _ => (H15.sub [7] (by kernel_rfl))) ?_
    refine Sx.tvo (a := ⟨b4, 2, none⟩) (c := 1) (t := 3) 4 [] [.int .i64 ((l3.length + 1 : Nat) : Int)] (.int .i64 ((l3.length + 1 : Nat) : Int)) (fun w' hs => (said_sp hs 0 (says_rb (Q := Q) (cs := frC f1 p1 l3) (e := 73)) (by kernel_rfl) 2 1)) (fun _ => (H15.sub [7] (by kernel_rfl))) ?_
    refine Sx.tva 5 [] (.int .i64 (IntKind.i64.wrap (((l3.length + 1 : Nat) : Int) - (1 : Int)))) (.int .i64 ((l3.length : Nat) : Int)) (congrArg (Value.int .i64) (Gx.i64n (by omega) (by omega))) (fun _ => (H15.sub [7] (by kernel_rfl))) ?_
    refine Sx.tk [(6, none), (7, none), (8, none)] (fun _ => (H15.sub [7] (by kernel_rfl))) ?_
    refine Sx.tvo (a := ⟨b4, 0, none⟩) (c := 1) (t := 3) 9 [] [.int .i64 f1] (.int .i64 f1) (fun w' hs => (said_sp hs 0 (says_rb (Q := Q) (cs := frC f1 p1 l3) (e := 73)) (by kernel_rfl) 0 1)) (fun _ => (H15.sub [7] (by kernel_rfl))) ?_
    refine Sx.tvg 10 [] g2 l3.length 1 fs1.length fs1.length (by omega) (fun _ => (H15.sub [7] (by kernel_rfl))) ?_
    refine Sx.nmx ?_
    intro zx1
    refine Sx.on 11 ?_
    refine Sx.sr 0 5 3 1 3 g2 fs1.length fs1.length (l3.length * 1) (List.replicate (l3 ++ [f1]).length (Value.int .i64 0) ++ ints l2) H15 (.int .i64 f1) (by rw [Nat.mul_one]; simp <;> omega) (show _ = List.replicate l3.length (Value.int .i64 0) ++ ints (f1 :: l2) by rw [Nat.mul_one, show (l3 ++ [f1]).length = l3.length + 1 by simp]; exact ints_set _ _ _) fun w8 H16 => ?_
    refine Sx.bk (x := zx1) 11 (fun _ => (H16.sub [7] (by kernel_rfl))) ?_
    refine Sx.dn ?_
    refine Sx.lo (a := ⟨b4, 1, none⟩) (c := 1) (t := 64) 6 [.pointer p1] (.pointer p1) (said H16 7 (says_rb (Q := Q) (cs := frC f1 p1 l3) (e := 73)) (by kernel_rfl) 1 1) ?_
    have H17 := H16.pick (a := [acc S1 k, .blk kb (.cells #[.pointer p] 56), sgI Q p m, .own 54 1 (some ⟨g1, 0, none⟩) m.length m.length (ptrs bs1), psI Q 0 bs1 m, .own 3 1 (some ⟨g2, 0, none⟩) fs1.length fs1.length (List.replicate l3.length (Value.int .i64 0) ++ ints (f1 :: l2)), frI Q p1 l3]) [0, 0, 0, 0, 0, 0, 2] (by kernel_rfl)
    exact Sx.to 2 [(0, .func (.yield l) #[] #[]), (3, .int .i64 ((i : Nat) : Int)), (5, .slice (some ⟨g2, 0, none⟩) fs1.length fs1.length), (6, .pointer p1), (10, .slice (some ⟨g1, 0, none⟩) m.length m.length), (11, .int .i64 ((m.length : Nat) : Int)), (12, .int .i64 ((i : Nat) : Int))] (hK2 _ _ _ _ (by simp) ⟨p1, l3, (f1 :: l2), rfl, rfl, H17, (by rw [hfs]; simp)⟩)
  have p_c13 := of_decide_eq_false h_c13
  have e : k = (allF 0 m).length := by rw [hk, List.take_of_length_le (by omega)]
  subst e
  exact Sx.rt 4 [] H3 _ (hK S1 _ (H3.pe hL0 [0, 0, 0]))
end Go.Proofs.Ytokplpijjnkboaa
