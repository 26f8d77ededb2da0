/- A part of the proof (YtokplpijjnkboaaStw1), printed by a program of ours. -/
import Derived.Test.YtokplpijjnkboaaProg
import Derived.Test.YtokplpijjnkboaaStk
set_option linter.unusedVariables false
set_option linter.unusedSimpArgs false
namespace Go.Proofs.Ytokplpijjnkboaa
open Go.RowKit Go.Sx Go.Stk
attribute [local irreducible] Go.wpOps Go.Code.wp Go.wpOp Go.wpAnyH Go.Calls Go.Sx.Goal
set_option maxRecDepth 20000
theorem count_c (p : Option Addr) (l : List Int) (Q : Nat → Prop) (w : World) (K : Ending → World → Prop) (H0 : Sp w [frI Q p l]) (hK : K (.returned (.int .i64 ((l.length : Nat) : Int))) w) :
    Calls Try.prog 29 #[.pointer p] w K := by
  obtain ⟨L0, hL0, H⟩ : ∃ L0, L0 = [frI Q p l] ∧ Hs w L0 w [frI Q p l] := ⟨_, rfl, Hs.refl H0⟩
  refine Sx.en (vs := [.pointer p]) 9 Try.func29 ?_
  refine fr_cases H 0 Q p l (by kernel_rfl) (fun hp hl => ?_) (fun b1 f1 l1 p1 hp hl H1 => ?_)
  · subst hp hl
    exact Sx.rt 20 [] H (.int .i64 0) (Gx.ret_as (v' := .int .i64 ((([] : List Int).length : Nat) : Int)) (by simp) hK)
  subst hp hl
  refine Sx.lo (a := ⟨b1, 2, none⟩) (c := 1) (t := 3) 20 [.int .i64 ((l1.length + 1 : Nat) : Int)] (.int .i64 ((l1.length + 1 : Nat) : Int)) (said H1 1 (says_rb (Q := Q) (cs := frC f1 p1 l1) (e := 73)) (by kernel_rfl) 2 1) ?_
  exact Sx.rt 4 [] H1 (.int .i64 ((l1.length + 1 : Nat) : Int)) (Gx.ret_as (v' := .int .i64 (((l1 ++ [f1]).length : Nat) : Int)) (by simp) hK)
theorem on_c (b : Nat) (it : Sx.Item) (hs : Bool) (tg : Int) (fs : List Int) (t u0 : Option Addr) (x0 y0 : Int) (Q : Nat → Prop) (p : Option Addr) (m : List Seg) (Qs : Nat → Prop) (w : World) (K : Ending → World → Prop) (H0 : Sp w [it, frI Q t fs, sgI Qs p m]) (says : Says it b [.bool hs, .int .i64 tg, .pointer t, .pointer u0, .int .i64 x0, .int .i64 y0] 66) (hb1 : tot m + fs.length < 1000000000000) (hb2 : m.length < 1000000000000) (hK : ∀ (Q' : Nat → Prop) (p' : Option Addr) w', Hs w [it, frI Q t fs, sgI Qs p m] w' [it, sgI Q' p' (m ++ [Seg.mk hs tg fs])] → K (.returned (.pointer p')) w') :
    Calls Try.prog 27 #[.pointer (some ⟨b, 0, none⟩), .pointer p] w K := by
  obtain ⟨L0, hL0, H⟩ : ∃ L0, L0 = [it, frI Q t fs, sgI Qs p m] ∧ Hs w L0 w [it, frI Q t fs, sgI Qs p m] := ⟨_, rfl, Hs.refl H0⟩
  refine Sx.en (vs := [.pointer (some ⟨b, 0, none⟩), .pointer p]) 37 Try.func27 ?_
  refine sg_cases H 2 Qs p m (by kernel_rfl) (fun hp hl => ?_) (fun b1 hs1 tg1 fs1 m1 p1 t1 hp hl H1 => ?_)
  · subst hp hl
    refine Sx.lo (a := ⟨b, 0, none⟩) (c := 6) (t := 66) 9 [.bool hs, .int .i64 tg, .pointer t, .pointer u0, .int .i64 x0, .int .i64 y0] (.agg #[.bool hs, .int .i64 tg, .pointer t, .pointer u0, .int .i64 x0, .int .i64 y0]) (said H 0 says (by kernel_rfl) 0 6) ?_
    refine Sx.nw 0 H fun k1 w1 H2 => ?_
    refine Sx.s 0 3 H2 fun w2 H3 => ?_
    refine Sx.lo (a := ⟨b, 2, none⟩) (c := 1) (t := 64) 8 [.pointer t] (.pointer t) (said H3 0 says (by kernel_rfl) 2 1) ?_
    refine Sx.c 0 [1] H3 (fun Hp R hR => count_c t fs Q w2 R Hp  (hR _ _ _ (.refl Hp) fun _ => ?_))
    refine Sx.s 1 3 H3 fun w3 H4 => ?_
    refine Sx.s 1 3 H4 fun w4 H5 => ?_
    refine Sx.s 1 3 H5 fun w5 H6 => ?_
    refine sg_make0 H6 [3, 1] k1 hs tg fs t Q (fun Q1 H7 => ?_)
    exact Sx.rt 18 [] H7 _ (hK Q1 (some ⟨k1, 0, none⟩) _ (H7.pe hL0 [1, 0]))
  subst hp hl
  simp only [tot_snoc, List.length_append, List.length_singleton] at hb1 hb2
  refine Sx.lo (a := ⟨b, 0, none⟩) (c := 6) (t := 66) 9 [.bool hs, .int .i64 tg, .pointer t, .pointer u0, .int .i64 x0, .int .i64 y0] (.agg #[.bool hs, .int .i64 tg, .pointer t, .pointer u0, .int .i64 x0, .int .i64 y0]) (said H1 0 says (by kernel_rfl) 0 6) ?_
  refine Sx.nw 0 H1 fun k2 w6 H8 => ?_
  refine Sx.s 0 6 H8 fun w7 H9 => ?_
  refine Sx.lo (a := ⟨b, 2, none⟩) (c := 1) (t := 64) 8 [.pointer t] (.pointer t) (said H9 0 says (by kernel_rfl) 2 1) ?_
  refine Sx.c 0 [1] H9 (fun Hp R hR => count_c t fs Q w7 R Hp  (hR _ _ _ (.refl Hp) fun _ => ?_))
  refine Sx.s 1 6 H9 fun w8 H10 => ?_
  refine Sx.s 1 6 H10 fun w9 H11 => ?_
  refine Sx.s 1 6 H11 fun w10 H12 => ?_
  refine Sx.dr 10 H12 [3, 0] [] (LJ := [rbI Qs b1 (sgC hs1 tg1 fs1 t1 p1 m1) 66, it]) (by kernel_rfl) fun w11 H13 => ?_
  refine Sx.tk [(0, none), (1, none), (2, none)] (fun _ => (H13.sub [3, 0] (by kernel_rfl))) ?_
  refine Sx.tvo (a := ⟨b1, 5, none⟩) (c := 1) (t := 3) 3 [] [.int .i64 ((m1.length + 1 : Nat) : Int)] (.int .i64 ((m1.length + 1 : Nat) : Int)) (fun w' hs => (said_sp hs 0 (says_rb (Q := Qs) (cs := sgC hs1 tg1 fs1 t1 p1 m1) (e := 66)) (by kernel_rfl) 5 1)) (fun _ => (H13.sub [3, 0] (by kernel_rfl))) ?_
  refine Sx.tva 4 [] (.int .i64 (IntKind.i64.wrap (((m1.length + 1 : Nat) : Int) + (1 : Int)))) (.int .i64 (((m1 ++ [Seg.mk hs1 tg1 fs1]).length + 1 : Nat) : Int)) (congrArg (Value.int .i64) (by rw [IntWalk.i64_in _ (by omega)]; simp)) (fun _ => (H13.sub [3, 0] (by kernel_rfl))) ?_
  refine Sx.tk [(5, none), (6, none), (7, none)] (fun _ => (H13.sub [3, 0] (by kernel_rfl))) ?_
  refine Sx.tvo (a := ⟨b1, 4, none⟩) (c := 1) (t := 3) 8 [] [.int .i64 ((tot m1 + fs1.length : Nat) : Int)] (.int .i64 ((tot m1 + fs1.length : Nat) : Int)) (fun w' hs => (said_sp hs 0 (says_rb (Q := Qs) (cs := sgC hs1 tg1 fs1 t1 p1 m1) (e := 66)) (by kernel_rfl) 4 1)) (fun _ => (H13.sub [3, 0] (by kernel_rfl))) ?_
  refine Sx.tk [(9, none), (10, none), (11, none)] (fun _ => (H13.sub [3, 0] (by kernel_rfl))) ?_
  refine Sx.tvo (a := ⟨b, 2, none⟩) (c := 1) (t := 64) 12 [] [.pointer t] (.pointer t) (fun w' hs => (said_sp hs 1 says (by kernel_rfl) 2 1)) (fun _ => (H13.sub [3, 0] (by kernel_rfl))) ?_
  refine Sx.nmx ?_
  intro zx1
  refine Sx.on 13 ?_
  refine Sx.c 0 [1] H13 (fun Hp R hR => count_c t fs Q w11 R Hp  (hR _ _ _ (.refl Hp) fun _ => ?_))
  refine Sx.bk (x := zx1) 13 (fun _ => (H13.sub [3, 0] (by kernel_rfl))) ?_
  refine Sx.tva 14 [] (.int .i64 (IntKind.i64.wrap (((tot m1 + fs1.length : Nat) : Int) + ((fs.length : Nat) : Int)))) (.int .i64 ((tot (m1 ++ [Seg.mk hs1 tg1 fs1]) + fs.length : Nat) : Int)) (congrArg (Value.int .i64) (by rw [IntWalk.i64_in _ (by omega)]; simp only [tot_snoc]; omega)) (fun _ => (H13.sub [3, 0] (by kernel_rfl))) ?_
  refine Sx.tk [(15, none)] (fun _ => (H13.sub [3, 0] (by kernel_rfl))) ?_
  refine Sx.nmx ?_
  intro zx2
  refine Sx.on 16 ?_
  refine Sx.s 0 6 H13 fun w12 H14 => ?_
  refine Sx.bk (x := zx2) 16 (fun _ => (H14.sub [3, 0] (by kernel_rfl))) ?_
  refine Sx.tk [(17, none)] (fun _ => (H14.sub [3, 0] (by kernel_rfl))) ?_
  refine Sx.nmx ?_
  intro zx3
  refine Sx.on 18 ?_
  refine Sx.s 0 6 H14 fun w13 H15 => ?_
  refine Sx.bk (x := zx3) 18 (fun _ => (H15.sub [3, 0] (by kernel_rfl))) ?_
  refine Sx.dn ?_
  refine sg_make H15 [6, 1, 1] k2 hs tg fs t (some ⟨b1, 0, none⟩) Q Qs (m1 ++ [Seg.mk hs1 tg1 fs1]) (fun Q2 H16 => ?_) (hp := (by kernel_rfl))
  exact Sx.rt 7 [] H16 _ (hK Q2 (some ⟨k2, 0, none⟩) _ (H16.pe hL0 [1, 0]))
theorem set_c (sb : Nat) (p : Option Addr) (m : List Seg) (Q : Nat → Prop) (t : Option Addr) (fs : List Int) (Qt : Nat → Prop) (w : World) (K : Ending → World → Prop) (H0 : Sp w [.blk sb (.cells #[.pointer p] 58), sgI Q p m, frI Qt t fs]) (hne : m ≠ []) (hb : tot m + m.length < 100000000000) (hf : fs.length < 100000000000) (hK : ∀ (Q' : Nat → Prop) (p' : Option Addr) w', Hs w [.blk sb (.cells #[.pointer p] 58), sgI Q p m, frI Qt t fs] w' [.blk sb (.cells #[.pointer p'] 58), sgI Q' p' (setM m fs)] → K (.returned (.tuple #[])) w') :
    Calls Try.prog 28 #[.pointer (some ⟨sb, 0, none⟩), .pointer t] w K := by
  obtain ⟨L0, hL0, H⟩ : ∃ L0, L0 = [.blk sb (.cells #[.pointer p] 58), sgI Q p m, frI Qt t fs] ∧ Hs w L0 w [.blk sb (.cells #[.pointer p] 58), sgI Q p m, frI Qt t fs] := ⟨_, rfl, Hs.refl H0⟩
  refine Sx.en (vs := [.pointer (some ⟨sb, 0, none⟩), .pointer t]) 21 Try.func28 ?_
  refine sg_cases H 1 Q p m (by kernel_rfl) (fun hp hl => ?_) (fun b1 hs1 tg1 fs1 m1 p1 t1 hp hl H1 => ?_)
  · exact absurd hl hne
  subst hp hl
  simp only [tot_snoc, List.length_append, List.length_singleton] at hb
  refine Sx.l 6 0 H1 ?_
  refine Sx.lo (a := ⟨b1, 0, none⟩) (c := 6) (t := 66) 1 [.bool hs1, .int .i64 tg1, .pointer t1, .pointer p1, .int .i64 ((tot m1 + fs1.length : Nat) : Int), .int .i64 ((m1.length + 1 : Nat) : Int)] (.agg #[.bool hs1, .int .i64 tg1, .pointer t1, .pointer p1, .int .i64 ((tot m1 + fs1.length : Nat) : Int), .int .i64 ((m1.length + 1 : Nat) : Int)]) (said H1 3 (says_rb (Q := Q) (cs := sgC hs1 tg1 fs1 t1 p1 m1) (e := 66)) (by kernel_rfl) 0 6) ?_
  refine Sx.nw 0 H1 fun k1 w1 H2 => ?_
  refine Sx.s 0 6 H2 fun w2 H3 => ?_
  refine Sx.s 6 6 H3 fun w3 H4 => ?_
  refine Sx.l 5 6 H4 ?_
  refine Sx.c 0 [6, 2, 4] H4 (fun Hp R hR => on_c k1 (.blk k1 (.cells [.bool hs1, .int .i64 tg1, .pointer t, .pointer p1, .int .i64 ((tot m1 + fs1.length : Nat) : Int), .int .i64 ((m1.length + 1 : Nat) : Int)].toArray 66)) hs1 tg1 fs t p1 ((tot m1 + fs1.length : Nat) : Int) ((m1.length + 1 : Nat) : Int) Qt p1 m1 Q w3 R Hp (says_blk (cs := [.bool hs1, .int .i64 tg1, .pointer t, .pointer p1, .int .i64 ((tot m1 + fs1.length : Nat) : Int), .int .i64 ((m1.length + 1 : Nat) : Int)])) (by omega) (by omega) (fun Q1 p2 w4 G1 => hR _ _ _ G1 fun H5 => ?_))
  refine Sx.s 3 2 H5 fun w5 H6 => ?_
  have e : setM (m1 ++ [Seg.mk hs1 tg1 fs1]) fs = (m1 ++ [Seg.mk hs1 tg1 fs]) := by simp [setM_snoc]
  rw [e] at hK
  exact Sx.rt 1 [] H6 _ (hK Q1 p2 _ (H6.pe hL0 [2, 1]))
theorem Push_c (sb : Nat) (p : Option Addr) (m : List Seg) (Q : Nat → Prop) (f : Int) (w : World) (K : Ending → World → Prop) (H0 : Sp w [.blk sb (.cells #[.pointer p] 58), sgI Q p m]) (hne : m ≠ []) (hb : tot m + m.length < 100000000000) (hK : ∀ (Q' : Nat → Prop) (p' : Option Addr) w', Hs w [.blk sb (.cells #[.pointer p] 58), sgI Q p m] w' [.blk sb (.cells #[.pointer p'] 58), sgI Q' p' (pushM m f)] → K (.returned (.tuple #[])) w') :
    Calls Try.prog 7 #[.pointer (some ⟨sb, 0, none⟩), .int .i64 f] w K := by
  obtain ⟨L0, hL0, H⟩ : ∃ L0, L0 = [.blk sb (.cells #[.pointer p] 58), sgI Q p m] ∧ Hs w L0 w [.blk sb (.cells #[.pointer p] 58), sgI Q p m] := ⟨_, rfl, Hs.refl H0⟩
  refine Sx.en (vs := [.pointer (some ⟨sb, 0, none⟩), .int .i64 f]) 27 Try.func7 ?_
  refine sg_cases H 1 Q p m (by kernel_rfl) (fun hp hl => ?_) (fun b1 hs1 tg1 fs1 m1 p1 t1 hp hl H1 => ?_)
  · exact absurd hl hne
  subst hp hl
  simp only [tot_snoc, List.length_append, List.length_singleton] at hb
  refine Sx.dr 0 H1 [0, 2] [22] (LJ := [.blk sb (.cells #[.pointer (some ⟨b1, 0, none⟩)] 58), rbI Q b1 (sgC hs1 tg1 fs1 t1 p1 m1) 66]) (by kernel_rfl) fun w1 H2 => ?_
  refine Sx.tk [(0, none), (1, none), (2, none), (3, none), (4, none), (5, none), (6, some (0, [7, 8, 9, 20, 21, 22])), (7, none), (8, none)] (fun _ => (H2.sub [0, 1] (by kernel_rfl))) ?_
  refine Sx.tvo (a := ⟨b1, 2, none⟩) (c := 1) (t := 64) 9 [20, 21, 22] [.pointer t1] (.pointer t1) (fun w' hs => (said_sp hs 1 (says_rb (Q := Q) (cs := sgC hs1 tg1 fs1 t1 p1 m1) (e := 66)) (by kernel_rfl) 2 1)) (fun _ => (H2.sub [0, 1] (by kernel_rfl))) ?_
  refine Sx.tk [(10, none), (11, none), (12, none), (13, none), (14, some (0, [15, 16, 17, 18, 19, 20, 21, 22])), (15, none), (16, none)] (fun _ => (H2.sub [0, 1] (by kernel_rfl))) ?_
  refine Sx.tvo (a := ⟨b1, 2, none⟩) (c := 1) (t := 64) 17 [18, 19, 20, 21, 22] [.pointer t1] (.pointer t1) (fun w' hs => (said_sp hs 1 (says_rb (Q := Q) (cs := sgC hs1 tg1 fs1 t1 p1 m1) (e := 66)) (by kernel_rfl) 2 1)) (fun _ => (H2.sub [0, 1] (by kernel_rfl))) ?_
  refine Sx.nmx ?_
  intro zx1
  refine Sx.on 18 ?_
  refine Sx.c 0 [3] H2 (fun Hp R hR => count_c t1 fs1 Q w1 R Hp  (hR _ _ _ (.refl Hp) fun _ => ?_))
  refine Sx.bk (x := zx1) 18 (fun _ => (H2.sub [0, 1] (by kernel_rfl))) ?_
  refine Sx.tva 19 [20, 21, 22] (.int .i64 (IntKind.i64.wrap (((fs1.length : Nat) : Int) + (1 : Int)))) (.int .i64 ((fs1.length + 1 : Nat) : Int)) (congrArg (Value.int .i64) (Gx.i64n (by omega) (by omega))) (fun _ => (H2.sub [0, 1] (by kernel_rfl))) ?_
  refine Sx.tk [(20, none)] (fun _ => (H2.sub [0, 1] (by kernel_rfl))) ?_
  refine Sx.nmx ?_
  intro zx2
  refine Sx.on 21 ?_
  refine Sx.nw 0 H2 fun k1 w2 H3 => ?_
  refine Sx.bk (x := zx2) 21 (fun _ => (H3.sub [0, 1] (by kernel_rfl))) ?_
  refine Sx.nmx ?_
  intro zx3
  refine Sx.on 22 ?_
  refine fr_make H3 [5, 3] k1 f Q t1 fs1 fun Q1 H4 => ?_
  refine Sx.c 0 [1, 1, 0] H4 (fun Hp R hR => set_c sb (some ⟨b1, 0, none⟩) (m1 ++ [Seg.mk hs1 tg1 fs1]) Q (some ⟨k1, 0, none⟩) (fs1 ++ [f]) Q1 w2 R Hp (by simp) (by (try simp only [tot_snoc, List.length_append, List.length_singleton] at hb ⊢); omega) (by (try simp only [tot_snoc, List.length_append, List.length_singleton] at hb ⊢); omega) (fun Q2 p2 w3 G1 => hR _ _ _ G1 fun H5 => ?_))
  refine Sx.bk (x := zx3) 22 (fun h => Sx.nope h (by kernel_rfl)) ?_
  refine Sx.dn ?_
  have e : pushM (m1 ++ [Seg.mk hs1 tg1 fs1]) f = (setM (m1 ++ [Seg.mk hs1 tg1 fs1]) (fs1 ++ [f])) := by simp [pushM, lastG_snoc]
  rw [e] at hK
  exact Sx.rt 0 [] H5 _ (hK Q2 p2 _ (H5.pe hL0 [0, 0]))
theorem Top_c (sb : Nat) (p : Option Addr) (m : List Seg) (Q : Nat → Prop) (v : Int × Bool) (w : World) (K : Ending → World → Prop) (H0 : Sp w [.blk sb (.cells #[.pointer p] 58), sgI Q p m]) (hne : m ≠ []) (hb : tot m + m.length < 100000000000) (hv : topM m = v) (hK : K (.returned (.tuple #[.int .i64 v.1, .bool v.2])) w) :
    Calls Try.prog 11 #[.pointer (some ⟨sb, 0, none⟩)] w K := by
  obtain ⟨L0, hL0, H⟩ : ∃ L0, L0 = [.blk sb (.cells #[.pointer p] 58), sgI Q p m] ∧ Hs w L0 w [.blk sb (.cells #[.pointer p] 58), sgI Q p m] := ⟨_, rfl, Hs.refl H0⟩
  refine Sx.en (vs := [.pointer (some ⟨sb, 0, none⟩)]) 25 Try.func11 ?_
  refine sg_cases H 1 Q p m (by kernel_rfl) (fun hp hl => ?_) (fun b1 hs1 tg1 fs1 m1 p1 t1 hp hl H1 => ?_)
  · exact absurd hl hne
  subst hp hl
  simp only [tot_snoc, List.length_append, List.length_singleton] at hb
  refine fr_cases H1 3 Q t1 fs1 (by kernel_rfl) (fun hp hl => ?_) (fun b2 f1 l1 p2 hp hl H2 => ?_)
  · subst hp hl
    refine Sx.l 13 0 H1 ?_
    refine Sx.lo (a := ⟨b1, 2, none⟩) (c := 1) (t := 64) 2 [.pointer none] (.pointer none) (said H1 2 (says_rb (Q := Q) (cs := sgC hs1 tg1 ([] : List Int) none p1 m1) (e := 66)) (by kernel_rfl) 2 1) ?_
    subst hv
    exact Sx.rt 13 [] H1 (.tuple #[.int .i64 0, .bool false]) (Gx.ret_as (by simp [topM, lastG_snoc]) hK)
  subst hp hl
  refine Sx.l 13 0 H2 ?_
  refine Sx.lo (a := ⟨b1, 2, none⟩) (c := 1) (t := 64) 2 [.pointer (some ⟨b2, 0, none⟩)] (.pointer (some ⟨b2, 0, none⟩)) (said H2 2 (says_rb (Q := Q) (cs := sgC hs1 tg1 (l1 ++ [f1]) (some ⟨b2, 0, none⟩) p1 m1) (e := 66)) (by kernel_rfl) 2 1) ?_
  refine Sx.l 12 0 H2 ?_
  refine Sx.lo (a := ⟨b1, 2, none⟩) (c := 1) (t := 64) 2 [.pointer (some ⟨b2, 0, none⟩)] (.pointer (some ⟨b2, 0, none⟩)) (said H2 2 (says_rb (Q := Q) (cs := sgC hs1 tg1 (l1 ++ [f1]) (some ⟨b2, 0, none⟩) p1 m1) (e := 66)) (by kernel_rfl) 2 1) ?_
  refine Sx.lo (a := ⟨b2, 0, none⟩) (c := 1) (t := 3) 2 [.int .i64 f1] (.int .i64 f1) (said H2 5 (says_rb (Q := Q) (cs := frC f1 p2 l1) (e := 73)) (by kernel_rfl) 0 1) ?_
  subst hv
  exact Sx.rt 5 [] H2 (.tuple #[.int .i64 f1, .bool true]) (Gx.ret_as (by simp [topM, lastG_snoc]) hK)
theorem Pop_c (sb : Nat) (p : Option Addr) (m : List Seg) (Q : Nat → Prop) (w : World) (K : Ending → World → Prop) (H0 : Sp w [.blk sb (.cells #[.pointer p] 58), sgI Q p m]) (hne : m ≠ []) (hb : tot m + m.length < 100000000000) (hK : ∀ (Q' : Nat → Prop) (p' : Option Addr) w', Hs w [.blk sb (.cells #[.pointer p] 58), sgI Q p m] w' [.blk sb (.cells #[.pointer p'] 58), sgI Q' p' (popM m)] → K (.returned (.tuple #[.int .i64 (topM m).1, .bool (topM m).2])) w') :
    Calls Try.prog 9 #[.pointer (some ⟨sb, 0, none⟩)] w K := by
  obtain ⟨L0, hL0, H⟩ : ∃ L0, L0 = [.blk sb (.cells #[.pointer p] 58), sgI Q p m] ∧ Hs w L0 w [.blk sb (.cells #[.pointer p] 58), sgI Q p m] := ⟨_, rfl, Hs.refl H0⟩
  refine Sx.en (vs := [.pointer (some ⟨sb, 0, none⟩)]) 27 Try.func9 ?_
  refine sg_cases H 1 Q p m (by kernel_rfl) (fun hp hl => ?_) (fun b1 hs1 tg1 fs1 m1 p1 t1 hp hl H1 => ?_)
  · exact absurd hl hne
  subst hp hl
  simp only [tot_snoc, List.length_append, List.length_singleton] at hb
  refine fr_cases H1 3 Q t1 fs1 (by kernel_rfl) (fun hp hl => ?_) (fun b2 f1 l1 p2 hp hl H2 => ?_)
  · subst hp hl
    refine Sx.c 9 [0, 0] H1 (fun Hp R hR => Top_c sb (some ⟨b1, 0, none⟩) (m1 ++ [Seg.mk hs1 tg1 ([] : List Int)]) Q (0, false) w R Hp (by simp) (by (try simp only [tot_snoc, List.length_append, List.length_singleton] at hb ⊢); omega) (by simp [topM, lastG_snoc]) (hR _ _ _ (.refl Hp) fun _ => ?_))
    have e : popM (m1 ++ [Seg.mk hs1 tg1 ([] : List Int)]) = (m1 ++ [Seg.mk hs1 tg1 ([] : List Int)]) := by simp [popM, topM, lastG_snoc, setM_snoc]
    rw [e] at hK
    exact Sx.rt 25 [] H1 (.tuple #[.int .i64 0, .bool false]) (Gx.ret_as (v' := .tuple #[.int .i64 (topM (m1 ++ [Seg.mk hs1 tg1 ([] : List Int)])).1, .bool (topM (m1 ++ [Seg.mk hs1 tg1 ([] : List Int)])).2]) (by simp [popM, topM, lastG_snoc, setM_snoc]) (hK Q (some ⟨b1, 0, none⟩) _ (H1.pe hL0 [0, 0])))
  subst hp hl
  refine Sx.c 9 [0, 0] H2 (fun Hp R hR => Top_c sb (some ⟨b1, 0, none⟩) (m1 ++ [Seg.mk hs1 tg1 (l1 ++ [f1])]) Q (f1, true) w R Hp (by simp) (by (try simp only [tot_snoc, List.length_append, List.length_singleton] at hb ⊢); omega) (by simp [topM, lastG_snoc]) (hR _ _ _ (.refl Hp) fun _ => ?_))
  refine Sx.l 20 0 H2 ?_
  refine Sx.lo (a := ⟨b1, 2, none⟩) (c := 1) (t := 64) 2 [.pointer (some ⟨b2, 0, none⟩)] (.pointer (some ⟨b2, 0, none⟩)) (said H2 2 (says_rb (Q := Q) (cs := sgC hs1 tg1 (l1 ++ [f1]) (some ⟨b2, 0, none⟩) p1 m1) (e := 66)) (by kernel_rfl) 2 1) ?_
  refine Sx.lo (a := ⟨b2, 1, none⟩) (c := 1) (t := 64) 2 [.pointer p2] (.pointer p2) (said H2 5 (says_rb (Q := Q) (cs := frC f1 p2 l1) (e := 73)) (by kernel_rfl) 1 1) ?_
  refine Sx.c 0 [0, 0, 4] H2 (fun Hp R hR => set_c sb (some ⟨b1, 0, none⟩) (m1 ++ [Seg.mk hs1 tg1 (l1 ++ [f1])]) Q p2 l1 Q w R Hp (by simp) (by (try simp only [tot_snoc, List.length_append, List.length_singleton] at hb ⊢); omega) (by (try simp only [tot_snoc, List.length_append, List.length_singleton] at hb ⊢); omega) (fun Q1 p3 w1 G1 => hR _ _ _ G1 fun H3 => ?_))
  have e : popM (m1 ++ [Seg.mk hs1 tg1 (l1 ++ [f1])]) = (setM (m1 ++ [Seg.mk hs1 tg1 (l1 ++ [f1])]) l1) := by simp [popM, topM, lastG_snoc, setM_snoc]
  rw [e] at hK
  exact Sx.rt 11 [] H3 (.tuple #[.int .i64 f1, .bool true]) (Gx.ret_as (v' := .tuple #[.int .i64 (topM (m1 ++ [Seg.mk hs1 tg1 (l1 ++ [f1])])).1, .bool (topM (m1 ++ [Seg.mk hs1 tg1 (l1 ++ [f1])])).2]) (by simp [popM, topM, lastG_snoc, setM_snoc]) (hK Q1 p3 _ (H3.pe hL0 [0, 0])))
theorem Open_c (sb : Nat) (p : Option Addr) (m : List Seg) (Q : Nat → Prop) (f : Int) (w : World) (K : Ending → World → Prop) (H0 : Sp w [.blk sb (.cells #[.pointer p] 58), sgI Q p m]) (hne : m ≠ []) (hb : tot m + m.length < 100000000000) (hK : ∀ (Q' : Nat → Prop) (p' : Option Addr) w', Hs w [.blk sb (.cells #[.pointer p] 58), sgI Q p m] w' [.blk sb (.cells #[.pointer p'] 58), sgI Q' p' (openM m f)] → K (.returned (.tuple #[])) w') :
    Calls Try.prog 13 #[.pointer (some ⟨sb, 0, none⟩), .int .i64 f] w K := by
  obtain ⟨L0, hL0, H⟩ : ∃ L0, L0 = [.blk sb (.cells #[.pointer p] 58), sgI Q p m] ∧ Hs w L0 w [.blk sb (.cells #[.pointer p] 58), sgI Q p m] := ⟨_, rfl, Hs.refl H0⟩
  refine Sx.en (vs := [.pointer (some ⟨sb, 0, none⟩), .int .i64 f]) 17 Try.func13 ?_
  refine Sx.nw 4 H fun k1 w1 H1 => ?_
  refine Sx.l 4 0 H1 ?_
  have H2 := fr_nil H1
  refine Sx.c 0 [2, 2, 1] H2 (fun Hp R hR => on_c k1 (.blk k1 (.cells [.bool true, .int .i64 f, .pointer none, .pointer none, .int .i64 0, .int .i64 0].toArray 66)) true f ([] : List Int) none none (0 : Int) (0 : Int) (fun _ => False) p m Q w1 R Hp (says_blk (cs := [.bool true, .int .i64 f, .pointer none, .pointer none, .int .i64 0, .int .i64 0])) (by (try simp only [List.length_nil]); omega) (by (try simp only [List.length_nil]); omega) (fun Q1 p1 w2 G1 => hR _ _ _ G1 fun H3 => ?_))
  refine Sx.s 3 2 H3 fun w3 H4 => ?_
  have e : openM m f = (m ++ [Seg.mk true f ([] : List Int)]) := by simp [openM]
  rw [e] at hK
  exact Sx.rt 1 [] H4 _ (hK Q1 p1 _ (H4.pe hL0 [2, 1]))
theorem Close_c (sb : Nat) (p : Option Addr) (m : List Seg) (Q : Nat → Prop) (w : World) (K : Ending → World → Prop) (H0 : Sp w [.blk sb (.cells #[.pointer p] 58), sgI Q p m]) (hne : m ≠ []) (hb : tot m + m.length < 100000000000) (hK : ∀ (Q' : Nat → Prop) (p' : Option Addr) w', Hs w [.blk sb (.cells #[.pointer p] 58), sgI Q p m] w' [.blk sb (.cells #[.pointer p'] 58), sgI Q' p' (closeM m).1] → K (.returned (.tuple #[.int .i64 (closeM m).2.1, .bool (closeM m).2.2.1, .bool (closeM m).2.2.2])) w') :
    Calls Try.prog 15 #[.pointer (some ⟨sb, 0, none⟩)] w K := by
  obtain ⟨L0, hL0, H⟩ : ∃ L0, L0 = [.blk sb (.cells #[.pointer p] 58), sgI Q p m] ∧ Hs w L0 w [.blk sb (.cells #[.pointer p] 58), sgI Q p m] := ⟨_, rfl, Hs.refl H0⟩
  refine Sx.en (vs := [.pointer (some ⟨sb, 0, none⟩)]) 40 Try.func15 ?_
  refine sg_cases H 1 Q p m (by kernel_rfl) (fun hp hl => ?_) (fun b1 hs1 tg1 fs1 m1 p1 t1 hp hl H1 => ?_)
  · exact absurd hl hne
  subst hp hl
  simp only [tot_snoc, List.length_append, List.length_singleton] at hb
  refine sg_cases H1 4 Q p1 m1 (by kernel_rfl) (fun hp hl => ?_) (fun b2 hs2 tg2 fs2 m2 p2 t2 hp hl H2 => ?_)
  · subst hp hl
    refine Sx.l 13 0 H1 ?_
    refine Sx.lo (a := ⟨b1, 3, none⟩) (c := 1) (t := 54) 9 [.pointer none] (.pointer none) (said H1 2 (says_rb (Q := Q) (cs := sgC hs1 tg1 fs1 t1 none ([] : List Seg)) (e := 66)) (by kernel_rfl) 3 1) ?_
    have e : (closeM (([] : List Seg) ++ [Seg.mk hs1 tg1 fs1])).1 = (([] : List Seg) ++ [Seg.mk hs1 tg1 fs1]) := by simp [closeM, canM, lastG]
    rw [e] at hK
    exact Sx.rt 21 [] H1 (.tuple #[.int .i64 0, .bool false, .bool false]) (Gx.ret_as (v' := .tuple #[.int .i64 (closeM (([] : List Seg) ++ [Seg.mk hs1 tg1 fs1])).2.1, .bool (closeM (([] : List Seg) ++ [Seg.mk hs1 tg1 fs1])).2.2.1, .bool (closeM (([] : List Seg) ++ [Seg.mk hs1 tg1 fs1])).2.2.2]) (by simp [closeM, canM, lastG]) (hK Q (some ⟨b1, 0, none⟩) _ (H1.pe hL0 [0, 0])))
  subst hp hl
  refine fr_cases H2 3 Q t1 fs1 (by kernel_rfl) (fun hp hl => ?_) (fun b3 f1 l1 p3 hp hl H3 => ?_)
  · subst hp hl
    refine Sx.l 13 0 H2 ?_
    refine Sx.lo (a := ⟨b1, 3, none⟩) (c := 1) (t := 54) 9 [.pointer (some ⟨b2, 0, none⟩)] (.pointer (some ⟨b2, 0, none⟩)) (said H2 2 (says_rb (Q := Q) (cs := sgC hs1 tg1 ([] : List Int) none (some ⟨b2, 0, none⟩) (m2 ++ [Seg.mk hs2 tg2 fs2])) (e := 66)) (by kernel_rfl) 3 1) ?_
    refine Sx.lo (a := ⟨b1, 2, none⟩) (c := 1) (t := 64) 5 [.pointer none] (.pointer none) (said H2 2 (says_rb (Q := Q) (cs := sgC hs1 tg1 ([] : List Int) none (some ⟨b2, 0, none⟩) (m2 ++ [Seg.mk hs2 tg2 fs2])) (e := 66)) (by kernel_rfl) 2 1) ?_
    refine Sx.lo (a := ⟨b1, 3, none⟩) (c := 1) (t := 54) 13 [.pointer (some ⟨b2, 0, none⟩)] (.pointer (some ⟨b2, 0, none⟩)) (said H2 2 (says_rb (Q := Q) (cs := sgC hs1 tg1 ([] : List Int) none (some ⟨b2, 0, none⟩) (m2 ++ [Seg.mk hs2 tg2 fs2])) (e := 66)) (by kernel_rfl) 3 1) ?_
    refine Sx.s 3 0 H2 fun w1 H4 => ?_
    refine Sx.dr 3 H4 [2] [] (LJ := [rbI Q b1 (sgC hs1 tg1 ([] : List Int) none (some ⟨b2, 0, none⟩) (m2 ++ [Seg.mk hs2 tg2 fs2])) 66]) (by kernel_rfl) fun w2 H5 => ?_
    refine Sx.tk [(0, none), (1, none), (2, none)] (fun _ => (H5.sub [2] (by kernel_rfl))) ?_
    refine Sx.tvo (a := ⟨b1, 1, none⟩) (c := 1) (t := 3) 3 [] [.int .i64 tg1] (.int .i64 tg1) (fun w' hs => (said_sp hs 0 (says_rb (Q := Q) (cs := sgC hs1 tg1 ([] : List Int) none (some ⟨b2, 0, none⟩) (m2 ++ [Seg.mk hs2 tg2 fs2])) (e := 66)) (by kernel_rfl) 1 1)) (fun _ => (H5.sub [2] (by kernel_rfl))) ?_
    refine Sx.tk [(4, none), (5, none), (6, none)] (fun _ => (H5.sub [2] (by kernel_rfl))) ?_
    refine Sx.tvo (a := ⟨b1, 0, none⟩) (c := 1) (t := 4) 7 [] [.bool hs1] (.bool hs1) (fun w' hs => (said_sp hs 0 (says_rb (Q := Q) (cs := sgC hs1 tg1 ([] : List Int) none (some ⟨b2, 0, none⟩) (m2 ++ [Seg.mk hs2 tg2 fs2])) (e := 66)) (by kernel_rfl) 0 1)) (fun _ => (H5.sub [2] (by kernel_rfl))) ?_
    refine Sx.tk [(8, none), (9, none), (10, none)] (fun _ => (H5.sub [2] (by kernel_rfl))) ?_
    refine Sx.dn ?_
    have e : (closeM ((m2 ++ [Seg.mk hs2 tg2 fs2]) ++ [Seg.mk hs1 tg1 ([] : List Int)])).1 = (m2 ++ [Seg.mk hs2 tg2 fs2]) := by simp [closeM, canM, lastG]
    rw [e] at hK
    exact Sx.rt 2 [] H5 (.tuple #[.int .i64 tg1, .bool hs1, .bool true]) (Gx.ret_as (v' := .tuple #[.int .i64 (closeM ((m2 ++ [Seg.mk hs2 tg2 fs2]) ++ [Seg.mk hs1 tg1 ([] : List Int)])).2.1, .bool (closeM ((m2 ++ [Seg.mk hs2 tg2 fs2]) ++ [Seg.mk hs1 tg1 ([] : List Int)])).2.2.1, .bool (closeM ((m2 ++ [Seg.mk hs2 tg2 fs2]) ++ [Seg.mk hs1 tg1 ([] : List Int)])).2.2.2]) (by simp [closeM, canM, lastG]) (hK Q (some ⟨b2, 0, none⟩) _ (H5.pe hL0 [0, 3])))
  subst hp hl
  refine Sx.l 13 0 H3 ?_
  refine Sx.lo (a := ⟨b1, 3, none⟩) (c := 1) (t := 54) 9 [.pointer (some ⟨b2, 0, none⟩)] (.pointer (some ⟨b2, 0, none⟩)) (said H3 2 (says_rb (Q := Q) (cs := sgC hs1 tg1 (l1 ++ [f1]) (some ⟨b3, 0, none⟩) (some ⟨b2, 0, none⟩) (m2 ++ [Seg.mk hs2 tg2 fs2])) (e := 66)) (by kernel_rfl) 3 1) ?_
  refine Sx.lo (a := ⟨b1, 2, none⟩) (c := 1) (t := 64) 5 [.pointer (some ⟨b3, 0, none⟩)] (.pointer (some ⟨b3, 0, none⟩)) (said H3 2 (says_rb (Q := Q) (cs := sgC hs1 tg1 (l1 ++ [f1]) (some ⟨b3, 0, none⟩) (some ⟨b2, 0, none⟩) (m2 ++ [Seg.mk hs2 tg2 fs2])) (e := 66)) (by kernel_rfl) 2 1) ?_
  have e : (closeM ((m2 ++ [Seg.mk hs2 tg2 fs2]) ++ [Seg.mk hs1 tg1 (l1 ++ [f1])])).1 = ((m2 ++ [Seg.mk hs2 tg2 fs2]) ++ [Seg.mk hs1 tg1 (l1 ++ [f1])]) := by simp [closeM, canM, lastG]
  rw [e] at hK
  exact Sx.rt 15 [] H3 (.tuple #[.int .i64 0, .bool false, .bool false]) (Gx.ret_as (v' := .tuple #[.int .i64 (closeM ((m2 ++ [Seg.mk hs2 tg2 fs2]) ++ [Seg.mk hs1 tg1 (l1 ++ [f1])])).2.1, .bool (closeM ((m2 ++ [Seg.mk hs2 tg2 fs2]) ++ [Seg.mk hs1 tg1 (l1 ++ [f1])])).2.2.1, .bool (closeM ((m2 ++ [Seg.mk hs2 tg2 fs2]) ++ [Seg.mk hs1 tg1 (l1 ++ [f1])])).2.2.2]) (by simp [closeM, canM, lastG]) (hK Q (some ⟨b1, 0, none⟩) _ (H3.pe hL0 [0, 0])))
theorem New_c  (w : World) (K : Ending → World → Prop) (H0 : Sp w []) (hK : ∀ (sb : Nat) (Q' : Nat → Prop) (p' : Option Addr) w', Hs w [] w' [.blk sb (.cells #[.pointer p'] 58), sgI Q' p' [⟨false, 0, []⟩]] → K (.returned (.pointer (some ⟨sb, 0, none⟩))) w') :
    Calls Try.prog 4 #[] w K := by
  obtain ⟨L0, hL0, H⟩ : ∃ L0, L0 = [] ∧ Hs w L0 w [] := ⟨_, rfl, Hs.refl H0⟩
  refine Sx.en (vs := []) 7 Try.func4 ?_
  refine Sx.nw 8 H fun k1 w1 H1 => ?_
  have H2 := fr_nil H1
  have H3 := sg_nil H2
  refine Sx.c 0 [0, 0, 0] H3 (fun Hp R hR => on_c k1 (.blk k1 (.cells [.bool false, .int .i64 0, .pointer none, .pointer none, .int .i64 0, .int .i64 0].toArray 66)) false (0 : Int) ([] : List Int) none none (0 : Int) (0 : Int) (fun _ => False) none ([] : List Seg) (fun _ => False) w1 R Hp (says_blk (cs := [.bool false, .int .i64 0, .pointer none, .pointer none, .int .i64 0, .int .i64 0])) (by simp [tot]) (by simp [tot]) (fun Q1 p1 w2 G1 => hR _ _ _ G1 fun H4 => ?_))
  refine Sx.nw 2 H4 fun k2 w3 H5 => ?_
  exact Sx.rt 4 [] H5 _ (hK k2 Q1 p1 _ (H5.pe hL0 [2, 1]))
theorem Len_c (p : Option Addr) (m : List Seg) (Q : Nat → Prop) (w : World) (K : Ending → World → Prop) (H0 : Sp w [sgI Q p m]) (hK : ∀ w', Hs w [sgI Q p m] w' [sgI Q p m] → K (.returned (.int .i64 ((tot m : Nat) : Int))) w') :
    Calls Try.prog 21 #[.agg #[.pointer p]] w K := by
  obtain ⟨L0, hL0, H⟩ : ∃ L0, L0 = [sgI Q p m] ∧ Hs w L0 w [sgI Q p m] := ⟨_, rfl, Hs.refl H0⟩
  refine Sx.en (vs := [.agg #[.pointer p]]) 11 Try.func21 ?_
  refine sg_cases H 0 Q p m (by kernel_rfl) (fun hp hl => ?_) (fun b1 hs1 tg1 fs1 m1 p1 t1 hp hl H1 => ?_)
  · subst hp hl
    refine Sx.nw 2 H fun k1 w1 H2 => ?_
    refine Sx.l 7 1 H2 ?_
    exact Sx.rt 11 [] H2 (.int .i64 0) (Gx.ret_as (v' := .int .i64 ((tot ([] : List Seg) : Nat) : Int)) (by simp [tot]) (hK _ (H2.pe hL0 [0])))
  subst hp hl
  refine Sx.nw 2 H1 fun k2 w2 H3 => ?_
  refine Sx.l 7 4 H3 ?_
  refine Sx.l 9 4 H3 ?_
  refine Sx.lo (a := ⟨b1, 4, none⟩) (c := 1) (t := 3) 2 [.int .i64 ((tot m1 + fs1.length : Nat) : Int)] (.int .i64 ((tot m1 + fs1.length : Nat) : Int)) (said H3 1 (says_rb (Q := Q) (cs := sgC hs1 tg1 fs1 t1 p1 m1) (e := 66)) (by kernel_rfl) 4 1) ?_
  exact Sx.rt 4 [] H3 (.int .i64 ((tot m1 + fs1.length : Nat) : Int)) (Gx.ret_as (v' := .int .i64 ((tot (m1 ++ [Seg.mk hs1 tg1 fs1]) : Nat) : Int)) (by simp [tot]) (hK _ (H3.pe hL0 [0])))
theorem Segments_c (p : Option Addr) (m : List Seg) (Q : Nat → Prop) (w : World) (K : Ending → World → Prop) (H0 : Sp w [sgI Q p m]) (hK : ∀ w', Hs w [sgI Q p m] w' [sgI Q p m] → K (.returned (.int .i64 ((m.length : Nat) : Int))) w') :
    Calls Try.prog 22 #[.agg #[.pointer p]] w K := by
  obtain ⟨L0, hL0, H⟩ : ∃ L0, L0 = [sgI Q p m] ∧ Hs w L0 w [sgI Q p m] := ⟨_, rfl, Hs.refl H0⟩
  refine Sx.en (vs := [.agg #[.pointer p]]) 11 Try.func22 ?_
  refine sg_cases H 0 Q p m (by kernel_rfl) (fun hp hl => ?_) (fun b1 hs1 tg1 fs1 m1 p1 t1 hp hl H1 => ?_)
  · subst hp hl
    refine Sx.nw 2 H fun k1 w1 H2 => ?_
    refine Sx.l 7 1 H2 ?_
    exact Sx.rt 11 [] H2 (.int .i64 0) (Gx.ret_as (v' := .int .i64 ((([] : List Seg).length : Nat) : Int)) (by simp [tot]) (hK _ (H2.pe hL0 [0])))
  subst hp hl
  refine Sx.nw 2 H1 fun k2 w2 H3 => ?_
  refine Sx.l 7 4 H3 ?_
  refine Sx.l 9 4 H3 ?_
  refine Sx.lo (a := ⟨b1, 5, none⟩) (c := 1) (t := 3) 2 [.int .i64 ((m1.length + 1 : Nat) : Int)] (.int .i64 ((m1.length + 1 : Nat) : Int)) (said H3 1 (says_rb (Q := Q) (cs := sgC hs1 tg1 fs1 t1 p1 m1) (e := 66)) (by kernel_rfl) 5 1) ?_
  exact Sx.rt 4 [] H3 (.int .i64 ((m1.length + 1 : Nat) : Int)) (Gx.ret_as (v' := .int .i64 (((m1 ++ [Seg.mk hs1 tg1 fs1]).length : Nat) : Int)) (by simp [tot]) (hK _ (H3.pe hL0 [0])))
end Go.Proofs.Ytokplpijjnkboaa
