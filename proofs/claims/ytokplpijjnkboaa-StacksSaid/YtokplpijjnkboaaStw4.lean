/- A part of the proof (YtokplpijjnkboaaStw4), printed by a program of ours. -/
import Derived.Test.YtokplpijjnkboaaProg
import Derived.Test.YtokplpijjnkboaaStk
import Derived.Test.YtokplpijjnkboaaStc
import Derived.Test.YtokplpijjnkboaaStw1
import Derived.Test.YtokplpijjnkboaaStw2
import Derived.Test.YtokplpijjnkboaaStw3
set_option linter.unusedVariables false
set_option linter.unusedSimpArgs false
namespace Go.Proofs.Ytokplpijjnkboaa
open Go.RowKit Go.Sx Go.Stk
attribute [local irreducible] Go.wpOps Go.Code.wp Go.wpOp Go.wpAnyH Go.Calls Go.Sx.Goal
set_option maxRecDepth 20000
theorem Cut_c (sb : Nat) (p : Option Addr) (m : List Seg) (Q : Nat → Prop) (ab kb : Nat) (A : Option Addr) (n c : Nat) (l : List Int) (k : Int) (deep : Bool) (w : World) (K : Ending → World → Prop) (H0 : Sp w [.blk sb (.cells #[.pointer p] 58), sgI Q p m, .blk ab (.cells #[.slice A n c] 39), .own 3 1 A c n (ints l), .blk kb (.cells #[.int .i64 k] 3)]) (hb : tot m + m.length < 100000000000) (hn : n + m.length < 100000000000) (hN : ∀ (A' : Option Addr) (c' n' : Nat) (l' : List Int) w', Hs w [.blk sb (.cells #[.pointer p] 58), sgI Q p m, .blk ab (.cells #[.slice A n c] 39), .own 3 1 A c n (ints l), .blk kb (.cells #[.int .i64 k] 3)] w' [.blk sb (.cells #[.pointer p] 58), sgI Q p m, .blk ab (.cells #[.slice A' n' c'] 39), .own 3 1 A' c' n' (ints l'), .blk kb (.cells #[.int .i64 k] 3)] → cutR k m.reverse = none → l ++ askR k m.reverse = l' → K (.returned (.tuple #[.pointer none, .int .i64 0, .bool false])) w') (hK : ∀ (p' : Option Addr) (Q' : Nat → Prop) (m' : List Seg) (s : Seg) (r1 : List Seg) (pb : Nat) (q : Option Addr) (Qq : Nat → Prop) (A' : Option Addr) (c' n' : Nat) (l' : List Int) w', Hs w [.blk sb (.cells #[.pointer p] 58), sgI Q p m, .blk ab (.cells #[.slice A n c] 39), .own 3 1 A c n (ints l), .blk kb (.cells #[.int .i64 k] 3)] w' [.blk sb (.cells #[.pointer p'] 58), sgI Q' p' m', .blk pb (.cells #[.pointer q] 78), sgI Qq q (fixS deep s :: r1.reverse), .blk ab (.cells #[.slice A' n' c'] 39), .own 3 1 A' c' n' (ints l'), .blk kb (.cells #[.int .i64 k] 3)] → (cutR k m.reverse = some (r1, s, m'.reverse)) → (l ++ askR k m.reverse = l') → K (.returned (.tuple #[.pointer (some ⟨pb, 0, none⟩), .int .i64 s.tag, .bool true])) w') :
    Calls Try.prog 17 #[.pointer (some ⟨sb, 0, none⟩), .func (.func 18) #[] #[.pointer (some ⟨ab, 0, none⟩), .pointer (some ⟨kb, 0, none⟩)], .bool deep] w K := by
  obtain ⟨L0, hL0, H⟩ : ∃ L0, L0 = [.blk sb (.cells #[.pointer p] 58), sgI Q p m, .blk ab (.cells #[.slice A n c] 39), .own 3 1 A c n (ints l), .blk kb (.cells #[.int .i64 k] 3)] ∧ Hs w L0 w [.blk sb (.cells #[.pointer p] 58), sgI Q p m, .blk ab (.cells #[.slice A n c] 39), .own 3 1 A c n (ints l), .blk kb (.cells #[.int .i64 k] 3)] := ⟨_, rfl, Hs.refl H0⟩
  refine Sx.en (vs := [.pointer (some ⟨sb, 0, none⟩), .func (.func 18) #[] #[.pointer (some ⟨ab, 0, none⟩), .pointer (some ⟨kb, 0, none⟩)], .bool deep]) 97 Try.func17 ?_
  refine Sx.l 19 0 H ?_
  have H1 := H.add (Gx.Ext.refl _) (it := .own 54 1 none 0 0 []) (World.ownsRow_nil _ _ _ _) (fun _ h => by cases h)
  have H2 := sg_dup H1 1 Q p m (by kernel_rfl)
  have H3 := ps_nil H2 1 Q m.length p m (by kernel_rfl)
  have H4 := H3.pick (a := [.blk sb (.cells #[.pointer p] 58), sgI Q p m, sgI Q p m, .own 54 1 none 0 0 (ptrs ([])), psI Q m.length ([]) ([]), .blk ab (.cells #[.slice A n c] 39), .own 3 1 A c n (ints l), .blk kb (.cells #[.int .i64 k] 3)]) [0, 0, 4, 3, 3, 0, 0, 0] (by kernel_rfl)
  refine Sx.lp 4 (fun z l' w' => ∃ (pl : Option Addr) (ml : List Seg) (ms : List Seg) (bs : List Nat) (At : Option Addr) (ct : Nat) (nt : Nat) (Aq : Option Addr) (cq : Nat) (nq : Nat) (lq : List Int), l' = [(0, .pointer (some ⟨sb, 0, none⟩)), (1, .func (.func 18) #[] #[.pointer (some ⟨ab, 0, none⟩), .pointer (some ⟨kb, 0, none⟩)]), (2, .bool deep), (9, .slice At nt ct), (10, .pointer pl)] ∧ z = 0 + ml.length ∧ Hs w L0 w' [.blk sb (.cells #[.pointer p] 58), sgI Q p m, sgI Q pl ml, .own 54 1 At ct nt (ptrs bs), psI Q ml.length bs ms, .blk ab (.cells #[.slice Aq nq cq] 39), .own 3 1 Aq cq nq (ints lq), .blk kb (.cells #[.int .i64 k] 3)] ∧ (nt = ms.length) ∧ (CutAt k m ml ms l lq) ∧ (nq + ml.length ≤ n + m.length)) _ [(0, .pointer (some ⟨sb, 0, none⟩)), (1, .func (.func 18) #[] #[.pointer (some ⟨ab, 0, none⟩), .pointer (some ⟨kb, 0, none⟩)]), (2, .bool deep), (9, .slice none 0 0), (10, .pointer p)] ⟨p, m, [], [], none, 0, 0, A, c, n, l, rfl, rfl, H4, rfl, (.init k m l), (Nat.le_refl _)⟩ (fun b1 z1 l1 w1 hI1 K1 hK1 => ?_)
  obtain ⟨pl, ml, ms, bs, At, ct, nt, Aq, cq, nq, lq, rfl, rfl, H5, hn2, hat, hq1⟩ := hI1
  have htot := hat.tot
  refine sg_cases H5 2 Q pl ml (by kernel_rfl) (fun hp hl => ?_) (fun b2 hs1 tg1 fs1 m1 p1 t1 hp hl H6 => ?_)
  · subst hp hl
    exact Sx.rt 27 [] H5 _ (hN Aq cq nq lq _ (H5.pe hL0 [0, 0, 3, 3, 3]) hat.none.1 hat.none.2)
  subst hp hl
  cases hs1
  · skip
    simp only [tot_snoc, List.length_append, List.length_singleton] at htot hq1
    have H7 := ps_snoc H6 4 8 9 Q ((m1 ++ [Seg.mk false tg1 fs1]).length) bs ms b2 false tg1 fs1 t1 p1 m1 (by kernel_rfl) (by kernel_rfl) (by kernel_rfl) (by simp)
    refine Sx.nw 16 H7 fun k1 w2 H8 => ?_
    refine Sx.ap 0 3 12 8 1 0 54 1 76 1 k1 At ct nt (ptrs bs) [.pointer (some ⟨b2, 0, none⟩)] H8 (by omega) (by omega) (ptrs_app _ _) fun A1 cap1 w3 H9 => ?_
    refine Sx.lo (a := ⟨b2, 0, none⟩) (c := 1) (t := 4) 9 [.bool false] (.bool false) (said H9 8 (says_rb (Q := Q) (cs := sgC false tg1 fs1 t1 p1 m1) (e := 66)) (by kernel_rfl) 0 1) ?_
    refine Sx.lo (a := ⟨b2, 3, none⟩) (c := 1) (t := 54) 21 [.pointer p1] (.pointer p1) (said H9 8 (says_rb (Q := Q) (cs := sgC false tg1 fs1 t1 p1 m1) (e := 66)) (by kernel_rfl) 3 1) ?_
    have H10 := H9.pick (a := [.blk sb (.cells #[.pointer p] 58), sgI Q p m, sgI Q p1 m1, .own 54 1 A1 cap1 (nt + 1) (ptrs (bs ++ [b2])), psI Q m1.length (bs ++ [b2]) (ms ++ [Seg.mk false tg1 fs1]), .blk ab (.cells #[.slice Aq nq cq] 39), .own 3 1 Aq cq nq (ints lq), .blk kb (.cells #[.int .i64 k] 3)]) [0, 0, 8, 1, 7, 2, 2, 2] (by kernel_rfl)
    exact Sx.to 2 [(0, .pointer (some ⟨sb, 0, none⟩)), (1, .func (.func 18) #[] #[.pointer (some ⟨ab, 0, none⟩), .pointer (some ⟨kb, 0, none⟩)]), (2, .bool deep), (9, .slice A1 (nt + 1) cap1), (10, .pointer p1)] (hK1 _ _ _ _ (by simp) ⟨p1, m1, (ms ++ [Seg.mk false tg1 fs1]), (bs ++ [b2]), A1, cap1, nt + 1, Aq, cq, nq, lq, rfl, rfl, H10, (by simp [hn2]), hat.no, (by omega)⟩)
  simp only [tot_snoc, List.length_append, List.length_singleton] at htot hq1
  have H11 := ps_snoc H6 4 8 9 Q ((m1 ++ [Seg.mk true tg1 fs1]).length) bs ms b2 true tg1 fs1 t1 p1 m1 (by kernel_rfl) (by kernel_rfl) (by kernel_rfl) (by simp)
  refine Sx.nw 16 H11 fun k2 w4 H12 => ?_
  refine Sx.ap 0 3 12 8 1 0 54 1 76 1 k2 At ct nt (ptrs bs) [.pointer (some ⟨b2, 0, none⟩)] H12 (by omega) (by omega) (ptrs_app _ _) fun A2 cap2 w5 H13 => ?_
  refine Sx.lo (a := ⟨b2, 0, none⟩) (c := 1) (t := 4) 9 [.bool true] (.bool true) (said H13 8 (says_rb (Q := Q) (cs := sgC true tg1 fs1 t1 p1 m1) (e := 66)) (by kernel_rfl) 0 1) ?_
  refine Sx.lo (a := ⟨b2, 1, none⟩) (c := 1) (t := 3) 6 [.int .i64 tg1] (.int .i64 tg1) (said H13 8 (says_rb (Q := Q) (cs := sgC true tg1 fs1 t1 p1 m1) (e := 66)) (by kernel_rfl) 1 1) ?_
  refine Sx.c 0 [5, 5, 5] H13 (fun Hp R hR => ask_c tg1 ab kb Aq nq cq lq k w5 R Hp (by omega) (fun A3 c1 w6 G1 => hR _ _ _ G1 fun H14 => ?_))
  refine Sx.br 4 (!(hitB k tg1)) (fun h_c44 => ?_) (fun h_c44 => ?_)
  · skip
    refine Sx.lo (a := ⟨b2, 3, none⟩) (c := 1) (t := 54) 8 [.pointer p1] (.pointer p1) (said H14 8 (says_rb (Q := Q) (cs := sgC true tg1 fs1 t1 p1 m1) (e := 66)) (by kernel_rfl) 3 1) ?_
    have p_c44 := h_c44; try simp [-List.getD_eq_getElem?_getD] at p_c44
    have H15 := H14.pick (a := [.blk sb (.cells #[.pointer p] 58), sgI Q p m, sgI Q p1 m1, .own 54 1 A2 cap2 (nt + 1) (ptrs (bs ++ [b2])), psI Q m1.length (bs ++ [b2]) (ms ++ [Seg.mk true tg1 fs1]), .blk ab (.cells #[.slice A3 (nq + 1) c1] 39), .own 3 1 A3 c1 (nq + 1) (ints (lq ++ [tg1])), .blk kb (.cells #[.int .i64 k] 3)]) [3, 3, 8, 4, 7, 0, 0, 0] (by kernel_rfl)
    exact Sx.to 2 [(0, .pointer (some ⟨sb, 0, none⟩)), (1, .func (.func 18) #[] #[.pointer (some ⟨ab, 0, none⟩), .pointer (some ⟨kb, 0, none⟩)]), (2, .bool deep), (9, .slice A2 (nt + 1) cap2), (10, .pointer p1)] (hK1 _ _ _ _ (by simp) ⟨p1, m1, (ms ++ [Seg.mk true tg1 fs1]), (bs ++ [b2]), A2, cap2, nt + 1, A3, c1, nq + 1, (lq ++ [tg1]), rfl, rfl, H15, (by simp [hn2]), (hat.miss (by simpa using h_c44)), (by omega)⟩)
  refine Sx.nw 5 H14 fun k3 w7 H16 => ?_
  have p_c44 := h_c44; try simp [-List.getD_eq_getElem?_getD] at p_c44
  refine Sx.v 8 (.int .i64 (IntKind.i64.wrap (((nt + 1 : Nat) : Int) - (1 : Int)))) (.int .i64 ((nt : Nat) : Int)) (congrArg (Value.int .i64) (Gx.i64n (by omega) (by omega))) ?_
  have hlen : bs.length = ms.length := (H16.at 7 (it := psI Q ((m1 ++ [Seg.mk true tg1 fs1]).length) bs ms) (by kernel_rfl)).1.len
  have H17 := sg_nil H16
  have H18 := H17.pick (a := [.blk sb (.cells #[.pointer p] 58), sgI Q p m, rbI Q b2 (sgC true tg1 fs1 t1 p1 m1) 66, frI Q t1 fs1, sgI Q p1 m1, .own 54 1 A2 cap2 (nt + 1) (ptrs (bs ++ [b2])), psI Q m1.length (bs ++ [b2]) (ms ++ [Seg.mk true tg1 fs1]), psI Q ((m1 ++ [Seg.mk true tg1 fs1]).length) bs ms, .blk k3 (.cells #[.pointer none] 78), sgI (fun _ => False) none ([] : List Seg), .blk ab (.cells #[.slice A3 (nq + 1) c1] 39), .own 3 1 A3 c1 (nq + 1) (ints (lq ++ [tg1])), .blk kb (.cells #[.int .i64 k] 3)]) [3, 3, 6, 6, 6, 4, 5, 4, 5, 5, 0, 0, 0] (by kernel_rfl)
  refine Sx.lp 4 (fun z l' w' => ∃ (v : Int) (x : Nat) (pm : Option Addr) (mp : List Seg) (Qm : Nat → Prop), l' = [(0, .pointer (some ⟨sb, 0, none⟩)), (2, .bool deep), (9, .slice A2 (nt + 1) cap2), (10, .pointer (some ⟨b2, 0, none⟩)), (11, .pointer (some ⟨k3, 0, none⟩)), (12, .int .i64 v)] ∧ z = 0 + x ∧ Hs w L0 w' [.blk sb (.cells #[.pointer p] 58), sgI Q p m, rbI Q b2 (sgC true tg1 fs1 t1 p1 m1) 66, frI Q t1 fs1, sgI Q p1 m1, .own 54 1 A2 cap2 (nt + 1) (ptrs (bs ++ [b2])), psI Q m1.length (bs ++ [b2]) (ms ++ [Seg.mk true tg1 fs1]), psI Q ((m1 ++ [Seg.mk true tg1 fs1]).length) bs ms, .blk k3 (.cells #[.pointer pm] 78), sgI Qm pm mp, .blk ab (.cells #[.slice A3 (nq + 1) c1] 39), .own 3 1 A3 c1 (nq + 1) (ints (lq ++ [tg1])), .blk kb (.cells #[.int .i64 k] 3)] ∧ (v = ((x : Nat) : Int) - 1) ∧ (x ≤ ms.length + 1) ∧ (mp = pcM deep ms (Seg.mk true tg1 fs1) x)) _ [(0, .pointer (some ⟨sb, 0, none⟩)), (2, .bool deep), (9, .slice A2 (nt + 1) cap2), (10, .pointer (some ⟨b2, 0, none⟩)), (11, .pointer (some ⟨k3, 0, none⟩)), (12, .int .i64 ((nt : Nat) : Int))] ⟨((nt : Nat) : Int), (ms.length + 1), none, [], (fun _ => False), rfl, rfl, H18, (by omega), (Nat.le_refl _), (pc_nil _ _ _).symm⟩ (fun b3 z2 l2 w8 hI2 K2 hK2 => ?_)
  obtain ⟨v, x, pm, mp, Qm, rfl, rfl, H19, hv, hx, hmp⟩ := hI2
  rcases x with _ | y
  · obtain rfl : v = -1 := by omega
    refine Sx.lo (a := ⟨b2, 3, none⟩) (c := 1) (t := 54) 19 [.pointer p1] (.pointer p1) (said H19 2 (says_rb (Q := Q) (cs := sgC true tg1 fs1 t1 p1 m1) (e := 66)) (by kernel_rfl) 3 1) ?_
    refine Sx.s 3 0 H19 fun w9 H20 => ?_
    refine Sx.dr 3 H20 [2] [] (LJ := [rbI Q b2 (sgC true tg1 fs1 t1 p1 m1) 66]) (by kernel_rfl) fun w10 H21 => ?_
    refine Sx.tk [(0, none), (1, none), (2, none), (3, none)] (fun _ => (H21.sub [2] (by kernel_rfl))) ?_
    refine Sx.tvo (a := ⟨b2, 1, none⟩) (c := 1) (t := 3) 4 [] [.int .i64 tg1] (.int .i64 tg1) (fun w' hs => (said_sp hs 0 (says_rb (Q := Q) (cs := sgC true tg1 fs1 t1 p1 m1) (e := 66)) (by kernel_rfl) 1 1)) (fun _ => (H21.sub [2] (by kernel_rfl))) ?_
    refine Sx.tk [(5, none), (6, none), (7, none)] (fun _ => (H21.sub [2] (by kernel_rfl))) ?_
    refine Sx.dn ?_
    have hfin := hat.hit (by simpa using h_c44)
    have hmp0 := hmp.trans (pc_zero _ _ _)
    subst hmp0
    exact Sx.rt 7 [] H21 _ (hK p1 Q m1 (Seg.mk true tg1 fs1) ms k3 pm Qm A3 c1 (nq + 1) (lq ++ [tg1]) _ (H21.pe hL0 [0, 3, 6, 6, 6, 6, 6]) hfin.1 hfin.2)
  obtain rfl : v = ((y : Nat) : Int) := by omega
  rcases Nat.lt_or_ge y ms.length with hy | hy
  · skip
    obtain ⟨⟨hs2, tg2, fs2⟩, hmi1⟩ : ∃ s, (ms ++ [Seg.mk true tg1 fs1])[y]? = some s := ⟨_, List.getElem?_eq_getElem (by simp; omega)⟩
    refine ps_at H19 6 Q m1.length (bs ++ [b2]) (ms ++ [Seg.mk true tg1 fs1]) y hs2 tg2 fs2 (by kernel_rfl) hmi1 (fun b4 t2 u1 x1 y1 hbi1 H22 => ?_)
    have hle := pc_le deep (Seg.mk true tg1 fs1) hmi1
    have hne : b2 ≠ b4 := fun e => ps_apart H22 7 2 Q ((m1 ++ [Seg.mk true tg1 fs1]).length) bs ms b2 true tg1 fs1 t1 p1 m1 (by kernel_rfl) (by kernel_rfl) (by simp) b4 (List.mem_of_getElem? (by rw [List.getElem?_append_left (by omega)] at hbi1; exact hbi1)) e.symm
    rw [← hmp] at hle
    simp only at hle
    obtain ⟨g1, rfl⟩ := H22.row 5 (A := A2) (e := 54) (sz := 1) (cap := cap2) (n := (nt + 1)) (xs := (ptrs (bs ++ [b2]))) (by kernel_rfl) (by omega)
    refine Sx.ir 16 g1 y 1 (nt + 1) cap2 (by omega) ?_
    refine Sx.lr 0 5 54 1 54 g1 cap2 (nt + 1) (y * 1) (ptrs (bs ++ [b2])) H22 (.pointer (some ⟨b4, 0, none⟩)) (ptrs_ld hbi1) ?_
    refine Sx.lo (a := ⟨b4, 0, none⟩) (c := 6) (t := 66) 1 [.bool hs2, .int .i64 tg2, .pointer t2, .pointer u1, .int .i64 x1, .int .i64 y1] (.agg #[.bool hs2, .int .i64 tg2, .pointer t2, .pointer u1, .int .i64 x1, .int .i64 y1]) (said H22 13 (says_rb (Q := Q) (cs := [.bool hs2, .int .i64 tg2, .pointer t2, .pointer u1, .int .i64 x1, .int .i64 y1]) (e := 66)) (by kernel_rfl) 0 6) ?_
    refine Sx.nw 0 H22 fun k4 w11 H23 => ?_
    refine Sx.s 0 15 H23 fun w12 H24 => ?_
    refine Sx.ir 8 g1 y 1 (nt + 1) cap2 (by omega) ?_
    refine Sx.lr 0 5 54 1 54 g1 cap2 (nt + 1) (y * 1) (ptrs (bs ++ [b2])) H24 (.pointer (some ⟨b4, 0, none⟩)) (ptrs_ld hbi1) ?_
    refine Sx.pqo 0 b2 b4 6 hne ((says_rb (Q := Q) (cs := sgC true tg1 fs1 t1 p1 m1) (e := 66)) _ (H24.at 2 (by kernel_rfl))) ((says_rb (Q := Q) (cs := [.bool hs2, .int .i64 tg2, .pointer t2, .pointer u1, .int .i64 x1, .int .i64 y1]) (e := 66)) _ (H24.at 13 (by kernel_rfl))) ?_
    refine Sx.l 15 8 H24 ?_
    refine Sx.c 0 [15, 14, 9] H24 (fun Hp R hR => on_c k4 (.blk k4 (.cells [.bool hs2, .int .i64 tg2, .pointer t2, .pointer u1, .int .i64 x1, .int .i64 y1].toArray 66)) hs2 tg2 fs2 t2 u1 x1 y1 Q pm mp Qm w12 R Hp (says_blk (cs := [.bool hs2, .int .i64 tg2, .pointer t2, .pointer u1, .int .i64 x1, .int .i64 y1])) (by omega) (by omega) (fun Q1 p2 w13 G2 => hR _ _ _ G2 fun H25 => ?_))
    refine Sx.s 3 10 H25 fun w14 H26 => ?_
    refine Sx.v 5 (.int .i64 (IntKind.i64.wrap (((y : Nat) : Int) - (1 : Int)))) (.int .i64 (((y : Nat) : Int) - (1 : Int))) (congrArg (Value.int .i64) (IntWalk.i64_in _ (by omega))) ?_
    have H27 := H26.pick (a := [.blk sb (.cells #[.pointer p] 58), sgI Q p m, rbI Q b2 (sgC true tg1 fs1 t1 p1 m1) 66, frI Q t1 fs1, sgI Q p1 m1, .own 54 1 (some ⟨g1, 0, none⟩) cap2 (nt + 1) (ptrs (bs ++ [b2])), psI Q m1.length (bs ++ [b2]) (ms ++ [Seg.mk true tg1 fs1]), psI Q ((m1 ++ [Seg.mk true tg1 fs1]).length) bs ms, .blk k3 (.cells #[.pointer p2] 78), sgI Q1 p2 (mp ++ [Seg.mk hs2 tg2 fs2]), .blk ab (.cells #[.slice A3 (nq + 1) c1] 39), .own 3 1 A3 c1 (nq + 1) (ints (lq ++ [tg1])), .blk kb (.cells #[.int .i64 k] 3)]) [2, 2, 2, 2, 2, 2, 2, 2, 2, 1, 1, 1, 1] (by kernel_rfl)
    exact Sx.to 2 [(0, .pointer (some ⟨sb, 0, none⟩)), (2, .bool deep), (9, .slice (some ⟨g1, 0, none⟩) (nt + 1) cap2), (10, .pointer (some ⟨b2, 0, none⟩)), (11, .pointer (some ⟨k3, 0, none⟩)), (12, .int .i64 (((y : Nat) : Int) - (1 : Int)))] (hK2 _ _ _ _ (by omega) ⟨(((y : Nat) : Int) - (1 : Int)), y, p2, (mp ++ [Seg.mk hs2 tg2 fs2]), Q1, rfl, rfl, H27, (by omega), (by omega), (by rw [hmp]; exact (pc_step deep (Seg.mk true tg1 fs1) hmi1 hy).symm)⟩)
  obtain rfl : y = ms.length := by omega
  have H28 := fr_dup H19 3 Q t1 fs1 (by kernel_rfl)
  have hle := pc_le deep (Seg.mk true tg1 fs1) (ms := ms) (y := ms.length) (e := (Seg.mk true tg1 fs1)) List.getElem?_concat_length
  rw [← hmp] at hle
  simp only at hle
  obtain ⟨g2, rfl⟩ := H28.row 5 (A := A2) (e := 54) (sz := 1) (cap := cap2) (n := (nt + 1)) (xs := (ptrs (bs ++ [b2]))) (by kernel_rfl) (by omega)
  refine Sx.ir 16 g2 ms.length 1 (nt + 1) cap2 (by omega) ?_
  refine Sx.lr 0 5 54 1 54 g2 cap2 (nt + 1) (ms.length * 1) (ptrs (bs ++ [b2])) H28 (.pointer (some ⟨b2, 0, none⟩)) (ptrs_ld (show (bs ++ [b2])[ms.length]? = some b2 by rw [← hlen, List.getElem?_concat_length])) ?_
  refine Sx.lo (a := ⟨b2, 0, none⟩) (c := 6) (t := 66) 1 [.bool true, .int .i64 tg1, .pointer t1, .pointer p1, .int .i64 ((tot m1 + fs1.length : Nat) : Int), .int .i64 ((m1.length + 1 : Nat) : Int)] (.agg #[.bool true, .int .i64 tg1, .pointer t1, .pointer p1, .int .i64 ((tot m1 + fs1.length : Nat) : Int), .int .i64 ((m1.length + 1 : Nat) : Int)]) (said H28 2 (says_rb (Q := Q) (cs := sgC true tg1 fs1 t1 p1 m1) (e := 66)) (by kernel_rfl) 0 6) ?_
  refine Sx.nw 0 H28 fun k5 w15 H29 => ?_
  refine Sx.s 0 14 H29 fun w16 H30 => ?_
  refine Sx.ir 8 g2 ms.length 1 (nt + 1) cap2 (by omega) ?_
  refine Sx.lr 0 5 54 1 54 g2 cap2 (nt + 1) (ms.length * 1) (ptrs (bs ++ [b2])) H30 (.pointer (some ⟨b2, 0, none⟩)) (ptrs_ld (show (bs ++ [b2])[ms.length]? = some b2 by rw [← hlen, List.getElem?_concat_length])) ?_
  refine Sx.pqs 0 ⟨b2, 0, none⟩ 6 ?_
  refine Sx.br 6 (!deep) (fun h_c69 => ?_) (fun h_c69 => ?_)
  · skip
    refine Sx.s 8 14 H30 fun w17 H31 => ?_
    refine Sx.s 1 14 H31 fun w18 H32 => ?_
    refine Sx.l 8 8 H32 ?_
    have p_c69 := h_c69; try simp [-List.getD_eq_getElem?_getD] at p_c69
    refine Sx.c 0 [14, 3, 8] H32 (fun Hp R hR => on_c k5 (.blk k5 (.cells [.bool false, .int .i64 0, .pointer t1, .pointer p1, .int .i64 ((tot m1 + fs1.length : Nat) : Int), .int .i64 ((m1.length + 1 : Nat) : Int)].toArray 66)) false (0 : Int) fs1 t1 p1 ((tot m1 + fs1.length : Nat) : Int) ((m1.length + 1 : Nat) : Int) Q pm mp Qm w18 R Hp (says_blk (cs := [.bool false, .int .i64 0, .pointer t1, .pointer p1, .int .i64 ((tot m1 + fs1.length : Nat) : Int), .int .i64 ((m1.length + 1 : Nat) : Int)])) (by omega) (by omega) (fun Q2 p3 w19 G3 => hR _ _ _ G3 fun H33 => ?_))
    refine Sx.s 3 9 H33 fun w20 H34 => ?_
    refine Sx.v 5 (.int .i64 (IntKind.i64.wrap (((ms.length : Nat) : Int) - (1 : Int)))) (.int .i64 (((ms.length : Nat) : Int) - (1 : Int))) (congrArg (Value.int .i64) (IntWalk.i64_in _ (by omega))) ?_
    have H35 := H34.pick (a := [.blk sb (.cells #[.pointer p] 58), sgI Q p m, rbI Q b2 (sgC true tg1 fs1 t1 p1 m1) 66, frI Q t1 fs1, sgI Q p1 m1, .own 54 1 (some ⟨g2, 0, none⟩) cap2 (nt + 1) (ptrs (bs ++ [b2])), psI Q m1.length (bs ++ [b2]) (ms ++ [Seg.mk true tg1 fs1]), psI Q ((m1 ++ [Seg.mk true tg1 fs1]).length) bs ms, .blk k3 (.cells #[.pointer p3] 78), sgI Q2 p3 (mp ++ [Seg.mk false (0 : Int) fs1]), .blk ab (.cells #[.slice A3 (nq + 1) c1] 39), .own 3 1 A3 c1 (nq + 1) (ints (lq ++ [tg1])), .blk kb (.cells #[.int .i64 k] 3)]) [2, 2, 2, 10, 2, 2, 2, 2, 2, 1, 1, 1, 1] (by kernel_rfl)
    exact Sx.to 2 [(0, .pointer (some ⟨sb, 0, none⟩)), (2, .bool deep), (9, .slice (some ⟨g2, 0, none⟩) (nt + 1) cap2), (10, .pointer (some ⟨b2, 0, none⟩)), (11, .pointer (some ⟨k3, 0, none⟩)), (12, .int .i64 (((ms.length : Nat) : Int) - (1 : Int)))] (hK2 _ _ _ _ (by omega) ⟨(((ms.length : Nat) : Int) - (1 : Int)), ms.length, p3, (mp ++ [Seg.mk false (0 : Int) fs1]), Q2, rfl, rfl, H35, (by omega), (by omega), (by rw [hmp, pc_hit]; simp at h_c69; simp [fixS, h_c69])⟩)
  refine Sx.l 8 8 H30 ?_
  have p_c69 := h_c69; try simp [-List.getD_eq_getElem?_getD] at p_c69
  refine Sx.c 0 [14, 3, 8] H30 (fun Hp R hR => on_c k5 (.blk k5 (.cells [.bool true, .int .i64 tg1, .pointer t1, .pointer p1, .int .i64 ((tot m1 + fs1.length : Nat) : Int), .int .i64 ((m1.length + 1 : Nat) : Int)].toArray 66)) true tg1 fs1 t1 p1 ((tot m1 + fs1.length : Nat) : Int) ((m1.length + 1 : Nat) : Int) Q pm mp Qm w16 R Hp (says_blk (cs := [.bool true, .int .i64 tg1, .pointer t1, .pointer p1, .int .i64 ((tot m1 + fs1.length : Nat) : Int), .int .i64 ((m1.length + 1 : Nat) : Int)])) (by omega) (by omega) (fun Q3 p4 w21 G4 => hR _ _ _ G4 fun H36 => ?_))
  refine Sx.s 3 9 H36 fun w22 H37 => ?_
  refine Sx.v 5 (.int .i64 (IntKind.i64.wrap (((ms.length : Nat) : Int) - (1 : Int)))) (.int .i64 (((ms.length : Nat) : Int) - (1 : Int))) (congrArg (Value.int .i64) (IntWalk.i64_in _ (by omega))) ?_
  have H38 := H37.pick (a := [.blk sb (.cells #[.pointer p] 58), sgI Q p m, rbI Q b2 (sgC true tg1 fs1 t1 p1 m1) 66, frI Q t1 fs1, sgI Q p1 m1, .own 54 1 (some ⟨g2, 0, none⟩) cap2 (nt + 1) (ptrs (bs ++ [b2])), psI Q m1.length (bs ++ [b2]) (ms ++ [Seg.mk true tg1 fs1]), psI Q ((m1 ++ [Seg.mk true tg1 fs1]).length) bs ms, .blk k3 (.cells #[.pointer p4] 78), sgI Q3 p4 (mp ++ [Seg.mk true tg1 fs1]), .blk ab (.cells #[.slice A3 (nq + 1) c1] 39), .own 3 1 A3 c1 (nq + 1) (ints (lq ++ [tg1])), .blk kb (.cells #[.int .i64 k] 3)]) [2, 2, 2, 10, 2, 2, 2, 2, 2, 1, 1, 1, 1] (by kernel_rfl)
  exact Sx.to 2 [(0, .pointer (some ⟨sb, 0, none⟩)), (2, .bool deep), (9, .slice (some ⟨g2, 0, none⟩) (nt + 1) cap2), (10, .pointer (some ⟨b2, 0, none⟩)), (11, .pointer (some ⟨k3, 0, none⟩)), (12, .int .i64 (((ms.length : Nat) : Int) - (1 : Int)))] (hK2 _ _ _ _ (by omega) ⟨(((ms.length : Nat) : Int) - (1 : Int)), ms.length, p4, (mp ++ [Seg.mk true tg1 fs1]), Q3, rfl, rfl, H38, (by omega), (by omega), (by rw [hmp, pc_hit]; simp at h_c69; simp [fixS, h_c69])⟩)
end Go.Proofs.Ytokplpijjnkboaa
