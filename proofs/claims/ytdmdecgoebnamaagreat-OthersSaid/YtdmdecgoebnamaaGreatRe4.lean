/- A part of the proof. -/
import Derived.Test.YtdmdecgoebnamaaGreatGraph
import Derived.Test.YtdmdecgoebnamaaGreatRe1
set_option linter.unusedVariables false
set_option linter.unusedSimpArgs false
namespace Go.Proofs.YtdmdecgoebnamaaGreat
open Go.RowKit Go.Sx Go.Inf Go.Syn
attribute [local irreducible] Go.wpOps Go.Code.wp Go.wpOp Go.wpAnyH Go.Calls Go.Sx.Goal
set_option maxRecDepth 20000
namespace Rd
set_option maxHeartbeats 1000000 in
theorem typ_c (k : Nat) (ih : ∀ j, j ≤ k → Spec j) : RdC (k + 1) .typ 11 48 [] := by
  refine rdx fun b S q w K H0 ok hm hK => ?_
  obtain ⟨L0, hL0, H⟩ := Sx.op0 H0
  refine Sx.en (vs := [.p b]) 87 Tryz.func48 ?_
  have f := ih k (Nat.le_refl k)
  have oky := ok.y
  refine Sx.nw 2 H fun k1 w1 H1 => ?_
  refine Sx.c 6 [0] H1 (fun Hp R hR => ok_c b S q w1 R Hp (hR _ _ _ (.refl Hp) fun _ => ?_))
  refine Sx.br 3 (!(okB q)) (fun h_c11 => ?_) (fun h_c11 => ?_)
  · refine Sx.s 3 1 H1 fun w2 H2 => ?_
    have H3 := kv_nil H2
    have n_c11 := nt h_c11
    exact Sx.rt 4 [1] H3 _ (hK (fun _ => False) nd0 none 0 q (by rw [run_succ]; simp only [stepN, typS, fnS, Nd.ks, *, s0, maps, decide_eq_true_eq, reduceIte]) _ (H3.pe hL0 [0, 1]))
  refine Sx.l 8 0 H1 ?_
  refine Sx.br 3 (decide (((q.y : Nat) : Int) ≥ (200 : Int))) (fun h_c17 => ?_) (fun h_c17 => ?_)
  · refine Sx.l 7 0 H1 ?_
    refine Sx.s 3 0 H1 fun w3 H4 => Sx.s 5 1 H4 fun w4 H5 => ?_
    have H6 := kv_nil H5
    have n_c11 := nf h_c11
    have p_c17 := of_decide_eq_true h_c17
    exact Sx.rt 4 [1] H6 _ (hK (fun _ => False) nd0 none 0 ⟨q.k, q.a, q.t, q.n, q.e, 5, q.a, q.x, q.y⟩ (by rw [run_succ]; simp only [stepN, typS, fnS, Nd.ks, *, s0, maps, decide_eq_true_eq, reduceIte]) _ (H6.pe hL0 [0, 1]))
  refine Sx.l 7 0 H1 ?_
  have n_c11 := nf h_c11
  have p_c17 := of_decide_eq_false h_c17
  refine Sx.v 0 (.int .i64 (IntKind.i64.wrap (((q.y : Nat) : Int) + (1 : Int)))) (.int .i64 ((q.y + 1 : Nat) : Int)) (congrArg (Value.int .i64) (Gx.i64n (by omega) (by have := ok.y; omega))) <| Sx.s 2 0 H1 fun w5 H7 => ?_
  have ok1 := ok_xy ok q.x (q.y + 1) (by have := ok.x; omega) (by have := ok.y; omega)
  have mq1 : M S ⟨q.k, q.a, q.t, q.n, q.e, q.fk, q.fa, q.x, q.y + 1⟩ = M S q := rfl
  refine Sx.c 5 [0] H7 (fun Hp R hR => f.f_pair b S ⟨q.k, q.a, q.t, q.n, q.e, q.fk, q.fa, q.x, q.y + 1⟩ w5 R Hp ok1 (by omega) (fun Q1 t1 A1 c1 q1 e1 ⟨ok1, m1, x1, y1⟩ w6 G1 => hR _ _ _ G1 fun H8 => ?_))
  dsimp only at x1 y1
  refine Sx.nw 0 H8 fun k2 w7 H9 => Sx.s 0 3 H9 fun w8 H10 => ?_
  refine Sx.c 6 [0] H10 (fun Hp R hR => has_c b S q1 (⟨#[45, 62]⟩ : ByteArray) w8 R Hp ok1 (fun q2 e2 ⟨⟨ok2, m2, x2, y2⟩, l1⟩ w9 G2 => hR _ _ _ G2 fun H11 => ?_))
  refine Sx.br 2 (isB q1 (⟨#[45, 62]⟩ : ByteArray)) (fun h_c38 => ?_) (fun h_c38 => ?_)
  · have lt1 := l1 h_c38
    refine Sx.c 3 [0] H11 (fun Hp R hR => f.f_typ b S q2 w9 R Hp ok2 (by omega) (fun Q2 t2 A2 c2 q3 e3 ⟨ok3, m3, x3, y3⟩ w10 G3 => hR _ _ _ G3 fun H12 => ?_))
    refine Sx.nw 0 H12 fun k3 w11 H13 => Sx.s 0 5 H13 fun w12 H14 => Sx.l 4 4 H14 <| Sx.l 0 4 H14 <| Sx.l 0 5 H14 <| Sx.nw 0 H14 fun k4 w13 H15 => ?_
    refine kv_make H15 [6, 2, 1] k4 62 [.nd Q1 t1 A1 c1, .nd Q2 t2 A2 c2] fun Q3 H16 => ?_
    refine Sx.c 0 [] H16 (fun Hp R hR => Node_c (29 : Int) ((t1.a : Nat) : Int) (some ⟨k4, 0, none⟩) 2 2 w13 R Hp 2 rfl (fun w14 G4 => hR _ _ _ G4 fun H17 => ?_))
    refine Sx.s 0 3 H17 fun w15 H18 => Sx.l 7 1 H18 <| Sx.v 0 (.int .i64 (IntKind.i64.wrap (((q3.y : Nat) : Int) - (1 : Int)))) (.int .i64 ((q3.y - 1 : Nat) : Int)) (congrArg (Value.int .i64) (by rw [IntWalk.i64_in _ (by omega)]; omega)) <| Sx.s 2 1 H18 fun w16 H19 => Sx.l 4 3 H19 <| Sx.s 0 2 H19 fun w17 H20 => ?_
    exact Sx.rt 3 [2] H20 _ (hK Q3 (.mk 29 t1.a (⟨#[]⟩ : ByteArray) (0 : Int) [t1, t2]) (some ⟨k4, 0, none⟩) 2 ⟨q3.k, q3.a, q3.t, q3.n, q3.e, q3.fk, q3.fa, q3.x, q3.y - 1⟩ (by rw [run_succ]; simp only [stepN, typS, fnS, Nd.ks, *, s0, maps, decide_eq_true_eq, reduceIte]) _ (H20.pe hL0 [1, 0]))
  refine Sx.c 3 [0] H11 (fun Hp R hR => has_c b S q2 (⟨#[45]⟩ : ByteArray) w9 R Hp ok2 (fun q4 e4 ⟨⟨ok4, m4, x4, y4⟩, l2⟩ w18 G5 => hR _ _ _ G5 fun H21 => ?_))
  refine Sx.br 2 (isB q2 (⟨#[45]⟩ : ByteArray)) (fun h_c48 => ?_) (fun h_c48 => ?_)
  · have lt2 := l2 h_c48
    refine Sx.c 3 [0] H21 (fun Hp R hR => must_c b S q4 (⟨#[123]⟩ : ByteArray) w18 R Hp ok4 (fun q5 e5 ⟨ok5, m5, x5, y5⟩ w19 G6 => hR _ _ _ G6 fun H22 => ?_))
    have H23 := H22.add (Gx.Ext.refl _) (it := .own 62 5 none 0 0 []) (World.ownsRow_nil _ _ _ _) (fun _ h => by cases h)
    have H24 := ks_nil H23
    refine Sx.lp 9 (fun z l' w' => ∃ (j : Nat) (p : Rs) (n : Nat) (l : List Nr) (Q : Nat → Prop) (A : Option Addr) (c : Nat), l' = [(0, .p b), (2, .p k1), (3, .p k2), (5, .slice A n c)] ∧ z = M S p ∧ Hs w L0 w' [rdI b S p, .own 62 5 A c n (flat l), ksI Q l, .blk k1 (.cells #[.int .i64 0, .int .i64 0, .string (⟨#[]⟩ : ByteArray), .int .i64 0, .slice none 0 0] 62), .blk k2 (.cells #[.n t1.k, .n t1.a, .string t1.nm, .int .i64 t1.n, .slice A1 t1.ks.length c1] 62), kvI Q1 t1.ks A1 c1] ∧ (j ≤ k) ∧ (16 * M S p + 3 ≤ j) ∧ (run S j (.namesL (nds l)) p = run S k (.namesL []) q5) ∧ (Up S q5 p) ∧ (n = l.length) ∧ (n + M S p ≤ 4000)) _ _ ⟨k, q5, 0, [], (fun _ => False), none, 0, rfl, rfl, H24.pk [0, 3, 3, 1, 1, 0], (Nat.le_refl _), (by omega), rfl, ⟨ok5, by omega, by omega, by omega⟩, (by rfl), (by have := M_le ok5; omega)⟩ (fun b1 z1 l3 w20 hI1 K1 hK1 => ?_)
    obtain ⟨j, p, n, l, Q, A, c, rfl, rfl, H26, hj, hm1, hr, ⟨ho, hM, hx, hy⟩, hn, hlen⟩ := hI1
    obtain ⟨i, rfl⟩ : ∃ i, j = i + 1 := ⟨j - 1, by omega⟩
    have g := ih i (by omega)
    refine Sx.c 4 [0] H26 (fun Hp R hR => name_c b S p w20 R Hp ho (fun nm1 na1 q6 e6 ⟨⟨ok6, m6, x6, y6⟩, l4⟩ w21 G7 => hR _ _ _ G7 fun H27 => ?_))
    refine Sx.c 12 [] H27 (fun Hp R hR => named_c (23 : Int) ((na1 : Nat) : Int) nm1 none 0 0 w21 R Hp 0 rfl (fun w22 G8 => hR _ _ _ G8 fun H28 => ?_))
    refine Sx.nw 0 H28 fun k5 w23 H29 => Sx.ap 0 1 6 64 1 0 62 5 60 1 k5 A c n (flat l) [.int .i64 23, .n na1, .string nm1, .int .i64 0, .slice none 0 0] H29 (by omega) (by omega) (flat_snoc _ (((.mk 23 na1 nm1 (0 : Int) []), none, 0))).symm fun A3 cap1 w24 H30 => ks_more H30 [2] Q l [.lf 23 na1 nm1 (0 : Int)] fun Q4 H31 => ?_
    refine Sx.c 6 [1] H31 (fun Hp R hR => has_c b S q6 (⟨#[44]⟩ : ByteArray) w24 R Hp ok6 (fun q7 e7 ⟨⟨ok7, m7, x7, y7⟩, l5⟩ w25 G9 => hR _ _ _ G9 fun H32 => ?_))
    refine Sx.br 3 (!(isB q6 (⟨#[44]⟩ : ByteArray))) (fun h_c64 => ?_) (fun h_c64 => ?_)
    · have n_c64 := nt h_c64
      have e8 : run S k (.namesL []) q5 = ((.mk 0 0 (⟨#[]⟩ : ByteArray) 0 (nds (l ++ [((.mk 23 na1 nm1 (0 : Int) []), none, 0)]))), q7) := by rw [← hr, run_succ]; simp only [stepN, namesLS, *, s0, maps, reduceIte]
      have hnn : n + 1 = List.length (l ++ [((.mk 23 na1 nm1 (0 : Int) []), none, 0)]) := by simp [*]
      refine Sx.c 8 [0] H32 (fun Hp R hR => must_c b S q7 (⟨#[125]⟩ : ByteArray) w25 R Hp ok7 (fun q8 e9 ⟨ok8, m8, x8, y8⟩ w26 G10 => hR _ _ _ G10 fun H33 => ?_))
      refine Sx.c 5 [0] H33 (fun Hp R hR => must_c b S q8 (⟨#[45, 62]⟩ : ByteArray) w26 R Hp ok8 (fun q9 e10 ⟨ok9, m9, x9, y9⟩ w27 G11 => hR _ _ _ G11 fun H34 => ?_))
      refine Sx.c 5 [0] H34 (fun Hp R hR => f.f_typ b S q9 w27 R Hp ok9 (by omega) (fun Q5 t3 A4 c3 q10 e11 ⟨ok10, m10, x10, y10⟩ w28 G12 => hR _ _ _ G12 fun H35 => ?_))
      refine Sx.nw 0 H35 fun k6 w29 H36 => Sx.s 0 8 H36 fun w30 H37 => Sx.dr 2 H37 [5, 8] [8] (LJ := [.blk k2 (.cells #[.n t1.k, .n t1.a, .string t1.nm, .int .i64 t1.n, .slice A1 t1.ks.length c1] 62), .blk k6 (.cells #[.n t3.k, .n t3.a, .string t3.nm, .int .i64 t3.n, .slice A4 t3.ks.length c3] 62)]) (by kernel_rfl) fun w31 H38 => Sx.tk [(0, none), (1, some (0, [7, 8])), (2, some (0, [4, 6, 7, 8])), (3, some (1, [4, 6, 7, 8])), (5, none)] (H38.sb [5, 7]) <| Sx.nmx ?_
      intro zx1
      refine Sx.on 4 <| Sx.nw 0 H38 fun k7 w32 H39 => Sx.bk (x := zx1) 4 (H39.sb [5, 7]) <| Sx.nmx ?_
      intro zx2
      refine Sx.on 6 ?_
      have H40 := kd_own H39 9 k7 62 [.nd Q1 t1 A1 c1, .nd Q5 t3 A4 c3]
      have hc := own_cells (H40.at 3 (it := .own 62 5 A3 cap1 (n + 1) (flat (l ++ [((.mk 23 na1 nm1 (0 : Int) []), none, 0)]))) (by kernel_rfl))
      have hl := flat_len (l ++ [((.mk 23 na1 nm1 (0 : Int) []), none, 0)])
      refine Sx.aps 0 9 64 (n + 1) 62 5 60 cap1 A3 (some ⟨k7, 0, none⟩) 2 2 (flat [(t1, A1, c1), (t3, A4, c3)]) (flat (l ++ [((.mk 23 na1 nm1 (0 : Int) []), none, 0)])) H40 hc.1 hc.2 (by rw [flat_len]; omega) (flat_one _) (by omega) (by omega) (Nat.le_refl _) (xs' := flat ([(t1, A1, c1), (t3, A4, c3)] ++ (l ++ [((.mk 23 na1 nm1 (0 : Int) []), none, 0)]))) (flat_app _ _) fun A5 cap2 w33 H41 => ?_
      have H42 := ks_nil H41
      refine ks_more H42 [10, 6, 1] (fun _ => False) [] [.nd Q1 t1 A1 c1, .nd Q5 t3 A4 c3] fun Q6 H43 => ks_app H43 [0, 1] Q6 Q4 [(t1, A1, c1), (t3, A4, c3)] (l ++ [((.mk 23 na1 nm1 (0 : Int) []), none, 0)]) fun Q7 H44 => Sx.bk (x := zx2) 6 (H44.sb [4, 5]) <| Sx.nmx ?_
      intro zx3
      refine Sx.on 7 <| kv_own H44 [7, 0] 62 A5 cap2 (2 + n + 1) Q7 ([(t1, A1, c1), (t3, A4, c3)] ++ (l ++ [((.mk 23 na1 nm1 (0 : Int) []), none, 0)])) (by simp; omega) fun Q8 H45 => ?_
      refine Sx.c 0 [] H45 (fun Hp R hR => Node_c (29 : Int) ((t1.a : Nat) : Int) A5 (2 + n + 1) cap2 w33 R Hp ((nds ([(t1, A1, c1), (t3, A4, c3)] ++ (l ++ [((.mk 23 na1 nm1 (0 : Int) []), none, 0)]))).length) (by rw [nds_len]; simp; omega) (fun w34 G13 => hR _ _ _ G13 fun H46 => ?_))
      refine Sx.bk (x := zx3) 7 (H46.sb [4, 5]) <| Sx.nmx ?_
      intro zx4
      refine Sx.on 8 <| Sx.s 0 4 H46 fun w35 H47 => Sx.bk (x := zx4) 8 Sx.np <| Sx.dn <| Sx.l 6 1 H47 <| Sx.v 0 (.int .i64 (IntKind.i64.wrap (((q10.y : Nat) : Int) - (1 : Int)))) (.int .i64 ((q10.y - 1 : Nat) : Int)) (congrArg (Value.int .i64) (by rw [IntWalk.i64_in _ (by omega)]; omega)) ?_
      refine Sx.s 2 1 H47 fun w36 H48 => Sx.l 4 4 H48 <| Sx.s 0 3 H48 fun w37 H49 => ?_
      exact Sx.rt 3 [3] H49 _ (hK Q8 (.mk 29 t1.a (⟨#[]⟩ : ByteArray) (0 : Int) (nds ([(t1, A1, c1), (t3, A4, c3)] ++ (l ++ [((.mk 23 na1 nm1 (0 : Int) []), none, 0)])))) A5 cap2 ⟨q10.k, q10.a, q10.t, q10.n, q10.e, q10.fk, q10.fa, q10.x, q10.y - 1⟩ (by rw [run_succ]; simp only [stepN, typS, fnS, Nd.ks, *, s0, maps, decide_eq_true_eq, reduceIte]) _ (H49.pe hL0 [1, 0]))
    have n_c64 := nf h_c64
    have lt3 := l5 n_c64
    exact Sx.to 2 _ (hK1 _ _ _ _ (by omega) ⟨i, q7, n + 1, l ++ [((.mk 23 na1 nm1 (0 : Int) []), none, 0)], Q4, A3, cap1, rfl, rfl, H32.pk [0, 1, 0, 0, 0, 0], (by omega), (by omega), (by rw [← hr, run_succ]; simp only [stepN, namesLS, *, s0, maps, reduceIte]), ⟨ok7, by omega, by omega, by omega⟩, (by simp [hn]), (by omega)⟩)
  refine Sx.l 7 0 H21 <| Sx.v 0 (.int .i64 (IntKind.i64.wrap (((q4.y : Nat) : Int) - (1 : Int)))) (.int .i64 ((q4.y - 1 : Nat) : Int)) (congrArg (Value.int .i64) (by rw [IntWalk.i64_in _ (by omega)]; omega)) <| Sx.s 2 0 H21 fun w38 H51 => Sx.l 4 3 H51 <| Sx.s 0 2 H51 fun w39 H52 => ?_
  exact Sx.rt 3 [2] H52 _ (hK Q1 t1 A1 c1 ⟨q4.k, q4.a, q4.t, q4.n, q4.e, q4.fk, q4.fa, q4.x, q4.y - 1⟩ (by rw [run_succ]; simp only [stepN, typS, fnS, Nd.ks, *, s0, maps, decide_eq_true_eq, reduceIte]) _ (H52.pe hL0 [0, 0]))
set_option maxHeartbeats 2000000 in
theorem handle_c (k : Nat) (ih : ∀ j, j ≤ k → Spec j) : ∀ (at_ : Nat), RdX (fun S q => 16 * M S q + 9 ≤ k + 1 ∧ (isB q (⟨#[104, 97, 110, 100, 108, 101]⟩ : ByteArray) || isB q (⟨#[115, 104, 97, 108, 108, 111, 119]⟩ : ByteArray)) = true) (k + 1) (.handle at_) 115 [.n at_] := by
  intro at_
  refine rdx fun b S q w K H0 ok hm hK => ?_
  obtain ⟨L0, hL0, H⟩ := Sx.op0 H0
  refine Sx.en (vs := [.p b, .n at_]) 99 Tryz.func115 ?_
  have f := ih k (Nat.le_refl k)
  obtain ⟨hm, hsh⟩ := hm
  refine Sx.nw 2 H fun k1 w1 H1 => ?_
  refine Sx.c 5 [0] H1 (fun Hp R hR => has_c b S q (⟨#[104, 97, 110, 100, 108, 101]⟩ : ByteArray) w1 R Hp ok (fun q1 e1 ⟨⟨ok1, m1, x1, y1⟩, l1⟩ w2 G1 => hR _ _ _ G1 fun H2 => ?_))
  refine Sx.cut 3 (fun l' w' => ∃ (q9 : Rs) (d : Bool), l' = [(0, .p b), (1, .n at_), (4, .p k1), (5, .bool d)] ∧ Hs w L0 w' [rdI b S q9, .blk k1 (.cells #[.int .i64 0, .int .i64 0, .string (⟨#[]⟩ : ByteArray), .int .i64 0, .slice none 0 0] 62)] ∧ (run S (k + 1) (.handle at_) q = handT S (run S k) at_ (if d = true then 0 else 1) q9) ∧ (Up S q q9) ∧ (M S q9 < M S q)) (fun K1 hK1 => ?_) (fun b1 l2 w3 hI1 => ?_)
  · refine Sx.br 6 (!(isB q (⟨#[104, 97, 110, 100, 108, 101]⟩ : ByteArray))) (fun h_c23 => ?_) (fun h_c23 => ?_)
    · have n_c23 := nt h_c23
      refine Sx.c 2 [0] H2 (fun Hp R hR => next_c b S q1 w2 R Hp ok1 (fun q2 e2 ⟨⟨ok2, m2, x2, y2⟩, l3⟩ w4 G2 => hR _ _ _ G2 fun H3 => ?_))
      refine Sx.sl 0 5 (.bool (isB q (⟨#[104, 97, 110, 100, 108, 101]⟩ : ByteArray))) (.bool false) (congrArg Value.bool n_c23) ?_
      exact Sx.to 1 _ (hK1 _ _ _ ⟨q2, false, rfl, H3.pk [0, 0], (by rw [run_succ]; simp only [stepN, handleS, *, s0, reduceIte]), ⟨ok2, by omega, by omega, by omega⟩, (by have hq : q1 = q := (by rw [← e1]; unfold hasR; rw [if_neg (by rw [n_c23]; exact Bool.false_ne_true)]); rw [← e2, hq]; exact is_lt ok (by have := hsh; simp only [*, s0] at this; exact this : isB q (⟨#[115, 104, 97, 108, 108, 111, 119]⟩ : ByteArray) = true))⟩)
    have n_c23 := nf h_c23
    have lt1 := l1 n_c23
    refine Sx.sl 0 5 (.bool (isB q (⟨#[104, 97, 110, 100, 108, 101]⟩ : ByteArray))) (.bool true) (congrArg Value.bool n_c23) ?_
    exact Sx.to 1 _ (hK1 _ _ _ ⟨q1, true, rfl, H2.pk [0, 0], (by rw [run_succ]; simp only [stepN, handleS, *, s0, reduceIte]), ⟨ok1, by omega, by omega, by omega⟩, (by omega)⟩)
  obtain ⟨q9, d, rfl, H6, hr9, ⟨ok9, m9, x9, y9⟩, hl9⟩ := hI1
  refine Sx.c 3 [0] H6 (fun Hp R hR => f.f_expr b S q9 w3 R Hp ok9 (by omega) (fun Q1 t1 A1 c1 q3 e3 ⟨ok3, m3, x3, y3⟩ w5 G3 => hR _ _ _ G3 fun H7 => ?_))
  refine Sx.nw 0 H7 fun k2 w6 H8 => Sx.s 0 3 H8 fun w7 H9 => ?_
  refine Sx.c 5 [0] H9 (fun Hp R hR => must_c b S q3 (⟨#[119, 105, 116, 104]⟩ : ByteArray) w7 R Hp ok3 (fun q4 e4 ⟨ok4, m4, x4, y4⟩ w8 G4 => hR _ _ _ G4 fun H10 => ?_))
  refine Sx.c 5 [0] H10 (fun Hp R hR => must_c b S q4 (⟨#[123]⟩ : ByteArray) w8 R Hp ok4 (fun q5 e5 ⟨ok5, m5, x5, y5⟩ w9 G5 => hR _ _ _ G5 fun H11 => ?_))
  refine Sx.l 8 0 H11 ?_
  refine Sx.c 6 [0] H11 (fun Hp R hR => must_c b S q5 (⟨#[114, 101, 116, 117, 114, 110]⟩ : ByteArray) w9 R Hp ok5 (fun q6 e6 ⟨ok6, m6, x6, y6⟩ w10 G6 => hR _ _ _ G6 fun H12 => ?_))
  refine Sx.c 5 [0] H12 (fun Hp R hR => name_c b S q6 w10 R Hp ok6 (fun nm1 na1 q7 e7 ⟨⟨ok7, m7, x7, y7⟩, l4⟩ w11 G7 => hR _ _ _ G7 fun H13 => ?_))
  refine Sx.c 10 [0] H13 (fun Hp R hR => must_c b S q7 (⟨#[61, 62]⟩ : ByteArray) w11 R Hp ok7 (fun q8 e8 ⟨ok8, m8, x8, y8⟩ w12 G8 => hR _ _ _ G8 fun H14 => ?_))
  refine Sx.c 5 [0] H14 (fun Hp R hR => f.f_expr b S q8 w12 R Hp ok8 (by omega) (fun Q2 t2 A2 c2 q9 e9 ⟨ok9, m9, x9, y9⟩ w13 G9 => hR _ _ _ G9 fun H15 => ?_))
  refine Sx.nw 0 H15 fun k3 w14 H16 => Sx.s 0 5 H16 fun w15 H17 => Sx.dr 3 H17 [4, 5] [] (LJ := [.blk k2 (.cells #[.n t1.k, .n t1.a, .string t1.nm, .int .i64 t1.n, .slice A1 t1.ks.length c1] 62), .blk k3 (.cells #[.n t2.k, .n t2.a, .string t2.nm, .int .i64 t2.n, .slice A2 t2.ks.length c2] 62)]) (by kernel_rfl) fun w16 H18 => Sx.tk [(0, some (0, [])), (1, none), (2, none), (3, some (1, []))] (H18.sb [4, 4]) <| Sx.nmx ?_
  intro zx1
  refine Sx.on 4 <| Sx.nw 0 H18 fun k4 w17 H19 => Sx.bk (x := zx1) 4 (H19.sb [4, 4]) <| Sx.nmx ?_
  intro zx2
  refine Sx.on 5 <| kv_make H19 [6, 1] k4 62 [.nd Q2 t2 A2 c2] fun Q3 H20 => ?_
  refine Sx.c 0 [] H20 (fun Hp R hR => named_c (21 : Int) ((q5.a : Nat) : Int) nm1 (some ⟨k4, 0, none⟩) 1 1 w17 R Hp 1 rfl (fun w18 G10 => hR _ _ _ G10 fun H21 => ?_))
  refine Sx.bk (x := zx2) 5 (H21.sb [4, 4]) <| Sx.nmx ?_
  intro zx3
  refine Sx.on 6 <| Sx.nw 0 H21 fun k5 w19 H22 => Sx.bk (x := zx3) 6 (H22.sb [4, 4]) <| Sx.tk [(7, none)] (H22.sb [4, 4]) <| Sx.dn ?_
  have H23 := kd_own H22 6 k5 62 [.nd Q1 t1 A1 c1, .nd Q3 (.mk 21 q5.a nm1 (0 : Int) [t2]) (some ⟨k4, 0, none⟩) 1]
  have H24 := ks_nil H23
  refine ks_more H24 [7, 2, 0] (fun _ => False) [] [.nd Q1 t1 A1 c1, .nd Q3 (.mk 21 q5.a nm1 (0 : Int) [t2]) (some ⟨k4, 0, none⟩) 1] fun Q4 H25 => ?_
  refine Sx.lp 3 (fun z l' w' => ∃ (j : Nat) (p : Rs) (n : Nat) (l : List Nr) (Q : Nat → Prop) (A : Option Addr) (c : Nat), l' = [(0, .p b), (1, .n at_), (4, .p k1), (5, .bool d), (11, .slice A n c)] ∧ z = M S p ∧ Hs w L0 w' [rdI b S p, .own 62 5 A c n (flat l), ksI Q l, .blk k1 (.cells #[.int .i64 0, .int .i64 0, .string (⟨#[]⟩ : ByteArray), .int .i64 0, .slice none 0 0] 62)] ∧ (j ≤ k) ∧ (16 * M S p + 12 ≤ j) ∧ (run S j (.handL (nds l)) p = run S k (.handL [t1, (.mk 21 q5.a nm1 (0 : Int) [t2])]) q9) ∧ (Up S q9 p) ∧ (n = l.length) ∧ (n + M S p ≤ 4000)) _ _ ⟨k, q9, 2, [(t1, A1, c1), ((.mk 21 q5.a nm1 (0 : Int) [t2]), (some ⟨k4, 0, none⟩), 1)], Q4, (some ⟨k5, 0, none⟩), 2, rfl, rfl, H25.pk [1, 4, 0, 0], (Nat.le_refl _), (by omega), rfl, ⟨ok9, by omega, by omega, by omega⟩, (by rfl), (by have := M_le ok9; omega)⟩ (fun b2 z1 l5 w20 hI2 K2 hK2 => ?_)
  obtain ⟨j, p, n, l, Q, A, c, rfl, rfl, H27, hj, hm1, hr, ⟨ho, hM, hx, hy⟩, hn, hlen⟩ := hI2
  obtain ⟨i, rfl⟩ : ∃ i, j = i + 1 := ⟨j - 1, by omega⟩
  have g := ih i (by omega)
  refine Sx.c 4 [0] H27 (fun Hp R hR => has_c b S p (⟨#[124]⟩ : ByteArray) w20 R Hp ho (fun q10 e10 ⟨⟨ok10, m10, x10, y10⟩, l6⟩ w21 G11 => hR _ _ _ G11 fun H28 => ?_))
  refine Sx.br 2 (isB p (⟨#[124]⟩ : ByteArray)) (fun h_c56 => ?_) (fun h_c56 => ?_)
  · have lt2 := l6 h_c56
    refine Sx.c 6 [0] H28 (fun Hp R hR => name_c b S q10 w21 R Hp ok10 (fun nm2 na2 q11 e11 ⟨⟨ok11, m11, x11, y11⟩, l7⟩ w22 G12 => hR _ _ _ G12 fun H29 => ?_))
    refine Sx.c 10 [0] H29 (fun Hp R hR => name_c b S q11 w22 R Hp ok11 (fun nm3 na3 q12 e12 ⟨⟨ok12, m12, x12, y12⟩, l8⟩ w23 G13 => hR _ _ _ G13 fun H30 => ?_))
    refine Sx.c 10 [0] H30 (fun Hp R hR => name_c b S q12 w23 R Hp ok12 (fun nm4 na4 q13 e13 ⟨⟨ok13, m13, x13, y13⟩, l9⟩ w24 G14 => hR _ _ _ G14 fun H31 => ?_))
    refine Sx.c 10 [0] H31 (fun Hp R hR => must_c b S q13 (⟨#[61, 62]⟩ : ByteArray) w24 R Hp ok13 (fun q14 e14 ⟨ok14, m14, x14, y14⟩ w25 G15 => hR _ _ _ G15 fun H32 => ?_))
    refine Sx.c 5 [0] H32 (fun Hp R hR => g.f_expr b S q14 w25 R Hp ok14 (by omega) (fun Q5 t3 A3 c3 q15 e15 ⟨ok15, m15, x15, y15⟩ w26 G16 => hR _ _ _ G16 fun H33 => ?_))
    refine Sx.nw 0 H33 fun k6 w27 H34 => Sx.s 0 5 H34 fun w28 H35 => Sx.dr 2 H35 [5] [] (LJ := [.blk k6 (.cells #[.n t3.k, .n t3.a, .string t3.nm, .int .i64 t3.n, .slice A3 t3.ks.length c3] 62)]) (by kernel_rfl) fun w29 H36 => Sx.tk [(0, none), (1, none), (2, none), (3, none), (4, none), (6, none), (7, none), (9, some (0, []))] (H36.sb [5]) <| Sx.nmx ?_
    intro zx4
    refine Sx.on 5 ?_
    refine Sx.c 0 [] H36 (fun Hp R hR => named_c (23 : Int) ((na3 : Nat) : Int) nm3 none 0 0 w29 R Hp 0 rfl (fun w30 G17 => hR _ _ _ G17 fun H37 => ?_))
    refine Sx.bk (x := zx4) 5 (H37.sb [5]) <| Sx.nmx ?_
    intro zx5
    refine Sx.on 8 ?_
    refine Sx.c 0 [] H37 (fun Hp R hR => named_c (23 : Int) ((na4 : Nat) : Int) nm4 none 0 0 w30 R Hp 0 rfl (fun w31 G18 => hR _ _ _ G18 fun H38 => ?_))
    refine Sx.bk (x := zx5) 8 (H38.sb [5]) <| Sx.nmx ?_
    intro zx6
    refine Sx.on 10 <| Sx.nw 0 H38 fun k7 w32 H39 => Sx.bk (x := zx6) 10 (H39.sb [5]) <| Sx.nmx ?_
    intro zx7
    refine Sx.on 11 <| kv_make H39 [6, 1] k7 62 [.lf 23 na3 nm3 (0 : Int), .lf 23 na4 nm4 (0 : Int), .nd Q5 t3 A3 c3] fun Q6 H40 => ?_
    refine Sx.c 0 [] H40 (fun Hp R hR => named_c (22 : Int) ((na2 : Nat) : Int) nm2 (some ⟨k7, 0, none⟩) 3 3 w32 R Hp 3 rfl (fun w33 G19 => hR _ _ _ G19 fun H41 => ?_))
    refine Sx.bk (x := zx7) 11 (H41.sb [5]) <| Sx.nmx ?_
    intro zx8
    refine Sx.on 12 <| Sx.nw 0 H41 fun k8 w34 H42 => Sx.bk (x := zx8) 12 (H42.sb [5]) <| Sx.nmx ?_
    intro zx9
    refine Sx.on 13 <| Sx.ap 0 2 6 64 1 0 62 5 60 1 k8 A c n (flat l) [.int .i64 22, .n na2, .string nm2, .int .i64 0, .slice (some ⟨k7, 0, none⟩) 3 3] H42 (by omega) (by omega) (flat_snoc _ (((.mk 22 na2 nm2 (0 : Int) [(.mk 23 na3 nm3 (0 : Int) []), (.mk 23 na4 nm4 (0 : Int) []), t3]), (some ⟨k7, 0, none⟩), 3))).symm fun A4 cap1 w35 H43 => ks_more H43 [3, 0] Q l [.nd Q6 (.mk 22 na2 nm2 (0 : Int) [(.mk 23 na3 nm3 (0 : Int) []), (.mk 23 na4 nm4 (0 : Int) []), t3]) (some ⟨k7, 0, none⟩) 3] fun Q7 H44 => Sx.bk (x := zx9) 13 (H44.sb [4]) <| Sx.tk [(14, none)] (H44.sb [4]) <| Sx.dn ?_
    exact Sx.to 1 _ (hK2 _ _ _ _ (by omega) ⟨i, q15, n + 1, l ++ [((.mk 22 na2 nm2 (0 : Int) [(.mk 23 na3 nm3 (0 : Int) []), (.mk 23 na4 nm4 (0 : Int) []), t3]), (some ⟨k7, 0, none⟩), 3)], Q7, A4, cap1, rfl, rfl, H44.pk [1, 1, 0, 0], (by omega), (by omega), (by rw [← hr, run_succ]; simp only [stepN, handLS, *, s0, maps, reduceIte]), ⟨ok15, by omega, by omega, by omega⟩, (by simp [hn]), (by omega)⟩)
  have e16 : run S k (.handL [t1, (.mk 21 q5.a nm1 (0 : Int) [t2])]) q9 = ((.mk 0 0 (⟨#[]⟩ : ByteArray) 0 (nds l)), q10) := by rw [← hr, run_succ]; simp only [stepN, handLS, *, s0, maps, reduceIte]
  have hnn : n = List.length l := by simp [*]
  refine Sx.c 8 [0] H28 (fun Hp R hR => must_c b S q10 (⟨#[125]⟩ : ByteArray) w21 R Hp ok10 (fun q16 e17 ⟨ok16, m16, x16, y16⟩ w36 G20 => hR _ _ _ G20 fun H46 => ?_))
  refine kv_own H46 [1, 1] 62 A c n Q l (by exact hnn) fun Q8 H47 => ?_
  refine Sx.c 6 [] H47 (fun Hp R hR => Node_c (20 : Int) ((at_ : Nat) : Int) A n c w36 R Hp ((nds l).length) (by rw [nds_len]; exact hnn) (fun w37 G21 => hR _ _ _ G21 fun H48 => ?_))
  refine Sx.nw 0 H48 fun k9 w38 H49 => Sx.s 0 3 H49 fun w39 H50 => ?_
  refine Sx.br 9 (!d) (fun h_c96 => ?_) (fun h_c96 => ?_)
  · refine Sx.s 2 3 H50 fun w40 H51 => ?_
    refine Sx.l 4 3 H51 <| Sx.s 0 2 H51 fun w41 H52 => ?_
    have n_c96 := nt h_c96
    exact Sx.rt 3 [2] H52 _ (hK Q8 (.mk 20 at_ (⟨#[]⟩ : ByteArray) (1 : Int) (nds l)) A c q16 (by rw [hr9]; simp only [handT, Nd.ks, *, s0, maps, reduceIte]) _ (H52.pe hL0 [1, 0]))
  refine Sx.l 4 3 H50 <| Sx.s 0 2 H50 fun w42 H53 => ?_
  have n_c96 := nf h_c96
  exact Sx.rt 3 [2] H53 _ (hK Q8 (.mk 20 at_ (⟨#[]⟩ : ByteArray) (0 : Int) (nds l)) A c q16 (by rw [hr9]; simp only [handT, Nd.ks, *, s0, maps, reduceIte]) _ (H53.pe hL0 [1, 0]))
set_option maxHeartbeats 1000000 in
theorem square_c (k : Nat) (ih : ∀ j, j ≤ k → Spec j) : ∀ (at_ : Nat), RdC (k + 1) (.square at_) 13 141 [.n at_] := by
  intro at_
  refine rdx fun b S q w K H0 ok hm hK => ?_
  obtain ⟨L0, hL0, H⟩ := Sx.op0 H0
  refine Sx.en (vs := [.p b, .n at_]) 45 Tryz.func141 ?_
  have f := ih k (Nat.le_refl k)
  refine Sx.nw 2 H fun k1 w1 H1 => ?_
  refine Sx.c 5 [] H1 (fun Hp R hR => Node_c (15 : Int) ((at_ : Nat) : Int) none 0 0 w1 R Hp 0 rfl (fun w2 G1 => hR _ _ _ G1 fun H2 => ?_))
  refine Sx.nw 0 H2 fun k2 w3 H3 => Sx.s 0 2 H3 fun w4 H4 => ?_
  refine Sx.c 6 [0] H4 (fun Hp R hR => has_c b S q (⟨#[93]⟩ : ByteArray) w4 R Hp ok (fun q1 e1 ⟨⟨ok1, m1, x1, y1⟩, l1⟩ w5 G2 => hR _ _ _ G2 fun H5 => ?_))
  refine Sx.br 2 (isB q (⟨#[93]⟩ : ByteArray)) (fun h_c12 => ?_) (fun h_c12 => ?_)
  · refine Sx.l 2 2 H5 ?_
    refine Sx.s 0 1 H5 fun w6 H6 => ?_
    have H7 := kv_nil H6
    have lt1 := l1 h_c12
    exact Sx.rt 4 [1] H7 _ (hK (fun _ => False) (.mk 15 at_ (⟨#[]⟩ : ByteArray) (0 : Int) []) none 0 q1 (by rw [run_succ]; simp only [stepN, squareS, Nd.ks, *, s0, maps, decide_eq_true_eq, reduceIte]) _ (H7.pe hL0 [0, 2]))
  have H8 := H5.add (Gx.Ext.refl _) (it := .own 62 5 none 0 0 []) (World.ownsRow_nil _ _ _ _) (fun _ h => by cases h)
  have H9 := ks_nil H8
  refine Sx.lp 9 (fun z l' w' => ∃ (j : Nat) (p : Rs) (n : Nat) (l : List Nr) (Q : Nat → Prop) (A : Option Addr) (c : Nat), l' = [(0, .p b), (4, .p k1), (5, .p k2), (6, .slice A n c)] ∧ z = M S p ∧ Hs w L0 w' [rdI b S p, .own 62 5 A c n (flat l), ksI Q l, .blk k1 (.cells #[.int .i64 0, .int .i64 0, .string (⟨#[]⟩ : ByteArray), .int .i64 0, .slice none 0 0] 62), .blk k2 (.cells #[.int .i64 15, .n at_, .string (⟨#[]⟩ : ByteArray), .int .i64 0, .slice none 0 0] 62)] ∧ (j ≤ k) ∧ (16 * M S p + 12 ≤ j) ∧ (run S j (.squareL (nds l)) p = run S k (.squareL []) q1) ∧ (Up S q1 p) ∧ (n = l.length) ∧ (n + M S p ≤ 4000)) _ _ ⟨k, q1, 0, [], (fun _ => False), none, 0, rfl, rfl, H9.pk [0, 2, 2, 0, 0], (Nat.le_refl _), (by omega), rfl, ⟨ok1, by omega, by omega, by omega⟩, (by rfl), (by have := M_le ok1; omega)⟩ (fun b1 z1 l2 w7 hI1 K1 hK1 => ?_)
  obtain ⟨j, p, n, l, Q, A, c, rfl, rfl, H11, hj, hm1, hr, ⟨ho, hM, hx, hy⟩, hn, hlen⟩ := hI1
  obtain ⟨i, rfl⟩ : ∃ i, j = i + 1 := ⟨j - 1, by omega⟩
  have g := ih i (by omega)
  refine Sx.c 4 [0] H11 (fun Hp R hR => g.f_expr b S p w7 R Hp ho (by omega) (fun Q1 t1 A1 c1 q2 e2 ⟨ok2, m2, x2, y2⟩ w8 G3 => hR _ _ _ G3 fun H12 => ?_))
  refine Sx.nw 0 H12 fun k3 w9 H13 => Sx.s 0 6 H13 fun w10 H14 => Sx.l 5 6 H14 <| Sx.nw 0 H14 fun k4 w11 H15 => Sx.ap 0 2 7 64 1 0 62 5 60 1 k4 A c n (flat l) (Sx.nC t1.k t1.a t1.nm t1.n A1 t1.ks c1) H15 (by omega) (by omega) (flat_snoc _ ((t1, A1, c1))).symm fun A2 cap1 w12 H16 => ks_more H16 [3, 1] Q l [.nd Q1 t1 A1 c1] fun Q2 H17 => ?_
  refine Sx.c 6 [1] H17 (fun Hp R hR => has_c b S q2 (⟨#[44]⟩ : ByteArray) w12 R Hp ok2 (fun q3 e3 ⟨⟨ok3, m3, x3, y3⟩, l3⟩ w13 G4 => hR _ _ _ G4 fun H18 => ?_))
  refine Sx.br 3 (!(isB q2 (⟨#[44]⟩ : ByteArray))) (fun h_c22 => ?_) (fun h_c22 => ?_)
  · have n_c22 := nt h_c22
    have e4 : run S k (.squareL []) q1 = ((.mk 0 0 (⟨#[]⟩ : ByteArray) 0 (nds (l ++ [(t1, A1, c1)]))), q3) := by rw [← hr, run_succ]; simp only [stepN, squareLS, *, s0, maps, reduceIte]
    have hnn : n + 1 = List.length (l ++ [(t1, A1, c1)]) := by simp [*]
    refine Sx.c 8 [0] H18 (fun Hp R hR => must_c b S q3 (⟨#[93]⟩ : ByteArray) w13 R Hp ok3 (fun q4 e5 ⟨ok4, m4, x4, y4⟩ w14 G5 => hR _ _ _ G5 fun H19 => ?_))
    refine Sx.v 7 (.int .i64 (IntKind.i64.wrap (((n + 1 : Nat) : Int) - (1 : Int)))) (.int .i64 (((n + 1 : Nat) : Int) - (1 : Int))) (congrArg (Value.int .i64) (IntWalk.i64_in _ (by omega))) <| kv_own H19 [2, 1] 62 A2 cap1 (n + 1) Q2 (l ++ [(t1, A1, c1)]) (by exact hnn) fun Q3 H20 => ?_
    have H21 := kv_nil H20
    refine Sx.lp 4 (fun z l' w' => ∃ (m : Nat) (ez : Nd) (Q : Nat → Prop) (A : Option Addr) (c : Nat), l' = [(4, .p k1), (5, .p k2), (6, .slice A2 (n + 1) cap1), (8, .int .i64 (((m : Nat) : Int) - (1 : Int)))] ∧ z = 0 + m ∧ Hs w L0 w' [rdI b S q4, .blk k2 (.cells #[.n ez.k, .n ez.a, .string ez.nm, .int .i64 ez.n, .slice A ez.ks.length c] 62), kvI Q3 (nds (l ++ [(t1, A1, c1)])) A2 cap1, kvI Q ez.ks A c, .blk k1 (.cells #[.int .i64 0, .int .i64 0, .string (⟨#[]⟩ : ByteArray), .int .i64 0, .slice none 0 0] 62)] ∧ (m ≤ (nds (l ++ [(t1, A1, c1)])).length) ∧ (((nds (l ++ [(t1, A1, c1)])).drop m).foldr consF (.mk 15 at_ (⟨#[]⟩ : ByteArray) 0 []) = ez)) _ _ ⟨n + 1, (.mk 15 at_ (⟨#[]⟩ : ByteArray) 0 []), (fun _ => False), none, 0, rfl, rfl, H21.pk [1, 2, 0, 3, 0], (by rw [nds_len]; exact Nat.le_of_eq hnn), (by rw [List.drop_eq_nil_of_le (by rw [nds_len]; exact Nat.le_of_eq hnn.symm)]; rfl)⟩ (fun b2 z2 l4 w15 hI2 K2 hK2 => ?_)
    obtain ⟨m, ez, Q, A, c, rfl, rfl, H23, hmle, hce⟩ := hI2
    refine Sx.br 7 (decide ((((m : Nat) : Int) - (1 : Int)) ≥ (0 : Int))) (fun h_c29 => ?_) (fun h_c29 => ?_)
    · have p_c29 := of_decide_eq_true h_c29
      obtain ⟨i, rfl⟩ : ∃ i, m = i + 1 := ⟨m - 1, by omega⟩
      obtain ⟨d, hd⟩ : ∃ d, (nds (l ++ [(t1, A1, c1)]))[i]? = some d := ⟨_, List.getElem?_eq_getElem (by omega)⟩
      have hmb := hmle; rw [nds_len] at hmb
      refine Sx.sl 4 8 (.int .i64 ((((i + 1 : Nat) : Nat) : Int) - (1 : Int))) (.n i) (congrArg (Value.int .i64) (by omega)) ?_
      obtain ⟨B1, cb1, a1, ha1, H24⟩ := nd_kid (Q := Q3) (ks := nds (l ++ [(t1, A1, c1)])) (A := A2) (c := cap1) (i := i) H23 2 (by kernel_rfl) hd
      refine Sx.dr 0 H24 [5, 1] [12] (LJ := [celI Q3 (a1.add (i * 5)) 5 (ndC d B1 cb1), .blk k2 (.cells #[.n ez.k, .n ez.a, .string ez.nm, .int .i64 ez.n, .slice A ez.ks.length c] 62)]) (by kernel_rfl) fun w16 H25 => Sx.tk [(0, none), (1, none)] (H25.sb [5, 1]) <| Sx.tvi 2 [3, 4, 11, 12] a1 i 5 (n + 1) cap1 ha1 (by have := at_lt hd; rw [nds_len] at this; omega) (H25.sb [5, 1]) <| Sx.tvf 3 [4, 11, 12] (a1.add (i * 5)) 1 (H25.sb [5, 1]) <| Sx.tvo (c := 1) (t := 3) 4 [11, 12] [.n d.a] (.n d.a) (fun w' hs => (Go.Inf.cells_sub (i := 1) (m := 1) (cel_sp (Q := Q3) (a := a1.add (i * 5)) (n := 5) (cs := (ndC d B1 cb1)) hs 0 (by kernel_rfl)) (by decide))) (H25.sb [5, 1]) <| Sx.tk [(5, none), (6, none)] (H25.sb [5, 1]) ?_
      refine Sx.tvi 7 [8, 10, 11, 12] a1 i 5 (n + 1) cap1 ha1 (by have := at_lt hd; rw [nds_len] at this; omega) (H25.sb [5, 1]) <| Sx.tvo (c := 5) (t := 62) 8 [10, 11, 12] (Sx.nC d.k d.a d.nm d.n B1 d.ks cb1) (Sx.nA d.k d.a d.nm d.n B1 d.ks cb1) (fun w' hs => (cel_sp (Q := Q3) (a := a1.add (i * 5)) (n := 5) (cs := (ndC d B1 cb1)) hs 0 (by kernel_rfl))) (H25.sb [5, 1]) <| Sx.tk [(9, some (1, [10, 11, 12]))] (H25.sb [5, 1]) <| Sx.nmx ?_
      intro zx1
      refine Sx.on 10 <| Sx.nw 0 H25 fun k5 w17 H26 => Sx.bk (x := zx1) 10 (H26.sb [5, 1]) <| Sx.nmx ?_
      intro zx2
      refine Sx.on 11 <| kv_make H26 [7, 6, 3] k5 62 [.nd Q3 d B1 cb1, .nd Q ez A c] fun Q4 H27 => ?_
      refine Sx.c 0 [] H27 (fun Hp R hR => Node_c (16 : Int) ((d.a : Nat) : Int) (some ⟨k5, 0, none⟩) 2 2 w17 R Hp 2 rfl (fun w18 G6 => hR _ _ _ G6 fun H28 => ?_))
      refine Sx.bk (x := zx2) 11 (H28.sb [5, 2]) <| Sx.nmx ?_
      intro zx3
      refine Sx.on 12 <| Sx.s 0 2 H28 fun w19 H29 => Sx.bk (x := zx3) 12 Sx.np <| Sx.dn <| Sx.v 4 (.int .i64 (IntKind.i64.wrap (((i : Nat) : Int) - (1 : Int)))) (.int .i64 (((i : Nat) : Int) - (1 : Int))) (congrArg (Value.int .i64) (IntWalk.i64_in _ (by omega))) ?_
      exact Sx.to 2 _ (hK2 _ _ _ _ (by omega) ⟨i, (.mk 16 d.a (⟨#[]⟩ : ByteArray) (0 : Int) [d, ez]), Q4, (some ⟨k5, 0, none⟩), 2, rfl, rfl, H29.pk [1, 1, 1, 0, 0], (by omega), ((cons_drop hd).trans (congrArg (consF d) hce))⟩)
    have p_c29 := of_decide_eq_false h_c29
    obtain rfl : m = 0 := by omega
    rw [List.drop_zero] at hce
    have hcz := (rfl : consAll at_ _ = _).trans hce; simp only [maps] at hcz
    refine Sx.l 7 1 H23 <| Sx.s 0 4 H23 fun w20 H31 => ?_
    exact Sx.rt 3 [4] H31 _ (hK Q ez A c q4 (by rw [run_succ]; simp only [stepN, squareS, Nd.ks, *, s0, maps, decide_eq_true_eq, reduceIte]) _ (H31.pe hL0 [0, 2]))
  have n_c22 := nf h_c22
  have lt2 := l3 n_c22
  exact Sx.to 2 _ (hK1 _ _ _ _ (by omega) ⟨i, q3, n + 1, l ++ [(t1, A1, c1)], Q2, A2, cap1, rfl, rfl, H18.pk [0, 1, 0, 0, 0], (by omega), (by omega), (by rw [← hr, run_succ]; simp only [stepN, squareLS, *, s0, maps, reduceIte]), ⟨ok3, by omega, by omega, by omega⟩, (by simp [hn]), (by omega)⟩)
set_option maxHeartbeats 2000000 in
theorem prog_c (k : Nat) (ih : ∀ j, j ≤ k → Spec j) : RdC (k + 1) .prog 14 34 [] := by
  refine rdx fun b S q w K H0 ok hm hK => ?_
  obtain ⟨L0, hL0, H⟩ := Sx.op0 H0
  refine Sx.en (vs := [.p b]) 115 Tryz.func34 ?_
  have f := ih k (Nat.le_refl k)
  refine Sx.nw 2 H fun k1 w1 H1 => ?_
  refine Sx.c 4 [] H1 (fun Hp R hR => Node_c (0 : Int) (0 : Int) none 0 0 w1 R Hp 0 rfl (fun w2 G1 => hR _ _ _ G1 fun H2 => ?_))
  refine Sx.nw 0 H2 fun k2 w3 H3 => Sx.s 0 2 H3 fun w4 H4 => ?_
  have H5 := H4.add (Gx.Ext.refl _) (it := .own 62 5 none 0 0 []) (World.ownsRow_nil _ _ _ _) (fun _ h => by cases h)
  have H6 := ks_nil H5
  refine Sx.lp 4 (fun z l' w' => ∃ (j : Nat) (p : Rs) (n : Nat) (l : List Nr) (Q : Nat → Prop) (A : Option Addr) (c : Nat), l' = [(0, .p b), (2, .p k1), (3, .p k2)] ∧ z = M S p ∧ Hs w L0 w' [rdI b S p, .own 62 5 A c n (flat l), ksI Q l, .blk k2 (.cells #[.int .i64 0, .int .i64 0, .string (⟨#[]⟩ : ByteArray), .n n, .slice A n c] 62), .blk k1 (.cells #[.int .i64 0, .int .i64 0, .string (⟨#[]⟩ : ByteArray), .int .i64 0, .slice none 0 0] 62)] ∧ (j ≤ k) ∧ (16 * M S p + 3 ≤ j) ∧ (run S j (.opsL (nds l)) p = run S k (.opsL []) q) ∧ (Up S q p) ∧ (n = l.length) ∧ (n + M S p ≤ 4000)) _ _ ⟨k, q, 0, [], (fun _ => False), none, 0, rfl, rfl, H6.pk [0, 2, 2, 1, 0], (Nat.le_refl _), (by omega), rfl, ⟨ok, by omega, by omega, by omega⟩, (by rfl), (by have := M_le ok; omega)⟩ (fun b1 z1 l1 w5 hI1 K1 hK1 => ?_)
  obtain ⟨j, p, n, l, Q, A, c, rfl, rfl, H8, hj, hm1, hr, ⟨ho, hM, hx, hy⟩, hn, hlen⟩ := hI1
  obtain ⟨i, rfl⟩ : ∃ i, j = i + 1 := ⟨j - 1, by omega⟩
  have g := ih i (by omega)
  refine Sx.c 4 [0] H8 (fun Hp R hR => is_c b S p (⟨#[111, 112]⟩ : ByteArray) w5 R Hp (hR _ _ _ (.refl Hp) fun _ => ?_))
  refine Sx.br 2 (isB p (⟨#[111, 112]⟩ : ByteArray)) (fun h_c20 => ?_) (fun h_c20 => ?_)
  · refine Sx.l 9 0 H8 ?_
    refine Sx.c 6 [0] H8 (fun Hp R hR => next_c b S p w5 R Hp ho (fun q1 e1 ⟨⟨ok1, m1, x1, y1⟩, l2⟩ w6 G2 => hR _ _ _ G2 fun H9 => ?_))
    have := l2 _ h_c20
    refine Sx.c 11 [0] H9 (fun Hp R hR => is_c b S q1 (⟨#[111, 110, 99, 101]⟩ : ByteArray) w6 R Hp (hR _ _ _ (.refl Hp) fun _ => ?_))
    refine Sx.br 2 (isB q1 (⟨#[111, 110, 99, 101]⟩ : ByteArray)) (fun h_c29 => ?_) (fun h_c29 => ?_)
    · refine Sx.c 18 [0] H9 (fun Hp R hR => next_c b S q1 w6 R Hp ok1 (fun q2 e2 ⟨⟨ok2, m2, x2, y2⟩, l3⟩ w7 G3 => hR _ _ _ G3 fun H10 => ?_))
      have := l3 _ h_c29
      refine Sx.c 5 [0] H10 (fun Hp R hR => name_c b S q2 w7 R Hp ok2 (fun nm1 na1 q3 e3 ⟨⟨ok3, m3, x3, y3⟩, l4⟩ w8 G4 => hR _ _ _ G4 fun H11 => ?_))
      refine Sx.c 10 [0] H11 (fun Hp R hR => must_c b S q3 (⟨#[58]⟩ : ByteArray) w8 R Hp ok3 (fun q4 e4 ⟨ok4, m4, x4, y4⟩ w9 G5 => hR _ _ _ G5 fun H12 => ?_))
      refine Sx.c 5 [0] H12 (fun Hp R hR => g.f_typ b S q4 w9 R Hp ok4 (by omega) (fun Q1 t1 A1 c1 q5 e5 ⟨ok5, m5, x5, y5⟩ w10 G6 => hR _ _ _ G6 fun H13 => ?_))
      refine Sx.nw 0 H13 fun k3 w11 H14 => Sx.s 0 6 H14 fun w12 H15 => ?_
      refine Sx.c 5 [0] H15 (fun Hp R hR => must_c b S q5 (⟨#[61, 62]⟩ : ByteArray) w12 R Hp ok5 (fun q6 e6 ⟨ok6, m6, x6, y6⟩ w13 G7 => hR _ _ _ G7 fun H16 => ?_))
      refine Sx.c 5 [0] H16 (fun Hp R hR => g.f_typ b S q6 w13 R Hp ok6 (by omega) (fun Q2 t2 A2 c2 q7 e7 ⟨ok7, m7, x7, y7⟩ w14 G8 => hR _ _ _ G8 fun H17 => ?_))
      refine Sx.nw 0 H17 fun k4 w15 H18 => Sx.s 0 8 H18 fun w16 H19 => Sx.l 6 7 H19 <| Sx.l 0 8 H19 <| Sx.nw 0 H19 fun k5 w17 H20 => kv_make H20 [9, 2, 1] k5 62 [.nd Q1 t1 A1 c1, .nd Q2 t2 A2 c2] fun Q3 H21 => ?_
      refine Sx.c 0 [] H21 (fun Hp R hR => named_c (1 : Int) ((p.a : Nat) : Int) nm1 (some ⟨k5, 0, none⟩) 2 2 w17 R Hp 2 rfl (fun w18 G9 => hR _ _ _ G9 fun H22 => ?_))
      refine Sx.nw 0 H22 fun k6 w19 H23 => Sx.s 0 8 H23 fun w20 H24 => Sx.s 6 8 H24 fun w21 H25 => Sx.l 5 4 H25 <| Sx.l 0 8 H25 <| Sx.nw 0 H25 fun k7 w22 H26 => ?_
      refine Sx.ap 0 2 9 64 1 0 62 5 60 1 k7 A c n (flat l) [.int .i64 1, .n p.a, .string nm1, .int .i64 1, .slice (some ⟨k5, 0, none⟩) 2 2] H26 (by omega) (by omega) (flat_snoc _ (((.mk 1 p.a nm1 (1 : Int) [t1, t2]), (some ⟨k5, 0, none⟩), 2))).symm fun A3 cap1 w23 H27 => ks_more H27 [3, 0] Q l [.nd Q3 (.mk 1 p.a nm1 (1 : Int) [t1, t2]) (some ⟨k5, 0, none⟩) 2] fun Q4 H28 => Sx.s 1 3 H28 fun w24 H29 => Sx.l 4 3 H29 <| Sx.v 0 (.int .i64 (IntKind.i64.wrap (((n : Nat) : Int) + (1 : Int)))) (.int .i64 ((n + 1 : Nat) : Int)) (congrArg (Value.int .i64) (Gx.i64n (by omega) (by omega))) <| Sx.s 1 3 H29 fun w25 H30 => ?_
      exact Sx.to 2 _ (hK1 _ _ _ _ (by omega) ⟨i, q7, n + 1, l ++ [((.mk 1 p.a nm1 (1 : Int) [t1, t2]), (some ⟨k5, 0, none⟩), 2)], Q4, A3, cap1, rfl, rfl, H30.pk [1, 1, 0, 0, 0], (by omega), (by omega), (by rw [← hr, run_succ]; simp only [stepN, opsLS, opsT, *, s0, maps, reduceIte]), ⟨ok7, by omega, by omega, by omega⟩, (by simp [hn]), (by omega)⟩)
    refine Sx.c 9 [0] H9 (fun Hp R hR => is_c b S q1 (⟨#[109, 97, 110, 121]⟩ : ByteArray) w6 R Hp (hR _ _ _ (.refl Hp) fun _ => ?_))
    refine Sx.br 3 (isB q1 (⟨#[109, 97, 110, 121]⟩ : ByteArray)) (fun h_c35 => ?_) (fun h_c35 => ?_)
    · refine Sx.c 2 [0] H9 (fun Hp R hR => next_c b S q1 w6 R Hp ok1 (fun q8 e8 ⟨⟨ok8, m8, x8, y8⟩, l5⟩ w26 G10 => hR _ _ _ G10 fun H32 => ?_))
      have := l5 _ h_c35
      refine Sx.c 5 [0] H32 (fun Hp R hR => name_c b S q8 w26 R Hp ok8 (fun nm2 na2 q9 e9 ⟨⟨ok9, m9, x9, y9⟩, l6⟩ w27 G11 => hR _ _ _ G11 fun H33 => ?_))
      refine Sx.c 10 [0] H33 (fun Hp R hR => must_c b S q9 (⟨#[58]⟩ : ByteArray) w27 R Hp ok9 (fun q10 e10 ⟨ok10, m10, x10, y10⟩ w28 G12 => hR _ _ _ G12 fun H34 => ?_))
      refine Sx.c 5 [0] H34 (fun Hp R hR => g.f_typ b S q10 w28 R Hp ok10 (by omega) (fun Q5 t3 A4 c3 q11 e11 ⟨ok11, m11, x11, y11⟩ w29 G13 => hR _ _ _ G13 fun H35 => ?_))
      refine Sx.nw 0 H35 fun k8 w30 H36 => Sx.s 0 6 H36 fun w31 H37 => ?_
      refine Sx.c 5 [0] H37 (fun Hp R hR => must_c b S q11 (⟨#[61, 62]⟩ : ByteArray) w31 R Hp ok11 (fun q12 e12 ⟨ok12, m12, x12, y12⟩ w32 G14 => hR _ _ _ G14 fun H38 => ?_))
      refine Sx.c 5 [0] H38 (fun Hp R hR => g.f_typ b S q12 w32 R Hp ok12 (by omega) (fun Q6 t4 A5 c4 q13 e13 ⟨ok13, m13, x13, y13⟩ w33 G15 => hR _ _ _ G15 fun H39 => ?_))
      refine Sx.nw 0 H39 fun k9 w34 H40 => Sx.s 0 8 H40 fun w35 H41 => Sx.l 6 7 H41 <| Sx.l 0 8 H41 <| Sx.nw 0 H41 fun k10 w36 H42 => kv_make H42 [9, 2, 1] k10 62 [.nd Q5 t3 A4 c3, .nd Q6 t4 A5 c4] fun Q7 H43 => ?_
      refine Sx.c 0 [] H43 (fun Hp R hR => named_c (1 : Int) ((p.a : Nat) : Int) nm2 (some ⟨k10, 0, none⟩) 2 2 w36 R Hp 2 rfl (fun w37 G16 => hR _ _ _ G16 fun H44 => ?_))
      refine Sx.nw 0 H44 fun k11 w38 H45 => Sx.s 0 8 H45 fun w39 H46 => Sx.s 6 8 H46 fun w40 H47 => Sx.l 5 4 H47 <| Sx.l 0 8 H47 <| Sx.nw 0 H47 fun k12 w41 H48 => ?_
      refine Sx.ap 0 2 9 64 1 0 62 5 60 1 k12 A c n (flat l) [.int .i64 1, .n p.a, .string nm2, .int .i64 0, .slice (some ⟨k10, 0, none⟩) 2 2] H48 (by omega) (by omega) (flat_snoc _ (((.mk 1 p.a nm2 (0 : Int) [t3, t4]), (some ⟨k10, 0, none⟩), 2))).symm fun A6 cap2 w42 H49 => ks_more H49 [3, 0] Q l [.nd Q7 (.mk 1 p.a nm2 (0 : Int) [t3, t4]) (some ⟨k10, 0, none⟩) 2] fun Q8 H50 => Sx.s 1 3 H50 fun w43 H51 => Sx.l 4 3 H51 <| Sx.v 0 (.int .i64 (IntKind.i64.wrap (((n : Nat) : Int) + (1 : Int)))) (.int .i64 ((n + 1 : Nat) : Int)) (congrArg (Value.int .i64) (Gx.i64n (by omega) (by omega))) <| Sx.s 1 3 H51 fun w44 H52 => ?_
      exact Sx.to 2 _ (hK1 _ _ _ _ (by omega) ⟨i, q13, n + 1, l ++ [((.mk 1 p.a nm2 (0 : Int) [t3, t4]), (some ⟨k10, 0, none⟩), 2)], Q8, A6, cap2, rfl, rfl, H52.pk [1, 1, 0, 0, 0], (by omega), (by omega), (by rw [← hr, run_succ]; simp only [stepN, opsLS, opsT, *, s0, maps, reduceIte]), ⟨ok13, by omega, by omega, by omega⟩, (by simp [hn]), (by omega)⟩)
    refine Sx.c 2 [0] H9 (fun Hp R hR => no_c b S q1 w6 R Hp ok1 (fun q14 e14 ⟨ok14, m14, x14, y14⟩ w45 G17 => hR _ _ _ G17 fun H54 => ?_))
    refine Sx.c 5 [0] H54 (fun Hp R hR => name_c b S q14 w45 R Hp ok14 (fun nm3 na3 q15 e15 ⟨⟨ok15, m15, x15, y15⟩, l7⟩ w46 G18 => hR _ _ _ G18 fun H55 => ?_))
    refine Sx.c 10 [0] H55 (fun Hp R hR => must_c b S q15 (⟨#[58]⟩ : ByteArray) w46 R Hp ok15 (fun q16 e16 ⟨ok16, m16, x16, y16⟩ w47 G19 => hR _ _ _ G19 fun H56 => ?_))
    refine Sx.c 5 [0] H56 (fun Hp R hR => g.f_typ b S q16 w47 R Hp ok16 (by omega) (fun Q9 t5 A7 c5 q17 e17 ⟨ok17, m17, x17, y17⟩ w48 G20 => hR _ _ _ G20 fun H57 => ?_))
    refine Sx.nw 0 H57 fun k13 w49 H58 => Sx.s 0 6 H58 fun w50 H59 => ?_
    refine Sx.c 5 [0] H59 (fun Hp R hR => must_c b S q17 (⟨#[61, 62]⟩ : ByteArray) w50 R Hp ok17 (fun q18 e18 ⟨ok18, m18, x18, y18⟩ w51 G21 => hR _ _ _ G21 fun H60 => ?_))
    refine Sx.c 5 [0] H60 (fun Hp R hR => g.f_typ b S q18 w51 R Hp ok18 (by omega) (fun Q10 t6 A8 c6 q19 e19 ⟨ok19, m19, x19, y19⟩ w52 G22 => hR _ _ _ G22 fun H61 => ?_))
    refine Sx.nw 0 H61 fun k14 w53 H62 => Sx.s 0 8 H62 fun w54 H63 => Sx.l 6 7 H63 <| Sx.l 0 8 H63 <| Sx.nw 0 H63 fun k15 w55 H64 => kv_make H64 [9, 2, 1] k15 62 [.nd Q9 t5 A7 c5, .nd Q10 t6 A8 c6] fun Q11 H65 => ?_
    refine Sx.c 0 [] H65 (fun Hp R hR => named_c (1 : Int) ((p.a : Nat) : Int) nm3 (some ⟨k15, 0, none⟩) 2 2 w55 R Hp 2 rfl (fun w56 G23 => hR _ _ _ G23 fun H66 => ?_))
    refine Sx.nw 0 H66 fun k16 w57 H67 => Sx.s 0 8 H67 fun w58 H68 => Sx.s 6 8 H68 fun w59 H69 => Sx.l 5 4 H69 <| Sx.l 0 8 H69 <| Sx.nw 0 H69 fun k17 w60 H70 => ?_
    refine Sx.ap 0 2 9 64 1 0 62 5 60 1 k17 A c n (flat l) [.int .i64 1, .n p.a, .string nm3, .int .i64 0, .slice (some ⟨k15, 0, none⟩) 2 2] H70 (by omega) (by omega) (flat_snoc _ (((.mk 1 p.a nm3 (0 : Int) [t5, t6]), (some ⟨k15, 0, none⟩), 2))).symm fun A9 cap3 w61 H71 => ks_more H71 [3, 0] Q l [.nd Q11 (.mk 1 p.a nm3 (0 : Int) [t5, t6]) (some ⟨k15, 0, none⟩) 2] fun Q12 H72 => Sx.s 1 3 H72 fun w62 H73 => Sx.l 4 3 H73 <| Sx.v 0 (.int .i64 (IntKind.i64.wrap (((n : Nat) : Int) + (1 : Int)))) (.int .i64 ((n + 1 : Nat) : Int)) (congrArg (Value.int .i64) (Gx.i64n (by omega) (by omega))) <| Sx.s 1 3 H73 fun w63 H74 => ?_
    exact Sx.to 2 _ (hK1 _ _ _ _ (by omega) ⟨i, q19, n + 1, l ++ [((.mk 1 p.a nm3 (0 : Int) [t5, t6]), (some ⟨k15, 0, none⟩), 2)], Q12, A9, cap3, rfl, rfl, H74.pk [1, 1, 0, 0, 0], (by omega), (by omega), (by rw [← hr, run_succ]; simp only [stepN, opsLS, opsT, *, s0, maps, reduceIte]), ⟨ok19, by omega, by omega, by omega⟩, (by simp [hn]), (by omega)⟩)
  have e20 : run S k (.opsL []) q = ((.mk 0 0 (⟨#[]⟩ : ByteArray) ((n : Nat) : Int) (nds l)), p) := by rw [← hr, run_succ]; simp only [stepN, opsLS, opsT, *, s0, maps, reduceIte]
  have hnn : n = List.length l := by simp [*]
  refine Sx.lp 7 (fun z l' w' => ∃ (jz : Nat) (pz : Rs) (nz : Nat) (lz : List Nr) (Qz : Nat → Prop) (Az : Option Addr) (cz : Nat), l' = [(0, .p b), (2, .p k1), (3, .p k2)] ∧ z = M S pz ∧ Hs w L0 w' [rdI b S pz, .own 62 5 Az cz nz (flat lz), ksI Qz lz, .blk k2 (.cells #[.int .i64 0, .int .i64 0, .string (⟨#[]⟩ : ByteArray), .n n, .slice Az nz cz] 62), .blk k1 (.cells #[.int .i64 0, .int .i64 0, .string (⟨#[]⟩ : ByteArray), .int .i64 0, .slice none 0 0] 62)] ∧ (jz ≤ k) ∧ (16 * M S pz + 3 ≤ jz) ∧ (run S jz (.defsL l.length (nds lz)) pz = run S k (.defsL l.length (nds l)) p) ∧ (Up S p pz) ∧ (nz = lz.length) ∧ (nz + M S pz ≤ 4000)) _ _ ⟨k, p, n, l, Q, A, c, rfl, rfl, H8.pk [0, 0, 0, 0, 0], (Nat.le_refl _), (by omega), rfl, ⟨ho, by omega, by omega, by omega⟩, (by simp [hn]), (by omega)⟩ (fun b2 z2 l8 w64 hI2 K2 hK2 => ?_)
  obtain ⟨jz, pz, nz, lz, Qz, Az, cz, rfl, rfl, H77, hjz, hm1z, hrz, ⟨hoz, hMz, hxz, hyz⟩, hnz, hlenz⟩ := hI2
  obtain ⟨iz, rfl⟩ : ∃ i, jz = i + 1 := ⟨jz - 1, by omega⟩
  have gz := ih iz (by omega)
  refine Sx.c 4 [0] H77 (fun Hp R hR => is_c b S pz (⟨#[100, 101, 102]⟩ : ByteArray) w64 R Hp (hR _ _ _ (.refl Hp) fun _ => ?_))
  refine Sx.br 2 (isB pz (⟨#[100, 101, 102]⟩ : ByteArray)) (fun h_c72 => ?_) (fun h_c72 => ?_)
  · refine Sx.l 9 0 H77 ?_
    refine Sx.c 6 [0] H77 (fun Hp R hR => next_c b S pz w64 R Hp hoz (fun q20 e21 ⟨⟨ok20, m20, x20, y20⟩, l9⟩ w65 G24 => hR _ _ _ G24 fun H78 => ?_))
    have := l9 _ h_c72
    refine Sx.c 11 [0] H78 (fun Hp R hR => has_c b S q20 (⟨#[114, 101, 99]⟩ : ByteArray) w65 R Hp ok20 (fun q21 e22 ⟨⟨ok21, m21, x21, y21⟩, l10⟩ w66 G25 => hR _ _ _ G25 fun H79 => ?_))
    refine Sx.br 2 (isB q20 (⟨#[114, 101, 99]⟩ : ByteArray)) (fun h_c81 => ?_) (fun h_c81 => ?_)
    · have lt1 := l10 h_c81
      refine Sx.c 7 [0] H79 (fun Hp R hR => name_c b S q21 w66 R Hp ok21 (fun nm4 na4 q22 e23 ⟨⟨ok22, m22, x22, y22⟩, l11⟩ w67 G26 => hR _ _ _ G26 fun H80 => ?_))
      refine Sx.c 10 [0] H80 (fun Hp R hR => gz.f_params (⟨#[61]⟩ : ByteArray) true b S q22 w67 R Hp ok22 (by omega) (fun Q13 t7 A10 c7 q23 e24 ⟨ok23, m23, x23, y23⟩ w68 G27 => hR _ _ _ G27 fun H81 => ?_))
      refine Sx.nw 0 H81 fun k18 w69 H82 => Sx.s 0 6 H82 fun w70 H83 => Sx.l 6 6 H83 <| Sx.nw 0 H83 fun k19 w71 H84 => kv_make H84 [7, 1] k19 62 [.nd Q13 t7 A10 c7] fun Q14 H85 => ?_
      refine Sx.c 0 [] H85 (fun Hp R hR => named_c (2 : Int) ((pz.a : Nat) : Int) nm4 (some ⟨k19, 0, none⟩) 1 1 w71 R Hp 1 rfl (fun w72 G28 => hR _ _ _ G28 fun H86 => ?_))
      refine Sx.nw 0 H86 fun k20 w73 H87 => Sx.s 0 7 H87 fun w74 H88 => Sx.s 6 7 H88 fun w75 H89 => Sx.l 4 4 H89 <| Sx.l 0 7 H89 <| Sx.nw 0 H89 fun k21 w76 H90 => ?_
      refine Sx.ap 0 2 8 64 1 0 62 5 60 1 k21 Az cz nz (flat lz) [.int .i64 2, .n pz.a, .string nm4, .int .i64 1, .slice (some ⟨k19, 0, none⟩) 1 1] H90 (by omega) (by omega) (flat_snoc _ (((.mk 2 pz.a nm4 (1 : Int) [t7]), (some ⟨k19, 0, none⟩), 1))).symm fun A11 cap4 w77 H91 => ks_more H91 [3, 0] Qz lz [.nd Q14 (.mk 2 pz.a nm4 (1 : Int) [t7]) (some ⟨k19, 0, none⟩) 1] fun Q15 H92 => Sx.s 1 3 H92 fun w78 H93 => ?_
      exact Sx.to 2 _ (hK2 _ _ _ _ (by omega) ⟨iz, q23, nz + 1, lz ++ [((.mk 2 pz.a nm4 (1 : Int) [t7]), (some ⟨k19, 0, none⟩), 1)], Q15, A11, cap4, rfl, rfl, H93.pk [1, 1, 0, 0, 0], (by omega), (by omega), (by rw [← hrz, run_succ]; simp only [stepN, defsLS, defsT, *, s0, maps, reduceIte]), ⟨ok23, by omega, by omega, by omega⟩, (by simp [hnz]), (by omega)⟩)
    refine Sx.c 5 [0] H79 (fun Hp R hR => name_c b S q21 w66 R Hp ok21 (fun nm5 na5 q24 e25 ⟨⟨ok24, m24, x24, y24⟩, l12⟩ w79 G29 => hR _ _ _ G29 fun H95 => ?_))
    refine Sx.c 10 [0] H95 (fun Hp R hR => gz.f_params (⟨#[61]⟩ : ByteArray) true b S q24 w79 R Hp ok24 (by omega) (fun Q16 t8 A12 c8 q25 e26 ⟨ok25, m25, x25, y25⟩ w80 G30 => hR _ _ _ G30 fun H96 => ?_))
    refine Sx.nw 0 H96 fun k22 w81 H97 => Sx.s 0 6 H97 fun w82 H98 => Sx.l 6 6 H98 <| Sx.nw 0 H98 fun k23 w83 H99 => kv_make H99 [7, 1] k23 62 [.nd Q16 t8 A12 c8] fun Q17 H100 => ?_
    refine Sx.c 0 [] H100 (fun Hp R hR => named_c (2 : Int) ((pz.a : Nat) : Int) nm5 (some ⟨k23, 0, none⟩) 1 1 w83 R Hp 1 rfl (fun w84 G31 => hR _ _ _ G31 fun H101 => ?_))
    refine Sx.nw 0 H101 fun k24 w85 H102 => Sx.s 0 7 H102 fun w86 H103 => Sx.s 6 7 H103 fun w87 H104 => Sx.l 4 4 H104 <| Sx.l 0 7 H104 <| Sx.nw 0 H104 fun k25 w88 H105 => ?_
    refine Sx.ap 0 2 8 64 1 0 62 5 60 1 k25 Az cz nz (flat lz) [.int .i64 2, .n pz.a, .string nm5, .int .i64 0, .slice (some ⟨k23, 0, none⟩) 1 1] H105 (by omega) (by omega) (flat_snoc _ (((.mk 2 pz.a nm5 (0 : Int) [t8]), (some ⟨k23, 0, none⟩), 1))).symm fun A13 cap5 w89 H106 => ks_more H106 [3, 0] Qz lz [.nd Q17 (.mk 2 pz.a nm5 (0 : Int) [t8]) (some ⟨k23, 0, none⟩) 1] fun Q18 H107 => Sx.s 1 3 H107 fun w90 H108 => ?_
    exact Sx.to 2 _ (hK2 _ _ _ _ (by omega) ⟨iz, q25, nz + 1, lz ++ [((.mk 2 pz.a nm5 (0 : Int) [t8]), (some ⟨k23, 0, none⟩), 1)], Q18, A13, cap5, rfl, rfl, H108.pk [1, 1, 0, 0, 0], (by omega), (by omega), (by rw [← hrz, run_succ]; simp only [stepN, defsLS, defsT, *, s0, maps, reduceIte]), ⟨ok25, by omega, by omega, by omega⟩, (by simp [hnz]), (by omega)⟩)
  have e27 : run S k (.defsL l.length (nds l)) p = ((.mk 0 0 (⟨#[]⟩ : ByteArray) ((l.length : Nat) : Int) (nds lz)), pz) := by rw [← hrz, run_succ]; simp only [stepN, defsLS, defsT, *, s0, maps, reduceIte]
  have hnn : nz = List.length lz := by simp [*]
  refine Sx.c 8 [0] H77 (fun Hp R hR => must_c b S pz (⟨#[109, 97, 105, 110]⟩ : ByteArray) w64 R Hp hoz (fun q26 e28 ⟨ok26, m26, x26, y26⟩ w91 G32 => hR _ _ _ G32 fun H110 => ?_))
  refine Sx.c 5 [0] H110 (fun Hp R hR => must_c b S q26 (⟨#[61]⟩ : ByteArray) w91 R Hp ok26 (fun q27 e29 ⟨ok27, m27, x27, y27⟩ w92 G33 => hR _ _ _ G33 fun H111 => ?_))
  refine Sx.c 5 [0] H111 (fun Hp R hR => f.f_expr b S q27 w92 R Hp ok27 (by omega) (fun Q19 t9 A14 c9 q28 e30 ⟨ok28, m28, x28, y28⟩ w93 G34 => hR _ _ _ G34 fun H112 => ?_))
  refine Sx.nw 0 H112 fun k26 w94 H113 => Sx.s 0 6 H113 fun w95 H114 => Sx.l 5 4 H114 <| Sx.l 0 6 H114 <| Sx.nw 0 H114 fun k27 w96 H115 => Sx.ap 0 2 7 64 1 0 62 5 60 1 k27 Az cz nz (flat lz) (Sx.nC t9.k t9.a t9.nm t9.n A14 t9.ks c9) H115 (by omega) (by omega) (flat_snoc _ ((t9, A14, c9))).symm fun A15 cap6 w97 H116 => ?_
  refine ks_more H116 [3, 1] Qz lz [.nd Q19 t9 A14 c9] fun Q20 H117 => Sx.s 1 3 H117 fun w98 H118 => Sx.l 4 3 H118 <| Sx.s 0 4 H118 fun w99 H119 => kv_own H119 [2, 0] 62 A15 cap6 (nz + 1) Q20 (lz ++ [(t9, A14, c9)]) (by simp [hnz]) fun Q21 H120 => ?_
  have hl : nz + 1 = (nds (lz ++ [(t9, A14, c9)])).length := (by rw [nds_len]; simp [hnz])
  exact Sx.rt 3 [3] H120 (.agg #[.int .i64 0, .int .i64 0, .string (⟨#[]⟩ : ByteArray), .n n, .slice A15 (nz + 1) cap6]) (Gx.ret_as (congrArg (fun z => Value.agg #[.int .i64 0, .int .i64 0, .string (⟨#[]⟩ : ByteArray), .n n, .slice A15 z cap6]) hl.symm) (hK Q21 (.mk 0 0 (⟨#[]⟩ : ByteArray) ((n : Nat) : Int) (nds (lz ++ [(t9, A14, c9)]))) A15 cap6 q28 (by rw [run_succ]; simp only [stepN, progS, Nd.ks, *, s0, maps, reduceIte]) _ (H120.pe hL0 [1, 0])))
theorem spec_upto (k : Nat) : ∀ j, j ≤ k → Spec j := by
  induction k with
  | zero => intro j hj; obtain rfl : j = 0 := by omega
            exact { f_typ := fun b S q w K _ _ h _ => absurd h (by omega), f_pair := fun b S q w K _ _ h _ => absurd h (by omega), f_some := fun b S q w K _ _ h _ => absurd h (by omega), f_expr := fun b S q w K _ _ h _ => absurd h (by omega), f_any := fun b S q w K _ _ h _ => absurd h (by omega), f_params := fun sign first b S q w K _ _ h _ => absurd h (by omega), f_letN := fun at_ b S q w K _ _ h _ => absurd h (by omega), f_cases := fun at_ b S q w K _ _ h _ => absurd h (by omega), f_handle := fun at_ b S q w K _ _ h _ => absurd h.1 (by omega), f_comp := fun b S q w K _ _ h _ => absurd h (by omega), f_cons := fun b S q w K _ _ h _ => absurd h (by omega), f_sum := fun b S q w K _ _ h _ => absurd h (by omega), f_mul := fun b S q w K _ _ h _ => absurd h (by omega), f_app := fun b S q w K _ _ h _ => absurd h (by omega), f_atom := fun b S q w K _ _ h _ => absurd h (by omega), f_round := fun at_ b S q w K _ _ h _ => absurd h (by omega), f_square := fun at_ b S q w K _ _ h _ => absurd h (by omega), f_prog := fun b S q w K _ _ h _ => absurd h (by omega) }
  | succ k ih =>
    intro j hj
    by_cases e : j = k + 1
    · subst e
      exact { f_typ := typ_c k ih, f_pair := pair_c k ih, f_some := some_c k ih, f_expr := expr_c k ih, f_any := any_c k ih, f_params := params_c k ih, f_letN := letN_c k ih, f_cases := cases_c k ih, f_handle := handle_c k ih, f_comp := comp_c k ih, f_cons := cons_c k ih, f_sum := sum_c k ih, f_mul := mul_c k ih, f_app := app_c k ih, f_atom := atom_c k ih, f_round := round_c k ih, f_square := square_c k ih, f_prog := prog_c k ih }
    · exact ih j (by omega)
set_option maxHeartbeats 1000000 in
theorem Parse_t (s : ByteArray) (w : World) (K : Ending → World → Prop) (H0 : Sp w []) (hK : ∀ (Q : Nat → Prop) (t : Nd) (A : Option Addr) (c : Nat) (fk : Nat) (fa : Nat) (e : parseP s = (t, fk, fa)) w', Hs w [] w' [kvI Q t.ks A c] → K (.returned (.tuple #[.agg (ndC t A c).toArray, .agg #[.n fk, .n fa]])) w') :
    Calls Tryz.prog 25 #[.string s] w K := by
  obtain ⟨L0, hL0, H⟩ := Sx.op0 H0
  refine Sx.en (vs := [.string s]) 40 Tryz.func25 <| Sx.nw 2 H fun k1 w1 H1 => Sx.nw 0 H1 fun k2 w2 H2 => ?_
  refine Sx.br 10 (decide (((s.size : Nat) : Int) > (3000 : Int))) (fun h_c8 => ?_) (fun h_c8 => ?_)
  · refine Sx.s 4 0 H2 fun w3 H3 => ?_
    refine Sx.s 0 1 H3 fun w4 H4 => ?_
    have p_c8 := of_decide_eq_true h_c8
    have H5 := kv_nil H4
    exact Sx.rt 4 [0, 1] H5 _ (hK (fun _ => False) nd0 none 0 1 0 (by unfold parseP; rw [if_pos (show s.size > 3000 by omega)]) _ (H5.pe hL0 [2]))
  refine Sx.nw 6 H2 fun b w5 H6 => ?_
  have p_c8 := of_decide_eq_false h_c8
  have hsz : s.size ≤ 3000 := by omega
  have f := spec_upto fuelP fuelP (Nat.le_refl _)
  refine Sx.c 6 [2] H6 (fun Hp R hR => next0_c b s q00 w5 R Hp hsz (Nat.zero_le _) (fun q1 e1 w6 G1 => hR _ _ _ G1 fun H7 => ?_))
  have ok1 : Ok s q1 := by rw [← e1]; exact first_ok hsz
  refine Sx.c 5 [0] H7 (fun Hp R hR => f.f_prog b s q1 w6 R Hp ok1 (by have := M_le ok1; show _ ≤ 48100; omega) (fun Q1 t1 A1 c1 q2 e2 ⟨ok2, m2, x2, y2⟩ w7 G2 => hR _ _ _ G2 fun H8 => ?_))
  refine Sx.nw 0 H8 fun k3 w8 H9 => Sx.s 0 4 H9 fun w9 H10 => ?_
  refine Sx.cut 3 (fun l' w' => l' = [(2, .p k1), (3, .p k2), (4, .p b), (5, .p k3), (27, .bool ((okB q2) && (((q2.k : Nat) : Int) != (0 : Int))))] ∧ w9 = w') (fun K1 hK1 => ?_) (fun b1 l2 w10 hI1 => ?_)
  · refine Sx.c 2 [0] H10 (fun Hp R hR => ok_c b s q2 w9 R Hp (hR _ _ _ (.refl Hp) fun _ => ?_))
    refine Sx.sp 1 20 (okB q2) (fun h_g20 => ?_) (fun h_g20 => ?_)
    · refine Sx.l 4 0 H10 ?_
      exact Sx.to 3 _ (hK1 _ _ _ ⟨rfl, rfl⟩) (h2 := (by rw [h_g20]; try kernel_rfl))
    exact Sx.to 8 _ (hK1 _ _ _ ⟨rfl, rfl⟩) (h2 := (by rw [h_g20]; try kernel_rfl))
  obtain ⟨rfl, rfl⟩ := hI1
  refine Sx.br 0 ((okB q2) && (((q2.k : Nat) : Int) != (0 : Int))) (fun h_c27 => ?_) (fun h_c27 => ?_)
  · refine Sx.c 2 [0] H10 (fun Hp R hR => no_c b s q2 w9 R Hp ok2 (fun q3 e3 ⟨ok3, m3, x3, y3⟩ w11 G3 => hR _ _ _ G3 fun H11 => ?_))
    have hla : lastR q2 = q3 := by simp only [lastR, and_ite, *, s0, reduceIte]
    refine Sx.c 6 [0] H11 (fun Hp R hR => ok_c b s q3 w11 R Hp (hR _ _ _ (.refl Hp) fun _ => ?_))
    refine Sx.br 3 (!(okB q3)) (fun h_c32 => ?_) (fun h_c32 => ?_)
    · refine Sx.dr 1 H11 [0] [] (LJ := [rdI b s q3]) (by kernel_rfl) fun w12 H12 => ?_
      refine Sx.tk [(0, none), (1, none), (2, none), (3, none), (4, some (0, []))] (H12.sb [0]) <| Sx.nmx ?_
      intro zx1
      refine Sx.on 5 <| Sx.s 0 2 H12 fun w13 H13 => Sx.bk (x := zx1) 5 (H13.sb [0]) <| Sx.nmx ?_
      intro zx2
      refine Sx.on 6 <| Sx.s 0 3 H13 fun w14 H14 => Sx.bk (x := zx2) 6 (H14.sb [0]) <| Sx.dn ?_
      have n_c32 := nt h_c32
      have H15 := kv_nil H14
      exact Sx.rt 3 [2, 3] H15 _ (hK (fun _ => False) nd0 none 0 q3.fk q3.fa (by unfold parseP; rw [if_neg (show ¬ s.size > 3000 by omega)]; simp only [*, s0, reduceIte]) _ (H15.pe hL0 [5]))
    refine Sx.l 4 4 H11 <| Sx.s 1 2 H11 fun w15 H16 => Sx.s 0 3 H16 fun w16 H17 => ?_
    have n_c32 := nf h_c32
    exact Sx.rt 3 [2, 3] H17 _ (hK Q1 t1 A1 c1 0 0 (by unfold parseP; rw [if_neg (show ¬ s.size > 3000 by omega)]; simp only [*, s0, reduceIte]) _ (H17.pe hL0 [1]))
  have hla : lastR q2 = q2 := by simp only [lastR, and_ite, *, s0, reduceIte]
  refine Sx.c 6 [0] H10 (fun Hp R hR => ok_c b s q2 w9 R Hp (hR _ _ _ (.refl Hp) fun _ => ?_))
  refine Sx.br 3 (!(okB q2)) (fun h_c32 => ?_) (fun h_c32 => ?_)
  · refine Sx.dr 1 H10 [0] [] (LJ := [rdI b s q2]) (by kernel_rfl) fun w17 H18 => ?_
    refine Sx.tk [(0, none), (1, none), (2, none), (3, none), (4, some (0, []))] (H18.sb [0]) <| Sx.nmx ?_
    intro zx3
    refine Sx.on 5 <| Sx.s 0 2 H18 fun w18 H19 => Sx.bk (x := zx3) 5 (H19.sb [0]) <| Sx.nmx ?_
    intro zx4
    refine Sx.on 6 <| Sx.s 0 3 H19 fun w19 H20 => Sx.bk (x := zx4) 6 (H20.sb [0]) <| Sx.dn ?_
    have n_c32 := nt h_c32
    have H21 := kv_nil H20
    exact Sx.rt 3 [2, 3] H21 _ (hK (fun _ => False) nd0 none 0 q2.fk q2.fa (by unfold parseP; rw [if_neg (show ¬ s.size > 3000 by omega)]; simp only [*, s0, reduceIte]) _ (H21.pe hL0 [5]))
  refine Sx.l 4 4 H10 <| Sx.s 1 2 H10 fun w20 H22 => Sx.s 0 3 H22 fun w21 H23 => ?_
  have n_c32 := nf h_c32
  exact Sx.rt 3 [2, 3] H23 _ (hK Q1 t1 A1 c1 0 0 (by unfold parseP; rw [if_neg (show ¬ s.size > 3000 by omega)]; simp only [*, s0, reduceIte]) _ (H23.pe hL0 [1]))
end Rd
end Go.Proofs.YtdmdecgoebnamaaGreat
