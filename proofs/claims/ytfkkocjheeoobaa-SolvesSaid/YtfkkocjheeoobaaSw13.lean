/- A part of the proof (YtfkkocjheeoobaaSw13), printed by a program of ours. -/
import Derived.Test.YtfkkocjheeoobaaPx
import Derived.Test.YtfkkocjheeoobaaInf8
import Derived.Test.YtfkkocjheeoobaaSw9
import Derived.Test.YtfkkocjheeoobaaShelf
import Derived.Test.YtfkkocjheeoobaaGx
set_option linter.unusedVariables false
set_option linter.unusedSimpArgs false
set_option linter.unusedVariables false
set_option linter.unusedSimpArgs false
namespace Go.Proofs.Ytfkkocjheeoobaa
open Go.RowKit Go.Sx Go.Inf Go.Slv
attribute [local irreducible] Go.wpOps Go.Code.wp Go.wpOp Go.wpAnyH Go.Calls Go.Sx.Goal
set_option maxRecDepth 20000
set_option maxHeartbeats 16000000 in
theorem Solve_c (Sq : Nat → Prop) (A : Option Addr) (na0 ca0 : Nat) (rl : List (Tr × Tr)) (w : World) (K : Ending → World → Prop) (H0 : Sp w [psI Sq A rl]) (Ro : Out) (hna : na0 = rl.length ∧ na0 ≤ ca0 ∧ na0 < 9223372036854775808) (hR : SO solveD rl Ro) (hK : ∀ (A' : Option Addr) (c' : Nat) (n' : Nat) (kl : List Kd) (S' : Nat → Prop) (f1 : Int) (f2 : Int) w', Hs w [psI Sq A rl] w' [psI Sq A rl, .own 32 5 A' c' n' (kC kl), Slv.tysI S' kl] → (n' = kl.length ∧ n' ≤ 20) → (OutIs Ro kl f1 f2) → K (.returned (.tuple #[.slice A' n' c', .agg #[.int .i64 f1, .int .i64 f2]])) w') :
    Calls Try.prog 6 #[.slice A na0 ca0] w K := by
  obtain ⟨L0, hL0, H⟩ : ∃ L0, L0 = [psI Sq A rl] ∧ Hs w L0 w [psI Sq A rl] := ⟨_, rfl, Hs.refl H0⟩
  refine Sx.en (vs := [.slice A na0 ca0]) 131 Try.func6 ?_
  refine Sx.nw 3 H fun k1 w1 H1 => ?_
  refine Sx.br 10 (decide (((na0 : Nat) : Int) > (20 : Int))) (fun h_c22 => ?_) (fun h_c22 => ?_)
  · skip
    refine Sx.s 4 1 H1 fun w2 H2 => ?_
    refine Sx.rt 4 [1] H2 (.tuple #[.slice none 0 0, .agg #[.int .i64 11, .int .i64 20]]) ?_
    have p_c22 := of_decide_eq_true h_c22
    have H3 := H2.add (Gx.Ext.refl _) (it := .own 32 5 none 0 0 []) (World.ownsRow_nil _ _ _ _) (fun _ h => by cases h)
    have H4 := H3.add (Gx.Ext.refl _) (it := Slv.tysI (fun _ => False) []) Slv.tysI_nil (fun _ h => h.elim)
    subst hL0
    exact hK none 0 0 [] (fun _ => False) 11 20 _ (H4.pick (a := [psI Sq A rl, .own 32 5 none 0 0 (kC []), Slv.tysI (fun _ => False) ([])]) [0, 1, 1] (by kernel_rfl)) ⟨rfl, by decide⟩ (out_eq (a := 11) (b := 20) (hR.big (by omega)))
  have H5 := H1.pick (a := [psI Sq A rl, .blk k1 (.cells #[.int .i64 0, .int .i64 0] 26)]) [0, 0] (by kernel_rfl)
  have p_c22 := of_decide_eq_false h_c22
  refine Sx.lp 9 (fun z l' w' => ∃ (i : Nat), l' = [(0, .slice A na0 ca0), (3, .pointer (some ⟨k1, 0, none⟩)), (4, .int .i64 ((i : Nat) : Int))] ∧ z = rl.length - i ∧ Hs w L0 w' [psI Sq A rl, .blk k1 (.cells #[.int .i64 0, .int .i64 0] 26)] ∧ (∀ (j : Nat) (q : Tr × Tr), j < i → rl[j]? = some q → POk q) ∧ (i ≤ rl.length)) _ [(0, .slice A na0 ca0), (3, .pointer (some ⟨k1, 0, none⟩)), (4, .int .i64 ((0 : Nat) : Int))] ⟨0, rfl, rfl, H5, (fun j q h => by omega), (Nat.zero_le _)⟩ (fun b1 z1 l1 w3 hI1 K1 hK1 => ?_)
  obtain ⟨i, rfl, rfl, H6, hall, hil⟩ := hI1
  have hob_ := Nat.lt_or_ge i rl.length
  rcases hob_ with hx | hx
  · skip
    have hob_ : ∃ r, rl[i]? = some r := ⟨_, List.getElem?_eq_getElem hx⟩
    obtain ⟨⟨⟨kq1, u1, r1, o1, a1⟩, ⟨kq2, u2, r2, o2, a2⟩⟩, hri⟩ := hob_
    have hob_ := PsIn.at (ps_at (S := Sq) (A := A) (rl := rl) H6 0 (by kernel_rfl)) hri
    obtain ⟨q1, q2, aq, haq, hc0, hc5, hq1, hq2⟩ := hob_
    have H7 := Hs.ce1 (S := Sq) (A := A) (rl := rl) (a := Addr.add (Addr.add aq (i * 10)) 0) (n := 5) (cs := trC (Tr.mk kq1 u1 r1 o1 a1) q1) H6 0 (by kernel_rfl) hc0
    have H8 := Hs.tr1 (S := Sq) (A := A) (rl := rl) (p := q1) (t := Tr.mk kq1 u1 r1 o1 a1) H7 0 (by kernel_rfl) hq1
    have H9 := Hs.ce1 (S := Sq) (A := A) (rl := rl) (a := Addr.add (Addr.add aq (i * 10)) 5) (n := 5) (cs := trC (Tr.mk kq2 u2 r2 o2 a2) q2) H8 0 (by kernel_rfl) hc5
    have H10 := Hs.tr1 (S := Sq) (A := A) (rl := rl) (p := q2) (t := Tr.mk kq2 u2 r2 o2 a2) H9 0 (by kernel_rfl) hq2
    refine Sx.v 6 (.bool (decide (((i : Nat) : Int) < ((na0 : Nat) : Int)))) (.bool true) (dT (by omega)) ?_
    refine Sx.ia 11 aq i 10 na0 ca0 haq (by omega) ?_
    refine Sx.fa 0 (Addr.add aq (i * 10)) 0 ?_
    refine Sx.lo (c := 5) (t := 32) 0 [.int .i64 kq1, .int .i64 u1, .int .i64 r1, .slice q1.A q1.na q1.ca, .slice q1.B q1.nb q1.cb] (.agg #[.int .i64 kq1, .int .i64 u1, .int .i64 r1, .slice q1.A q1.na q1.ca, .slice q1.B q1.nb q1.cb]) (ce_at (S := Sq) (a := Addr.add (Addr.add aq (i * 10)) 0) (n := 5) (cs := trC (Tr.mk kq1 u1 r1 o1 a1) q1) H10.sp 2 (by kernel_rfl)) ?_
    refine Sx.c 0 [3] H10 (fun Hp1 R1 hR1 => Proper_c Sq kq1 u1 r1 o1 a1 q1 w3 R1 Hp1  (fun b2 w4 G1 ht1 hf1 => hR1 _ _ _ G1 fun H11 => ?_))
    have hP1 := And.intro ht1 hf1
    refine Sx.ia 7 aq i 10 na0 ca0 haq (by omega) ?_
    refine Sx.fa 0 (Addr.add aq (i * 10)) 5 ?_
    refine Sx.lo (c := 5) (t := 32) 0 [.int .i64 kq2, .int .i64 u2, .int .i64 r2, .slice q2.A q2.na q2.ca, .slice q2.B q2.nb q2.cb] (.agg #[.int .i64 kq2, .int .i64 u2, .int .i64 r2, .slice q2.A q2.na q2.ca, .slice q2.B q2.nb q2.cb]) (ce_at (S := Sq) (a := Addr.add (Addr.add aq (i * 10)) 5) (n := 5) (cs := trC (Tr.mk kq2 u2 r2 o2 a2) q2) H11.sp 4 (by kernel_rfl)) ?_
    refine Sx.c 0 [5] H11 (fun Hp2 R2 hR2 => Proper_c Sq kq2 u2 r2 o2 a2 q2 w4 R2 Hp2  (fun b3 w5 G2 ht2 hf2 => hR2 _ _ _ G2 fun H12 => ?_))
    have hP2 := And.intro ht2 hf2
    refine Sx.cut 3 (fun l' w' => l' = [(0, .slice A na0 ca0), (3, .pointer (some ⟨k1, 0, none⟩)), (4, .int .i64 ((i : Nat) : Int)), (47, .bool ((!b2) || (!b3)))] ∧ w5 = w') (fun K2 hK2 => ?_) (fun b4 l2 w6 hI2 => ?_)
    · skip
      refine Sx.sp 4 44 (!b2) (fun h_g44 => ?_) (fun h_g44 => ?_)
      · skip
        exact Sx.to 4 [(0, .slice A na0 ca0), (3, .pointer (some ⟨k1, 0, none⟩)), (4, .int .i64 ((i : Nat) : Int)), (47, .bool ((!b2) || (!b3)))] (hK2 _ _ _ ⟨rfl, rfl⟩) (h2 := (by rw [h_g44]; try kernel_rfl))
      exact Sx.to 4 [(0, .slice A na0 ca0), (3, .pointer (some ⟨k1, 0, none⟩)), (4, .int .i64 ((i : Nat) : Int)), (47, .bool ((!b2) || (!b3)))] (hK2 _ _ _ ⟨rfl, rfl⟩) (h2 := (by rw [h_g44]; try kernel_rfl))
    obtain ⟨rfl, rfl⟩ := hI2
    refine Sx.br 0 ((!b2) || (!b3)) (fun h_c47 => ?_) (fun h_c47 => ?_)
    · skip
      have hbb : b2 = false ∨ b3 = false := by cases b2 <;> cases b3 <;> simp at h_c47 ⊢
      refine Sx.s 5 3 H12 fun w7 H13 => ?_
      refine Sx.rt 8 [3] H13 (.tuple #[.slice none 0 0, .agg #[.int .i64 11, .int .i64 ((i : Nat) : Int)]]) ?_
      have H14 := H13.add (Gx.Ext.refl _) (it := .own 32 5 none 0 0 []) (World.ownsRow_nil _ _ _ _) (fun _ h => by cases h)
      have H15 := H14.add (Gx.Ext.refl _) (it := Slv.tysI (fun _ => False) []) Slv.tysI_nil (fun _ h => h.elim)
      subst hL0
      exact hK none 0 0 [] (fun _ => False) 11 ((i : Nat) : Int) _ (H15.pick (a := [psI Sq A rl, .own 32 5 none 0 0 (kC []), Slv.tysI (fun _ => False) ([])]) [2, 5, 5] (by kernel_rfl)) ⟨rfl, by decide⟩ (out_eq (a := 11) (b := i) (hR.bad (by omega) i _ hall hri (fun z => hbb.elim (fun y => hP1.2 y z.1) (fun y => hP2.2 y z.2))))
    have hbb : b2 = true ∧ b3 = true := by cases b2 <;> cases b3 <;> simp at h_c47 ⊢
    refine Sx.v 5 (.int .i64 (IntKind.i64.wrap (((i : Nat) : Int) + (1 : Int)))) (.int .i64 ((i + 1 : Nat) : Int)) (congrArg (Value.int .i64) (Gx.i64n (by omega) (by omega))) ?_
    have H16 := H12.pick (a := [psI Sq A rl, .blk k1 (.cells #[.int .i64 0, .int .i64 0] 26)]) [2, 2] (by kernel_rfl)
    exact Sx.to 2 [(0, .slice A na0 ca0), (3, .pointer (some ⟨k1, 0, none⟩)), (4, .int .i64 (((i + 1) : Nat) : Int))] (hK1 _ _ _ _ (by omega) ⟨(i + 1), rfl, rfl, H16, (all_more hall hri ⟨hP1.1 hbb.1, hP2.1 hbb.2⟩), (by omega)⟩)
  refine Sx.v 6 (.bool (decide (((i : Nat) : Int) < ((na0 : Nat) : Int)))) (.bool false) (dF (by omega)) ?_
  have hob_ := hR.ok (by omega) (fun j q hq => hall j q (by have := (List.getElem?_eq_some_iff.1 hq).1; omega) hq)
  obtain ⟨ls, k, hcv, hsol⟩ := hob_
  have hob_ := solveD_fin hsol
  obtain ⟨X, hlp, hfin⟩ := hob_
  have hll := hcv.1
  have H17 := Hs.py (S := Sq) (A := A) (rl := rl) (ls := ls) H6 0 (by kernel_rfl) hcv
  refine Sx.c 10 [] H17 (fun Hp3 R3 hR3 => New_c  w3 R3 Hp3  (fun S1 bg w8 G3 => hR3 _ _ _ G3 fun H18 => ?_))
  have H19 := H18.add (Gx.Ext.refl _) (it := .own 3 1 none 0 0 []) (World.ownsRow_nil _ _ _ _) (fun _ h => by cases h)
  have H20 := H19.pick (a := [GI S1 bg G.new, psI Sq A rl, pyI Sq A ls, .blk k1 (.cells #[.int .i64 0, .int .i64 0] 26), .own 3 1 none 0 0 (nats [])]) [0, 0, 1, 0, 0] (by kernel_rfl)
  refine Sx.lp 15 (fun z l' w' => ∃ (i : Nat) (gi : G) (Si : Nat → Prop) (l : List Nat) (Ak : Option Addr) (ck : Nat) (nk : Nat), l' = [(0, .slice A na0 ca0), (3, .pointer (some ⟨k1, 0, none⟩)), (7, .pointer (some ⟨bg, 0, none⟩)), (8, .slice Ak nk ck), (9, .int .i64 ((i : Nat) : Int))] ∧ z = ls.length - i ∧ Hs w L0 w' [GI Si bg gi, psI Sq A rl, pyI Sq A ls, .blk k1 (.cells #[.int .i64 0, .int .i64 0] 26), .own 3 1 Ak ck nk (nats l)] ∧ (loopD k (ls.drop i) i gi l = some X) ∧ (nk = l.length) ∧ (i = l.length) ∧ (i ≤ ls.length)) _ [(0, .slice A na0 ca0), (3, .pointer (some ⟨k1, 0, none⟩)), (7, .pointer (some ⟨bg, 0, none⟩)), (8, .slice none 0 0), (9, .int .i64 ((0 : Nat) : Int))] ⟨0, G.new, S1, [], none, 0, 0, rfl, rfl, H20, hlp, rfl, rfl, (Nat.zero_le _)⟩ (fun b5 z2 l3 w9 hI3 K3 hK3 => ?_)
  obtain ⟨i, gi, Si, l, Ak, ck, nk, rfl, rfl, H21, hx, hnk, hili, hile⟩ := hI3
  have hob_ := Nat.lt_or_ge i ls.length
  rcases hob_ with hx1 | hx1
  · skip
    have hob_ := loopD_step hx hx1
    obtain ⟨⟨kd1, u1, r1, o1, a1⟩, ⟨kd2, u2, r2, o2, a2⟩, g1, a, g2, b, g3, ok, hli, hof1, hof2, hsm, hres⟩ := hob_
    have hob_ := PyIn.at (py_at (S := Sq) (A := A) (ls := ls) H21 2 (by kernel_rfl)) hli
    obtain ⟨q1, q2, aq, haq, hc0, hc5, hq1, hq2⟩ := hob_
    have H22 := Hs.ce2 (S := Sq) (A := A) (ls := ls) (a := Addr.add (Addr.add aq (i * 10)) 0) (n := 5) (cs := tvC (Ty.mk kd1 u1 r1 o1 a1) q1) H21 2 (by kernel_rfl) hc0
    have H23 := Hs.ty1 (S := Sq) (A := A) (ls := ls) (p := q1) (t := Ty.mk kd1 u1 r1 o1 a1) H22 2 (by kernel_rfl) hq1
    have H24 := Hs.ce2 (S := Sq) (A := A) (ls := ls) (a := Addr.add (Addr.add aq (i * 10)) 5) (n := 5) (cs := tvC (Ty.mk kd2 u2 r2 o2 a2) q2) H23 2 (by kernel_rfl) hc5
    have H25 := Hs.ty1 (S := Sq) (A := A) (ls := ls) (p := q2) (t := Ty.mk kd2 u2 r2 o2 a2) H24 2 (by kernel_rfl) hq2
    rw [← of_X] at hof1 hof2
    rw [← same_X] at hsm
    refine Sx.v 6 (.bool (decide (((i : Nat) : Int) < ((na0 : Nat) : Int)))) (.bool true) (dT (by omega)) ?_
    refine Sx.ia 12 aq i 10 na0 ca0 haq (by omega) ?_
    refine Sx.fa 0 (Addr.add aq (i * 10)) 0 ?_
    refine Sx.lo (c := 5) (t := 32) 0 [.int .i64 ((kd1 : Nat) : Int), .int .i64 ((u1 : Nat) : Int), .int .i64 ((r1 : Nat) : Int), .slice q1.A q1.na q1.ca, .slice q1.B q1.nb q1.cb] (.agg #[.int .i64 ((kd1 : Nat) : Int), .int .i64 ((u1 : Nat) : Int), .int .i64 ((r1 : Nat) : Int), .slice q1.A q1.na q1.ca, .slice q1.B q1.nb q1.cb]) (ce_at (S := Sq) (a := Addr.add (Addr.add aq (i * 10)) 0) (n := 5) (cs := tvC (Ty.mk kd1 u1 r1 o1 a1) q1) H25.sp 5 (by kernel_rfl)) ?_
    refine Sx.c 0 [0, 5] H25 (fun Hp4 R4 hR4 => (Of_c _) Si bg gi Sq kd1 u1 r1 o1 a1 q1 w9 R4 Hp4 g1 a hof1 (fun S2 w10 G4 => hR4 _ _ _ G4 fun H26 => ?_))
    refine Sx.ia 8 aq i 10 na0 ca0 haq (by omega) ?_
    refine Sx.fa 0 (Addr.add aq (i * 10)) 5 ?_
    refine Sx.lo (c := 5) (t := 32) 0 [.int .i64 ((kd2 : Nat) : Int), .int .i64 ((u2 : Nat) : Int), .int .i64 ((r2 : Nat) : Int), .slice q2.A q2.na q2.ca, .slice q2.B q2.nb q2.cb] (.agg #[.int .i64 ((kd2 : Nat) : Int), .int .i64 ((u2 : Nat) : Int), .int .i64 ((r2 : Nat) : Int), .slice q2.A q2.na q2.ca, .slice q2.B q2.nb q2.cb]) (ce_at (S := Sq) (a := Addr.add (Addr.add aq (i * 10)) 5) (n := 5) (cs := tvC (Ty.mk kd2 u2 r2 o2 a2) q2) H26.sp 7 (by kernel_rfl)) ?_
    refine Sx.c 0 [0, 7] H26 (fun Hp5 R5 hR5 => (Of_c _) S2 bg g1 Sq kd2 u2 r2 o2 a2 q2 w10 R5 Hp5 g2 b hof2 (fun S3 w11 G5 => hR5 _ _ _ G5 fun H27 => ?_))
    refine Sx.nw 7 H27 fun k2 w12 H28 => ?_
    refine Sx.ap 0 6 9 8 1 0 3 1 61 1 k2 Ak ck nk (nats l) [.int .i64 ((a : Nat) : Int)] H28 (by omega) (by omega) (nats_app _ _) fun A1 cap1 w13 H29 => ?_
    refine Sx.c 8 [0] H29 (fun Hp6 R6 hR6 => (Same_c _) S3 bg g2 a b w13 R6 Hp6 g3 ok hsm (fun S4 w14 G6 => hR6 _ _ _ G6 fun H30 => ?_))
    have hnk2 : nk + 1 = (l ++ [a]).length := by rw [List.length_append, hnk]; rfl
    refine Sx.br 10 (!ok) (fun h_c80 => ?_) (fun h_c80 => ?_)
    · skip
      have hokf : ok = false := by simpa using h_c80
      refine Sx.s 5 5 H30 fun w15 H31 => ?_
      refine Sx.rt 9 [5] H31 (.tuple #[.slice none 0 0, .agg #[.int .i64 8, .int .i64 ((i : Nat) : Int)]]) ?_
      have H32 := H31.add (Gx.Ext.refl _) (it := .own 32 5 none 0 0 []) (World.ownsRow_nil _ _ _ _) (fun _ h => by cases h)
      have H33 := H32.add (Gx.Ext.refl _) (it := Slv.tysI (fun _ => False) []) Slv.tysI_nil (fun _ h => h.elim)
      subst hL0
      exact hK none 0 0 [] (fun _ => False) 8 ((i : Nat) : Int) _ (H33.pick (a := [psI Sq A rl, .own 32 5 none 0 0 (kC []), Slv.tysI (fun _ => False) ([])]) [3, 9, 9] (by kernel_rfl)) ⟨rfl, by decide⟩ (out_inl (a := 8) (b := i) hfin (hres.elim (fun z => z.2) (fun z => by rw [hokf] at z; cases z.1)))
    have hokt : ok = true := by simpa using h_c80
    have hob_ := (hres.resolve_left (fun z => by rw [hokt] at z; cases z.1)).2
    obtain ⟨rd, hrd, hres2⟩ := hob_
    have hrow := Hs.row H30 6 (e := 3) (sz := 1) (cap := cap1) (n := (nk + 1)) (A := A1) (xs := (nats (l ++ [a]))) (by kernel_rfl) (by omega)
    obtain ⟨gk, hgk⟩ := hrow
    subst hgk
    have H34 := H30.pick (a := [GI S4 bg g3, psI Sq A rl, pyI Sq A ls, .blk k1 (.cells #[.int .i64 0, .int .i64 0] 26), .own 3 1 (some ⟨gk, 0, none⟩) cap1 (nk + 1) (nats (l ++ [a]))]) [0, 2, 2, 2, 2] (by kernel_rfl)
    refine Sx.lp 9 (fun z l' w' => ∃ (j : Nat) (Sj : Nat → Prop), l' = [(0, .slice A na0 ca0), (3, .pointer (some ⟨k1, 0, none⟩)), (7, .pointer (some ⟨bg, 0, none⟩)), (8, .slice (some ⟨gk, 0, none⟩) (nk + 1) cap1), (9, .int .i64 ((i : Nat) : Int)), (13, .int .i64 ((j : Nat) : Int))] ∧ z = (l ++ [a]).length - j ∧ Hs w L0 w' [GI Sj bg g3, psI Sq A rl, pyI Sq A ls, .blk k1 (.cells #[.int .i64 0, .int .i64 0] 26), .own 3 1 (some ⟨gk, 0, none⟩) cap1 (nk + 1) (nats (l ++ [a]))] ∧ (roundsX k g3 ((l ++ [a]).drop j) = some rd) ∧ (j ≤ (l ++ [a]).length)) _ [(0, .slice A na0 ca0), (3, .pointer (some ⟨k1, 0, none⟩)), (7, .pointer (some ⟨bg, 0, none⟩)), (8, .slice (some ⟨gk, 0, none⟩) (nk + 1) cap1), (9, .int .i64 ((i : Nat) : Int)), (13, .int .i64 ((0 : Nat) : Int))] ⟨0, S4, rfl, rfl, H34, hrd, (Nat.zero_le _)⟩ (fun b6 z3 l4 w16 hI4 K4 hK4 => ?_)
    obtain ⟨j, Sj, rfl, rfl, H35, hcx, hjl⟩ := hI4
    have hob_ := Nat.lt_or_ge j (l ++ [a]).length
    rcases hob_ with hj | hj
    · skip
      have hob_ := rounds_step hcx hj
      obtain ⟨n, rr, sn, hn, hrn, hr1, hr2⟩ := hob_
      rw [← round_X] at hrn
      refine Sx.v 5 (.bool (decide (((j : Nat) : Int) ≤ ((i : Nat) : Int)))) (.bool true) (dT (by omega)) ?_
      refine Sx.ir 12 gk j 1 (nk + 1) cap1 (by omega) ?_
      refine Sx.lr 0 4 3 1 3 gk cap1 (nk + 1) (j * 1) (nats (l ++ [a])) H35 (.int .i64 ((n : Nat) : Int)) (nats_at hn) ?_
      refine Sx.c 0 [0] H35 (fun Hp7 R7 hR7 => Round_c Sj bg g3 n w16 R7 Hp7 _ rr sn hrn (fun S5 w17 G7 => hR7 _ _ _ G7 fun H36 => ?_))
      refine Sx.br 8 rr (fun h_c94 => ?_) (fun h_c94 => ?_)
      · skip
        have hX : X = .inl (8, i) := (hres2.elim (fun z => z.2) (fun z => by rw [hr1 h_c94] at z; cases z.1))
        refine Sx.s 5 3 H36 fun w18 H37 => ?_
        refine Sx.rt 13 [3] H37 (.tuple #[.slice none 0 0, .agg #[.int .i64 8, .int .i64 ((i : Nat) : Int)]]) ?_
        have H38 := H37.add (Gx.Ext.refl _) (it := .own 32 5 none 0 0 []) (World.ownsRow_nil _ _ _ _) (fun _ h => by cases h)
        have H39 := H38.add (Gx.Ext.refl _) (it := Slv.tysI (fun _ => False) []) Slv.tysI_nil (fun _ h => h.elim)
        subst hL0
        exact hK none 0 0 [] (fun _ => False) 8 ((i : Nat) : Int) _ (H39.pick (a := [psI Sq A rl, .own 32 5 none 0 0 (kC []), Slv.tysI (fun _ => False) ([])]) [1, 4, 4] (by kernel_rfl)) ⟨rfl, by decide⟩ (out_inl (a := 8) (b := i) hfin hX)
      have hno_ := h_c94
      refine Sx.v 5 (.int .i64 (IntKind.i64.wrap (((j : Nat) : Int) + (1 : Int)))) (.int .i64 ((j + 1 : Nat) : Int)) (congrArg (Value.int .i64) (Gx.i64n (by omega) (by omega))) ?_
      have H40 := H36.pick (a := [GI S5 bg g3, psI Sq A rl, pyI Sq A ls, .blk k1 (.cells #[.int .i64 0, .int .i64 0] 26), .own 3 1 (some ⟨gk, 0, none⟩) cap1 (nk + 1) (nats (l ++ [a]))]) [0, 0, 0, 0, 0] (by kernel_rfl)
      exact Sx.to 2 [(0, .slice A na0 ca0), (3, .pointer (some ⟨k1, 0, none⟩)), (7, .pointer (some ⟨bg, 0, none⟩)), (8, .slice (some ⟨gk, 0, none⟩) (nk + 1) cap1), (9, .int .i64 ((i : Nat) : Int)), (13, .int .i64 (((j + 1) : Nat) : Int))] (hK4 _ _ _ _ (by omega) ⟨(j + 1), S5, rfl, rfl, H40, (hr2 hno_), (by omega)⟩)
    have hrd0 := rounds_end hcx hj
    have hob_ := (hres2.resolve_left (fun z => by rw [hrd0] at z; cases z.1)).2
    obtain ⟨bg2, hbg, hres3⟩ := hob_
    refine Sx.v 5 (.bool (decide (((j : Nat) : Int) ≤ ((i : Nat) : Int)))) (.bool false) (dF (by omega)) ?_
    have H41 := H35.pick (a := [GI Sj bg g3, psI Sq A rl, pyI Sq A ls, .blk k1 (.cells #[.int .i64 0, .int .i64 0] 26), .own 3 1 (some ⟨gk, 0, none⟩) cap1 (nk + 1) (nats (l ++ [a]))]) [0, 0, 0, 0, 0] (by kernel_rfl)
    refine Sx.lp 14 (fun z l' w' => ∃ (j : Nat) (Sj : Nat → Prop), l' = [(0, .slice A na0 ca0), (3, .pointer (some ⟨k1, 0, none⟩)), (7, .pointer (some ⟨bg, 0, none⟩)), (8, .slice (some ⟨gk, 0, none⟩) (nk + 1) cap1), (9, .int .i64 ((i : Nat) : Int)), (15, .int .i64 ((j : Nat) : Int))] ∧ z = (l ++ [a]).length - j ∧ Hs w L0 w' [GI Sj bg g3, psI Sq A rl, pyI Sq A ls, .blk k1 (.cells #[.int .i64 0, .int .i64 0] 26), .own 3 1 (some ⟨gk, 0, none⟩) cap1 (nk + 1) (nats (l ++ [a]))] ∧ (bigsX k g3 ((l ++ [a]).drop j) = some bg2) ∧ (j ≤ (l ++ [a]).length)) _ [(0, .slice A na0 ca0), (3, .pointer (some ⟨k1, 0, none⟩)), (7, .pointer (some ⟨bg, 0, none⟩)), (8, .slice (some ⟨gk, 0, none⟩) (nk + 1) cap1), (9, .int .i64 ((i : Nat) : Int)), (15, .int .i64 ((0 : Nat) : Int))] ⟨0, Sj, rfl, rfl, H41, hbg, (Nat.zero_le _)⟩ (fun b7 z4 l5 w19 hI5 K5 hK5 => ?_)
    obtain ⟨j, Sj, rfl, rfl, H42, hcx, hjl⟩ := hI5
    have hob_ := Nat.lt_or_ge j (l ++ [a]).length
    rcases hob_ with hj | hj
    · skip
      have hob_ := bigs_step hcx hj
      obtain ⟨n, cn, sn, hn, hrn, hr1, hr2⟩ := hob_
      rw [← parts_X] at hrn
      refine Sx.v 5 (.bool (decide (((j : Nat) : Int) ≤ ((i : Nat) : Int)))) (.bool true) (dT (by omega)) ?_
      refine Sx.ir 12 gk j 1 (nk + 1) cap1 (by omega) ?_
      refine Sx.lr 0 4 3 1 3 gk cap1 (nk + 1) (j * 1) (nats (l ++ [a])) H42 (.int .i64 ((n : Nat) : Int)) (nats_at hn) ?_
      refine Sx.c 0 [0] H42 (fun Hp8 R8 hR8 => Parts_c Sj bg g3 n w19 R8 Hp8 _ cn sn hrn (fun S6 w20 G8 => hR8 _ _ _ G8 fun H43 => ?_))
      refine Sx.br 9 (decide (((cn : Nat) : Int) > (300 : Int))) (fun h_c109 => ?_) (fun h_c109 => ?_)
      · skip
        have p_c109 := of_decide_eq_true h_c109
        have hX : X = .inl (10, i) := (hres3.elim (fun z => z.2) (fun z => by rw [hr1 (by omega)] at z; cases z.1))
        refine Sx.s 5 3 H43 fun w21 H44 => ?_
        refine Sx.rt 12 [3] H44 (.tuple #[.slice none 0 0, .agg #[.int .i64 10, .int .i64 ((i : Nat) : Int)]]) ?_
        have H45 := H44.add (Gx.Ext.refl _) (it := .own 32 5 none 0 0 []) (World.ownsRow_nil _ _ _ _) (fun _ h => by cases h)
        have H46 := H45.add (Gx.Ext.refl _) (it := Slv.tysI (fun _ => False) []) Slv.tysI_nil (fun _ h => h.elim)
        subst hL0
        exact hK none 0 0 [] (fun _ => False) 10 ((i : Nat) : Int) _ (H46.pick (a := [psI Sq A rl, .own 32 5 none 0 0 (kC []), Slv.tysI (fun _ => False) ([])]) [1, 4, 4] (by kernel_rfl)) ⟨rfl, by decide⟩ (out_inl (a := 10) (b := i) hfin hX)
      have p_c109 := of_decide_eq_false h_c109
      have hno_ : ¬ 300 < cn := by omega
      refine Sx.v 5 (.int .i64 (IntKind.i64.wrap (((j : Nat) : Int) + (1 : Int)))) (.int .i64 ((j + 1 : Nat) : Int)) (congrArg (Value.int .i64) (Gx.i64n (by omega) (by omega))) ?_
      have H47 := H43.pick (a := [GI S6 bg g3, psI Sq A rl, pyI Sq A ls, .blk k1 (.cells #[.int .i64 0, .int .i64 0] 26), .own 3 1 (some ⟨gk, 0, none⟩) cap1 (nk + 1) (nats (l ++ [a]))]) [0, 0, 0, 0, 0] (by kernel_rfl)
      exact Sx.to 2 [(0, .slice A na0 ca0), (3, .pointer (some ⟨k1, 0, none⟩)), (7, .pointer (some ⟨bg, 0, none⟩)), (8, .slice (some ⟨gk, 0, none⟩) (nk + 1) cap1), (9, .int .i64 ((i : Nat) : Int)), (15, .int .i64 (((j + 1) : Nat) : Int))] (hK5 _ _ _ _ (by omega) ⟨(j + 1), S6, rfl, rfl, H47, (hr2 hno_), (by omega)⟩)
    have hbg0 := bigs_end hcx hj
    have hgo := (hres3.resolve_left (fun z => by rw [hbg0] at z; cases z.1)).2
    refine Sx.v 5 (.bool (decide (((j : Nat) : Int) ≤ ((i : Nat) : Int)))) (.bool false) (dF (by omega)) ?_
    refine Sx.v 11 (.int .i64 (IntKind.i64.wrap (((i : Nat) : Int) + (1 : Int)))) (.int .i64 ((i + 1 : Nat) : Int)) (congrArg (Value.int .i64) (Gx.i64n (by omega) (by omega))) ?_
    have H48 := H42.pick (a := [GI Sj bg g3, psI Sq A rl, pyI Sq A ls, .blk k1 (.cells #[.int .i64 0, .int .i64 0] 26), .own 3 1 (some ⟨gk, 0, none⟩) cap1 (nk + 1) (nats (l ++ [a]))]) [0, 0, 0, 0, 0] (by kernel_rfl)
    exact Sx.to 2 [(0, .slice A na0 ca0), (3, .pointer (some ⟨k1, 0, none⟩)), (7, .pointer (some ⟨bg, 0, none⟩)), (8, .slice (some ⟨gk, 0, none⟩) (nk + 1) cap1), (9, .int .i64 (((i + 1) : Nat) : Int))] (hK3 _ _ _ _ (by omega) ⟨(i + 1), g3, Sj, (l ++ [a]), (some ⟨gk, 0, none⟩), cap1, nk + 1, rfl, rfl, H48, hgo, hnk2, (by rw [List.length_append, hili]; rfl), (by omega)⟩)
  have hob_ := loopD_end hx hx1
  obtain rfl := hob_
  obtain ⟨ts, hts, hRo⟩ := hfin
  subst hRo
  refine Sx.v 6 (.bool (decide (((i : Nat) : Int) < ((na0 : Nat) : Int)))) (.bool false) (dF (by omega)) ?_
  refine Sx.c 10 [] H21 (fun Hp9 R9 hR9 => Fresh_c  w9 R9 Hp9  (fun nt1 nr1 w22 G9 => hR9 _ _ _ G9 fun H49 => ?_))
  refine Sx.nw 0 H49 fun k3 w23 H50 => ?_
  refine Sx.s 0 7 H50 fun w24 H51 => ?_
  have H52 := H51.add (Gx.Ext.refl _) (it := .own 32 5 none 0 0 []) (World.ownsRow_nil _ _ _ _) (fun _ h => by cases h)
  have H53 := H52.add (Gx.Ext.refl _) (it := Slv.tysI (fun _ => False) []) Slv.tysI_nil (fun _ h => h.elim)
  have H54 := H53.pick (a := [GI Si bg gi, mapN nt1 ([]), mapN nr1 ([]), psI Sq A rl, .blk k1 (.cells #[.int .i64 0, .int .i64 0] 26), .blk k3 (.cells #[.map (some nt1), .map (some nr1)] 68), .own 3 1 Ak ck nk (nats l), .own 32 5 none 0 0 (kC []), Slv.tysI (fun _ => False) ([])]) [2, 0, 0, 0, 1, 2, 1, 1, 1] (by kernel_rfl)
  refine Sx.lp 14 (fun z l' w' => ∃ (j : Nat) (L : Nams) (kl : List Kd) (tj : List Ty) (Ao : Option Addr) (co : Nat) (no : Nat) (So : Nat → Prop) (Sj : Nat → Prop), l' = [(3, .pointer (some ⟨k1, 0, none⟩)), (7, .pointer (some ⟨bg, 0, none⟩)), (8, .slice Ak nk ck), (17, .pointer (some ⟨k3, 0, none⟩)), (18, .slice Ao no co), (19, .int .i64 ((j : Nat) : Int))] ∧ z = l.length - j ∧ Hs w L0 w' [GI Sj bg gi, mapN nt1 L.t, mapN nr1 L.r, psI Sq A rl, .blk k1 (.cells #[.int .i64 0, .int .i64 0] 26), .blk k3 (.cells #[.map (some nt1), .map (some nr1)] 68), .own 3 1 Ak ck nk (nats l), .own 32 5 Ao co no (kC kl), Slv.tysI So kl] ∧ (toldsX k gi (l.drop j) L = some tj) ∧ (kl.map (·.2) ++ tj = ts) ∧ (no = kl.length) ∧ (kl.length = j) ∧ (j ≤ l.length)) _ [(3, .pointer (some ⟨k1, 0, none⟩)), (7, .pointer (some ⟨bg, 0, none⟩)), (8, .slice Ak nk ck), (17, .pointer (some ⟨k3, 0, none⟩)), (18, .slice none 0 0), (19, .int .i64 ((0 : Nat) : Int))] ⟨0, (⟨[], []⟩ : Nams), [], ts, none, 0, 0, (fun _ => False), Si, rfl, rfl, H54, hts, rfl, rfl, rfl, (Nat.zero_le _)⟩ (fun b8 z5 l6 w25 hI6 K6 hK6 => ?_)
  obtain ⟨j, L, kl, tj, Ao, co, no, So, Sj, rfl, rfl, H55, htd, htk, hno, hkj, hjl⟩ := hI6
  have hob_ := Nat.lt_or_ge j l.length
  rcases hob_ with hj | hj
  · skip
    have hob_ := tolds_step htd hj
    obtain ⟨n, ⟨k0, u0, r0, o0, a0⟩, m', tr, hn, htl, hnx, htt⟩ := hob_
    subst htt
    rw [← told_X] at htl
    have hrow := Hs.row H55 6 (e := 3) (sz := 1) (cap := ck) (n := nk) (A := Ak) (xs := (nats l)) (by kernel_rfl) (by omega)
    obtain ⟨gk, hgk⟩ := hrow
    subst hgk
    refine Sx.v 6 (.bool (decide (((j : Nat) : Int) < ((nk : Nat) : Int)))) (.bool true) (dT (by omega)) ?_
    refine Sx.dr 7 H55 [6, 5] [] (LJ := [.own 3 1 (some ⟨gk, 0, none⟩) ck nk (nats l), .blk k3 (.cells #[.map (some nt1), .map (some nr1)] 68)]) (by kernel_rfl) fun w26 H56 => ?_
    refine Sx.tk [(0, none), (1, none), (2, none), (3, none)] (fun _ => (H56.sub [6, 5] (by kernel_rfl))) ?_
    refine Sx.tvg 4 [] gk j 1 nk ck (by omega) (fun _ => (H56.sub [6, 5] (by kernel_rfl))) ?_
    refine Sx.tvl 5 [] 0 3 1 3 gk ck nk (j * 1) (nats l) (.int .i64 ((n : Nat) : Int)) (nats_at hn) (fun _ => (H56.sub [6, 5] (by kernel_rfl))) ?_
    refine Sx.tk [(6, some (1, []))] (fun _ => (H56.sub [6, 5] (by kernel_rfl))) ?_
    refine Sx.nmx ?_
    intro zx1
    refine Sx.on 7 ?_
    refine Sx.c 0 [0, 0, 0] H56 (fun Hp10 R10 hR10 => (Told_c _) Sj bg gi n nt1 nr1 L w26 R10 Hp10 (Ty.mk k0 u0 r0 o0 a0) m' htl (fun S7 Sy1 tp1 w27 G10 => hR10 _ _ _ G10 fun H57 => ?_))
    refine Sx.bk (x := zx1) 7 (fun _ => (H57.sub [7, 6] (by kernel_rfl))) ?_
    refine Sx.nmx ?_
    intro zx2
    refine Sx.on 8 ?_
    refine Sx.nw 0 H57 fun k4 w28 H58 => ?_
    refine Sx.bk (x := zx2) 8 (fun _ => (H58.sub [7, 6] (by kernel_rfl))) ?_
    refine Sx.nmx ?_
    intro zx3
    refine Sx.on 9 ?_
    refine Sx.ap 0 8 10 72 1 0 32 5 23 1 k4 Ao co no (kC kl) [.int .i64 ((k0 : Nat) : Int), .int .i64 ((u0 : Nat) : Int), .int .i64 ((r0 : Nat) : Int), .slice tp1.A tp1.na tp1.ca, .slice tp1.B tp1.nb tp1.cb] H58 (by omega) (by omega) (kC_app kl tp1 (Ty.mk k0 u0 r0 o0 a0)) fun A2 cap2 w29 H59 => ?_
    refine Sx.bk (x := zx3) 9 (fun _ => (H59.sub [7, 6] (by kernel_rfl))) ?_
    refine Sx.tk [(10, none)] (fun _ => (H59.sub [7, 6] (by kernel_rfl))) ?_
    refine Sx.dn ?_
    refine Sx.v 4 (.int .i64 (IntKind.i64.wrap (((j : Nat) : Int) + (1 : Int)))) (.int .i64 ((j + 1 : Nat) : Int)) (congrArg (Value.int .i64) (Gx.i64n (by omega) (by omega))) ?_
    have hob_ := Slv.tys_add H59 [9, 3] (S := So) (S2 := Sy1) (l := kl) (p := tp1) (t := Ty.mk k0 u0 r0 o0 a0) (by kernel_rfl)
    obtain ⟨S8, H60⟩ := hob_
    have H61 := H60.pick (a := [GI S7 bg gi, mapN nt1 m'.t, mapN nr1 m'.r, psI Sq A rl, .blk k1 (.cells #[.int .i64 0, .int .i64 0] 26), .blk k3 (.cells #[.map (some nt1), .map (some nr1)] 68), .own 3 1 (some ⟨gk, 0, none⟩) ck nk (nats l), .own 32 5 A2 cap2 (no + 1) (kC (kl ++ [(tp1, Ty.mk k0 u0 r0 o0 a0)])), Slv.tysI S8 (kl ++ [(tp1, Ty.mk k0 u0 r0 o0 a0)])]) [1, 1, 1, 1, 1, 1, 1, 1, 0] (by kernel_rfl)
    exact Sx.to 2 [(3, .pointer (some ⟨k1, 0, none⟩)), (7, .pointer (some ⟨bg, 0, none⟩)), (8, .slice (some ⟨gk, 0, none⟩) nk ck), (17, .pointer (some ⟨k3, 0, none⟩)), (18, .slice A2 (no + 1) cap2), (19, .int .i64 (((j + 1) : Nat) : Int))] (hK6 _ _ _ _ (by omega) ⟨(j + 1), m', (kl ++ [(tp1, Ty.mk k0 u0 r0 o0 a0)]), tr, A2, cap2, no + 1, S8, S7, rfl, rfl, H61, hnx, (by rw [← htk]; simp), (by rw [List.length_append, hno]; rfl), (by rw [List.length_append, hkj]; rfl), (by omega)⟩)
  have hte := tolds_end htd hj
  subst hte
  refine Sx.v 6 (.bool (decide (((j : Nat) : Int) < ((nk : Nat) : Int)))) (.bool false) (dF (by omega)) ?_
  refine Sx.s 13 4 H55 fun w30 H62 => ?_
  refine Sx.rt 3 [4] H62 (.tuple #[.slice Ao no co, .agg #[.int .i64 0, .int .i64 0]]) ?_
  subst hL0
  exact hK Ao co no kl So 0 0 _ (H62.pick (a := [psI Sq A rl, .own 32 5 Ao co no (kC kl), Slv.tysI So kl]) [3, 6, 6] (by kernel_rfl)) ⟨hno, by omega⟩ ⟨by rw [← htk, List.append_nil], rfl, rfl⟩
set_option maxHeartbeats 16000000 in
theorem SameL_c_s (k : Nat) (ih : ∀ (Sa Sb : Nat → Prop) (kd u row : Nat) (ops : List Nm) (args : List Ty) (p q : Tv) (w : World) (K : Ending → World → Prop) (H0 : Sp w [tyI Sa p (Ty.mk kd u row ops args), tyI Sb q (Ty.mk kd u row ops args)]) (hd : Dep k (Ty.mk kd u row ops args)) (hK : ∀ w', Hs w [tyI Sa p (Ty.mk kd u row ops args), tyI Sb q (Ty.mk kd u row ops args)] w' [tyI Sa p (Ty.mk kd u row ops args), tyI Sb q (Ty.mk kd u row ops args)] → K (.returned (.bool true)) w'),
    Calls Try.prog 7 #[.agg #[.int .i64 ((kd : Nat) : Int), .int .i64 ((u : Nat) : Int), .int .i64 ((row : Nat) : Int), .slice p.A p.na p.ca, .slice p.B p.nb p.cb], .agg #[.int .i64 ((kd : Nat) : Int), .int .i64 ((u : Nat) : Int), .int .i64 ((row : Nat) : Int), .slice q.A q.na q.ca, .slice q.B q.nb q.cb]] w K) (Sa Sb : Nat → Prop) (kd u row : Nat) (ops : List Nm) (args : List Ty) (p q : Tv) (w : World) (K : Ending → World → Prop) (H0 : Sp w [tyI Sa p (Ty.mk kd u row ops args), tyI Sb q (Ty.mk kd u row ops args)]) (hd : Dep (k + 1) (Ty.mk kd u row ops args)) (hK : ∀ w', Hs w [tyI Sa p (Ty.mk kd u row ops args), tyI Sb q (Ty.mk kd u row ops args)] w' [tyI Sa p (Ty.mk kd u row ops args), tyI Sb q (Ty.mk kd u row ops args)] → K (.returned (.bool true)) w') :
    Calls Try.prog 7 #[.agg #[.int .i64 ((kd : Nat) : Int), .int .i64 ((u : Nat) : Int), .int .i64 ((row : Nat) : Int), .slice p.A p.na p.ca, .slice p.B p.nb p.cb], .agg #[.int .i64 ((kd : Nat) : Int), .int .i64 ((u : Nat) : Int), .int .i64 ((row : Nat) : Int), .slice q.A q.na q.ca, .slice q.B q.nb q.cb]] w K := by
  obtain ⟨L0, hL0, H⟩ : ∃ L0, L0 = [tyI Sa p (Ty.mk kd u row ops args), tyI Sb q (Ty.mk kd u row ops args)] ∧ Hs w L0 w [tyI Sa p (Ty.mk kd u row ops args), tyI Sb q (Ty.mk kd u row ops args)] := ⟨_, rfl, Hs.refl H0⟩
  refine Sx.en (vs := [.agg #[.int .i64 ((kd : Nat) : Int), .int .i64 ((u : Nat) : Int), .int .i64 ((row : Nat) : Int), .slice p.A p.na p.ca, .slice p.B p.nb p.cb], .agg #[.int .i64 ((kd : Nat) : Int), .int .i64 ((u : Nat) : Int), .int .i64 ((row : Nat) : Int), .slice q.A q.na q.ca, .slice q.B q.nb q.cb]]) 83 Try.func7 ?_
  have hopa := (ty_at (S := Sa) (p := p) (t := Ty.mk kd u row ops args) H 0 (by kernel_rfl)).open
  have hopb := (ty_at (S := Sb) (p := q) (t := Ty.mk kd u row ops args) H 1 (by kernel_rfl)).open
  obtain ⟨_, hna, hca, hnb, _⟩ := hopa
  obtain ⟨_, hnc, hcc, hnd, _⟩ := hopb
  have hdd : ∀ (i : Nat) (t : Ty), args[i]? = some t → Dep k t := by cases hd with | mk h => exact h
  refine Sx.nw 2 H fun k1 w1 H1 => ?_
  refine Sx.nw 0 H1 fun k2 w2 H2 => ?_
  refine Sx.l 7 2 H2 ?_
  refine Sx.l 1 3 H2 ?_
  refine Sx.v 0 (.bool (((kd : Nat) : Int) != ((kd : Nat) : Int))) (.bool false) (nF (by omega)) ?_
  refine Sx.l 2 2 H2 ?_
  refine Sx.l 1 3 H2 ?_
  refine Sx.v 0 (.bool (((u : Nat) : Int) != ((u : Nat) : Int))) (.bool false) (nF (by omega)) ?_
  refine Sx.l 3 2 H2 ?_
  refine Sx.l 1 3 H2 ?_
  refine Sx.v 0 (.bool (((row : Nat) : Int) != ((row : Nat) : Int))) (.bool false) (nF (by omega)) ?_
  refine Sx.l 3 2 H2 ?_
  refine Sx.l 2 3 H2 ?_
  refine Sx.v 1 (.bool (((p.na : Nat) : Int) != ((q.na : Nat) : Int))) (.bool false) (nF (by omega)) ?_
  refine Sx.l 3 2 H2 ?_
  refine Sx.l 2 3 H2 ?_
  refine Sx.v 1 (.bool (((p.nb : Nat) : Int) != ((q.nb : Nat) : Int))) (.bool false) (nF (by omega)) ?_
  have H3 := H2.pick (a := [tyI Sa p (Ty.mk kd u row ops args), tyI Sb q (Ty.mk kd u row ops args), .blk k1 (.cells #[.int .i64 ((kd : Nat) : Int), .int .i64 ((u : Nat) : Int), .int .i64 ((row : Nat) : Int), .slice p.A p.na p.ca, .slice p.B p.nb p.cb] 32), .blk k2 (.cells #[.int .i64 ((kd : Nat) : Int), .int .i64 ((u : Nat) : Int), .int .i64 ((row : Nat) : Int), .slice q.A q.na q.ca, .slice q.B q.nb q.cb] 32)]) [0, 0, 0, 0] (by kernel_rfl)
  refine Sx.lp 13 (fun z l' w' => ∃ (i : Nat), l' = [(2, .pointer (some ⟨k1, 0, none⟩)), (3, .pointer (some ⟨k2, 0, none⟩)), (5, .int .i64 ((i : Nat) : Int))] ∧ z = ops.length - i ∧ Hs w L0 w' [tyI Sa p (Ty.mk kd u row ops args), tyI Sb q (Ty.mk kd u row ops args), .blk k1 (.cells #[.int .i64 ((kd : Nat) : Int), .int .i64 ((u : Nat) : Int), .int .i64 ((row : Nat) : Int), .slice p.A p.na p.ca, .slice p.B p.nb p.cb] 32), .blk k2 (.cells #[.int .i64 ((kd : Nat) : Int), .int .i64 ((u : Nat) : Int), .int .i64 ((row : Nat) : Int), .slice q.A q.na q.ca, .slice q.B q.nb q.cb] 32)] ∧ (i ≤ ops.length)) _ [(2, .pointer (some ⟨k1, 0, none⟩)), (3, .pointer (some ⟨k2, 0, none⟩)), (5, .int .i64 ((0 : Nat) : Int))] ⟨0, rfl, rfl, H3, (Nat.zero_le _)⟩ (fun b1 z1 l1 w3 hI1 K1 hK1 => ?_)
  obtain ⟨i, rfl, rfl, H4, hil⟩ := hI1
  have hob_ := Nat.lt_or_ge i ops.length
  rcases hob_ with hx | hx
  · skip
    have hga := (ty_at (S := Sa) (p := p) (t := Ty.mk kd u row ops args) H4 0 (by kernel_rfl)).open.1
    have hgb := (ty_at (S := Sb) (p := q) (t := Ty.mk kd u row ops args) H4 1 (by kernel_rfl)).open.1
    have hob_ : ∃ s, ops[i]? = some s := ⟨_, List.getElem?_eq_getElem hx⟩
    obtain ⟨s, hs1⟩ := hob_
    have hob_ := hga i s hs1
    obtain ⟨ya, hya, _, hca1⟩ := hob_
    have hob_ := hgb i s hs1
    obtain ⟨yb, hyb, _, hcb1⟩ := hob_
    refine Sx.l 5 2 H4 ?_
    refine Sx.v 1 (.bool (decide (((i : Nat) : Int) < ((p.na : Nat) : Int)))) (.bool true) (dT (by omega)) ?_
    refine Sx.dr 8 H4 [2, 0, 3, 1] [] (LJ := [.blk k1 (.cells #[.int .i64 ((kd : Nat) : Int), .int .i64 ((u : Nat) : Int), .int .i64 ((row : Nat) : Int), .slice p.A p.na p.ca, .slice p.B p.nb p.cb] 32), tyI Sa p (Ty.mk kd u row ops args), .blk k2 (.cells #[.int .i64 ((kd : Nat) : Int), .int .i64 ((u : Nat) : Int), .int .i64 ((row : Nat) : Int), .slice q.A q.na q.ca, .slice q.B q.nb q.cb] 32), tyI Sb q (Ty.mk kd u row ops args)]) (by kernel_rfl) fun w4 H5 => ?_
    refine Sx.tk [(0, none), (1, some (0, [])), (2, none)] (fun _ => (H5.sub [2, 0, 1, 0] (by kernel_rfl))) ?_
    refine Sx.tvi 3 [] ya i 1 p.na p.ca hya (by omega) (fun _ => (H5.sub [2, 0, 1, 0] (by kernel_rfl))) ?_
    refine Sx.tvo (c := 1) (t := 9) 4 [] [.string s] (.string s) (fun w' hs => ty_str (S := Sa) (p := p) (kd := kd) (n := u) (row := row) (ops := ops) (args := args) hs 1 (by kernel_rfl) hya hs1) (fun _ => (H5.sub [2, 0, 1, 0] (by kernel_rfl))) ?_
    refine Sx.tk [(5, none), (6, some (2, [])), (7, none)] (fun _ => (H5.sub [2, 0, 1, 0] (by kernel_rfl))) ?_
    refine Sx.tvi 8 [] yb i 1 q.na q.ca hyb (by omega) (fun _ => (H5.sub [2, 0, 1, 0] (by kernel_rfl))) ?_
    refine Sx.tvo (c := 1) (t := 9) 9 [] [.string s] (.string s) (fun w' hs => ty_str (S := Sb) (p := q) (kd := kd) (n := u) (row := row) (ops := ops) (args := args) hs 3 (by kernel_rfl) hyb hs1) (fun _ => (H5.sub [2, 0, 1, 0] (by kernel_rfl))) ?_
    refine Sx.tva 10 [] (.bool (!(s.toList == s.toList))) (.bool false) (nn_f s) (fun _ => (H5.sub [2, 0, 1, 0] (by kernel_rfl))) ?_
    refine Sx.dn ?_
    refine Sx.v 7 (.int .i64 (IntKind.i64.wrap (((i : Nat) : Int) + (1 : Int)))) (.int .i64 ((i + 1 : Nat) : Int)) (congrArg (Value.int .i64) (Gx.i64n (by omega) (by omega))) ?_
    have H6 := H5.pick (a := [tyI Sa p (Ty.mk kd u row ops args), tyI Sb q (Ty.mk kd u row ops args), .blk k1 (.cells #[.int .i64 ((kd : Nat) : Int), .int .i64 ((u : Nat) : Int), .int .i64 ((row : Nat) : Int), .slice p.A p.na p.ca, .slice p.B p.nb p.cb] 32), .blk k2 (.cells #[.int .i64 ((kd : Nat) : Int), .int .i64 ((u : Nat) : Int), .int .i64 ((row : Nat) : Int), .slice q.A q.na q.ca, .slice q.B q.nb q.cb] 32)]) [0, 0, 0, 0] (by kernel_rfl)
    exact Sx.to 2 [(2, .pointer (some ⟨k1, 0, none⟩)), (3, .pointer (some ⟨k2, 0, none⟩)), (5, .int .i64 (((i + 1) : Nat) : Int))] (hK1 _ _ _ _ (by omega) ⟨(i + 1), rfl, rfl, H6, (by omega)⟩)
  refine Sx.l 5 2 H4 ?_
  refine Sx.v 1 (.bool (decide (((i : Nat) : Int) < ((p.na : Nat) : Int)))) (.bool false) (dF (by omega)) ?_
  have H7 := H4.pick (a := [tyI Sa p (Ty.mk kd u row ops args), tyI Sb q (Ty.mk kd u row ops args), .blk k1 (.cells #[.int .i64 ((kd : Nat) : Int), .int .i64 ((u : Nat) : Int), .int .i64 ((row : Nat) : Int), .slice p.A p.na p.ca, .slice p.B p.nb p.cb] 32), .blk k2 (.cells #[.int .i64 ((kd : Nat) : Int), .int .i64 ((u : Nat) : Int), .int .i64 ((row : Nat) : Int), .slice q.A q.na q.ca, .slice q.B q.nb q.cb] 32)]) [0, 0, 0, 0] (by kernel_rfl)
  refine Sx.lp 15 (fun z l' w' => ∃ (i : Nat), l' = [(2, .pointer (some ⟨k1, 0, none⟩)), (3, .pointer (some ⟨k2, 0, none⟩)), (6, .int .i64 ((i : Nat) : Int))] ∧ z = args.length - i ∧ Hs w L0 w' [tyI Sa p (Ty.mk kd u row ops args), tyI Sb q (Ty.mk kd u row ops args), .blk k1 (.cells #[.int .i64 ((kd : Nat) : Int), .int .i64 ((u : Nat) : Int), .int .i64 ((row : Nat) : Int), .slice p.A p.na p.ca, .slice p.B p.nb p.cb] 32), .blk k2 (.cells #[.int .i64 ((kd : Nat) : Int), .int .i64 ((u : Nat) : Int), .int .i64 ((row : Nat) : Int), .slice q.A q.na q.ca, .slice q.B q.nb q.cb] 32)] ∧ (i ≤ args.length)) _ [(2, .pointer (some ⟨k1, 0, none⟩)), (3, .pointer (some ⟨k2, 0, none⟩)), (6, .int .i64 ((0 : Nat) : Int))] ⟨0, rfl, rfl, H7, (Nat.zero_le _)⟩ (fun b2 z2 l2 w5 hI2 K2 hK2 => ?_)
  obtain ⟨i, rfl, rfl, H8, hil⟩ := hI2
  have hob_ := Nat.lt_or_ge i args.length
  rcases hob_ with hx | hx
  · skip
    have hob_ : ∃ t, args[i]? = some t := ⟨_, List.getElem?_eq_getElem hx⟩
    obtain ⟨⟨k0, u0, r0, o0, a0⟩, hti⟩ := hob_
    have hob_ := TyIn.kid (ty_at (S := Sa) (p := p) (t := Ty.mk kd u row ops args) H8 0 (by kernel_rfl)) hti
    obtain ⟨p0, za, hxa, hza, hka⟩ := hob_
    have H9 := H8.ro 0 (S := Sa) (A := fun w => TyIn w Sa p (Ty.mk kd u row ops args)) (B := fun w => TyIn w Sa p0 (Ty.mk k0 u0 r0 o0 a0)) (by kernel_rfl) hka (tyI_loc _ _ _)
    have H10 := H9.ro 0 (S := Sa) (A := fun w => TyIn w Sa p (Ty.mk kd u row ops args)) (B := fun w => Sa (Addr.add za (i * 5)).block ∧ w.cells? 0 (Addr.add za (i * 5)) 5 = some (tvC (Ty.mk k0 u0 r0 o0 a0) p0)) (by kernel_rfl) hza (ceI_loc _ _ _ _)
    have hob_ := TyIn.kid (ty_at (S := Sb) (p := q) (t := Ty.mk kd u row ops args) H10 1 (by kernel_rfl)) hti
    obtain ⟨q0, zb, hxb, hzb, hkb⟩ := hob_
    have H11 := H10.ro 1 (S := Sb) (A := fun w => TyIn w Sb q (Ty.mk kd u row ops args)) (B := fun w => TyIn w Sb q0 (Ty.mk k0 u0 r0 o0 a0)) (by kernel_rfl) hkb (tyI_loc _ _ _)
    have H12 := H11.ro 1 (S := Sb) (A := fun w => TyIn w Sb q (Ty.mk kd u row ops args)) (B := fun w => Sb (Addr.add zb (i * 5)).block ∧ w.cells? 0 (Addr.add zb (i * 5)) 5 = some (tvC (Ty.mk k0 u0 r0 o0 a0) q0)) (by kernel_rfl) hzb (ceI_loc _ _ _ _)
    refine Sx.l 5 2 H12 ?_
    refine Sx.v 1 (.bool (decide (((i : Nat) : Int) < ((p.nb : Nat) : Int)))) (.bool true) (dT (by omega)) ?_
    refine Sx.dr 8 H12 [2, 5, 3, 7] [] (LJ := [.blk k1 (.cells #[.int .i64 ((kd : Nat) : Int), .int .i64 ((u : Nat) : Int), .int .i64 ((row : Nat) : Int), .slice p.A p.na p.ca, .slice p.B p.nb p.cb] 32), ceI Sa (Addr.add za (i * 5)) 5 (tvC (Ty.mk k0 u0 r0 o0 a0) p0), .blk k2 (.cells #[.int .i64 ((kd : Nat) : Int), .int .i64 ((u : Nat) : Int), .int .i64 ((row : Nat) : Int), .slice q.A q.na q.ca, .slice q.B q.nb q.cb] 32), ceI Sb (Addr.add zb (i * 5)) 5 (tvC (Ty.mk k0 u0 r0 o0 a0) q0)]) (by kernel_rfl) fun w6 H13 => ?_
    refine Sx.tk [(0, none), (1, some (0, [])), (2, none)] (fun _ => (H13.sub [2, 4, 2, 4] (by kernel_rfl))) ?_
    refine Sx.tvi 3 [] za i 5 p.nb p.cb hxa (by omega) (fun _ => (H13.sub [2, 4, 2, 4] (by kernel_rfl))) ?_
    refine Sx.tvo (c := 5) (t := 32) 4 [] [.int .i64 ((k0 : Nat) : Int), .int .i64 ((u0 : Nat) : Int), .int .i64 ((r0 : Nat) : Int), .slice p0.A p0.na p0.ca, .slice p0.B p0.nb p0.cb] (.agg #[.int .i64 ((k0 : Nat) : Int), .int .i64 ((u0 : Nat) : Int), .int .i64 ((r0 : Nat) : Int), .slice p0.A p0.na p0.ca, .slice p0.B p0.nb p0.cb]) (fun w' hs => ce_at (S := Sa) (a := Addr.add za (i * 5)) (n := 5) (cs := tvC (Ty.mk k0 u0 r0 o0 a0) p0) hs 1 (by kernel_rfl)) (fun _ => (H13.sub [2, 4, 2, 4] (by kernel_rfl))) ?_
    refine Sx.tk [(5, none), (6, some (2, [])), (7, none)] (fun _ => (H13.sub [2, 4, 2, 4] (by kernel_rfl))) ?_
    refine Sx.tvi 8 [] zb i 5 q.nb q.cb hxb (by omega) (fun _ => (H13.sub [2, 4, 2, 4] (by kernel_rfl))) ?_
    refine Sx.tvo (c := 5) (t := 32) 9 [] [.int .i64 ((k0 : Nat) : Int), .int .i64 ((u0 : Nat) : Int), .int .i64 ((r0 : Nat) : Int), .slice q0.A q0.na q0.ca, .slice q0.B q0.nb q0.cb] (.agg #[.int .i64 ((k0 : Nat) : Int), .int .i64 ((u0 : Nat) : Int), .int .i64 ((r0 : Nat) : Int), .slice q0.A q0.na q0.ca, .slice q0.B q0.nb q0.cb]) (fun w' hs => ce_at (S := Sb) (a := Addr.add zb (i * 5)) (n := 5) (cs := tvC (Ty.mk k0 u0 r0 o0 a0) q0) hs 3 (by kernel_rfl)) (fun _ => (H13.sub [2, 4, 2, 4] (by kernel_rfl))) ?_
    refine Sx.nmx ?_
    intro zx1
    refine Sx.on 10 ?_
    refine Sx.c 0 [4, 5] H13 (fun Hp1 R1 hR1 => ih Sa Sb k0 u0 r0 o0 a0 p0 q0 w6 R1 Hp1 (hdd _ _ hti) (fun w7 G1 => hR1 _ _ _ G1 fun H14 => ?_))
    refine Sx.bk (x := zx1) 10 (fun _ => (H14.sub [4, 5, 4, 4] (by kernel_rfl))) ?_
    refine Sx.tk [(11, none)] (fun _ => (H14.sub [4, 5, 4, 4] (by kernel_rfl))) ?_
    refine Sx.dn ?_
    refine Sx.v 13 (.int .i64 (IntKind.i64.wrap (((i : Nat) : Int) + (1 : Int)))) (.int .i64 ((i + 1 : Nat) : Int)) (congrArg (Value.int .i64) (Gx.i64n (by omega) (by omega))) ?_
    have H15 := H14.pick (a := [tyI Sa p (Ty.mk kd u row ops args), tyI Sb q (Ty.mk kd u row ops args), .blk k1 (.cells #[.int .i64 ((kd : Nat) : Int), .int .i64 ((u : Nat) : Int), .int .i64 ((row : Nat) : Int), .slice p.A p.na p.ca, .slice p.B p.nb p.cb] 32), .blk k2 (.cells #[.int .i64 ((kd : Nat) : Int), .int .i64 ((u : Nat) : Int), .int .i64 ((row : Nat) : Int), .slice q.A q.na q.ca, .slice q.B q.nb q.cb] 32)]) [2, 2, 2, 2] (by kernel_rfl)
    exact Sx.to 2 [(2, .pointer (some ⟨k1, 0, none⟩)), (3, .pointer (some ⟨k2, 0, none⟩)), (6, .int .i64 (((i + 1) : Nat) : Int))] (hK2 _ _ _ _ (by omega) ⟨(i + 1), rfl, rfl, H15, (by omega)⟩)
  refine Sx.l 5 2 H8 ?_
  refine Sx.v 1 (.bool (decide (((i : Nat) : Int) < ((p.nb : Nat) : Int)))) (.bool false) (dF (by omega)) ?_
  refine Sx.rt 14 [] H8 (.bool true) ?_
  subst hL0
  exact hK _ (H8.pick (a := [tyI Sa p (Ty.mk kd u row ops args), tyI Sb q (Ty.mk kd u row ops args)]) [0, 0] (by kernel_rfl))
theorem SameL_c (k : Nat) : ∀ (Sa Sb : Nat → Prop) (kd u row : Nat) (ops : List Nm) (args : List Ty) (p q : Tv) (w : World) (K : Ending → World → Prop) (H0 : Sp w [tyI Sa p (Ty.mk kd u row ops args), tyI Sb q (Ty.mk kd u row ops args)]) (hd : Dep k (Ty.mk kd u row ops args)) (hK : ∀ w', Hs w [tyI Sa p (Ty.mk kd u row ops args), tyI Sb q (Ty.mk kd u row ops args)] w' [tyI Sa p (Ty.mk kd u row ops args), tyI Sb q (Ty.mk kd u row ops args)] → K (.returned (.bool true)) w'),
    Calls Try.prog 7 #[.agg #[.int .i64 ((kd : Nat) : Int), .int .i64 ((u : Nat) : Int), .int .i64 ((row : Nat) : Int), .slice p.A p.na p.ca, .slice p.B p.nb p.cb], .agg #[.int .i64 ((kd : Nat) : Int), .int .i64 ((u : Nat) : Int), .int .i64 ((row : Nat) : Int), .slice q.A q.na q.ca, .slice q.B q.nb q.cb]] w K := by
  induction k with
  | zero => intro Sa Sb kd u row ops args p q w K H0 hd; cases hd
  | succ k ih => exact SameL_c_s k ih
set_option maxHeartbeats 16000000 in
theorem Solve_p (Sq : Nat → Prop) (A : Option Addr) (na0 ca0 : Nat) (rl : List (Tr × Tr)) (w : World) (K : Ending → World → Prop) (H0 : Sp w [psI Sq A rl]) (Ro : Out) (hna : na0 = rl.length ∧ na0 ≤ ca0 ∧ na0 < 9223372036854775808) (hR : SO solveP rl Ro) (hK : ∀ (A' : Option Addr) (c' : Nat) (n' : Nat) (kl : List Kd) (S' : Nat → Prop) (f1 : Int) (f2 : Int) w', Hs w [psI Sq A rl] w' [psI Sq A rl, .own 32 5 A' c' n' (kC kl), Slv.tysI S' kl] → (n' = kl.length ∧ n' ≤ 20) → (OutIs Ro kl f1 f2) → K (.returned (.tuple #[.slice A' n' c', .agg #[.int .i64 f1, .int .i64 f2]])) w') :
    Calls Try.prog 5 #[.slice A na0 ca0] w K := by
  obtain ⟨L0, hL0, H⟩ : ∃ L0, L0 = [psI Sq A rl] ∧ Hs w L0 w [psI Sq A rl] := ⟨_, rfl, Hs.refl H0⟩
  refine Sx.en (vs := [.slice A na0 ca0]) 129 Try.func5 ?_
  refine Sx.nw 3 H fun k1 w1 H1 => ?_
  refine Sx.br 10 (decide (((na0 : Nat) : Int) > (20 : Int))) (fun h_c27 => ?_) (fun h_c27 => ?_)
  · skip
    refine Sx.s 4 1 H1 fun w2 H2 => ?_
    refine Sx.rt 4 [1] H2 (.tuple #[.slice none 0 0, .agg #[.int .i64 11, .int .i64 20]]) ?_
    have p_c27 := of_decide_eq_true h_c27
    have H3 := H2.add (Gx.Ext.refl _) (it := .own 32 5 none 0 0 []) (World.ownsRow_nil _ _ _ _) (fun _ h => by cases h)
    have H4 := H3.add (Gx.Ext.refl _) (it := Slv.tysI (fun _ => False) []) Slv.tysI_nil (fun _ h => h.elim)
    subst hL0
    exact hK none 0 0 [] (fun _ => False) 11 20 _ (H4.pick (a := [psI Sq A rl, .own 32 5 none 0 0 (kC []), Slv.tysI (fun _ => False) ([])]) [0, 1, 1] (by kernel_rfl)) ⟨rfl, by decide⟩ (out_eq (a := 11) (b := 20) (hR.big (by omega)))
  have H5 := H1.pick (a := [psI Sq A rl, .blk k1 (.cells #[.int .i64 0, .int .i64 0] 26)]) [0, 0] (by kernel_rfl)
  have p_c27 := of_decide_eq_false h_c27
  refine Sx.lp 11 (fun z l' w' => ∃ (i : Nat), l' = [(0, .slice A na0 ca0), (3, .pointer (some ⟨k1, 0, none⟩)), (29, .slice A na0 ca0), (30, .int .i64 ((na0 : Nat) : Int)), (31, .int .i64 ((i : Nat) : Int))] ∧ z = rl.length - i ∧ Hs w L0 w' [psI Sq A rl, .blk k1 (.cells #[.int .i64 0, .int .i64 0] 26)] ∧ (∀ (j : Nat) (q : Tr × Tr), j < i → rl[j]? = some q → POk q) ∧ (i ≤ rl.length)) _ [(0, .slice A na0 ca0), (3, .pointer (some ⟨k1, 0, none⟩)), (29, .slice A na0 ca0), (30, .int .i64 ((na0 : Nat) : Int)), (31, .int .i64 ((0 : Nat) : Int))] ⟨0, rfl, rfl, H5, (fun j q h => by omega), (Nat.zero_le _)⟩ (fun b1 z1 l1 w3 hI1 K1 hK1 => ?_)
  obtain ⟨i, rfl, rfl, H6, hall, hil⟩ := hI1
  have hob_ := Nat.lt_or_ge i rl.length
  rcases hob_ with hx | hx
  · skip
    have hob_ : ∃ r, rl[i]? = some r := ⟨_, List.getElem?_eq_getElem hx⟩
    obtain ⟨⟨⟨kq1, u1, r1, o1, a1⟩, ⟨kq2, u2, r2, o2, a2⟩⟩, hri⟩ := hob_
    have hob_ := ps_at (S := Sq) (A := A) (rl := rl) H6 0 (by kernel_rfl) i _ hri
    obtain ⟨q1, q2, aq, haq, _, hc10, _, _, hq1, hq2⟩ := hob_
    have H7 := Hs.tr1 (S := Sq) (A := A) (rl := rl) (p := q1) (t := Tr.mk kq1 u1 r1 o1 a1) H6 0 (by kernel_rfl) hq1
    have H8 := Hs.tr1 (S := Sq) (A := A) (rl := rl) (p := q2) (t := Tr.mk kq2 u2 r2 o2 a2) H7 0 (by kernel_rfl) hq2
    refine Sx.v 2 (.bool (decide (((i : Nat) : Int) < ((na0 : Nat) : Int)))) (.bool true) (dT (by omega)) ?_
    refine Sx.ia 11 aq i 10 na0 ca0 haq (by omega) ?_
    refine Sx.lo (c := 10) (t := 36) 0 [.int .i64 kq1, .int .i64 u1, .int .i64 r1, .slice q1.A q1.na q1.ca, .slice q1.B q1.nb q1.cb, .int .i64 kq2, .int .i64 u2, .int .i64 r2, .slice q2.A q2.na q2.ca, .slice q2.B q2.nb q2.cb] (.agg #[.int .i64 kq1, .int .i64 u1, .int .i64 r1, .slice q1.A q1.na q1.ca, .slice q1.B q1.nb q1.cb, .int .i64 kq2, .int .i64 u2, .int .i64 r2, .slice q2.A q2.na q2.ca, .slice q2.B q2.nb q2.cb]) hc10 ?_
    refine Sx.nw 0 H8 fun k2 w4 H9 => ?_
    refine Sx.s 1 4 H9 fun w5 H10 => ?_
    refine Sx.l 5 4 H10 ?_
    refine Sx.l 1 4 H10 ?_
    refine Sx.nw 0 H10 fun k3 w6 H11 => ?_
    have H12 := H11.pick (a := [psI Sq A rl, .blk k1 (.cells #[.int .i64 0, .int .i64 0] 26), .blk k3 (.cells #[.int .i64 kq1, .int .i64 u1, .int .i64 r1, .slice q1.A q1.na q1.ca, .slice q1.B q1.nb q1.cb, .int .i64 kq2, .int .i64 u2, .int .i64 r2, .slice q2.A q2.na q2.ca, .slice q2.B q2.nb q2.cb] 32), trI Sq q1 (Tr.mk kq1 u1 r1 o1 a1), trI Sq q2 (Tr.mk kq2 u2 r2 o2 a2)]) [0, 0, 3, 0, 0] (by kernel_rfl)
    refine Sx.lp 5 (fun z l' w' => ∃ (j : Nat), l' = [(0, .slice A na0 ca0), (3, .pointer (some ⟨k1, 0, none⟩)), (4, .int .i64 ((i : Nat) : Int)), (29, .slice A na0 ca0), (30, .int .i64 ((na0 : Nat) : Int)), (31, .int .i64 ((i : Nat) : Int)), (40, .slice (some ⟨k3, 0, none⟩) 2 2), (41, .int .i64 2), (42, .int .i64 ((j : Nat) : Int))] ∧ z = 2 - j ∧ Hs w L0 w' [psI Sq A rl, .blk k1 (.cells #[.int .i64 0, .int .i64 0] 26), .blk k3 (.cells #[.int .i64 kq1, .int .i64 u1, .int .i64 r1, .slice q1.A q1.na q1.ca, .slice q1.B q1.nb q1.cb, .int .i64 kq2, .int .i64 u2, .int .i64 r2, .slice q2.A q2.na q2.ca, .slice q2.B q2.nb q2.cb] 32), trI Sq q1 (Tr.mk kq1 u1 r1 o1 a1), trI Sq q2 (Tr.mk kq2 u2 r2 o2 a2)] ∧ (j ≤ 2) ∧ (1 ≤ j → O3 (Tr.mk kq1 u1 r1 o1 a1)) ∧ (2 ≤ j → O3 (Tr.mk kq2 u2 r2 o2 a2))) _ [(0, .slice A na0 ca0), (3, .pointer (some ⟨k1, 0, none⟩)), (4, .int .i64 ((i : Nat) : Int)), (29, .slice A na0 ca0), (30, .int .i64 ((na0 : Nat) : Int)), (31, .int .i64 ((i : Nat) : Int)), (40, .slice (some ⟨k3, 0, none⟩) 2 2), (41, .int .i64 2), (42, .int .i64 ((0 : Nat) : Int))] ⟨0, rfl, rfl, H12, (by omega), (fun h => by omega), (fun h => by omega)⟩ (fun b2 z2 l2 w7 hI2 K2 hK2 => ?_)
    obtain ⟨j, rfl, rfl, H13, hj2, hp1, hp2⟩ := hI2
    have hob_ : j = 0 ∨ j = 1 ∨ 2 ≤ j := by omega
    rcases hob_ with hj0 | hj0 | hj0
    · skip
      subst hj0
      refine Sx.v 2 (.bool (decide ((0 : Int) < (2 : Int)))) (.bool true) (dT (by omega)) ?_
      refine Sx.l 11 2 H13 ?_
      refine Sx.nw 0 H13 fun k4 w8 H14 => ?_
      refine Sx.s 0 5 H14 fun w9 H15 => ?_
      refine Sx.l 4 5 H15 ?_
      refine Sx.c 0 [3] H15 (fun Hp1 R1 hR1 => (proper_p 301) Sq kq1 u1 r1 o1 a1 q1 300 w9 R1 Hp1 (by omega) (by omega) (fun z3 b3 w10 G1 hS1 => hR1 _ _ _ G1 fun H16 => ?_))
      refine Sx.br 13 (!b3) (fun h_c52 => ?_) (fun h_c52 => ?_)
      · skip
        have hb0 : b3 = false := by cases b3 with
          | false => rfl
          | true => cases h_c52
        refine Sx.s 5 2 H16 fun w11 H17 => ?_
        refine Sx.rt 12 [2] H17 (.tuple #[.slice none 0 0, .agg #[.int .i64 11, .int .i64 ((i : Nat) : Int)]]) ?_
        have H18 := H17.add (Gx.Ext.refl _) (it := .own 32 5 none 0 0 []) (World.ownsRow_nil _ _ _ _) (fun _ h => by cases h)
        have H19 := H18.add (Gx.Ext.refl _) (it := Slv.tysI (fun _ => False) []) Slv.tysI_nil (fun _ h => h.elim)
        subst hL0
        exact hK none 0 0 [] (fun _ => False) 11 ((i : Nat) : Int) _ (H19.pick (a := [psI Sq A rl, .own 32 5 none 0 0 (kC []), Slv.tysI (fun _ => False) ([])]) [1, 5, 5] (by kernel_rfl)) ⟨rfl, by decide⟩ (out_eq (a := 11) (b := i) (hR.bad (by omega) i _ hall hri (not_pok1 (hS1.n hb0))))
      have hb1 : b3 = true := by cases b3 with
        | true => rfl
        | false => cases h_c52
      have H20 := H16.pick (a := [psI Sq A rl, .blk k1 (.cells #[.int .i64 0, .int .i64 0] 26), .blk k3 (.cells #[.int .i64 kq1, .int .i64 u1, .int .i64 r1, .slice q1.A q1.na q1.ca, .slice q1.B q1.nb q1.cb, .int .i64 kq2, .int .i64 u2, .int .i64 r2, .slice q2.A q2.na q2.ca, .slice q2.B q2.nb q2.cb] 32), trI Sq q1 (Tr.mk kq1 u1 r1 o1 a1), trI Sq q2 (Tr.mk kq2 u2 r2 o2 a2)]) [1, 1, 1, 0, 0] (by kernel_rfl)
      exact Sx.to 7 [(0, .slice A na0 ca0), (3, .pointer (some ⟨k1, 0, none⟩)), (4, .int .i64 ((i : Nat) : Int)), (29, .slice A na0 ca0), (30, .int .i64 ((na0 : Nat) : Int)), (31, .int .i64 ((i : Nat) : Int)), (40, .slice (some ⟨k3, 0, none⟩) 2 2), (41, .int .i64 2), (42, .int .i64 (((0 + 1) : Nat) : Int))] (hK2 _ _ _ _ (by omega) ⟨(0 + 1), rfl, rfl, H20, (by omega), (fun _ => said_o3 (hb1 ▸ hS1)), (fun h => by omega)⟩)
    · skip
      subst hj0
      refine Sx.v 2 (.bool (decide ((1 : Int) < (2 : Int)))) (.bool true) (dT (by omega)) ?_
      refine Sx.l 11 2 H13 ?_
      refine Sx.nw 0 H13 fun k5 w12 H21 => ?_
      refine Sx.s 0 5 H21 fun w13 H22 => ?_
      refine Sx.l 4 5 H22 ?_
      refine Sx.c 0 [4] H22 (fun Hp2 R2 hR2 => (proper_p 301) Sq kq2 u2 r2 o2 a2 q2 300 w13 R2 Hp2 (by omega) (by omega) (fun z4 b4 w14 G2 hS2 => hR2 _ _ _ G2 fun H23 => ?_))
      refine Sx.br 13 (!b4) (fun h_c52 => ?_) (fun h_c52 => ?_)
      · skip
        have hb0 : b4 = false := by cases b4 with
          | false => rfl
          | true => cases h_c52
        refine Sx.s 5 2 H23 fun w15 H24 => ?_
        refine Sx.rt 12 [2] H24 (.tuple #[.slice none 0 0, .agg #[.int .i64 11, .int .i64 ((i : Nat) : Int)]]) ?_
        have H25 := H24.add (Gx.Ext.refl _) (it := .own 32 5 none 0 0 []) (World.ownsRow_nil _ _ _ _) (fun _ h => by cases h)
        have H26 := H25.add (Gx.Ext.refl _) (it := Slv.tysI (fun _ => False) []) Slv.tysI_nil (fun _ h => h.elim)
        subst hL0
        exact hK none 0 0 [] (fun _ => False) 11 ((i : Nat) : Int) _ (H26.pick (a := [psI Sq A rl, .own 32 5 none 0 0 (kC []), Slv.tysI (fun _ => False) ([])]) [1, 5, 5] (by kernel_rfl)) ⟨rfl, by decide⟩ (out_eq (a := 11) (b := i) (hR.bad (by omega) i _ hall hri (not_pok2 (hS2.n hb0))))
      have hb1 : b4 = true := by cases b4 with
        | true => rfl
        | false => cases h_c52
      have H27 := H23.pick (a := [psI Sq A rl, .blk k1 (.cells #[.int .i64 0, .int .i64 0] 26), .blk k3 (.cells #[.int .i64 kq1, .int .i64 u1, .int .i64 r1, .slice q1.A q1.na q1.ca, .slice q1.B q1.nb q1.cb, .int .i64 kq2, .int .i64 u2, .int .i64 r2, .slice q2.A q2.na q2.ca, .slice q2.B q2.nb q2.cb] 32), trI Sq q1 (Tr.mk kq1 u1 r1 o1 a1), trI Sq q2 (Tr.mk kq2 u2 r2 o2 a2)]) [1, 1, 1, 1, 0] (by kernel_rfl)
      exact Sx.to 7 [(0, .slice A na0 ca0), (3, .pointer (some ⟨k1, 0, none⟩)), (4, .int .i64 ((i : Nat) : Int)), (29, .slice A na0 ca0), (30, .int .i64 ((na0 : Nat) : Int)), (31, .int .i64 ((i : Nat) : Int)), (40, .slice (some ⟨k3, 0, none⟩) 2 2), (41, .int .i64 2), (42, .int .i64 (((1 + 1) : Nat) : Int))] (hK2 _ _ _ _ (by omega) ⟨(1 + 1), rfl, rfl, H27, (by omega), (fun _ => hp1 (by omega)), (fun _ => said_o3 (hb1 ▸ hS2))⟩)
    refine Sx.v 2 (.bool (decide (((j : Nat) : Int) < (2 : Int)))) (.bool false) (dF (by omega)) ?_
    refine Sx.v 11 (.int .i64 (IntKind.i64.wrap (((i : Nat) : Int) + (1 : Int)))) (.int .i64 ((i + 1 : Nat) : Int)) (congrArg (Value.int .i64) (Gx.i64n (by omega) (by omega))) ?_
    have H28 := H13.pick (a := [psI Sq A rl, .blk k1 (.cells #[.int .i64 0, .int .i64 0] 26)]) [0, 0] (by kernel_rfl)
    exact Sx.to 2 [(0, .slice A na0 ca0), (3, .pointer (some ⟨k1, 0, none⟩)), (29, .slice A na0 ca0), (30, .int .i64 ((na0 : Nat) : Int)), (31, .int .i64 (((i + 1) : Nat) : Int))] (hK1 _ _ _ _ (by omega) ⟨(i + 1), rfl, rfl, H28, (all_more hall hri ⟨hp1 (by omega), hp2 (by omega)⟩), (by omega)⟩)
  refine Sx.v 2 (.bool (decide (((i : Nat) : Int) < ((na0 : Nat) : Int)))) (.bool false) (dF (by omega)) ?_
  refine Sx.nw 11 H6 fun k6 w16 H29 => ?_
  have H30 := mapI_new (.int .i64) encN (bt := k6) (i := 2) H29 (by kernel_rfl)
  refine Sx.nw 0 H30 fun k7 w17 H31 => ?_
  have H32 := mapI_new (.int .i64) encN (bt := k7) (i := 3) H31 (by kernel_rfl)
  refine Sx.nw 1 H32 fun k8 w18 H33 => ?_
  have hob_ := hR.ok (by omega) (fun j q hq => hall j q (by have := (List.getElem?_eq_some_iff.1 hq).1; omega) hq)
  obtain ⟨ls, k, hcv, hsol⟩ := hob_
  have hob_ := solveP_fin hsol
  obtain ⟨X, hlp, hfin⟩ := hob_
  have hll := hcv.1
  have H34 := Hs.py (S := Sq) (A := A) (rl := rl) (ls := ls) H33 0 (by kernel_rfl) hcv
  have H35 := H34.add (Gx.Ext.refl _) (it := bankI 78 [] (ndC [] [0] G.new pm0) []) bank_nil (fun _ h => by rcases h with ⟨i, h, hn⟩; cases i <;> simp at h hn) 
  have H36 := H35.add (Gx.Ext.refl _) (it := kidsI (fun _ => False) [] []) kids_nil (fun _ h => h.elim)
  have H37 := H36.add (Gx.Ext.refl _) (it := bankI 80 [0] (rwC [0] G.new pm0) [0]) bank_none (fun _ h => by rcases h with ⟨i, h, hn⟩; cases i <;> simp at h hn) 
  have H38 := H37.add (Gx.Ext.refl _) (it := rowsI (fun _ => False) [(none, 0, 0)] [[]]) rows_one (fun _ h => h.elim)
  have hob_ := P_close H38 [6, 6, 6, 6] (Z := []) (T := []) (R := [0]) (g := G.new) pm0 PR.new rfl (by kernel_rfl)
  obtain ⟨S1, H39⟩ := hob_
  have H40 := H39.add (Gx.Ext.refl _) (it := .own 52 1 none 0 0 []) (World.ownsRow_nil _ _ _ _) (fun _ h => by cases h)
  have H41 := H40.pick (a := [PI S1 ([]) ([]) ([0]) G.new, .blk k8 (.cells #[.map (some k6), .map (some k7)] 50), mpI k6 ([]) ([]), mpI k7 ([0]) ([]), psI Sq A rl, pyI Sq A ls, .blk k1 (.cells #[.int .i64 0, .int .i64 0] 26), .own 52 1 none 0 0 (bps [])]) [0, 4, 2, 2, 0, 1, 0, 0] (by kernel_rfl)
  refine Sx.lp 17 (fun z l' w' => ∃ (i : Nat) (gi : G) (Ti : List Nat) (Ri : List Nat) (Zi : List Slot) (Si : Nat → Prop) (l : List Nat) (bs : List Nat) (Ak : Option Addr) (ck : Nat) (nk : Nat), l' = [(3, .pointer (some ⟨k1, 0, none⟩)), (10, .pointer (some ⟨k8, 0, none⟩)), (11, .slice Ak nk ck), (61, .slice A na0 ca0), (62, .int .i64 ((na0 : Nat) : Int)), (63, .int .i64 ((i : Nat) : Int))] ∧ z = ls.length - i ∧ Hs w L0 w' [PI Si Zi Ti Ri gi, .blk k8 (.cells #[.map (some k6), .map (some k7)] 50), mpI k6 Ti gi.tv, mpI k7 Ri gi.rv, psI Sq A rl, pyI Sq A ls, .blk k1 (.cells #[.int .i64 0, .int .i64 0] 26), .own 52 1 Ak ck nk (bps bs)] ∧ (loopP k (ls.drop i) i gi l = some X) ∧ (BL Ti l bs) ∧ (nk = l.length) ∧ (TvOk Ti.length gi.tv) ∧ (RvOk Ri.length gi.rv) ∧ (i = l.length) ∧ (i ≤ ls.length)) _ [(3, .pointer (some ⟨k1, 0, none⟩)), (10, .pointer (some ⟨k8, 0, none⟩)), (11, .slice none 0 0), (61, .slice A na0 ca0), (62, .int .i64 ((na0 : Nat) : Int)), (63, .int .i64 ((0 : Nat) : Int))] ⟨0, G.new, [], [0], [], S1, [], [], none, 0, 0, rfl, rfl, H41, hlp, (BL.nil []), rfl, (fun p h => by cases h), ⟨(fun p h => by cases h), (fun p h => by cases h)⟩, rfl, (Nat.zero_le _)⟩ (fun b5 z5 l3 w19 hI3 K3 hK3 => ?_)
  obtain ⟨i, gi, Ti, Ri, Zi, Si, l, bs, Ak, ck, nk, rfl, rfl, H42, hx, hBL, hnk, htvi, hrvi, hili, hile⟩ := hI3
  have hob_ := Nat.lt_or_ge i ls.length
  rcases hob_ with hx1 | hx1
  · skip
    have hob_ := loopP_step hx hx1
    obtain ⟨⟨kd1, u1, r1, o1, a1⟩, ⟨kd2, u2, r2, o2, a2⟩, g1, a, g2, b, g3, ok, fo, fb, hli, hof1, hof2, hsm, hct, hres⟩ := hob_
    have hob_ := hcv.fine _ (List.mem_of_getElem? hli)
    obtain ⟨c1, c2, hf1, hf2, _, _⟩ := hob_
    have hob_ := py_at (S := Sq) (A := A) (ls := ls) H42 5 (by kernel_rfl) i _ hli
    obtain ⟨q1, q2, aq, haq, _, hc10, _, _, hq1, hq2⟩ := hob_
    have H43 := Hs.ty1 (S := Sq) (A := A) (ls := ls) (p := q1) (t := Ty.mk kd1 u1 r1 o1 a1) H42 5 (by kernel_rfl) hq1
    have H44 := Hs.ty1 (S := Sq) (A := A) (ls := ls) (p := q2) (t := Ty.mk kd2 u2 r2 o2 a2) H43 5 (by kernel_rfl) hq2
    refine Sx.v 2 (.bool (decide (((i : Nat) : Int) < ((na0 : Nat) : Int)))) (.bool true) (dT (by omega)) ?_
    refine Sx.ia 11 aq i 10 na0 ca0 haq (by omega) ?_
    refine Sx.lo (c := 10) (t := 36) 0 [.int .i64 ((kd1 : Nat) : Int), .int .i64 ((u1 : Nat) : Int), .int .i64 ((r1 : Nat) : Int), .slice q1.A q1.na q1.ca, .slice q1.B q1.nb q1.cb, .int .i64 ((kd2 : Nat) : Int), .int .i64 ((u2 : Nat) : Int), .int .i64 ((r2 : Nat) : Int), .slice q2.A q2.na q2.ca, .slice q2.B q2.nb q2.cb] (.agg #[.int .i64 ((kd1 : Nat) : Int), .int .i64 ((u1 : Nat) : Int), .int .i64 ((r1 : Nat) : Int), .slice q1.A q1.na q1.ca, .slice q1.B q1.nb q1.cb, .int .i64 ((kd2 : Nat) : Int), .int .i64 ((u2 : Nat) : Int), .int .i64 ((r2 : Nat) : Int), .slice q2.A q2.na q2.ca, .slice q2.B q2.nb q2.cb]) hc10 ?_
    refine Sx.nw 0 H44 fun k9 w20 H45 => ?_
    refine Sx.s 1 10 H45 fun w21 H46 => ?_
    refine Sx.l 6 10 H46 ?_
    refine Sx.c 0 [0, 0, 0, 0, 4] H46 (fun Hp3 R3 hR3 => (of_p _) Si Zi Ti Ri gi k8 k6 k7 Sq kd1 u1 r1 o1 a1 q1 w21 R3 Hp3 c1 g1 a hf1 htvi hrvi hof1 (fun S2 Zn1 Tn1 Rn1 bm1 w22 G3 ho1 ho2 ho3 ho4 ho5 => hR3 _ _ _ G3 fun H47 => ?_))
    refine Sx.nw 7 H47 fun k10 w23 H48 => ?_
    refine Sx.ap 0 8 11 8 1 0 52 1 51 1 k10 Ak ck nk (bps bs) [.pointer (some ⟨bm1, 0, none⟩)] H48 (by omega) (by omega) (bps_app bs bm1) fun A1 cap1 w24 H49 => ?_
    refine Sx.l 8 10 H49 ?_
    refine Sx.c 0 [0, 0, 0, 0, 5] H49 (fun Hp4 R4 hR4 => (of_p _) S2 Zn1 Tn1 Rn1 g1 k8 k6 k7 Sq kd2 u2 r2 o2 a2 q2 w24 R4 Hp4 c2 g2 b hf2 ho4 ho5 hof2 (fun S3 Zn2 Tn2 Rn2 bm2 w25 G4 ho6 ho7 ho8 ho9 ho10 => hR4 _ _ _ G4 fun H50 => ?_))
    refine Sx.c 0 [0] H50 (fun Hp5 R5 hR5 => (Same_p _) S3 Zn2 Tn2 Rn2 g2 a b bm1 bm2 w25 R5 Hp5 g3 ok (ho6 _ _ ho3) ho8 hsm (fun S4 Rr1 w26 G5 hpre1 => hR5 _ _ _ G5 fun H51 => ?_))
    have hkt := sameX_kt hsm
    have H52 := H51.pick (a := [PI S4 Zn2 Tn2 Rr1 g3, .blk k8 (.cells #[.map (some k6), .map (some k7)] 50), mpI k6 Tn2 g3.tv, mpI k7 Rn2 g2.rv, tyI Sq q2 (Ty.mk kd2 u2 r2 o2 a2), tyI Sq q1 (Ty.mk kd1 u1 r1 o1 a1), psI Sq A rl, pyI Sq A ls, .blk k1 (.cells #[.int .i64 0, .int .i64 0] 26), .own 52 1 A1 cap1 (nk + 1) (bps (bs ++ [bm1])), .blk k9 (.cells #[.int .i64 ((kd1 : Nat) : Int), .int .i64 ((u1 : Nat) : Int), .int .i64 ((r1 : Nat) : Int), .slice q1.A q1.na q1.ca, .slice q1.B q1.nb q1.cb, .int .i64 ((kd2 : Nat) : Int), .int .i64 ((u2 : Nat) : Int), .int .i64 ((r2 : Nat) : Int), .slice q2.A q2.na q2.ca, .slice q2.B q2.nb q2.cb] 36), .blk k10 (.cells #[.pointer (some ⟨bm1, 0, none⟩)] 52)]) [0, 0, 0, 0, 0, 0, 0, 0, 0, 0, 0, 0] (by rw [mp_tv hkt]; kernel_rfl)
    have H53 := H52.pick (a := [PI S4 Zn2 Tn2 Rr1 g3, .blk k8 (.cells #[.map (some k6), .map (some k7)] 50), mpI k6 Tn2 g3.tv, mpI k7 Rr1 g3.rv, tyI Sq q2 (Ty.mk kd2 u2 r2 o2 a2), tyI Sq q1 (Ty.mk kd1 u1 r1 o1 a1), psI Sq A rl, pyI Sq A ls, .blk k1 (.cells #[.int .i64 0, .int .i64 0] 26), .own 52 1 A1 cap1 (nk + 1) (bps (bs ++ [bm1])), .blk k9 (.cells #[.int .i64 ((kd1 : Nat) : Int), .int .i64 ((u1 : Nat) : Int), .int .i64 ((r1 : Nat) : Int), .slice q1.A q1.na q1.ca, .slice q1.B q1.nb q1.cb, .int .i64 ((kd2 : Nat) : Int), .int .i64 ((u2 : Nat) : Int), .int .i64 ((r2 : Nat) : Int), .slice q2.A q2.na q2.ca, .slice q2.B q2.nb q2.cb] 36), .blk k10 (.cells #[.pointer (some ⟨bm1, 0, none⟩)] 52)]) [0, 0, 0, 0, 0, 0, 0, 0, 0, 0, 0, 0] (by rw [mp_rv (g' := g3) hkt ho10 hpre1]; kernel_rfl)
    have hBL2 : BL Tn2 (l ++ [a]) (bs ++ [bm1]) := ((hBL.ext ho1).snoc ho3).ext ho6
    have hnk2 : nk + 1 = (l ++ [a]).length := by rw [List.length_append, hnk]; rfl
    have hbl2 := hBL2.len
    have hrow := Hs.row H53 9 (e := 52) (sz := 1) (cap := cap1) (n := (nk + 1)) (A := A1) (xs := (bps (bs ++ [bm1]))) (by kernel_rfl) (by omega)
    obtain ⟨gk, hgk⟩ := hrow
    subst hgk
    have H54 := H53.pick (a := [PI S4 Zn2 Tn2 Rr1 g3, .blk k8 (.cells #[.map (some k6), .map (some k7)] 50), mpI k6 Tn2 g3.tv, mpI k7 Rr1 g3.rv, psI Sq A rl, pyI Sq A ls, .blk k1 (.cells #[.int .i64 0, .int .i64 0] 26), .own 52 1 (some ⟨gk, 0, none⟩) cap1 (nk + 1) (bps (bs ++ [bm1]))]) [0, 0, 0, 0, 2, 2, 2, 2] (by kernel_rfl)
    refine Sx.lp 17 (fun z l' w' => ∃ (j : Nat) (okj : Bool) (bgj : Bool) (Sj : Nat → Prop), l' = [(3, .pointer (some ⟨k1, 0, none⟩)), (10, .pointer (some ⟨k8, 0, none⟩)), (11, .slice (some ⟨gk, 0, none⟩) (nk + 1) cap1), (12, .int .i64 ((i : Nat) : Int)), (15, .bool okj), (16, .bool bgj), (61, .slice A na0 ca0), (62, .int .i64 ((na0 : Nat) : Int)), (63, .int .i64 ((i : Nat) : Int)), (82, .slice (some ⟨gk, 0, none⟩) (nk + 1) cap1), (83, .int .i64 ((nk + 1 : Nat) : Int)), (84, .int .i64 ((j : Nat) : Int))] ∧ z = (l ++ [a]).length - j ∧ Hs w L0 w' [PI Sj Zn2 Tn2 Rr1 g3, .blk k8 (.cells #[.map (some k6), .map (some k7)] 50), mpI k6 Tn2 g3.tv, mpI k7 Rr1 g3.rv, psI Sq A rl, pyI Sq A ls, .blk k1 (.cells #[.int .i64 0, .int .i64 0] 26), .own 52 1 (some ⟨gk, 0, none⟩) cap1 (nk + 1) (bps (bs ++ [bm1]))] ∧ (cntsX k g3 ((l ++ [a]).drop j) okj bgj = some (fo, fb)) ∧ (j ≤ (l ++ [a]).length)) _ [(3, .pointer (some ⟨k1, 0, none⟩)), (10, .pointer (some ⟨k8, 0, none⟩)), (11, .slice (some ⟨gk, 0, none⟩) (nk + 1) cap1), (12, .int .i64 ((i : Nat) : Int)), (15, .bool ok), (16, .bool false), (61, .slice A na0 ca0), (62, .int .i64 ((na0 : Nat) : Int)), (63, .int .i64 ((i : Nat) : Int)), (82, .slice (some ⟨gk, 0, none⟩) (nk + 1) cap1), (83, .int .i64 ((nk + 1 : Nat) : Int)), (84, .int .i64 ((0 : Nat) : Int))] ⟨0, ok, false, S4, rfl, rfl, H54, hct, (Nat.zero_le _)⟩ (fun b6 z6 l4 w27 hI4 K4 hK4 => ?_)
    obtain ⟨j, okj, bgj, Sj, rfl, rfl, H55, hcx, hjl⟩ := hI4
    have hob_ := loop_cs j (l ++ [a]).length okj bgj
    rcases hob_ with ⟨hj, rfl⟩ | ⟨hj, rfl⟩ | ⟨hj, rfl⟩ | ⟨hj, rfl, rfl⟩ | ⟨hj, rfl, rfl⟩
    · skip
      have hob_ := cnts_step hcx hj
      obtain ⟨n, c, s, fl, hn, hcn, hnx⟩ := hob_
      have hob_ := hBL2.at hn
      obtain ⟨bx, hbx, hbx2⟩ := hob_
      refine Sx.v 2 (.bool (decide (((j : Nat) : Int) < ((nk + 1 : Nat) : Int)))) (.bool true) (dT (by omega)) ?_
      refine Sx.ir 10 gk j 1 (nk + 1) cap1 (by omega) ?_
      refine Sx.lr 0 7 52 1 52 gk cap1 (nk + 1) (j * 1) (bps (bs ++ [bm1])) H55 (.pointer (some ⟨bx, 0, none⟩)) (bps_at hbx) ?_
      refine Sx.c 16 [0] H55 (fun Hp6 R6 hR6 => Parts_p Sj Zn2 Tn2 Rr1 g3 k n bx w27 R6 Hp6 c s fl hbx2 hcn (fun S5 w28 G6 => hR6 _ _ _ G6 fun H56 => ?_))
      refine Sx.sp 17 98 bgj (fun h_g98 => ?_) (fun h_g98 => ?_)
      · skip
        have p_g98 := h_g98; try simp [-List.getD_eq_getElem?_getD] at p_g98
        refine Sx.v 8 (.int .i64 (IntKind.i64.wrap (((j : Nat) : Int) + (1 : Int)))) (.int .i64 ((j + 1 : Nat) : Int)) (congrArg (Value.int .i64) (Gx.i64n (by omega) (by omega))) ?_
        have H57 := H56.pick (a := [PI S5 Zn2 Tn2 Rr1 g3, .blk k8 (.cells #[.map (some k6), .map (some k7)] 50), mpI k6 Tn2 g3.tv, mpI k7 Rr1 g3.rv, psI Sq A rl, pyI Sq A ls, .blk k1 (.cells #[.int .i64 0, .int .i64 0] 26), .own 52 1 (some ⟨gk, 0, none⟩) cap1 (nk + 1) (bps (bs ++ [bm1]))]) [0, 0, 0, 0, 0, 0, 0, 0] (by kernel_rfl)
        exact Sx.to 2 [(3, .pointer (some ⟨k1, 0, none⟩)), (10, .pointer (some ⟨k8, 0, none⟩)), (11, .slice (some ⟨gk, 0, none⟩) (nk + 1) cap1), (12, .int .i64 ((i : Nat) : Int)), (15, .bool (!fl)), (16, .bool true), (61, .slice A na0 ca0), (62, .int .i64 ((na0 : Nat) : Int)), (63, .int .i64 ((i : Nat) : Int)), (82, .slice (some ⟨gk, 0, none⟩) (nk + 1) cap1), (83, .int .i64 ((nk + 1 : Nat) : Int)), (84, .int .i64 (((j + 1) : Nat) : Int))] (hK4 _ _ _ _ (by omega) ⟨(j + 1), (!fl), true, S5, rfl, rfl, H57, (by rw [h_g98, Bool.true_or] at hnx; exact hnx), (by omega)⟩)
      have p_g98 := h_g98; try simp [-List.getD_eq_getElem?_getD] at p_g98
      refine Sx.v 8 (.int .i64 (IntKind.i64.wrap (((j : Nat) : Int) + (1 : Int)))) (.int .i64 ((j + 1 : Nat) : Int)) (congrArg (Value.int .i64) (Gx.i64n (by omega) (by omega))) ?_
      have H58 := H56.pick (a := [PI S5 Zn2 Tn2 Rr1 g3, .blk k8 (.cells #[.map (some k6), .map (some k7)] 50), mpI k6 Tn2 g3.tv, mpI k7 Rr1 g3.rv, psI Sq A rl, pyI Sq A ls, .blk k1 (.cells #[.int .i64 0, .int .i64 0] 26), .own 52 1 (some ⟨gk, 0, none⟩) cap1 (nk + 1) (bps (bs ++ [bm1]))]) [0, 0, 0, 0, 0, 0, 0, 0] (by kernel_rfl)
      exact Sx.to 2 [(3, .pointer (some ⟨k1, 0, none⟩)), (10, .pointer (some ⟨k8, 0, none⟩)), (11, .slice (some ⟨gk, 0, none⟩) (nk + 1) cap1), (12, .int .i64 ((i : Nat) : Int)), (15, .bool (!fl)), (16, .bool (decide (((c : Nat) : Int) > (300 : Int)))), (61, .slice A na0 ca0), (62, .int .i64 ((na0 : Nat) : Int)), (63, .int .i64 ((i : Nat) : Int)), (82, .slice (some ⟨gk, 0, none⟩) (nk + 1) cap1), (83, .int .i64 ((nk + 1 : Nat) : Int)), (84, .int .i64 (((j + 1) : Nat) : Int))] (hK4 _ _ _ _ (by omega) ⟨(j + 1), (!fl), (decide (((c : Nat) : Int) > (300 : Int))), S5, rfl, rfl, H58, (by rw [h_g98, Bool.false_or] at hnx; rw [dec300]; exact hnx), (by omega)⟩)
    · skip
      have hob_ : ∃ n, (l ++ [a])[j]? = some n := ⟨_, List.getElem?_eq_getElem hj⟩
      obtain ⟨n, hn⟩ := hob_
      have hob_ := hBL2.at hn
      obtain ⟨bx, hbx, hbx2⟩ := hob_
      have hfo := cnts_off hcx
      refine Sx.v 2 (.bool (decide (((j : Nat) : Int) < ((nk + 1 : Nat) : Int)))) (.bool true) (dT (by omega)) ?_
      refine Sx.ir 10 gk j 1 (nk + 1) cap1 (by omega) ?_
      refine Sx.lr 0 7 52 1 52 gk cap1 (nk + 1) (j * 1) (bps (bs ++ [bm1])) H55 (.pointer (some ⟨bx, 0, none⟩)) (bps_at hbx) ?_
      refine Sx.s 32 6 H55 fun w29 H59 => ?_
      refine Sx.rt 9 [6] H59 (.tuple #[.slice none 0 0, .agg #[.int .i64 8, .int .i64 ((i : Nat) : Int)]]) ?_
      have H60 := H59.add (Gx.Ext.refl _) (it := .own 32 5 none 0 0 []) (World.ownsRow_nil _ _ _ _) (fun _ h => by cases h)
      have H61 := H60.add (Gx.Ext.refl _) (it := Slv.tysI (fun _ => False) []) Slv.tysI_nil (fun _ h => h.elim)
      subst hL0
      exact hK none 0 0 [] (fun _ => False) 8 ((i : Nat) : Int) _ (H61.pick (a := [psI Sq A rl, .own 32 5 none 0 0 (kC []), Slv.tysI (fun _ => False) ([])]) [4, 7, 7] (by kernel_rfl)) ⟨rfl, by decide⟩ (out_inl (a := 8) (b := i) hfin (res_no hres hfo.symm))
    · skip
      have hce := cnts_end hcx hj
      refine Sx.v 2 (.bool (decide (((j : Nat) : Int) < ((nk + 1 : Nat) : Int)))) (.bool false) (dF (by omega)) ?_
      refine Sx.s 23 6 H55 fun w30 H62 => ?_
      refine Sx.rt 9 [6] H62 (.tuple #[.slice none 0 0, .agg #[.int .i64 8, .int .i64 ((i : Nat) : Int)]]) ?_
      have H63 := H62.add (Gx.Ext.refl _) (it := .own 32 5 none 0 0 []) (World.ownsRow_nil _ _ _ _) (fun _ h => by cases h)
      have H64 := H63.add (Gx.Ext.refl _) (it := Slv.tysI (fun _ => False) []) Slv.tysI_nil (fun _ h => h.elim)
      subst hL0
      exact hK none 0 0 [] (fun _ => False) 8 ((i : Nat) : Int) _ (H64.pick (a := [psI Sq A rl, .own 32 5 none 0 0 (kC []), Slv.tysI (fun _ => False) ([])]) [4, 7, 7] (by kernel_rfl)) ⟨rfl, by decide⟩ (out_inl (a := 8) (b := i) hfin (res_no hres hce.1))
    · skip
      have hce := cnts_end hcx hj
      refine Sx.v 2 (.bool (decide (((j : Nat) : Int) < ((nk + 1 : Nat) : Int)))) (.bool false) (dF (by omega)) ?_
      refine Sx.s 30 6 H55 fun w31 H65 => ?_
      refine Sx.rt 9 [6] H65 (.tuple #[.slice none 0 0, .agg #[.int .i64 10, .int .i64 ((i : Nat) : Int)]]) ?_
      have H66 := H65.add (Gx.Ext.refl _) (it := .own 32 5 none 0 0 []) (World.ownsRow_nil _ _ _ _) (fun _ h => by cases h)
      have H67 := H66.add (Gx.Ext.refl _) (it := Slv.tysI (fun _ => False) []) Slv.tysI_nil (fun _ h => h.elim)
      subst hL0
      exact hK none 0 0 [] (fun _ => False) 10 ((i : Nat) : Int) _ (H67.pick (a := [psI Sq A rl, .own 32 5 none 0 0 (kC []), Slv.tysI (fun _ => False) ([])]) [4, 7, 7] (by kernel_rfl)) ⟨rfl, by decide⟩ (out_inl (a := 10) (b := i) hfin (res_big hres hce.1 hce.2))
    have hce := cnts_end hcx hj
    refine Sx.v 2 (.bool (decide (((j : Nat) : Int) < ((nk + 1 : Nat) : Int)))) (.bool false) (dF (by omega)) ?_
    refine Sx.v 30 (.int .i64 (IntKind.i64.wrap (((i : Nat) : Int) + (1 : Int)))) (.int .i64 ((i + 1 : Nat) : Int)) (congrArg (Value.int .i64) (Gx.i64n (by omega) (by omega))) ?_
    have H68 := H55.pick (a := [PI Sj Zn2 Tn2 Rr1 g3, .blk k8 (.cells #[.map (some k6), .map (some k7)] 50), mpI k6 Tn2 g3.tv, mpI k7 Rr1 g3.rv, psI Sq A rl, pyI Sq A ls, .blk k1 (.cells #[.int .i64 0, .int .i64 0] 26), .own 52 1 (some ⟨gk, 0, none⟩) cap1 (nk + 1) (bps (bs ++ [bm1]))]) [0, 0, 0, 0, 0, 0, 0, 0] (by kernel_rfl)
    exact Sx.to 2 [(3, .pointer (some ⟨k1, 0, none⟩)), (10, .pointer (some ⟨k8, 0, none⟩)), (11, .slice (some ⟨gk, 0, none⟩) (nk + 1) cap1), (61, .slice A na0 ca0), (62, .int .i64 ((na0 : Nat) : Int)), (63, .int .i64 (((i + 1) : Nat) : Int))] (hK3 _ _ _ _ (by omega) ⟨(i + 1), g3, Tn2, Rr1, Zn2, Sj, (l ++ [a]), (bs ++ [bm1]), (some ⟨gk, 0, none⟩), cap1, nk + 1, rfl, rfl, H68, (res_go hres hce.1 hce.2), hBL2, hnk2, (hkt.tvok ho9), (hkt.rvok ho10 hpre1.len), (by rw [List.length_append, hili]; rfl), (by omega)⟩)
  have hob_ := loopP_end hx hx1
  obtain rfl := hob_
  obtain ⟨ts, hts, hRo⟩ := hfin
  subst hRo
  refine Sx.v 2 (.bool (decide (((i : Nat) : Int) < ((na0 : Nat) : Int)))) (.bool false) (dF (by omega)) ?_
  refine Sx.c 11 [] H42 (fun Hp7 R7 hR7 => NewNamer_p  w19 R7 Hp7  (fun nb1 nt1 nr1 w32 G7 => hR7 _ _ _ G7 fun H69 => ?_))
  have H70 := H69.add (Gx.Ext.refl _) (it := .own 32 5 none 0 0 []) (World.ownsRow_nil _ _ _ _) (fun _ h => by cases h)
  have H71 := H70.add (Gx.Ext.refl _) (it := Slv.tysI (fun _ => False) []) Slv.tysI_nil (fun _ h => h.elim)
  have H72 := H71.pick (a := [PI Si Zi Ti Ri gi, .blk nb1 (.cells #[.map (some nt1), .map (some nr1)] 89), pkI nt1 (kvB Ti ([])), pkI nr1 (kvB Ri ([])), psI Sq A rl, .blk k1 (.cells #[.int .i64 0, .int .i64 0] 26), .own 52 1 Ak ck nk (bps bs), .own 32 5 none 0 0 (kC []), Slv.tysI (fun _ => False) ([])]) [3, 0, 0, 0, 3, 4, 4, 4, 4] (by kernel_rfl)
  refine Sx.lp 17 (fun z l' w' => ∃ (j : Nat) (L : Nams) (kl : List Kd) (tj : List Ty) (Ao : Option Addr) (co : Nat) (no : Nat) (So : Nat → Prop) (Sj : Nat → Prop), l' = [(3, .pointer (some ⟨k1, 0, none⟩)), (21, .pointer (some ⟨nb1, 0, none⟩)), (22, .slice Ao no co), (114, .slice Ak nk ck), (115, .int .i64 ((nk : Nat) : Int)), (116, .int .i64 ((j : Nat) : Int))] ∧ z = l.length - j ∧ Hs w L0 w' [PI Sj Zi Ti Ri gi, .blk nb1 (.cells #[.map (some nt1), .map (some nr1)] 89), pkI nt1 (kvB Ti L.t), pkI nr1 (kvB Ri L.r), psI Sq A rl, .blk k1 (.cells #[.int .i64 0, .int .i64 0] 26), .own 52 1 Ak ck nk (bps bs), .own 32 5 Ao co no (kC kl), Slv.tysI So kl] ∧ (toldsX k gi (l.drop j) L = some tj) ∧ (kl.map (·.2) ++ tj = ts) ∧ (no = kl.length) ∧ (kl.length = j) ∧ (NmOk Ti.length [] L.t) ∧ (NmOk Ri.length [0] L.r) ∧ (j ≤ l.length)) _ [(3, .pointer (some ⟨k1, 0, none⟩)), (21, .pointer (some ⟨nb1, 0, none⟩)), (22, .slice none 0 0), (114, .slice Ak nk ck), (115, .int .i64 ((nk : Nat) : Int)), (116, .int .i64 ((0 : Nat) : Int))] ⟨0, (⟨[], []⟩ : Nams), [], ts, none, 0, 0, (fun _ => False), Si, rfl, rfl, H72, hts, rfl, rfl, rfl, (nm0 _ _), (nm0 _ _), (Nat.zero_le _)⟩ (fun b7 z7 l5 w33 hI5 K5 hK5 => ?_)
  obtain ⟨j, L, kl, tj, Ao, co, no, So, Sj, rfl, rfl, H73, htd, htk, hno, hkj, hnt, hnr, hjl⟩ := hI5
  have hob_ := Nat.lt_or_ge j l.length
  rcases hob_ with hj | hj
  · skip
    have hob_ := tolds_step htd hj
    obtain ⟨n, ⟨k0, u0, r0, o0, a0⟩, m', tr, hn, htl, hnx, htt⟩ := hob_
    subst htt
    have hob_ := hBL.at hn
    obtain ⟨bx, hbx, hbx2⟩ := hob_
    have hrow := Hs.row H73 6 (e := 52) (sz := 1) (cap := ck) (n := nk) (A := Ak) (xs := (bps bs)) (by kernel_rfl) (by omega)
    obtain ⟨gk, hgk⟩ := hrow
    subst hgk
    refine Sx.v 2 (.bool (decide (((j : Nat) : Int) < ((nk : Nat) : Int)))) (.bool true) (dT (by omega)) ?_
    refine Sx.ir 10 gk j 1 nk ck (by omega) ?_
    refine Sx.lr 0 6 52 1 52 gk ck nk (j * 1) (bps bs) H73 (.pointer (some ⟨bx, 0, none⟩)) (bps_at hbx) ?_
    refine Sx.c 7 [0, 0, 0, 0] H73 (fun Hp8 R8 hR8 => (Told_p _) Sj Zi Ti Ri gi n bx nb1 nt1 nr1 L w33 R8 Hp8 (Ty.mk k0 u0 r0 o0 a0) m' hbx2 hnt hnr htl (fun S6 Sy1 tp1 w34 G8 hnt1 hnr1 => hR8 _ _ _ G8 fun H74 => ?_))
    refine Sx.nw 0 H74 fun k11 w35 H75 => ?_
    refine Sx.ap 0 8 10 72 1 0 32 5 23 1 k11 Ao co no (kC kl) [.int .i64 ((k0 : Nat) : Int), .int .i64 ((u0 : Nat) : Int), .int .i64 ((r0 : Nat) : Int), .slice tp1.A tp1.na tp1.ca, .slice tp1.B tp1.nb tp1.cb] H75 (by omega) (by omega) (kC_app kl tp1 (Ty.mk k0 u0 r0 o0 a0)) fun A2 cap2 w36 H76 => ?_
    refine Sx.v 5 (.int .i64 (IntKind.i64.wrap (((j : Nat) : Int) + (1 : Int)))) (.int .i64 ((j + 1 : Nat) : Int)) (congrArg (Value.int .i64) (Gx.i64n (by omega) (by omega))) ?_
    have hob_ := Slv.tys_add H76 [9, 4] (S := So) (S2 := Sy1) (l := kl) (p := tp1) (t := Ty.mk k0 u0 r0 o0 a0) (by kernel_rfl)
    obtain ⟨S7, H77⟩ := hob_
    have H78 := H77.pick (a := [PI S6 Zi Ti Ri gi, .blk nb1 (.cells #[.map (some nt1), .map (some nr1)] 89), pkI nt1 (kvB Ti m'.t), pkI nr1 (kvB Ri m'.r), psI Sq A rl, .blk k1 (.cells #[.int .i64 0, .int .i64 0] 26), .own 52 1 (some ⟨gk, 0, none⟩) ck nk (bps bs), .own 32 5 A2 cap2 (no + 1) (kC (kl ++ [(tp1, Ty.mk k0 u0 r0 o0 a0)])), Slv.tysI S7 (kl ++ [(tp1, Ty.mk k0 u0 r0 o0 a0)])]) [1, 1, 1, 1, 1, 1, 1, 1, 0] (by kernel_rfl)
    exact Sx.to 2 [(3, .pointer (some ⟨k1, 0, none⟩)), (21, .pointer (some ⟨nb1, 0, none⟩)), (22, .slice A2 (no + 1) cap2), (114, .slice (some ⟨gk, 0, none⟩) nk ck), (115, .int .i64 ((nk : Nat) : Int)), (116, .int .i64 (((j + 1) : Nat) : Int))] (hK5 _ _ _ _ (by omega) ⟨(j + 1), m', (kl ++ [(tp1, Ty.mk k0 u0 r0 o0 a0)]), tr, A2, cap2, no + 1, S7, S6, rfl, rfl, H78, hnx, (by rw [← htk]; simp), (by rw [List.length_append, hno]; rfl), (by rw [List.length_append, hkj]; rfl), hnt1, hnr1, (by omega)⟩)
  have hte := tolds_end htd hj
  subst hte
  refine Sx.v 2 (.bool (decide (((j : Nat) : Int) < ((nk : Nat) : Int)))) (.bool false) (dF (by omega)) ?_
  refine Sx.s 14 5 H73 fun w37 H79 => ?_
  refine Sx.rt 3 [5] H79 (.tuple #[.slice Ao no co, .agg #[.int .i64 0, .int .i64 0]]) ?_
  subst hL0
  exact hK Ao co no kl So 0 0 _ (H79.pick (a := [psI Sq A rl, .own 32 5 Ao co no (kC kl), Slv.tysI So kl]) [4, 6, 6] (by kernel_rfl)) ⟨hno, by omega⟩ ⟨by rw [← htk, List.append_nil], rfl, rfl⟩
end Go.Proofs.Ytfkkocjheeoobaa
set_option linter.unusedVariables false
set_option linter.unusedSimpArgs false
namespace Go.Sx
open Go.RowKit Go.Gx
section
variable [Rd] {P : Program} {B : Exit → Act → World → Prop} {b : Nat → Value} {n : Nat} {d : List Deferred} {w : World} {x : St}
end
end Go.Sx
set_option linter.unusedVariables false
set_option linter.unusedSimpArgs false
namespace Go.Sx
open Go.RowKit Go.Gx
section
variable [Rd] {P : Program} {B : Exit → Act → World → Prop} {b : Nat → Value} {n : Nat} {d : List Deferred} {w : World} {x : St}
def nqA (P : Program) (b : Nat → Value) (n : Nat) (x : St) : Option Ask :=
  match hd b n x with
  | some q => match q.2.2.op with
    | .binOp op t y z t' => match op with
      | .neq => some ⟨[ev b n x.l y, ev b n x.l z], [t], x, q⟩
      | _ => none
    | _ => none
  | none => none
/-- Two records side by side. -/
theorem nq (m : Nat) (xs ys : Array Value) (t : TypeId) (r : Bool) (g : Goal P B b n d (nx (vX (via P b n m w x (ask (nqA P b n)))).y (vX (via P b n m w x (ask (nqA P b n)))).q (.bool !r)) w)
    (hq0 : eqL P xs ys (P.fieldsOf t).toList = some r)
    (h : vA (via P b n m w x (ask (nqA P b n))) = vB w (via P b n m w x (ask (nqA P b n))) := by kernel_rfl)
    (h2 : ((vX (via P b n m w x (ask (nqA P b n)))).u, (vX (via P b n m w x (ask (nqA P b n)))).t) = ([.agg xs, .agg ys], [t]) := by kernel_rfl)
    (ht : P.underlying t = some (.struct (P.fieldsOf t)) := by kernel_rfl) (hp : P.stoodInHeld t = false := by kernel_rfl) (hqq : P.eqGuardType P.depth t = false := by kernel_rfl) : Goal P B b n d x w := by
  obtain ⟨y, hr, hf⟩ := ask_ok h
  refine run_sound hr ?_
  generalize vX (via P b n m w x (ask (nqA P b n))) = z at *
  unfold nqA at hf
  split at hf <;> try contradiction
  rename_i q hq
  split at hf <;> try contradiction
  rename_i op t1 y1 z1 t2 hop
  split at hf <;> try contradiction
  simp only [Option.some.injEq] at hf
  subst hf
  simp only [Prod.mk.injEq, List.cons.injEq, and_true] at h2
  obtain ⟨⟨h3, h4⟩, rfl⟩ := h2
  refine hd_val hq (v := .bool !r) ?_ g
  exact Gx.run_neq_struct hop xs ys r h3 h4 ht hp hqq hq0
end
end Go.Sx
namespace Go.Slv
open Go.RowKit Go.Sx Go.Inf Go.Gx
theorem kid_both {kl kl' : List Kd} (h : kl.map (·.2) = kl'.map (·.2)) {i : Nat} {x : Kd} (hx : kl[i]? = some x) : ∃ y, kl'[i]? = some y ∧ y.2 = x.2 := by
  have e := congrArg (·[i]?) h
  simp only [List.getElem?_map, hx] at e
  cases hy : kl'[i]? with
  | none => rw [hy] at e; simp at e
  | some y => rw [hy] at e; simp at e; exact ⟨y, rfl, e.symm⟩
theorem kC_at {P : Program} {i : Nat} {kl : List Kd} {p : Tv} {t : Ty} (h : kl[i]? = some (p, t)) (hs : structT P 32 5 = true := by kernel_rfl) : loadX P 32 (kC kl) (i * 5) (.agg (tvC t p).toArray) :=
  @rec_load Kd (fun k : Kd => tvC k.2 k.1) 5 P 32 kl i (p, t) (fun x => by obtain ⟨p, t⟩ := x; cases t; rfl) h hs
theorem out_same {R : Out} {kl kl' : List Kd} {a b a' b' : Int} (h : OutIs R kl a b) (k : OutIs R kl' a' b') : kl.map (·.2) = kl'.map (·.2) ∧ a = a' ∧ b = b' := by
  cases R with
  | inl f => obtain ⟨rfl, rfl, rfl⟩ := h; obtain ⟨rfl, rfl, rfl⟩ := k; exact ⟨rfl, rfl, rfl⟩
  | inr ts => obtain ⟨rfl, rfl, rfl⟩ := h; obtain ⟨h1, rfl, rfl⟩ := k; exact ⟨h1.symm, rfl, rfl⟩
end Go.Slv
set_option linter.unusedVariables false
set_option linter.unusedSimpArgs false
namespace Go.Proofs.Ytfkkocjheeoobaa
open Go.RowKit Go.Sx Go.Inf Go.Slv
attribute [local irreducible] Go.wpOps Go.Code.wp Go.wpOp Go.wpAnyH Go.Calls Go.Sx.Goal
set_option maxRecDepth 20000
theorem eqL26 (a b : Int) : Gx.eqL Try.prog #[.int .i64 a, .int .i64 b] #[.int .i64 a, .int .i64 b] (Try.prog.fieldsOf 26).toList = some true := by
  have h : Gx.eqL Try.prog #[.int .i64 a, .int .i64 b] #[.int .i64 a, .int .i64 b] (Try.prog.fieldsOf 26).toList = some ((a == a) && ((b == b) && true)) := by kernel_rfl
  rw [h]; simp
set_option maxHeartbeats 16000000 in
theorem Solves_c (Sq : Nat → Prop) (A : Option Addr) (na0 ca0 : Nat) (rl : List (Tr × Tr)) (w : World) (K : Ending → World → Prop) (H0 : Sp w [psI Sq A rl]) (hna : na0 = rl.length ∧ na0 ≤ ca0 ∧ na0 < 9223372036854775808) (hK : ∀ w', Hs w [psI Sq A rl] w' [psI Sq A rl] → K (.returned (.bool true)) w') :
    Calls Try.prog 3 #[.slice A na0 ca0] w K := by
  obtain ⟨L0, hL0, H⟩ : ∃ L0, L0 = [psI Sq A rl] ∧ Hs w L0 w [psI Sq A rl] := ⟨_, rfl, Hs.refl H0⟩
  refine Sx.en (vs := [.slice A na0 ca0]) 46 Try.func3 ?_
  have hob_ := solves rl
  obtain ⟨Ro, hRd, hRp⟩ := hob_
  refine Sx.c 8 [0] H (fun Hp1 R1 hR1 => Solve_p Sq A na0 ca0 rl w R1 Hp1 Ro hna hRp (fun Ao co no kl So fa fb w1 G1 hno ho => hR1 _ _ _ G1 fun H1 => ?_))
  refine Sx.nw 3 H1 fun k1 w2 H2 => ?_
  refine Sx.s 1 3 H2 fun w3 H3 => ?_
  refine Sx.c 5 [0] H3 (fun Hp2 R2 hR2 => Solve_c Sq A na0 ca0 rl w3 R2 Hp2 Ro hna hRd (fun Ao2 co2 no2 kl2 So2 fa2 fb2 w4 G2 hno2 ho2 => hR2 _ _ _ G2 fun H4 => ?_))
  refine Sx.nw 3 H4 fun k2 w5 H5 => ?_
  refine Sx.s 1 6 H5 fun w6 H6 => ?_
  obtain ⟨hno, hn20⟩ := hno
  obtain ⟨hno2, _⟩ := hno2
  have hob_ := out_same ho ho2
  obtain ⟨hks, hfa, hfb⟩ := hob_
  subst hfa hfb
  have hnn : no2 = no := by have h_ := congrArg List.length hks; simp only [List.length_map] at h_; omega
  subst hnn
  refine Sx.l 5 5 H6 ?_
  refine Sx.l 0 6 H6 ?_
  refine Sx.nq 0 #[.int .i64 fa, .int .i64 fb] #[.int .i64 fa, .int .i64 fb] 26 true ?_ (eqL26 fa fb)
  refine Sx.v 5 (.bool (((no2 : Nat) : Int) != ((no2 : Nat) : Int))) (.bool false) (nF (by omega)) ?_
  have H7 := H6.pick (a := [psI Sq A rl, .own 32 5 Ao co no2 (kC kl), .own 32 5 Ao2 co2 no2 (kC kl2), Slv.tysI So kl, Slv.tysI So2 kl2]) [0, 2, 0, 1, 0] (by kernel_rfl)
  refine Sx.lp 13 (fun z l' w' => ∃ (i : Nat), l' = [(3, .slice Ao no2 co), (5, .slice Ao2 no2 co2), (7, .int .i64 ((i : Nat) : Int))] ∧ z = kl.length - i ∧ Hs w L0 w' [psI Sq A rl, .own 32 5 Ao co no2 (kC kl), .own 32 5 Ao2 co2 no2 (kC kl2), Slv.tysI So kl, Slv.tysI So2 kl2] ∧ (i ≤ kl.length)) _ [(3, .slice Ao no2 co), (5, .slice Ao2 no2 co2), (7, .int .i64 ((0 : Nat) : Int))] ⟨0, rfl, rfl, H7, (Nat.zero_le _)⟩ (fun b1 z1 l1 w7 hI1 K1 hK1 => ?_)
  obtain ⟨i, rfl, rfl, H8, hil⟩ := hI1
  have hob_ := Nat.lt_or_ge i kl.length
  rcases hob_ with hx | hx
  · skip
    have hob_ : ∃ x, kl[i]? = some x := ⟨_, List.getElem?_eq_getElem hx⟩
    obtain ⟨⟨p1, ⟨k0, u0, r0, o0, a0⟩⟩, hk1⟩ := hob_
    have hob_ := kid_both hks hk1
    obtain ⟨⟨p2, t2⟩, hk2, ht2⟩ := hob_
    simp only at ht2
    subst ht2
    have hty := (H8.at 3 (it := Slv.tysI So kl) (by kernel_rfl)).1 _ (List.mem_of_getElem? hk1)
    have H9 := H8.ro 3 (S := So) (A := fun w => ∀ k ∈ kl, TyIn w So k.1 k.2) (B := fun w => TyIn w So p1 (Ty.mk k0 u0 r0 o0 a0)) (by kernel_rfl) hty (tyI_loc _ _ _)
    have hty2 := (H9.at 4 (it := Slv.tysI So2 kl2) (by kernel_rfl)).1 _ (List.mem_of_getElem? hk2)
    have H10 := H9.ro 4 (S := So2) (A := fun w => ∀ k ∈ kl2, TyIn w So2 k.1 k.2) (B := fun w => TyIn w So2 p2 (Ty.mk k0 u0 r0 o0 a0)) (by kernel_rfl) hty2 (tyI_loc _ _ _)
    have hob_ := TyIn.dep hty
    obtain ⟨kd_, hdp⟩ := hob_
    have hocap := own_cap (H10.at 1 (it := .own 32 5 Ao co no2 (kC kl)) (by kernel_rfl))
    have hrow := Hs.row H10 1 (e := 32) (sz := 5) (cap := co) (n := no2) (A := Ao) (xs := (kC kl)) (by kernel_rfl) (by omega)
    obtain ⟨gk, hgk⟩ := hrow
    subst hgk
    have hrow := Hs.row H10 2 (e := 32) (sz := 5) (cap := co2) (n := no2) (A := Ao2) (xs := (kC kl2)) (by kernel_rfl) (by omega)
    obtain ⟨gl, hgk⟩ := hrow
    subst hgk
    refine Sx.v 6 (.bool (decide (((i : Nat) : Int) < ((no2 : Nat) : Int)))) (.bool true) (dT (by omega)) ?_
    refine Sx.dr 8 H10 [1, 2] [] (LJ := [.own 32 5 (some ⟨gk, 0, none⟩) co no2 (kC kl), .own 32 5 (some ⟨gl, 0, none⟩) co2 no2 (kC kl2)]) (by kernel_rfl) fun w8 H11 => ?_
    refine Sx.tk [(0, none), (1, none)] (fun _ => (H11.sub [1, 1] (by kernel_rfl))) ?_
    refine Sx.tvg 2 [] gk i 5 no2 co (by omega) (fun _ => (H11.sub [1, 1] (by kernel_rfl))) ?_
    refine Sx.tvl 3 [] 0 32 5 32 gk co no2 (i * 5) (kC kl) (.agg #[.int .i64 ((k0 : Nat) : Int), .int .i64 ((u0 : Nat) : Int), .int .i64 ((r0 : Nat) : Int), .slice p1.A p1.na p1.ca, .slice p1.B p1.nb p1.cb]) (kC_at hk1) (fun _ => (H11.sub [1, 1] (by kernel_rfl))) ?_
    refine Sx.tk [(4, none), (5, none)] (fun _ => (H11.sub [1, 1] (by kernel_rfl))) ?_
    refine Sx.tvg 6 [] gl i 5 no2 co2 (by omega) (fun _ => (H11.sub [1, 1] (by kernel_rfl))) ?_
    refine Sx.tvl 7 [] 1 32 5 32 gl co2 no2 (i * 5) (kC kl2) (.agg #[.int .i64 ((k0 : Nat) : Int), .int .i64 ((u0 : Nat) : Int), .int .i64 ((r0 : Nat) : Int), .slice p2.A p2.na p2.ca, .slice p2.B p2.nb p2.cb]) (kC_at hk2) (fun _ => (H11.sub [1, 1] (by kernel_rfl))) ?_
    refine Sx.nmx ?_
    intro zx1
    refine Sx.on 8 ?_
    refine Sx.c 0 [5, 5] H11 (fun Hp3 R3 hR3 => (SameL_c _) So So2 k0 u0 r0 o0 a0 p1 p2 w8 R3 Hp3 hdp (fun w9 G3 => hR3 _ _ _ G3 fun H12 => ?_))
    refine Sx.bk (x := zx1) 8 (fun _ => (H12.sub [3, 3] (by kernel_rfl))) ?_
    refine Sx.tk [(9, none)] (fun _ => (H12.sub [3, 3] (by kernel_rfl))) ?_
    refine Sx.dn ?_
    refine Sx.v 13 (.int .i64 (IntKind.i64.wrap (((i : Nat) : Int) + (1 : Int)))) (.int .i64 ((i + 1 : Nat) : Int)) (congrArg (Value.int .i64) (Gx.i64n (by omega) (by omega))) ?_
    have H13 := H12.pick (a := [psI Sq A rl, .own 32 5 (some ⟨gk, 0, none⟩) co no2 (kC kl), .own 32 5 (some ⟨gl, 0, none⟩) co2 no2 (kC kl2), Slv.tysI So kl, Slv.tysI So2 kl2]) [2, 2, 2, 2, 2] (by kernel_rfl)
    exact Sx.to 2 [(3, .slice (some ⟨gk, 0, none⟩) no2 co), (5, .slice (some ⟨gl, 0, none⟩) no2 co2), (7, .int .i64 (((i + 1) : Nat) : Int))] (hK1 _ _ _ _ (by omega) ⟨(i + 1), rfl, rfl, H13, (by omega)⟩)
  refine Sx.v 6 (.bool (decide (((i : Nat) : Int) < ((no2 : Nat) : Int)))) (.bool false) (dF (by omega)) ?_
  refine Sx.rt 14 [] H8 (.bool true) ?_
  subst hL0
  exact hK _ (H8.pick (a := [psI Sq A rl]) [0] (by kernel_rfl))
end Go.Proofs.Ytfkkocjheeoobaa
