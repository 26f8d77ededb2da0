/- A part of the proof (YtokplpijjnkboaaStw10), printed by a program of ours. -/
import Derived.Test.YtokplpijjnkboaaProg
import Derived.Test.YtokplpijjnkboaaStk
import Derived.Test.YtokplpijjnkboaaStc
import Derived.Test.YtokplpijjnkboaaStd
import Derived.Test.YtokplpijjnkboaaStl
import Derived.Test.YtokplpijjnkboaaSte
import Derived.Test.YtokplpijjnkboaaStf
import Derived.Test.YtokplpijjnkboaaStm
import Derived.Test.YtokplpijjnkboaaStn
import Derived.Test.YtokplpijjnkboaaSto
import Derived.Test.YtokplpijjnkboaaStw1
import Derived.Test.YtokplpijjnkboaaStw2
import Derived.Test.YtokplpijjnkboaaStw3
import Derived.Test.YtokplpijjnkboaaStw4
import Derived.Test.YtokplpijjnkboaaStw5
import Derived.Test.YtokplpijjnkboaaStw6
import Derived.Test.YtokplpijjnkboaaStw7
import Derived.Test.YtokplpijjnkboaaStw8
import Derived.Test.YtokplpijjnkboaaStw9
set_option linter.unusedVariables false
set_option linter.unusedSimpArgs false
namespace Go.Proofs.Ytokplpijjnkboaa
open Go.RowKit Go.Sx Go.Stk
attribute [local irreducible] Go.wpOps Go.Code.wp Go.wpOp Go.wpAnyH Go.Calls Go.Sx.Goal
set_option maxRecDepth 20000
theorem cutN_c (sb : Nat) (p : Option Addr) (m : List Seg) (Q : Nat → Prop) (ab kb : Nat) (k : Int) (deep : Bool) (w : World) (K : Ending → World → Prop) (H0 : Sp w [.blk sb (.cells #[.pointer p] 58), sgI Q p m, .blk ab (.cells #[.slice none 0 0] 39), .own 3 1 none 0 0 (ints []), .blk kb (.cells #[.int .i64 k] 3)]) (hb : tot m + m.length < 100000000000) (hc : cutR k m.reverse = none) (hK : ∀ (A' : Option Addr) (c' : Nat) w', Hs w [.blk sb (.cells #[.pointer p] 58), sgI Q p m, .blk ab (.cells #[.slice none 0 0] 39), .own 3 1 none 0 0 (ints []), .blk kb (.cells #[.int .i64 k] 3)] w' [.blk sb (.cells #[.pointer p] 58), sgI Q p m, .blk ab (.cells #[.slice A' (askR k m.reverse).length c'] 39), .own 3 1 A' c' (askR k m.reverse).length (ints (askR k m.reverse)), .blk kb (.cells #[.int .i64 k] 3)] → K (.returned (.tuple #[.pointer none, .int .i64 0, .bool false])) w') :
    Calls Try.prog 17 #[.pointer (some ⟨sb, 0, none⟩), .func (.func 18) #[] #[.pointer (some ⟨ab, 0, none⟩), .pointer (some ⟨kb, 0, none⟩)], .bool deep] w K := by
  refine Cut_c sb p m Q ab kb none 0 0 [] k deep w K H0 hb (by omega) (fun A' c' n' l' w' G e1 e2 => ?_) (fun p' Q' m' s r1 pb q Qq A' c' n' l' w' G e1 => absurd (hc.symm.trans e1) (by simp))
  have hl : n' = l'.length := by have h := (G.at 3 (it := .own 3 1 A' c' n' (ints l')) rfl).1; simp [ints] at h; omega
  rw [List.nil_append] at e2; subst e2; subst hl; exact hK A' c' w' G
theorem cutH_c (sb : Nat) (p : Option Addr) (m : List Seg) (Q : Nat → Prop) (ab kb : Nat) (k : Int) (deep : Bool) (r1 rm : List Seg) (s : Seg) (w : World) (K : Ending → World → Prop) (H0 : Sp w [.blk sb (.cells #[.pointer p] 58), sgI Q p m, .blk ab (.cells #[.slice none 0 0] 39), .own 3 1 none 0 0 (ints []), .blk kb (.cells #[.int .i64 k] 3)]) (hb : tot m + m.length < 100000000000) (hc : cutR k m.reverse = some (r1, s, rm)) (hK : ∀ (p' : Option Addr) (Q' : Nat → Prop) (pb : Nat) (q : Option Addr) (Qq : Nat → Prop) (A' : Option Addr) (c' : Nat) w', Hs w [.blk sb (.cells #[.pointer p] 58), sgI Q p m, .blk ab (.cells #[.slice none 0 0] 39), .own 3 1 none 0 0 (ints []), .blk kb (.cells #[.int .i64 k] 3)] w' [.blk sb (.cells #[.pointer p'] 58), sgI Q' p' rm.reverse, .blk pb (.cells #[.pointer q] 78), sgI Qq q (fixS deep s :: r1.reverse), .blk ab (.cells #[.slice A' (askR k m.reverse).length c'] 39), .own 3 1 A' c' (askR k m.reverse).length (ints (askR k m.reverse)), .blk kb (.cells #[.int .i64 k] 3)] → K (.returned (.tuple #[.pointer (some ⟨pb, 0, none⟩), .int .i64 s.tag, .bool true])) w') :
    Calls Try.prog 17 #[.pointer (some ⟨sb, 0, none⟩), .func (.func 18) #[] #[.pointer (some ⟨ab, 0, none⟩), .pointer (some ⟨kb, 0, none⟩)], .bool deep] w K := by
  refine Cut_c sb p m Q ab kb none 0 0 [] k deep w K H0 hb (by omega) (fun A' c' n' l' w' G e1 e2 => absurd (hc.symm.trans e1) (by simp)) (fun p' Q' m' s2 r2 pb q Qq A' c' n' l' w' G e1 e2 => ?_)
  have hl : n' = l'.length := by have h := (G.at 5 (it := .own 3 1 A' c' n' (ints l')) rfl).1; simp [ints] at h; omega
  obtain ⟨rfl, rfl, rfl⟩ : r1 = r2 ∧ s = s2 ∧ rm = m'.reverse := by have := hc.symm.trans e1; simpa using this
  rw [List.reverse_reverse] at hK
  rw [List.nil_append] at e2; subst e2; subst hl; exact hK p' Q' pb q Qq A' c' w' G
theorem dcutN_c (b n cap : Nat) (A : Option Addr) (hm : List HS) (S : Nat → Prop) (k : Int) (deep : Bool) (w : World) (K : Ending → World → Prop) (H0 : Sp w [.blk b (.cells #[.slice A n cap] 49), srI S A cap hm]) (hn : n = hm.length) (hne : hm ≠ []) (hb : tot (segsOf hm) + hm.length < 100000000000) (hc : cutR k (segsOf hm).reverse = none) (hK : ∀ w', Hs w [.blk b (.cells #[.slice A n cap] 49), srI S A cap hm] w' [.blk b (.cells #[.slice A n cap] 49), srI S A cap hm] → K (.returned (.tuple #[.slice none 0 0, .int .i64 0, .bool false])) w') :
    Calls Try.prog 20 #[.pointer (some ⟨b, 0, none⟩), .int .i64 k, .bool deep] w K :=
  dCut_c b n cap A hm S k deep w K H0 hn hne hb (fun w' G _ => hK w' G) (fun n' cap' A' hm' S' n2 c2 A2 h2 S2 s r1 w' G _ _ e => absurd (hc.symm.trans e) (by simp))
theorem dcutH_c (b n cap : Nat) (A : Option Addr) (hm : List HS) (S : Nat → Prop) (k : Int) (deep : Bool) (r1 rm : List Seg) (s : Seg) (w : World) (K : Ending → World → Prop) (H0 : Sp w [.blk b (.cells #[.slice A n cap] 49), srI S A cap hm]) (hn : n = hm.length) (hne : hm ≠ []) (hb : tot (segsOf hm) + hm.length < 100000000000) (hc : cutR k (segsOf hm).reverse = some (r1, s, rm)) (hK : ∀ (cap' : Nat) (A' : Option Addr) (hm' : List HS) (S' : Nat → Prop) (c2 : Nat) (A2 : Option Addr) (h2 : List HS) (S2 : Nat → Prop) w', Hs w [.blk b (.cells #[.slice A n cap] 49), srI S A cap hm] w' [.blk b (.cells #[.slice A' hm'.length cap'] 49), srI S' A' cap' hm', srI S2 A2 c2 h2] → (segsOf hm' = rm.reverse) → (segsOf h2 = fixS deep s :: r1.reverse) → K (.returned (.tuple #[.slice A2 h2.length c2, .int .i64 s.tag, .bool true])) w') :
    Calls Try.prog 20 #[.pointer (some ⟨b, 0, none⟩), .int .i64 k, .bool deep] w K := by
  refine dCut_c b n cap A hm S k deep w K H0 hn hne hb (fun w' G e => absurd (hc.symm.trans e) (by simp)) (fun n' cap' A' hm' S' n2 c2 A2 h2 S2 s2 r2 w' G e1 e2 e3 e4 => ?_)
  obtain ⟨rfl, rfl, rfl⟩ : r1 = r2 ∧ s = s2 ∧ rm = (segsOf hm').reverse := by have := hc.symm.trans e3; simpa using this
  subst e1; subst e2; exact hK cap' A' hm' S' c2 A2 h2 S2 w' G (List.reverse_reverse _).symm e4
theorem PutN_c (sb : Nat) (w : World) (K : Ending → World → Prop) (H0 : Sp w []) (hK : K (.returned (.tuple #[])) w) :
    Calls Try.prog 23 #[.pointer (some ⟨sb, 0, none⟩), .pointer none] w K := by
  obtain ⟨L0, hL0, H⟩ : ∃ L0, L0 = [] ∧ Hs w L0 w [] := ⟨_, rfl, Hs.refl H0⟩
  refine Sx.en (vs := [.pointer (some ⟨sb, 0, none⟩), .pointer none]) 30 Try.func23 ?_
  exact Sx.rt 10 [] H _ hK
theorem bas0 : Bas (segsOf [HS.mk (Seg.mk false 0 []) none 0]) := ⟨_, [], rfl, rfl⟩
theorem siz0 : siz (segsOf [HS.mk (Seg.mk false 0 []) none 0]) ≤ 3000 * 0 + 10 := by decide
set_option maxHeartbeats 4000000 in
theorem Stacks_c (A : Option Addr) (n c : Nat) (kd nn : Nat → Int) (w : World) (K : Ending → World → Prop) (H0 : Sp w [entI w]) (hOps : Gx.Rd w A n 2 (fun i => [.int .i64 (kd i), .int .i64 (nn i)])) (hK : ∀ w', Hs w [entI w] w' [entI w] → K (.returned (.bool true)) w') :
    Calls Try.prog 3 #[.slice A n c] w K := by
  obtain ⟨L0, hL0, H⟩ : ∃ L0, L0 = [entI w] ∧ Hs w L0 w [entI w] := ⟨_, rfl, Hs.refl H0⟩
  refine Sx.en (vs := [.slice A n c]) 356 Try.func3 ?_
  refine Sx.c 7 [] H (fun Hp R hR => New_c  w R Hp  (fun sb1 Q1 p1 w1 G1 => hR _ _ _ G1 fun H1 => ?_))
  refine Sx.c 0 [] H1 (fun Hp R hR => New_c  w1 R Hp  (fun sb2 Q2 p2 w2 G2 => hR _ _ _ G2 fun H2 => ?_))
  refine Sx.nw 0 H2 fun k1 w3 H3 => ?_
  refine Sx.c 5 [] H3 (fun Hp R hR => dNew_c  w3 R Hp  (fun b1 A1 S1 w4 G3 => hR _ _ _ G3 fun H4 => ?_))
  refine Sx.c 0 [] H4 (fun Hp R hR => dNew_c  w4 R Hp  (fun b2 A2 S2 w5 G4 => hR _ _ _ G4 fun H5 => ?_))
  refine Sx.nw 0 H5 fun k2 w6 H6 => ?_
  have H7 := Hs.toOwn (k := k1) (e := 23) (cs := #[.pointer (some ⟨sb1, 0, none⟩), .pointer (some ⟨sb2, 0, none⟩)]) H6 9 1 2 (by kernel_rfl) (by rfl) (by omega)
  have H8 := Hs.toOwn (k := k2) (e := 26) (cs := #[.pointer (some ⟨b1, 0, none⟩), .pointer (some ⟨b2, 0, none⟩)]) H7 10 1 2 (by kernel_rfl) (by rfl) (by omega)
  have H9 := H8.add (Gx.Ext.refl _) (it := .own 40 1 none 0 0 []) (World.ownsRow_nil _ _ _ _) (fun _ h => by cases h)
  have H10 := H9.add (Gx.Ext.refl _) (it := .own 47 1 none 0 0 []) (World.ownsRow_nil _ _ _ _) (fun _ h => by cases h)
  have H11 := pp_nil H10
  have H12 := H11.pick (a := [entI w, .own 23 1 (some ⟨k1, 0, none⟩) 2 2 (two 0 sb1 sb2), .own 26 1 (some ⟨k2, 0, none⟩) 2 2 (two 0 b1 b2), .blk sb1 (.cells #[.pointer p1] 58), sgI Q1 p1 (segsOf [HS.mk (Seg.mk false 0 []) none 0]), .blk b1 (.cells #[.slice A1 1 1] 49), srI S1 A1 1 ([HS.mk (Seg.mk false 0 []) none 0]), .blk sb2 (.cells #[.pointer p2] 58), sgI Q2 p2 (segsOf [HS.mk (Seg.mk false 0 []) none 0]), .blk b2 (.cells #[.slice A2 1 1] 49), srI S2 A2 1 ([HS.mk (Seg.mk false 0 []) none 0]), ppI (fun _ => False) ([]), .own 40 1 none 0 0 (bps ([])), .own 47 1 none 0 0 (sls ([]))]) [8, 8, 8, 6, 6, 2, 2, 2, 2, 0, 0, 2, 0, 0] (by kernel_rfl)
  refine Sx.lp 25 (fun z l' w' => ∃ (i : Nat) (aa : Nat) (sx : Nat) (px : Option Addr) (Qx : Nat → Prop) (bx : Nat) (Ax : Option Addr) (cx : Nat) (hx : List HS) (Rx : Nat → Prop) (sz : Nat) (pz : Option Addr) (Qz : Nat → Prop) (bz : Nat) (Az : Option Addr) (cz : Nat) (hz : List HS) (Rz : Nat → Prop) (np : Nat) (ps : List PP) (Rp : Nat → Prop) (Ap : Option Addr) (cp : Nat) (Aq : Option Addr) (cq : Nat), l' = [(0, .slice A n c), (3, .slice (some ⟨k1, 0, none⟩) 2 2), (4, .slice (some ⟨k2, 0, none⟩) 2 2), (5, .slice Ap np cp), (6, .slice Aq np cq), (7, .int .i64 ((aa : Nat) : Int)), (8, .int .i64 ((i : Nat) : Int))] ∧ z = 300 - i ∧ Hs w L0 w' [entI w, .own 23 1 (some ⟨k1, 0, none⟩) 2 2 (two aa sx sz), .own 26 1 (some ⟨k2, 0, none⟩) 2 2 (two aa bx bz), .blk sx (.cells #[.pointer px] 58), sgI Qx px (segsOf hx), .blk bx (.cells #[.slice Ax hx.length cx] 49), srI Rx Ax cx hx, .blk sz (.cells #[.pointer pz] 58), sgI Qz pz (segsOf hz), .blk bz (.cells #[.slice Az hz.length cz] 49), srI Rz Az cz hz, ppI Rp ps, .own 40 1 Ap cp np (bps ps), .own 47 1 Aq cq np (sls ps)] ∧ (i ≤ 300) ∧ (aa ≤ 1) ∧ (Bas (segsOf hx)) ∧ (siz (segsOf hx) ≤ 3000 * i + 10) ∧ (Bas (segsOf hz)) ∧ (siz (segsOf hz) ≤ 3000 * i + 10) ∧ (∀ x ∈ ps, siz (segsOf x.hm) ≤ 3000 * i + 10) ∧ (np = ps.length) ∧ (np ≤ i)) _ [(0, .slice A n c), (3, .slice (some ⟨k1, 0, none⟩) 2 2), (4, .slice (some ⟨k2, 0, none⟩) 2 2), (5, .slice none 0 0), (6, .slice none 0 0), (7, .int .i64 ((0 : Nat) : Int)), (8, .int .i64 ((0 : Nat) : Int))] ⟨0, 0, sb1, p1, Q1, b1, A1, 1, [HS.mk (Seg.mk false 0 []) none 0], S1, sb2, p2, Q2, b2, A2, 1, [HS.mk (Seg.mk false 0 []) none 0], S2, 0, [], (fun _ => False), none, 0, none, 0, rfl, rfl, H12, (by omega), (by omega), bas0, siz0, bas0, siz0, (fun _ h => absurd h List.not_mem_nil), rfl, (Nat.le_refl _)⟩ (fun b3 z1 l1 w7 hI1 K1 hK1 => ?_)
  obtain ⟨i, aa, sx, px, Qx, bx, Ax, cx, hx, Rx, sz, pz, Qz, bz, Az, cz, hz, Rz, np, ps, Rp, Ap, cp, Aq, cq, rfl, rfl, H13, hi, haa, hBx, hsx, hBz, hsz, hps, hnp, hpl⟩ := hI1
  have hn_hx := hBx.ne; have hm_hx : hx ≠ [] := fun e => hn_hx (by rw [e]; rfl)
  have hb_hx : tot (segsOf hx) + (segsOf hx).length < 100000000000 := by unfold siz at hsx; omega
  have hc_hx : tot (segsOf hx) + hx.length < 100000000000 := by rw [segsOf_len] at hb_hx; exact hb_hx
  have hd_hx : tot (segsOf hx) + hx.length < 1000000000 := by unfold siz at hsx; rw [segsOf_len] at hsx; omega
  have hn_hz := hBz.ne; have hm_hz : hz ≠ [] := fun e => hn_hz (by rw [e]; rfl)
  have hb_hz : tot (segsOf hz) + (segsOf hz).length < 100000000000 := by unfold siz at hsz; omega
  have hc_hz : tot (segsOf hz) + hz.length < 100000000000 := by rw [segsOf_len] at hb_hz; exact hb_hz
  have hd_hz : tot (segsOf hz) + hz.length < 1000000000 := by unfold siz at hsz; rw [segsOf_len] at hsz; omega
  refine Sx.cut 1 (fun l' w' => l' = [(0, .slice A n c), (3, .slice (some ⟨k1, 0, none⟩) 2 2), (4, .slice (some ⟨k2, 0, none⟩) 2 2), (5, .slice Ap np cp), (6, .slice Aq np cq), (7, .int .i64 ((aa : Nat) : Int)), (8, .int .i64 ((i : Nat) : Int)), (55, .bool ((decide (((i : Nat) : Int) < ((n : Nat) : Int))) && (decide (((i : Nat) : Int) < (300 : Int)))))] ∧ w7 = w') (fun K2 hK2 => ?_) (fun b4 l2 w8 hI2 => ?_)
  · skip
    refine Sx.sp 6 52 (decide (((i : Nat) : Int) < ((n : Nat) : Int))) (fun h_g52 => ?_) (fun h_g52 => ?_)
    · skip
      exact Sx.to 4 [(0, .slice A n c), (3, .slice (some ⟨k1, 0, none⟩) 2 2), (4, .slice (some ⟨k2, 0, none⟩) 2 2), (5, .slice Ap np cp), (6, .slice Aq np cq), (7, .int .i64 ((aa : Nat) : Int)), (8, .int .i64 ((i : Nat) : Int)), (55, .bool ((decide (((i : Nat) : Int) < ((n : Nat) : Int))) && (decide (((i : Nat) : Int) < (300 : Int)))))] (hK2 _ _ _ ⟨rfl, rfl⟩) (h2 := (by rw [h_g52]; try kernel_rfl))
    exact Sx.to 4 [(0, .slice A n c), (3, .slice (some ⟨k1, 0, none⟩) 2 2), (4, .slice (some ⟨k2, 0, none⟩) 2 2), (5, .slice Ap np cp), (6, .slice Aq np cq), (7, .int .i64 ((aa : Nat) : Int)), (8, .int .i64 ((i : Nat) : Int)), (55, .bool ((decide (((i : Nat) : Int) < ((n : Nat) : Int))) && (decide (((i : Nat) : Int) < (300 : Int)))))] (hK2 _ _ _ ⟨rfl, rfl⟩) (h2 := (by rw [h_g52]; try kernel_rfl))
  obtain ⟨rfl, rfl⟩ := hI2
  refine Sx.br 0 ((decide (((i : Nat) : Int) < ((n : Nat) : Int))) && (decide (((i : Nat) : Int) < (300 : Int)))) (fun h_c55 => ?_) (fun h_c55 => ?_)
  · skip
    refine Sx.nz 2 (.code (Sx.cat [1, 1, 1, 1, 1, 1, 0, 1, 0, 0, 1] (Sx.bodyOf Try.f3))) [.to K1, .blk 0, .code (Sx.cat [1, 1, 1, 1, 1, 1, 1] (Sx.bodyOf Try.f3))] [(0, .slice A n c), (3, .slice (some ⟨k1, 0, none⟩) 2 2), (4, .slice (some ⟨k2, 0, none⟩) 2 2), (5, .slice Ap np cp), (6, .slice Aq np cq), (7, .int .i64 ((aa : Nat) : Int)), (8, .int .i64 ((i : Nat) : Int))] fun b5 => ?_
    have p_c55 := h_c55; try simp [-List.getD_eq_getElem?_getD] at p_c55
    refine Sx.ir 6 k1 aa 1 2 2 (by omega) ?_
    refine Sx.lr 0 1 23 1 23 k1 2 2 (aa * 1) (two aa sx sz) H13 (.pointer (some ⟨sx, 0, none⟩)) (two_ld haa) ?_
    refine Sx.ir 7 k2 aa 1 2 2 (by omega) ?_
    refine Sx.lr 0 2 26 1 26 k2 2 2 (aa * 1) (two aa bx bz) H13 (.pointer (some ⟨bx, 0, none⟩)) (two_ld haa) ?_
    obtain ⟨ad, hA, hcs⟩ := hOps i (by omega)
    refine Sx.ia 7 ad i 2 n c hA (by omega) ?_
    refine Sx.fa 0 (ad.add (i * 2)) 1 ?_
    refine Sx.lo (c := 1) (t := 3) 0 [.int .i64 (nn i)] (.int .i64 (nn i)) (ent_two (H13.at 0 (it := entI w) (by kernel_rfl)) hcs).2 ?_
    refine Sx.cut 3 (fun l' w' => ∃ (a2 : Nat) (p2 : Option Addr) (Q2 : Nat → Prop) (A2 : Option Addr) (c2 : Nat) (h2 : List HS) (S2 : Nat → Prop) (np2 : Nat) (ps2 : List PP) (Rp2 : Nat → Prop) (Ap2 : Option Addr) (cp2 : Nat) (Aq2 : Option Addr) (cq2 : Nat), l' = [(0, .slice A n c), (3, .slice (some ⟨k1, 0, none⟩) 2 2), (4, .slice (some ⟨k2, 0, none⟩) 2 2), (5, .slice Ap2 np2 cp2), (6, .slice Aq2 np2 cq2), (7, .int .i64 ((a2 : Nat) : Int)), (8, .int .i64 ((i : Nat) : Int)), (9, .pointer (some ⟨sx, 0, none⟩)), (10, .pointer (some ⟨bx, 0, none⟩))] ∧ Hs w L0 w' [entI w, .own 23 1 (some ⟨k1, 0, none⟩) 2 2 (two aa sx sz), .own 26 1 (some ⟨k2, 0, none⟩) 2 2 (two aa bx bz), .blk sx (.cells #[.pointer p2] 58), sgI Q2 p2 (segsOf h2), .blk bx (.cells #[.slice A2 h2.length c2] 49), srI S2 A2 c2 h2, .blk sz (.cells #[.pointer pz] 58), sgI Qz pz (segsOf hz), .blk bz (.cells #[.slice Az hz.length cz] 49), srI Rz Az cz hz, ppI Rp2 ps2, .own 40 1 Ap2 cp2 np2 (bps ps2), .own 47 1 Aq2 cq2 np2 (sls ps2)] ∧ (aa = a2 ∨ 1 - aa = a2) ∧ (Bas (segsOf h2)) ∧ (siz (segsOf h2) ≤ 3000 * (i + 1) + 10) ∧ (∀ x ∈ ps2, siz (segsOf x.hm) ≤ 3000 * (i + 1) + 10) ∧ (np2 = ps2.length) ∧ (np2 ≤ i + 1)) (fun K3 hK3 => ?_) (fun b6 l3 w9 hI3 => ?_)
    · skip
      refine Sx.ia 4 ad i 2 n c hA (by omega) ?_
      refine Sx.fa 0 (ad.add (i * 2)) 0 ?_
      refine Sx.lo (c := 1) (t := 3) 0 [.int .i64 (kd i)] (.int .i64 (kd i)) (ent_two (H13.at 0 (it := entI w) (by kernel_rfl)) hcs).1 ?_
      refine Sx.c 0 [] H13 (fun Hp R hR => mod_c (kd i) 9 w7 R Hp (by omega) (by omega) (hR _ _ _ (.refl Hp) fun _ => ?_))
      refine Sx.nz 2 (.code (Sx.cat [1, 1, 1, 1, 1, 1, 0, 1, 0, 0, 1, 0, 0, 1, 1, 1, 0, 1] (Sx.bodyOf Try.f3))) [.to K3, .blk 1, .code (Sx.cat [1, 1, 1, 1, 1, 1, 0, 1, 0, 0, 1, 1] (Sx.bodyOf Try.f3)), .to K1, .blk 0, .code (Sx.cat [1, 1, 1, 1, 1, 1, 1] (Sx.bodyOf Try.f3))] [(0, .slice A n c), (3, .slice (some ⟨k1, 0, none⟩) 2 2), (4, .slice (some ⟨k2, 0, none⟩) 2 2), (5, .slice Ap np cp), (6, .slice Aq np cq), (7, .int .i64 ((aa : Nat) : Int)), (8, .int .i64 ((i : Nat) : Int)), (9, .pointer (some ⟨sx, 0, none⟩)), (10, .pointer (some ⟨bx, 0, none⟩)), (11, .int .i64 (nn i)), (76, .int .i64 ((kd i) % ((9 : Nat) : Int)))] fun b7 => ?_
      refine Sx.br 7 (((kd i) % ((9 : Nat) : Int)) == (0 : Int)) (fun h_c79 => ?_) (fun h_c79 => ?_)
      · skip
        have p_c79 := Gx.k1 h_c79
        refine Sx.c 4 [3, 3] H13 (fun Hp R hR => Push_c sx px (segsOf hx) Qx (nn i) w7 R Hp hn_hx hb_hx (fun Q3 p3 w10 G5 => hR _ _ _ G5 fun H14 => ?_))
        refine Sx.c 5 [5, 5] H14 (fun Hp R hR => dPush_c bx hx.length cx Ax hx Rx (nn i) w10 R Hp rfl hm_hx hc_hx (fun n1 cap1 A3 hm1 S3 w11 G6 hf1 hf2 => hR _ _ _ G6 fun H15 => ?_))
        subst hf1
        have H16 := H15
        rw [← hf2] at H16
        have H17 := H16.pick (a := [entI w, .own 23 1 (some ⟨k1, 0, none⟩) 2 2 (two aa sx sz), .own 26 1 (some ⟨k2, 0, none⟩) 2 2 (two aa bx bz), .blk sx (.cells #[.pointer p3] 58), sgI Q3 p3 (segsOf hm1), .blk bx (.cells #[.slice A3 hm1.length cap1] 49), srI S3 A3 cap1 hm1, .blk sz (.cells #[.pointer pz] 58), sgI Qz pz (segsOf hz), .blk bz (.cells #[.slice Az hz.length cz] 49), srI Rz Az cz hz, ppI Rp ps, .own 40 1 Ap cp np (bps ps), .own 47 1 Aq cq np (sls ps)]) [4, 4, 4, 2, 2, 0, 0, 0, 0, 0, 0, 0, 0, 0] (by kernel_rfl)
        exact Sx.to 2 [(0, .slice A n c), (3, .slice (some ⟨k1, 0, none⟩) 2 2), (4, .slice (some ⟨k2, 0, none⟩) 2 2), (5, .slice Ap np cp), (6, .slice Aq np cq), (7, .int .i64 ((aa : Nat) : Int)), (8, .int .i64 ((i : Nat) : Int)), (9, .pointer (some ⟨sx, 0, none⟩)), (10, .pointer (some ⟨bx, 0, none⟩))] (hK3 _ _ _ ⟨aa, p3, Q3, A3, cap1, hm1, S3, np, ps, Rp, Ap, cp, Aq, cq, rfl, H17, (.inl rfl), (by rw [hf2]; exact hBx.push _), (by rw [hf2]; have := siz_push hn_hx (nn i); omega), (fun x hx => Nat.le_trans (hps x hx) (by omega)), hnp, (by omega)⟩)
      refine Sx.br 6 (((kd i) % ((9 : Nat) : Int)) == (1 : Int)) (fun h_c87 => ?_) (fun h_c87 => ?_)
      · skip
        have p_c79 := Gx.k0 h_c79
        have p_c87 := Gx.k1 h_c87
        refine Sx.c 3 [3, 3] H13 (fun Hp R hR => Pop_c sx px (segsOf hx) Qx  w7 R Hp hn_hx hb_hx (fun Q4 p4 w12 G7 => hR _ _ _ G7 fun H18 => ?_))
        refine Sx.nz 7 (.code (Sx.cat [1, 1, 1, 1, 1, 1, 0, 1, 0, 0, 1, 0, 0, 1, 1, 1, 0, 1, 0, 1, 1, 1, 0, 1] (Sx.bodyOf Try.f3))) [.blk 2, .to K3, .blk 1, .code (Sx.cat [1, 1, 1, 1, 1, 1, 0, 1, 0, 0, 1, 1] (Sx.bodyOf Try.f3)), .to K1, .blk 0, .code (Sx.cat [1, 1, 1, 1, 1, 1, 1] (Sx.bodyOf Try.f3))] [(0, .slice A n c), (3, .slice (some ⟨k1, 0, none⟩) 2 2), (4, .slice (some ⟨k2, 0, none⟩) 2 2), (5, .slice Ap np cp), (6, .slice Aq np cq), (7, .int .i64 ((aa : Nat) : Int)), (8, .int .i64 ((i : Nat) : Int)), (9, .pointer (some ⟨sx, 0, none⟩)), (10, .pointer (some ⟨bx, 0, none⟩)), (12, .int .i64 ((topM (segsOf hx)).1)), (13, .bool ((topM (segsOf hx)).2))] fun b8 => ?_
        refine Sx.c 3 [5, 5] H18 (fun Hp R hR => dPop_c bx hx.length cx Ax hx Rx  w12 R Hp rfl hm_hx hc_hx (fun n2 cap2 A4 hm2 S4 w13 G8 hf3 hf4 => hR _ _ _ G8 fun H19 => ?_))
        subst hf3
        refine Sx.v 11 (.bool ((topM (segsOf hx)).1 != (topM (segsOf hx)).1)) (.bool false) (congrArg Value.bool (by simp)) ?_
        refine Sx.v 3 (.bool (!(((topM (segsOf hx)).2) == ((topM (segsOf hx)).2)))) (.bool false) (congrArg Value.bool (by simp)) ?_
        have H20 := H19
        rw [← hf4] at H20
        have H21 := H20.pick (a := [entI w, .own 23 1 (some ⟨k1, 0, none⟩) 2 2 (two aa sx sz), .own 26 1 (some ⟨k2, 0, none⟩) 2 2 (two aa bx bz), .blk sx (.cells #[.pointer p4] 58), sgI Q4 p4 (segsOf hm2), .blk bx (.cells #[.slice A4 hm2.length cap2] 49), srI S4 A4 cap2 hm2, .blk sz (.cells #[.pointer pz] 58), sgI Qz pz (segsOf hz), .blk bz (.cells #[.slice Az hz.length cz] 49), srI Rz Az cz hz, ppI Rp ps, .own 40 1 Ap cp np (bps ps), .own 47 1 Aq cq np (sls ps)]) [4, 4, 4, 2, 2, 0, 0, 0, 0, 0, 0, 0, 0, 0] (by kernel_rfl)
        exact Sx.to 6 [(0, .slice A n c), (3, .slice (some ⟨k1, 0, none⟩) 2 2), (4, .slice (some ⟨k2, 0, none⟩) 2 2), (5, .slice Ap np cp), (6, .slice Aq np cq), (7, .int .i64 ((aa : Nat) : Int)), (8, .int .i64 ((i : Nat) : Int)), (9, .pointer (some ⟨sx, 0, none⟩)), (10, .pointer (some ⟨bx, 0, none⟩))] (hK3 _ _ _ ⟨aa, p4, Q4, A4, cap2, hm2, S4, np, ps, Rp, Ap, cp, Aq, cq, rfl, H21, (.inl rfl), (by rw [hf4]; exact hBx.pop), (by rw [hf4]; have := siz_pop hn_hx; omega), (fun x hx => Nat.le_trans (hps x hx) (by omega)), hnp, (by omega)⟩)
      refine Sx.nz 6 (.code (Sx.cat [1, 1, 1, 1, 1, 1, 0, 1, 0, 0, 1, 0, 0, 1, 1, 1, 0, 1, 0, 1, 1, 1, 1, 1] (Sx.bodyOf Try.f3))) [.blk 2, .to K3, .blk 1, .code (Sx.cat [1, 1, 1, 1, 1, 1, 0, 1, 0, 0, 1, 1] (Sx.bodyOf Try.f3)), .to K1, .blk 0, .code (Sx.cat [1, 1, 1, 1, 1, 1, 1] (Sx.bodyOf Try.f3))] [(0, .slice A n c), (3, .slice (some ⟨k1, 0, none⟩) 2 2), (4, .slice (some ⟨k2, 0, none⟩) 2 2), (5, .slice Ap np cp), (6, .slice Aq np cq), (7, .int .i64 ((aa : Nat) : Int)), (8, .int .i64 ((i : Nat) : Int)), (9, .pointer (some ⟨sx, 0, none⟩)), (10, .pointer (some ⟨bx, 0, none⟩)), (11, .int .i64 (nn i)), (76, .int .i64 ((kd i) % ((9 : Nat) : Int))), (107, .bool (((kd i) % ((9 : Nat) : Int)) == (2 : Int)))] fun b9 => ?_
      refine Sx.br 0 (((kd i) % ((9 : Nat) : Int)) == (2 : Int)) (fun h_c107 => ?_) (fun h_c107 => ?_)
      · skip
        have p_c79 := Gx.k0 h_c79
        have p_c87 := Gx.k0 h_c87
        have p_c107 := Gx.k1 h_c107
        refine Sx.c 3 [3, 3] H13 (fun Hp R hR => Top_c sx px (segsOf hx) Qx (topM (segsOf hx)) w7 R Hp hn_hx hb_hx rfl (hR _ _ _ (.refl Hp) fun _ => ?_))
        refine Sx.c 10 [5, 5] H13 (fun Hp R hR => dTop_c bx hx.length cx Ax hx Rx  w7 R Hp rfl hm_hx hc_hx (fun n3 cap3 A5 hm3 S5 w14 G9 hf5 hf6 => hR _ _ _ G9 fun H22 => ?_))
        subst hf5
        refine Sx.v 11 (.bool ((topM (segsOf hx)).1 != (topM (segsOf hx)).1)) (.bool false) (congrArg Value.bool (by simp)) ?_
        refine Sx.v 3 (.bool (!(((topM (segsOf hx)).2) == ((topM (segsOf hx)).2)))) (.bool false) (congrArg Value.bool (by simp)) ?_
        have H23 := H22
        rw [← hf6] at H23
        have H24 := H23.pick (a := [entI w, .own 23 1 (some ⟨k1, 0, none⟩) 2 2 (two aa sx sz), .own 26 1 (some ⟨k2, 0, none⟩) 2 2 (two aa bx bz), .blk sx (.cells #[.pointer px] 58), sgI Qx px (segsOf hm3), .blk bx (.cells #[.slice A5 hm3.length cap3] 49), srI S5 A5 cap3 hm3, .blk sz (.cells #[.pointer pz] 58), sgI Qz pz (segsOf hz), .blk bz (.cells #[.slice Az hz.length cz] 49), srI Rz Az cz hz, ppI Rp ps, .own 40 1 Ap cp np (bps ps), .own 47 1 Aq cq np (sls ps)]) [2, 2, 2, 2, 2, 0, 0, 0, 0, 0, 0, 0, 0, 0] (by kernel_rfl)
        exact Sx.to 6 [(0, .slice A n c), (3, .slice (some ⟨k1, 0, none⟩) 2 2), (4, .slice (some ⟨k2, 0, none⟩) 2 2), (5, .slice Ap np cp), (6, .slice Aq np cq), (7, .int .i64 ((aa : Nat) : Int)), (8, .int .i64 ((i : Nat) : Int)), (9, .pointer (some ⟨sx, 0, none⟩)), (10, .pointer (some ⟨bx, 0, none⟩))] (hK3 _ _ _ ⟨aa, px, Qx, A5, cap3, hm3, S5, np, ps, Rp, Ap, cp, Aq, cq, rfl, H24, (.inl rfl), (by rw [hf6]; exact hBx), (by rw [hf6]; have := hsx; omega), (fun x hx => Nat.le_trans (hps x hx) (by omega)), hnp, (by omega)⟩)
      refine Sx.nz 6 (.code (Sx.cat [1, 1, 1, 1, 1, 1, 0, 1, 0, 0, 1, 0, 0, 1, 1, 1, 0, 1, 0, 1, 1, 1, 1, 1, 1, 1] (Sx.bodyOf Try.f3))) [.blk 2, .to K3, .blk 1, .code (Sx.cat [1, 1, 1, 1, 1, 1, 0, 1, 0, 0, 1, 1] (Sx.bodyOf Try.f3)), .to K1, .blk 0, .code (Sx.cat [1, 1, 1, 1, 1, 1, 1] (Sx.bodyOf Try.f3))] [(0, .slice A n c), (3, .slice (some ⟨k1, 0, none⟩) 2 2), (4, .slice (some ⟨k2, 0, none⟩) 2 2), (5, .slice Ap np cp), (6, .slice Aq np cq), (7, .int .i64 ((aa : Nat) : Int)), (8, .int .i64 ((i : Nat) : Int)), (9, .pointer (some ⟨sx, 0, none⟩)), (10, .pointer (some ⟨bx, 0, none⟩)), (11, .int .i64 (nn i)), (76, .int .i64 ((kd i) % ((9 : Nat) : Int))), (127, .bool (((kd i) % ((9 : Nat) : Int)) == (3 : Int)))] fun b10 => ?_
      refine Sx.br 0 (((kd i) % ((9 : Nat) : Int)) == (3 : Int)) (fun h_c127 => ?_) (fun h_c127 => ?_)
      · skip
        have p_c79 := Gx.k0 h_c79
        have p_c87 := Gx.k0 h_c87
        have p_c107 := Gx.k0 h_c107
        have p_c127 := Gx.k1 h_c127
        refine Sx.c 3 [] H13 (fun Hp R hR => mod_c (nn i) 1000 w7 R Hp (by omega) (by omega) (hR _ _ _ (.refl Hp) fun _ => ?_))
        refine Sx.c 7 [3, 3] H13 (fun Hp R hR => Open_c sx px (segsOf hx) Qx ((nn i) % ((1000 : Nat) : Int)) w7 R Hp hn_hx hb_hx (fun Q5 p5 w15 G10 => hR _ _ _ G10 fun H25 => ?_))
        refine Sx.c 5 [5, 5] H25 (fun Hp R hR => dOpen_c bx hx.length cx Ax hx Rx ((nn i) % ((1000 : Nat) : Int)) w15 R Hp rfl hc_hx (fun n4 cap4 A6 hm4 S6 w16 G11 hf7 hf8 => hR _ _ _ G11 fun H26 => ?_))
        subst hf7
        have H27 := H26
        rw [← hf8] at H27
        have H28 := H27.pick (a := [entI w, .own 23 1 (some ⟨k1, 0, none⟩) 2 2 (two aa sx sz), .own 26 1 (some ⟨k2, 0, none⟩) 2 2 (two aa bx bz), .blk sx (.cells #[.pointer p5] 58), sgI Q5 p5 (segsOf hm4), .blk bx (.cells #[.slice A6 hm4.length cap4] 49), srI S6 A6 cap4 hm4, .blk sz (.cells #[.pointer pz] 58), sgI Qz pz (segsOf hz), .blk bz (.cells #[.slice Az hz.length cz] 49), srI Rz Az cz hz, ppI Rp ps, .own 40 1 Ap cp np (bps ps), .own 47 1 Aq cq np (sls ps)]) [4, 4, 4, 2, 2, 0, 0, 0, 0, 0, 0, 0, 0, 0] (by kernel_rfl)
        exact Sx.to 2 [(0, .slice A n c), (3, .slice (some ⟨k1, 0, none⟩) 2 2), (4, .slice (some ⟨k2, 0, none⟩) 2 2), (5, .slice Ap np cp), (6, .slice Aq np cq), (7, .int .i64 ((aa : Nat) : Int)), (8, .int .i64 ((i : Nat) : Int)), (9, .pointer (some ⟨sx, 0, none⟩)), (10, .pointer (some ⟨bx, 0, none⟩))] (hK3 _ _ _ ⟨aa, p5, Q5, A6, cap4, hm4, S6, np, ps, Rp, Ap, cp, Aq, cq, rfl, H28, (.inl rfl), (by rw [hf8]; exact hBx.open _), (by rw [hf8]; have := siz_open (segsOf hx) (nn i % ((1000 : Nat) : Int)); omega), (fun x hx => Nat.le_trans (hps x hx) (by omega)), hnp, (by omega)⟩)
      refine Sx.nz 6 (.code (Sx.cat [1, 1, 1, 1, 1, 1, 0, 1, 0, 0, 1, 0, 0, 1, 1, 1, 0, 1, 0, 1, 1, 1, 1, 1, 1, 1, 1, 1] (Sx.bodyOf Try.f3))) [.blk 2, .to K3, .blk 1, .code (Sx.cat [1, 1, 1, 1, 1, 1, 0, 1, 0, 0, 1, 1] (Sx.bodyOf Try.f3)), .to K1, .blk 0, .code (Sx.cat [1, 1, 1, 1, 1, 1, 1] (Sx.bodyOf Try.f3))] [(0, .slice A n c), (3, .slice (some ⟨k1, 0, none⟩) 2 2), (4, .slice (some ⟨k2, 0, none⟩) 2 2), (5, .slice Ap np cp), (6, .slice Aq np cq), (7, .int .i64 ((aa : Nat) : Int)), (8, .int .i64 ((i : Nat) : Int)), (9, .pointer (some ⟨sx, 0, none⟩)), (10, .pointer (some ⟨bx, 0, none⟩)), (11, .int .i64 (nn i)), (76, .int .i64 ((kd i) % ((9 : Nat) : Int))), (137, .bool (((kd i) % ((9 : Nat) : Int)) == (4 : Int)))] fun b11 => ?_
      refine Sx.br 0 (((kd i) % ((9 : Nat) : Int)) == (4 : Int)) (fun h_c137 => ?_) (fun h_c137 => ?_)
      · skip
        have p_c79 := Gx.k0 h_c79
        have p_c87 := Gx.k0 h_c87
        have p_c107 := Gx.k0 h_c107
        have p_c127 := Gx.k0 h_c127
        have p_c137 := Gx.k1 h_c137
        refine Or.elim (Bool.eq_false_or_eq_true (closeM (segsOf hx)).2.2.1).symm (fun hcl => ?_) (fun hcl => ?_)
        · skip
          refine Sx.c 3 [3, 3] H13 (fun Hp R hR => Close_c sx px (segsOf hx) Qx  w7 R Hp hn_hx hb_hx (fun Q6 p6 w17 G12 => hR _ _ _ G12 fun H29 => ?_))
          refine Sx.v 5 (.bool (closeM (segsOf hx)).2.2.1) (.bool false) (congrArg Value.bool hcl) ?_
          refine Sx.c 6 [5, 5] H29 (fun Hp R hR => dClose_c bx hx.length cx Ax hx Rx  w17 R Hp rfl hm_hx hc_hx (fun n5 cap5 A7 hm5 S7 w18 G13 hf9 hf10 => hR _ _ _ G13 fun H30 => ?_))
          subst hf9
          refine Sx.v 5 (.bool (closeM (segsOf hx)).2.2.1) (.bool false) (congrArg Value.bool hcl) ?_
          refine Sx.nz 3 (.code (Sx.cat [1, 1, 1, 1, 1, 1, 0, 1, 0, 0, 1, 0, 0, 1, 1, 1, 0, 1, 0, 1, 1, 1, 1, 1, 1, 1, 1, 1, 0, 1, 1] (Sx.bodyOf Try.f3))) [.blk 2, .to K3, .blk 1, .code (Sx.cat [1, 1, 1, 1, 1, 1, 0, 1, 0, 0, 1, 1] (Sx.bodyOf Try.f3)), .to K1, .blk 0, .code (Sx.cat [1, 1, 1, 1, 1, 1, 1] (Sx.bodyOf Try.f3))] [(0, .slice A n c), (3, .slice (some ⟨k1, 0, none⟩) 2 2), (4, .slice (some ⟨k2, 0, none⟩) 2 2), (5, .slice Ap np cp), (6, .slice Aq np cq), (7, .int .i64 ((aa : Nat) : Int)), (8, .int .i64 ((i : Nat) : Int)), (9, .pointer (some ⟨sx, 0, none⟩)), (10, .pointer (some ⟨bx, 0, none⟩)), (20, .int .i64 ((closeM (segsOf hx)).2.1)), (21, .bool false), (22, .bool ((closeM (segsOf hx)).2.2.2)), (23, .int .i64 ((closeM (segsOf hx)).2.1)), (24, .bool false), (25, .bool ((closeM (segsOf hx)).2.2.2))] fun b12 => ?_
          refine Sx.v 4 (.bool (!(false == false))) (.bool false) (congrArg Value.bool (by simp)) ?_
          refine Sx.v 3 (.bool (!(((closeM (segsOf hx)).2.2.2) == ((closeM (segsOf hx)).2.2.2)))) (.bool false) (congrArg Value.bool (by simp)) ?_
          have H31 := H30
          rw [← hf10] at H31
          have H32 := H31.pick (a := [entI w, .own 23 1 (some ⟨k1, 0, none⟩) 2 2 (two aa sx sz), .own 26 1 (some ⟨k2, 0, none⟩) 2 2 (two aa bx bz), .blk sx (.cells #[.pointer p6] 58), sgI Q6 p6 (segsOf hm5), .blk bx (.cells #[.slice A7 hm5.length cap5] 49), srI S7 A7 cap5 hm5, .blk sz (.cells #[.pointer pz] 58), sgI Qz pz (segsOf hz), .blk bz (.cells #[.slice Az hz.length cz] 49), srI Rz Az cz hz, ppI Rp ps, .own 40 1 Ap cp np (bps ps), .own 47 1 Aq cq np (sls ps)]) [4, 4, 4, 2, 2, 0, 0, 0, 0, 0, 0, 0, 0, 0] (by kernel_rfl)
          exact Sx.to 14 [(0, .slice A n c), (3, .slice (some ⟨k1, 0, none⟩) 2 2), (4, .slice (some ⟨k2, 0, none⟩) 2 2), (5, .slice Ap np cp), (6, .slice Aq np cq), (7, .int .i64 ((aa : Nat) : Int)), (8, .int .i64 ((i : Nat) : Int)), (9, .pointer (some ⟨sx, 0, none⟩)), (10, .pointer (some ⟨bx, 0, none⟩))] (hK3 _ _ _ ⟨aa, p6, Q6, A7, cap5, hm5, S7, np, ps, Rp, Ap, cp, Aq, cq, rfl, H32, (.inl rfl), (by rw [hf10]; exact hBx.close), (by rw [hf10]; have := siz_close (segsOf hx); omega), (fun x hx => Nat.le_trans (hps x hx) (by omega)), hnp, (by omega)⟩)
        refine Sx.c 3 [3, 3] H13 (fun Hp R hR => Close_c sx px (segsOf hx) Qx  w7 R Hp hn_hx hb_hx (fun Q7 p7 w19 G14 => hR _ _ _ G14 fun H33 => ?_))
        refine Sx.v 5 (.bool (closeM (segsOf hx)).2.2.1) (.bool true) (congrArg Value.bool hcl) ?_
        refine Sx.nz 3 (.code (Sx.cat [1, 1, 1, 1, 1, 1, 0, 1, 0, 0, 1, 0, 0, 1, 1, 1, 0, 1, 0, 1, 1, 1, 1, 1, 1, 1, 1, 1, 0, 1] (Sx.bodyOf Try.f3))) [.blk 2, .to K3, .blk 1, .code (Sx.cat [1, 1, 1, 1, 1, 1, 0, 1, 0, 0, 1, 1] (Sx.bodyOf Try.f3)), .to K1, .blk 0, .code (Sx.cat [1, 1, 1, 1, 1, 1, 1] (Sx.bodyOf Try.f3))] [(0, .slice A n c), (3, .slice (some ⟨k1, 0, none⟩) 2 2), (4, .slice (some ⟨k2, 0, none⟩) 2 2), (5, .slice Ap np cp), (6, .slice Aq np cq), (7, .int .i64 ((aa : Nat) : Int)), (8, .int .i64 ((i : Nat) : Int)), (9, .pointer (some ⟨sx, 0, none⟩)), (10, .pointer (some ⟨bx, 0, none⟩)), (20, .int .i64 ((closeM (segsOf hx)).2.1)), (21, .bool true), (22, .bool ((closeM (segsOf hx)).2.2.2))] fun b13 => ?_
        refine Sx.c 3 [5, 5] H33 (fun Hp R hR => dClose_c bx hx.length cx Ax hx Rx  w19 R Hp rfl hm_hx hc_hx (fun n6 cap6 A8 hm6 S8 w20 G15 hf11 hf12 => hR _ _ _ G15 fun H34 => ?_))
        subst hf11
        refine Sx.v 5 (.bool (closeM (segsOf hx)).2.2.1) (.bool true) (congrArg Value.bool hcl) ?_
        refine Sx.v 7 (.bool (!(true == true))) (.bool false) (congrArg Value.bool (by simp)) ?_
        refine Sx.v 3 (.bool (!(((closeM (segsOf hx)).2.2.2) == ((closeM (segsOf hx)).2.2.2)))) (.bool false) (congrArg Value.bool (by simp)) ?_
        refine Sx.v 6 (.bool ((closeM (segsOf hx)).2.1 != (closeM (segsOf hx)).2.1)) (.bool false) (congrArg Value.bool (by simp)) ?_
        have H35 := H34
        rw [← hf12] at H35
        have H36 := H35.pick (a := [entI w, .own 23 1 (some ⟨k1, 0, none⟩) 2 2 (two aa sx sz), .own 26 1 (some ⟨k2, 0, none⟩) 2 2 (two aa bx bz), .blk sx (.cells #[.pointer p7] 58), sgI Q7 p7 (segsOf hm6), .blk bx (.cells #[.slice A8 hm6.length cap6] 49), srI S8 A8 cap6 hm6, .blk sz (.cells #[.pointer pz] 58), sgI Qz pz (segsOf hz), .blk bz (.cells #[.slice Az hz.length cz] 49), srI Rz Az cz hz, ppI Rp ps, .own 40 1 Ap cp np (bps ps), .own 47 1 Aq cq np (sls ps)]) [4, 4, 4, 2, 2, 0, 0, 0, 0, 0, 0, 0, 0, 0] (by kernel_rfl)
        exact Sx.to 7 [(0, .slice A n c), (3, .slice (some ⟨k1, 0, none⟩) 2 2), (4, .slice (some ⟨k2, 0, none⟩) 2 2), (5, .slice Ap np cp), (6, .slice Aq np cq), (7, .int .i64 ((aa : Nat) : Int)), (8, .int .i64 ((i : Nat) : Int)), (9, .pointer (some ⟨sx, 0, none⟩)), (10, .pointer (some ⟨bx, 0, none⟩))] (hK3 _ _ _ ⟨aa, p7, Q7, A8, cap6, hm6, S8, np, ps, Rp, Ap, cp, Aq, cq, rfl, H36, (.inl rfl), (by rw [hf12]; exact hBx.close), (by rw [hf12]; have := siz_close (segsOf hx); omega), (fun x hx => Nat.le_trans (hps x hx) (by omega)), hnp, (by omega)⟩)
      refine Sx.nz 6 (.code (Sx.cat [1, 1, 1, 1, 1, 1, 0, 1, 0, 0, 1, 0, 0, 1, 1, 1, 0, 1, 0, 1, 1, 1, 1, 1, 1, 1, 1, 1, 1, 1] (Sx.bodyOf Try.f3))) [.blk 2, .to K3, .blk 1, .code (Sx.cat [1, 1, 1, 1, 1, 1, 0, 1, 0, 0, 1, 1] (Sx.bodyOf Try.f3)), .to K1, .blk 0, .code (Sx.cat [1, 1, 1, 1, 1, 1, 1] (Sx.bodyOf Try.f3))] [(0, .slice A n c), (3, .slice (some ⟨k1, 0, none⟩) 2 2), (4, .slice (some ⟨k2, 0, none⟩) 2 2), (5, .slice Ap np cp), (6, .slice Aq np cq), (7, .int .i64 ((aa : Nat) : Int)), (8, .int .i64 ((i : Nat) : Int)), (9, .pointer (some ⟨sx, 0, none⟩)), (10, .pointer (some ⟨bx, 0, none⟩)), (11, .int .i64 (nn i)), (76, .int .i64 ((kd i) % ((9 : Nat) : Int))), (167, .bool (((kd i) % ((9 : Nat) : Int)) == (5 : Int)))] fun b14 => ?_
      refine Sx.br 0 (((kd i) % ((9 : Nat) : Int)) == (5 : Int)) (fun h_c167 => ?_) (fun h_c167 => ?_)
      · skip
        have p_c79 := Gx.k0 h_c79
        have p_c87 := Gx.k0 h_c87
        have p_c107 := Gx.k0 h_c107
        have p_c127 := Gx.k0 h_c127
        have p_c137 := Gx.k0 h_c137
        have p_c167 := Gx.k1 h_c167
        refine Sx.c 3 [] H13 (fun Hp R hR => mod_c (nn i) 3 w7 R Hp (by omega) (by omega) (hR _ _ _ (.refl Hp) fun _ => ?_))
        refine Sx.nw 0 H13 fun k3 w21 H37 => ?_
        refine Sx.s 0 14 H37 fun w22 H38 => ?_
        refine Sx.c 5 [] H38 (fun Hp R hR => mod_c (nn i) 6 w22 R Hp (by omega) (by omega) (hR _ _ _ (.refl Hp) fun _ => ?_))
        refine Sx.nw 6 H38 fun k4 w23 H39 => ?_
        have H40 := H39.add (Gx.Ext.refl _) (it := .own 3 1 none 0 0 []) (World.ownsRow_nil _ _ _ _) (fun _ h => by cases h)
        refine cut_or ((nn i) % ((3 : Nat) : Int)) (segsOf hx).reverse (fun hc => ?_) (fun r1 s rm hc => ?_)
        · skip
          refine Sx.c 7 [3, 3, 13, 13, 12] H40 (fun Hp R hR => cutN_c sx px (segsOf hx) Qx k4 k3 ((nn i) % ((3 : Nat) : Int)) (decide (((nn i) % ((6 : Nat) : Int)) < (3 : Int))) w23 R Hp hb_hx hc (fun A9 c1 w24 G16 => hR _ _ _ G16 fun H41 => ?_))
          refine Sx.nz 9 (.code (Sx.cat [1, 1, 1, 1, 1, 1, 0, 1, 0, 0, 1, 0, 0, 1, 1, 1, 0, 1, 0, 1, 1, 1, 1, 1, 1, 1, 1, 1, 1, 1, 0, 1, 1, 1, 1] (Sx.bodyOf Try.f3))) [.blk 2, .to K3, .blk 1, .code (Sx.cat [1, 1, 1, 1, 1, 1, 0, 1, 0, 0, 1, 1] (Sx.bodyOf Try.f3)), .to K1, .blk 0, .code (Sx.cat [1, 1, 1, 1, 1, 1, 1] (Sx.bodyOf Try.f3))] [(0, .slice A n c), (3, .slice (some ⟨k1, 0, none⟩) 2 2), (4, .slice (some ⟨k2, 0, none⟩) 2 2), (5, .slice Ap np cp), (6, .slice Aq np cq), (7, .int .i64 ((aa : Nat) : Int)), (8, .int .i64 ((i : Nat) : Int)), (9, .pointer (some ⟨sx, 0, none⟩)), (10, .pointer (some ⟨bx, 0, none⟩)), (26, .pointer (some ⟨k3, 0, none⟩)), (27, .bool (decide (((nn i) % ((6 : Nat) : Int)) < (3 : Int)))), (28, .pointer (some ⟨k4, 0, none⟩)), (29, .pointer none), (30, .int .i64 0), (31, .bool false)] fun b15 => ?_
          refine Sx.l 5 8 H41 ?_
          refine Sx.c 0 [9] H41 (fun Hp R hR => Flat_c (srI Rx Ax cx hx) Ax hx.length cx hx w24 R Hp sy_sr rfl hc_hx (fun Af1 cf1 nf1 Af2 cf2 nf2 w25 G17 hf13 hf14 => hR _ _ _ G17 fun H42 => ?_))
          refine Sx.l 10 7 H42 ?_
          refine Sx.c 1 [11, 2] H42 (fun Hp R hR => dcutN_c bx hx.length cx Ax hx Rx ((nn i) % ((3 : Nat) : Int)) (decide (((nn i) % ((6 : Nat) : Int)) < (3 : Int))) w25 R Hp rfl hm_hx hc_hx hc (fun w26 G18 => hR _ _ _ G18 fun H43 => ?_))
          refine Sx.v 14 (.bool (!(false == false))) (.bool false) (congrArg Value.bool (by simp)) ?_
          have H44 := H43.pick (a := [.blk bx (.cells #[.slice Ax hx.length cx] 49), srI Rx Ax cx hx, .own 52 2 Af1 cf1 nf1 (prs (allF 0 (segsOf hx))), .own 52 2 Af2 cf2 nf2 (prs (tagsF 0 (segsOf hx))), .blk sx (.cells #[.pointer px] 58), sgI Qx px (segsOf hx), .blk k4 (.cells #[.slice A9 ((askR ((nn i) % ((3 : Nat) : Int)) (segsOf hx).reverse).length) c1] 39), .own 3 1 A9 c1 ((askR ((nn i) % ((3 : Nat) : Int)) (segsOf hx).reverse).length) (ints (askR ((nn i) % ((3 : Nat) : Int)) (segsOf hx).reverse)), .blk k3 (.cells #[.int .i64 ((nn i) % ((3 : Nat) : Int))] 3), entI w, .own 23 1 (some ⟨k1, 0, none⟩) 2 2 (two aa sx sz), .own 26 1 (some ⟨k2, 0, none⟩) 2 2 (two aa bx bz), .blk sz (.cells #[.pointer pz] 58), sgI Qz pz (segsOf hz), .blk bz (.cells #[.slice Az hz.length cz] 49), srI Rz Az cz hz, ppI Rp ps, .own 40 1 Ap cp np (bps ps), .own 47 1 Aq cq np (sls ps)]) [0, 0, 0, 0, 0, 0, 0, 0, 0, 0, 0, 0, 0, 0, 0, 0, 0, 0, 0] (by kernel_rfl)
          refine Sx.lp 28 (fun z l' w' => ∃ (j : Nat), l' = [(0, .slice A n c), (3, .slice (some ⟨k1, 0, none⟩) 2 2), (4, .slice (some ⟨k2, 0, none⟩) 2 2), (5, .slice Ap np cp), (6, .slice Aq np cq), (7, .int .i64 ((aa : Nat) : Int)), (8, .int .i64 ((i : Nat) : Int)), (9, .pointer (some ⟨sx, 0, none⟩)), (10, .pointer (some ⟨bx, 0, none⟩)), (26, .pointer (some ⟨k3, 0, none⟩)), (28, .pointer (some ⟨k4, 0, none⟩)), (29, .pointer none), (33, .slice Af2 nf2 cf2), (34, .slice none 0 0), (36, .bool false), (37, .int .i64 ((j : Nat) : Int))] ∧ z = (askR ((nn i) % ((3 : Nat) : Int)) (segsOf hx).reverse).length - j ∧ Hs w L0 w' [.blk bx (.cells #[.slice Ax hx.length cx] 49), srI Rx Ax cx hx, .own 52 2 Af1 cf1 nf1 (prs (allF 0 (segsOf hx))), .own 52 2 Af2 cf2 nf2 (prs (tagsF 0 (segsOf hx))), .blk sx (.cells #[.pointer px] 58), sgI Qx px (segsOf hx), .blk k4 (.cells #[.slice A9 ((askR ((nn i) % ((3 : Nat) : Int)) (segsOf hx).reverse).length) c1] 39), .own 3 1 A9 c1 ((askR ((nn i) % ((3 : Nat) : Int)) (segsOf hx).reverse).length) (ints (askR ((nn i) % ((3 : Nat) : Int)) (segsOf hx).reverse)), .blk k3 (.cells #[.int .i64 ((nn i) % ((3 : Nat) : Int))] 3), entI w, .own 23 1 (some ⟨k1, 0, none⟩) 2 2 (two aa sx sz), .own 26 1 (some ⟨k2, 0, none⟩) 2 2 (two aa bx bz), .blk sz (.cells #[.pointer pz] 58), sgI Qz pz (segsOf hz), .blk bz (.cells #[.slice Az hz.length cz] 49), srI Rz Az cz hz, ppI Rp ps, .own 40 1 Ap cp np (bps ps), .own 47 1 Aq cq np (sls ps)]) _ [(0, .slice A n c), (3, .slice (some ⟨k1, 0, none⟩) 2 2), (4, .slice (some ⟨k2, 0, none⟩) 2 2), (5, .slice Ap np cp), (6, .slice Aq np cq), (7, .int .i64 ((aa : Nat) : Int)), (8, .int .i64 ((i : Nat) : Int)), (9, .pointer (some ⟨sx, 0, none⟩)), (10, .pointer (some ⟨bx, 0, none⟩)), (26, .pointer (some ⟨k3, 0, none⟩)), (28, .pointer (some ⟨k4, 0, none⟩)), (29, .pointer none), (33, .slice Af2 nf2 cf2), (34, .slice none 0 0), (36, .bool false), (37, .int .i64 ((0 : Nat) : Int))] ⟨0, rfl, rfl, H44⟩ (fun b16 z2 l4 w27 hI4 K4 hK4 => ?_)
          obtain ⟨j, rfl, rfl, H45⟩ := hI4
          refine Or.elim (Nat.lt_or_ge (j + 1) (askR ((nn i) % ((3 : Nat) : Int)) (segsOf hx).reverse).length) (fun hj1 => ?_) (fun hj1 => ?_)
          · skip
            refine Sx.l 4 6 H45 ?_
            refine Sx.v 1 (.bool (decide (((j : Nat) : Int) < (((askR ((nn i) % ((3 : Nat) : Int)) (segsOf hx).reverse).length : Nat) : Int)))) (.bool true) (congrArg Value.bool (decide_eq_true (by omega))) ?_
            obtain ⟨f, hf⟩ : ∃ f, (askR ((nn i) % ((3 : Nat) : Int)) (segsOf hx).reverse)[j]? = some f := ⟨_, List.getElem?_eq_getElem (by omega)⟩
            obtain ⟨ta, hT⟩ := ask_at hf; rw [← hf14] at hT
            have hlt := (List.getElem?_eq_some_iff.1 hT).1; rw [← hf14] at hlt
            have hle := ask_le ((nn i) % ((3 : Nat) : Int)) (segsOf hx); rw [← hf14] at hle; have hnl := tagsF_len 0 (segsOf hx); rw [← hf14] at hnl
            obtain ⟨g1, hg1⟩ := H45.row 7 (A := A9) (e := 3) (sz := 1) (cap := c1) (n := ((askR ((nn i) % ((3 : Nat) : Int)) (segsOf hx).reverse).length)) (xs := (ints (askR ((nn i) % ((3 : Nat) : Int)) (segsOf hx).reverse))) (by kernel_rfl) (by omega)
            subst hg1
            obtain ⟨g2, hg2⟩ := H45.row 3 (A := Af2) (e := 52) (sz := 2) (cap := cf2) (n := nf2) (xs := (prs (tagsF 0 (segsOf hx)))) (by kernel_rfl) (by omega)
            subst hg2
            refine Sx.dr 8 H45 [6, 7, 3, 8] [] (LJ := [.blk k4 (.cells #[.slice (some ⟨g1, 0, none⟩) ((askR ((nn i) % ((3 : Nat) : Int)) (segsOf hx).reverse).length) c1] 39), .own 3 1 (some ⟨g1, 0, none⟩) c1 ((askR ((nn i) % ((3 : Nat) : Int)) (segsOf hx).reverse).length) (ints (askR ((nn i) % ((3 : Nat) : Int)) (segsOf hx).reverse)), .own 52 2 (some ⟨g2, 0, none⟩) cf2 nf2 (prs (tagsF 0 (segsOf hx))), .blk k3 (.cells #[.int .i64 ((nn i) % ((3 : Nat) : Int))] 3)]) (by kernel_rfl) fun w28 H46 => ?_
            refine Sx.tk [(0, none), (1, none), (2, none)] (fun _ => (H46.sub [6, 6, 3, 5] (by kernel_rfl))) ?_
            refine Sx.tva 3 [] (.bool (decide (((j : Nat) : Int) ≥ ((nf2 : Nat) : Int)))) (.bool false) (congrArg Value.bool (decide_eq_false (by omega))) (fun _ => (H46.sub [6, 6, 3, 5] (by kernel_rfl))) ?_
            refine Sx.tk [(4, none), (5, some (0, [])), (6, none)] (fun _ => (H46.sub [6, 6, 3, 5] (by kernel_rfl))) ?_
            refine Sx.tvg 7 [] g1 j 1 ((askR ((nn i) % ((3 : Nat) : Int)) (segsOf hx).reverse).length) c1 (by omega) (fun _ => (H46.sub [6, 6, 3, 5] (by kernel_rfl))) ?_
            refine Sx.tvl 8 [] 1 3 1 3 g1 c1 ((askR ((nn i) % ((3 : Nat) : Int)) (segsOf hx).reverse).length) (j * 1) (ints (askR ((nn i) % ((3 : Nat) : Int)) (segsOf hx).reverse)) (.int .i64 f) (ints_ld hf) (fun _ => (H46.sub [6, 6, 3, 5] (by kernel_rfl))) ?_
            refine Sx.tk [(9, none), (10, none), (11, none)] (fun _ => (H46.sub [6, 6, 3, 5] (by kernel_rfl))) ?_
            refine Sx.tva 12 [] (.int .i64 (IntKind.i64.wrap (((nf2 : Nat) : Int) - (1 : Int)))) (.int .i64 ((nf2 - 1 : Nat) : Int)) (congrArg (Value.int .i64) (by rw [IntWalk.i64_in _ (by omega)]; omega)) (fun _ => (H46.sub [6, 6, 3, 5] (by kernel_rfl))) ?_
            refine Sx.tk [(13, none)] (fun _ => (H46.sub [6, 6, 3, 5] (by kernel_rfl))) ?_
            refine Sx.tva 14 [] (.int .i64 (IntKind.i64.wrap (((nf2 - 1 : Nat) : Int) - ((j : Nat) : Int)))) (.int .i64 ((nf2 - 1 - j : Nat) : Int)) (congrArg (Value.int .i64) (by rw [IntWalk.i64_in _ (by omega)]; omega)) (fun _ => (H46.sub [6, 6, 3, 5] (by kernel_rfl))) ?_
            refine Sx.tvg 15 [] g2 (nf2 - 1 - j) 2 nf2 cf2 (by omega) (fun _ => (H46.sub [6, 6, 3, 5] (by kernel_rfl))) ?_
            refine Sx.tk [(16, none)] (fun _ => (H46.sub [6, 6, 3, 5] (by kernel_rfl))) ?_
            refine Sx.tvl 17 [] 2 52 2 3 g2 cf2 nf2 ((nf2 - 1 - j) * 2 + 1) (prs (tagsF 0 (segsOf hx))) (.int .i64 f) (prs_ld1 hT) (fun _ => (H46.sub [6, 6, 3, 5] (by kernel_rfl))) ?_
            refine Sx.tva 18 [] (.bool (f != f)) (.bool false) (congrArg Value.bool (by simp)) (fun _ => (H46.sub [6, 6, 3, 5] (by kernel_rfl))) ?_
            refine Sx.tk [(19, none), (20, none), (21, none), (22, some (0, [])), (23, none)] (fun _ => (H46.sub [6, 6, 3, 5] (by kernel_rfl))) ?_
            refine Sx.tva 24 [] (.int .i64 (IntKind.i64.wrap ((((askR ((nn i) % ((3 : Nat) : Int)) (segsOf hx).reverse).length : Nat) : Int) - (1 : Int)))) (.int .i64 ((((askR ((nn i) % ((3 : Nat) : Int)) (segsOf hx).reverse).length : Nat) : Int) - 1)) (congrArg (Value.int .i64) (IntWalk.i64_in _ (by omega))) (fun _ => (H46.sub [6, 6, 3, 5] (by kernel_rfl))) ?_
            refine Sx.tva 25 [] (.bool (decide (((j : Nat) : Int) < ((((askR ((nn i) % ((3 : Nat) : Int)) (segsOf hx).reverse).length : Nat) : Int) - 1)))) (.bool true) (congrArg Value.bool (decide_eq_true (by omega))) (fun _ => (H46.sub [6, 6, 3, 5] (by kernel_rfl))) ?_
            refine Sx.tk [(26, none), (27, some (0, [])), (28, none)] (fun _ => (H46.sub [6, 6, 3, 5] (by kernel_rfl))) ?_
            refine Sx.tvg 29 [] g1 j 1 ((askR ((nn i) % ((3 : Nat) : Int)) (segsOf hx).reverse).length) c1 (by omega) (fun _ => (H46.sub [6, 6, 3, 5] (by kernel_rfl))) ?_
            refine Sx.tvl 30 [] 1 3 1 3 g1 c1 ((askR ((nn i) % ((3 : Nat) : Int)) (segsOf hx).reverse).length) (j * 1) (ints (askR ((nn i) % ((3 : Nat) : Int)) (segsOf hx).reverse)) (.int .i64 f) (ints_ld hf) (fun _ => (H46.sub [6, 6, 3, 5] (by kernel_rfl))) ?_
            refine Sx.tva 31 [] (.int .i64 (Int.tmod f (3 : Int))) (.int .i64 (Int.tmod f (3 : Int))) (congrArg (Value.int .i64) (rfl)) (fun _ => (H46.sub [6, 6, 3, 5] (by kernel_rfl))) ?_
            refine Sx.tk [(32, some (3, []))] (fun _ => (H46.sub [6, 6, 3, 5] (by kernel_rfl))) ?_
            refine Sx.tva 33 [] (.bool ((Int.tmod f (3 : Int)) == ((nn i) % ((3 : Nat) : Int)))) (.bool false) (congrArg Value.bool (ask_ahead _ _ hf hj1)) (fun _ => (H46.sub [6, 6, 3, 5] (by kernel_rfl))) ?_
            refine Sx.tk [(34, none), (35, none)] (fun _ => (H46.sub [6, 6, 3, 5] (by kernel_rfl))) ?_
            refine Sx.dn ?_
            refine Sx.nz 1 (.code (Sx.cat [1, 1, 1, 1, 1, 1, 0, 1, 0, 0, 1, 0, 0, 1, 1, 1, 0, 1, 0, 1, 1, 1, 1, 1, 1, 1, 1, 1, 1, 1, 0, 1, 1, 1, 1, 1, 1, 1, 0, 1, 0, 0, 1, 0, 0, 1] (Sx.bodyOf Try.f3))) [.blk 4, .code (Sx.cat [1, 1, 1, 1, 1, 1, 0, 1, 0, 0, 1, 0, 0, 1, 1, 1, 0, 1, 0, 1, 1, 1, 1, 1, 1, 1, 1, 1, 1, 1, 0, 1, 1, 1, 1, 1, 1, 1, 0, 1, 0, 0, 1, 1] (Sx.bodyOf Try.f3)), .to K4, .blk 3, .code (Sx.cat [1, 1, 1, 1, 1, 1, 0, 1, 0, 0, 1, 0, 0, 1, 1, 1, 0, 1, 0, 1, 1, 1, 1, 1, 1, 1, 1, 1, 1, 1, 0, 1, 1, 1, 1, 1, 1, 1, 1] (Sx.bodyOf Try.f3)), .blk 2, .to K3, .blk 1, .code (Sx.cat [1, 1, 1, 1, 1, 1, 0, 1, 0, 0, 1, 1] (Sx.bodyOf Try.f3)), .to K1, .blk 0, .code (Sx.cat [1, 1, 1, 1, 1, 1, 1] (Sx.bodyOf Try.f3))] [(0, .slice A n c), (3, .slice (some ⟨k1, 0, none⟩) 2 2), (4, .slice (some ⟨k2, 0, none⟩) 2 2), (5, .slice Ap np cp), (6, .slice Aq np cq), (7, .int .i64 ((aa : Nat) : Int)), (8, .int .i64 ((i : Nat) : Int)), (9, .pointer (some ⟨sx, 0, none⟩)), (10, .pointer (some ⟨bx, 0, none⟩)), (26, .pointer (some ⟨k3, 0, none⟩)), (28, .pointer (some ⟨k4, 0, none⟩)), (29, .pointer none), (33, .slice (some ⟨g2, 0, none⟩) nf2 cf2), (34, .slice none 0 0), (36, .bool false), (37, .int .i64 ((j : Nat) : Int)), (258, .bool false)] fun b17 => ?_
            refine Sx.v 6 (.int .i64 (IntKind.i64.wrap (((j : Nat) : Int) + (1 : Int)))) (.int .i64 ((j + 1 : Nat) : Int)) (congrArg (Value.int .i64) (Gx.i64n (by omega) (by omega))) ?_
            have H47 := H46.pick (a := [.blk bx (.cells #[.slice Ax hx.length cx] 49), srI Rx Ax cx hx, .own 52 2 Af1 cf1 nf1 (prs (allF 0 (segsOf hx))), .own 52 2 (some ⟨g2, 0, none⟩) cf2 nf2 (prs (tagsF 0 (segsOf hx))), .blk sx (.cells #[.pointer px] 58), sgI Qx px (segsOf hx), .blk k4 (.cells #[.slice (some ⟨g1, 0, none⟩) ((askR ((nn i) % ((3 : Nat) : Int)) (segsOf hx).reverse).length) c1] 39), .own 3 1 (some ⟨g1, 0, none⟩) c1 ((askR ((nn i) % ((3 : Nat) : Int)) (segsOf hx).reverse).length) (ints (askR ((nn i) % ((3 : Nat) : Int)) (segsOf hx).reverse)), .blk k3 (.cells #[.int .i64 ((nn i) % ((3 : Nat) : Int))] 3), entI w, .own 23 1 (some ⟨k1, 0, none⟩) 2 2 (two aa sx sz), .own 26 1 (some ⟨k2, 0, none⟩) 2 2 (two aa bx bz), .blk sz (.cells #[.pointer pz] 58), sgI Qz pz (segsOf hz), .blk bz (.cells #[.slice Az hz.length cz] 49), srI Rz Az cz hz, ppI Rp ps, .own 40 1 Ap cp np (bps ps), .own 47 1 Aq cq np (sls ps)]) [0, 0, 0, 0, 0, 0, 0, 0, 0, 0, 0, 0, 0, 0, 0, 0, 0, 0, 0] (by kernel_rfl)
            exact Sx.to 2 [(0, .slice A n c), (3, .slice (some ⟨k1, 0, none⟩) 2 2), (4, .slice (some ⟨k2, 0, none⟩) 2 2), (5, .slice Ap np cp), (6, .slice Aq np cq), (7, .int .i64 ((aa : Nat) : Int)), (8, .int .i64 ((i : Nat) : Int)), (9, .pointer (some ⟨sx, 0, none⟩)), (10, .pointer (some ⟨bx, 0, none⟩)), (26, .pointer (some ⟨k3, 0, none⟩)), (28, .pointer (some ⟨k4, 0, none⟩)), (29, .pointer none), (33, .slice (some ⟨g2, 0, none⟩) nf2 cf2), (34, .slice none 0 0), (36, .bool false), (37, .int .i64 ((j + 1 : Nat) : Int))] (hK4 _ _ _ _ (by omega) ⟨j + 1, rfl, rfl, H47⟩)
          refine Sx.l 4 6 H45 ?_
          refine Sx.v 1 (.bool (decide (((j : Nat) : Int) < (((askR ((nn i) % ((3 : Nat) : Int)) (segsOf hx).reverse).length : Nat) : Int)))) (.bool (decide (((j : Nat) : Int) < (((askR ((nn i) % ((3 : Nat) : Int)) (segsOf hx).reverse).length : Nat) : Int)))) (rfl) ?_
          refine Sx.nz 2 (.code (Sx.cat [1, 1, 1, 1, 1, 1, 0, 1, 0, 0, 1, 0, 0, 1, 1, 1, 0, 1, 0, 1, 1, 1, 1, 1, 1, 1, 1, 1, 1, 1, 0, 1, 1, 1, 1, 1, 1, 1, 0, 1, 0, 0, 0, 1] (Sx.bodyOf Try.f3))) [.code (Sx.cat [1, 1, 1, 1, 1, 1, 0, 1, 0, 0, 1, 0, 0, 1, 1, 1, 0, 1, 0, 1, 1, 1, 1, 1, 1, 1, 1, 1, 1, 1, 0, 1, 1, 1, 1, 1, 1, 1, 0, 1, 0, 0, 1] (Sx.bodyOf Try.f3)), .to K4, .blk 3, .code (Sx.cat [1, 1, 1, 1, 1, 1, 0, 1, 0, 0, 1, 0, 0, 1, 1, 1, 0, 1, 0, 1, 1, 1, 1, 1, 1, 1, 1, 1, 1, 1, 0, 1, 1, 1, 1, 1, 1, 1, 1] (Sx.bodyOf Try.f3)), .blk 2, .to K3, .blk 1, .code (Sx.cat [1, 1, 1, 1, 1, 1, 0, 1, 0, 0, 1, 1] (Sx.bodyOf Try.f3)), .to K1, .blk 0, .code (Sx.cat [1, 1, 1, 1, 1, 1, 1] (Sx.bodyOf Try.f3))] [(0, .slice A n c), (3, .slice (some ⟨k1, 0, none⟩) 2 2), (4, .slice (some ⟨k2, 0, none⟩) 2 2), (5, .slice Ap np cp), (6, .slice Aq np cq), (7, .int .i64 ((aa : Nat) : Int)), (8, .int .i64 ((i : Nat) : Int)), (9, .pointer (some ⟨sx, 0, none⟩)), (10, .pointer (some ⟨bx, 0, none⟩)), (26, .pointer (some ⟨k3, 0, none⟩)), (28, .pointer (some ⟨k4, 0, none⟩)), (29, .pointer none), (33, .slice Af2 nf2 cf2), (34, .slice none 0 0), (36, .bool false), (37, .int .i64 ((j : Nat) : Int)), (220, .bool (decide (((j : Nat) : Int) < (((askR ((nn i) % ((3 : Nat) : Int)) (segsOf hx).reverse).length : Nat) : Int))))] fun b18 => ?_
          refine Sx.br 0 (decide (((j : Nat) : Int) < (((askR ((nn i) % ((3 : Nat) : Int)) (segsOf hx).reverse).length : Nat) : Int))) (fun h_c220 => ?_) (fun h_c220 => ?_)
          · skip
            have p_c220 := of_decide_eq_true h_c220
            obtain ⟨f, hf⟩ : ∃ f, (askR ((nn i) % ((3 : Nat) : Int)) (segsOf hx).reverse)[j]? = some f := ⟨_, List.getElem?_eq_getElem (by omega)⟩
            obtain ⟨ta, hT⟩ := ask_at hf; rw [← hf14] at hT
            have hlt := (List.getElem?_eq_some_iff.1 hT).1; rw [← hf14] at hlt
            have hle := ask_le ((nn i) % ((3 : Nat) : Int)) (segsOf hx); rw [← hf14] at hle; have hnl := tagsF_len 0 (segsOf hx); rw [← hf14] at hnl
            obtain ⟨g3, hg3⟩ := H45.row 7 (A := A9) (e := 3) (sz := 1) (cap := c1) (n := ((askR ((nn i) % ((3 : Nat) : Int)) (segsOf hx).reverse).length)) (xs := (ints (askR ((nn i) % ((3 : Nat) : Int)) (segsOf hx).reverse))) (by kernel_rfl) (by omega)
            subst hg3
            obtain ⟨g4, hg4⟩ := H45.row 3 (A := Af2) (e := 52) (sz := 2) (cap := cf2) (n := nf2) (xs := (prs (tagsF 0 (segsOf hx)))) (by kernel_rfl) (by omega)
            subst hg4
            refine Sx.dr 5 H45 [6, 7, 3] [] (LJ := [.blk k4 (.cells #[.slice (some ⟨g3, 0, none⟩) ((askR ((nn i) % ((3 : Nat) : Int)) (segsOf hx).reverse).length) c1] 39), .own 3 1 (some ⟨g3, 0, none⟩) c1 ((askR ((nn i) % ((3 : Nat) : Int)) (segsOf hx).reverse).length) (ints (askR ((nn i) % ((3 : Nat) : Int)) (segsOf hx).reverse)), .own 52 2 (some ⟨g4, 0, none⟩) cf2 nf2 (prs (tagsF 0 (segsOf hx)))]) (by kernel_rfl) fun w29 H48 => ?_
            refine Sx.tk [(0, none), (1, none), (2, none)] (fun _ => (H48.sub [6, 6, 3] (by kernel_rfl))) ?_
            refine Sx.tva 3 [] (.bool (decide (((j : Nat) : Int) ≥ ((nf2 : Nat) : Int)))) (.bool false) (congrArg Value.bool (decide_eq_false (by omega))) (fun _ => (H48.sub [6, 6, 3] (by kernel_rfl))) ?_
            refine Sx.tk [(4, none), (5, some (0, [])), (6, none)] (fun _ => (H48.sub [6, 6, 3] (by kernel_rfl))) ?_
            refine Sx.tvg 7 [] g3 j 1 ((askR ((nn i) % ((3 : Nat) : Int)) (segsOf hx).reverse).length) c1 (by omega) (fun _ => (H48.sub [6, 6, 3] (by kernel_rfl))) ?_
            refine Sx.tvl 8 [] 1 3 1 3 g3 c1 ((askR ((nn i) % ((3 : Nat) : Int)) (segsOf hx).reverse).length) (j * 1) (ints (askR ((nn i) % ((3 : Nat) : Int)) (segsOf hx).reverse)) (.int .i64 f) (ints_ld hf) (fun _ => (H48.sub [6, 6, 3] (by kernel_rfl))) ?_
            refine Sx.tk [(9, none), (10, none), (11, none)] (fun _ => (H48.sub [6, 6, 3] (by kernel_rfl))) ?_
            refine Sx.tva 12 [] (.int .i64 (IntKind.i64.wrap (((nf2 : Nat) : Int) - (1 : Int)))) (.int .i64 ((nf2 - 1 : Nat) : Int)) (congrArg (Value.int .i64) (by rw [IntWalk.i64_in _ (by omega)]; omega)) (fun _ => (H48.sub [6, 6, 3] (by kernel_rfl))) ?_
            refine Sx.tk [(13, none)] (fun _ => (H48.sub [6, 6, 3] (by kernel_rfl))) ?_
            refine Sx.tva 14 [] (.int .i64 (IntKind.i64.wrap (((nf2 - 1 : Nat) : Int) - ((j : Nat) : Int)))) (.int .i64 ((nf2 - 1 - j : Nat) : Int)) (congrArg (Value.int .i64) (by rw [IntWalk.i64_in _ (by omega)]; omega)) (fun _ => (H48.sub [6, 6, 3] (by kernel_rfl))) ?_
            refine Sx.tvg 15 [] g4 (nf2 - 1 - j) 2 nf2 cf2 (by omega) (fun _ => (H48.sub [6, 6, 3] (by kernel_rfl))) ?_
            refine Sx.tk [(16, none)] (fun _ => (H48.sub [6, 6, 3] (by kernel_rfl))) ?_
            refine Sx.tvl 17 [] 2 52 2 3 g4 cf2 nf2 ((nf2 - 1 - j) * 2 + 1) (prs (tagsF 0 (segsOf hx))) (.int .i64 f) (prs_ld1 hT) (fun _ => (H48.sub [6, 6, 3] (by kernel_rfl))) ?_
            refine Sx.tva 18 [] (.bool (f != f)) (.bool false) (congrArg Value.bool (by simp)) (fun _ => (H48.sub [6, 6, 3] (by kernel_rfl))) ?_
            refine Sx.tk [(19, none), (20, none), (21, none), (22, some (0, [])), (23, none)] (fun _ => (H48.sub [6, 6, 3] (by kernel_rfl))) ?_
            refine Sx.tva 24 [] (.int .i64 (IntKind.i64.wrap ((((askR ((nn i) % ((3 : Nat) : Int)) (segsOf hx).reverse).length : Nat) : Int) - (1 : Int)))) (.int .i64 ((((askR ((nn i) % ((3 : Nat) : Int)) (segsOf hx).reverse).length : Nat) : Int) - 1)) (congrArg (Value.int .i64) (IntWalk.i64_in _ (by omega))) (fun _ => (H48.sub [6, 6, 3] (by kernel_rfl))) ?_
            refine Sx.tva 25 [] (.bool (decide (((j : Nat) : Int) < ((((askR ((nn i) % ((3 : Nat) : Int)) (segsOf hx).reverse).length : Nat) : Int) - 1)))) (.bool false) (congrArg Value.bool (decide_eq_false (by omega))) (fun _ => (H48.sub [6, 6, 3] (by kernel_rfl))) ?_
            refine Sx.tk [(26, none), (27, none), (28, none), (29, none), (30, none), (31, none), (32, none), (33, none), (34, none), (35, none)] (fun _ => (H48.sub [6, 6, 3] (by kernel_rfl))) ?_
            refine Sx.dn ?_
            refine Sx.nz 1 (.code (Sx.cat [1, 1, 1, 1, 1, 1, 0, 1, 0, 0, 1, 0, 0, 1, 1, 1, 0, 1, 0, 1, 1, 1, 1, 1, 1, 1, 1, 1, 1, 1, 0, 1, 1, 1, 1, 1, 1, 1, 0, 1, 0, 0, 1, 0, 0, 1] (Sx.bodyOf Try.f3))) [.blk 4, .code (Sx.cat [1, 1, 1, 1, 1, 1, 0, 1, 0, 0, 1, 0, 0, 1, 1, 1, 0, 1, 0, 1, 1, 1, 1, 1, 1, 1, 1, 1, 1, 1, 0, 1, 1, 1, 1, 1, 1, 1, 0, 1, 0, 0, 1, 1] (Sx.bodyOf Try.f3)), .to K4, .blk 3, .code (Sx.cat [1, 1, 1, 1, 1, 1, 0, 1, 0, 0, 1, 0, 0, 1, 1, 1, 0, 1, 0, 1, 1, 1, 1, 1, 1, 1, 1, 1, 1, 1, 0, 1, 1, 1, 1, 1, 1, 1, 1] (Sx.bodyOf Try.f3)), .blk 2, .to K3, .blk 1, .code (Sx.cat [1, 1, 1, 1, 1, 1, 0, 1, 0, 0, 1, 1] (Sx.bodyOf Try.f3)), .to K1, .blk 0, .code (Sx.cat [1, 1, 1, 1, 1, 1, 1] (Sx.bodyOf Try.f3))] [(0, .slice A n c), (3, .slice (some ⟨k1, 0, none⟩) 2 2), (4, .slice (some ⟨k2, 0, none⟩) 2 2), (5, .slice Ap np cp), (6, .slice Aq np cq), (7, .int .i64 ((aa : Nat) : Int)), (8, .int .i64 ((i : Nat) : Int)), (9, .pointer (some ⟨sx, 0, none⟩)), (10, .pointer (some ⟨bx, 0, none⟩)), (26, .pointer (some ⟨k3, 0, none⟩)), (28, .pointer (some ⟨k4, 0, none⟩)), (29, .pointer none), (33, .slice (some ⟨g4, 0, none⟩) nf2 cf2), (34, .slice none 0 0), (36, .bool false), (37, .int .i64 ((j : Nat) : Int)), (258, .bool false)] fun b19 => ?_
            refine Sx.v 6 (.int .i64 (IntKind.i64.wrap (((j : Nat) : Int) + (1 : Int)))) (.int .i64 ((j + 1 : Nat) : Int)) (congrArg (Value.int .i64) (Gx.i64n (by omega) (by omega))) ?_
            have H49 := H48.pick (a := [.blk bx (.cells #[.slice Ax hx.length cx] 49), srI Rx Ax cx hx, .own 52 2 Af1 cf1 nf1 (prs (allF 0 (segsOf hx))), .own 52 2 (some ⟨g4, 0, none⟩) cf2 nf2 (prs (tagsF 0 (segsOf hx))), .blk sx (.cells #[.pointer px] 58), sgI Qx px (segsOf hx), .blk k4 (.cells #[.slice (some ⟨g3, 0, none⟩) ((askR ((nn i) % ((3 : Nat) : Int)) (segsOf hx).reverse).length) c1] 39), .own 3 1 (some ⟨g3, 0, none⟩) c1 ((askR ((nn i) % ((3 : Nat) : Int)) (segsOf hx).reverse).length) (ints (askR ((nn i) % ((3 : Nat) : Int)) (segsOf hx).reverse)), .blk k3 (.cells #[.int .i64 ((nn i) % ((3 : Nat) : Int))] 3), entI w, .own 23 1 (some ⟨k1, 0, none⟩) 2 2 (two aa sx sz), .own 26 1 (some ⟨k2, 0, none⟩) 2 2 (two aa bx bz), .blk sz (.cells #[.pointer pz] 58), sgI Qz pz (segsOf hz), .blk bz (.cells #[.slice Az hz.length cz] 49), srI Rz Az cz hz, ppI Rp ps, .own 40 1 Ap cp np (bps ps), .own 47 1 Aq cq np (sls ps)]) [0, 0, 0, 0, 0, 0, 0, 0, 0, 0, 0, 0, 0, 0, 0, 0, 0, 0, 0] (by kernel_rfl)
            exact Sx.to 2 [(0, .slice A n c), (3, .slice (some ⟨k1, 0, none⟩) 2 2), (4, .slice (some ⟨k2, 0, none⟩) 2 2), (5, .slice Ap np cp), (6, .slice Aq np cq), (7, .int .i64 ((aa : Nat) : Int)), (8, .int .i64 ((i : Nat) : Int)), (9, .pointer (some ⟨sx, 0, none⟩)), (10, .pointer (some ⟨bx, 0, none⟩)), (26, .pointer (some ⟨k3, 0, none⟩)), (28, .pointer (some ⟨k4, 0, none⟩)), (29, .pointer none), (33, .slice (some ⟨g4, 0, none⟩) nf2 cf2), (34, .slice none 0 0), (36, .bool false), (37, .int .i64 ((j + 1 : Nat) : Int))] (hK4 _ _ _ _ (by omega) ⟨j + 1, rfl, rfl, H49⟩)
          refine Sx.nz 5 (.code (Sx.cat [1, 1, 1, 1, 1, 1, 0, 1, 0, 0, 1, 0, 0, 1, 1, 1, 0, 1, 0, 1, 1, 1, 1, 1, 1, 1, 1, 1, 1, 1, 0, 1, 1, 1, 1, 1, 1, 1, 1] (Sx.bodyOf Try.f3))) [.blk 2, .to K3, .blk 1, .code (Sx.cat [1, 1, 1, 1, 1, 1, 0, 1, 0, 0, 1, 1] (Sx.bodyOf Try.f3)), .to K1, .blk 0, .code (Sx.cat [1, 1, 1, 1, 1, 1, 1] (Sx.bodyOf Try.f3))] [(0, .slice A n c), (3, .slice (some ⟨k1, 0, none⟩) 2 2), (4, .slice (some ⟨k2, 0, none⟩) 2 2), (5, .slice Ap np cp), (6, .slice Aq np cq), (7, .int .i64 ((aa : Nat) : Int)), (8, .int .i64 ((i : Nat) : Int)), (9, .pointer (some ⟨sx, 0, none⟩)), (10, .pointer (some ⟨bx, 0, none⟩)), (28, .pointer (some ⟨k4, 0, none⟩)), (29, .pointer none), (33, .slice Af2 nf2 cf2), (34, .slice none 0 0), (36, .bool false)] fun b20 => ?_
          refine Sx.l 6 6 H45 ?_
          refine Sx.v 3 (.bool ((((askR ((nn i) % ((3 : Nat) : Int)) (segsOf hx).reverse).length : Nat) : Int) != ((nf2 : Nat) : Int))) (.bool false) (congrArg Value.bool (by rw [hf14, ask_len hc]; simp)) ?_
          have p_c220 := of_decide_eq_false h_c220
          have H50 := H45.pick (a := [entI w, .own 23 1 (some ⟨k1, 0, none⟩) 2 2 (two aa sx sz), .own 26 1 (some ⟨k2, 0, none⟩) 2 2 (two aa bx bz), .blk sx (.cells #[.pointer px] 58), sgI Qx px (segsOf hx), .blk bx (.cells #[.slice Ax hx.length cx] 49), srI Rx Ax cx hx, .blk sz (.cells #[.pointer pz] 58), sgI Qz pz (segsOf hz), .blk bz (.cells #[.slice Az hz.length cz] 49), srI Rz Az cz hz, ppI Rp ps, .own 40 1 Ap cp np (bps ps), .own 47 1 Aq cq np (sls ps)]) [9, 9, 9, 4, 4, 0, 0, 5, 5, 5, 5, 5, 5, 5] (by kernel_rfl)
          exact Sx.to 14 [(0, .slice A n c), (3, .slice (some ⟨k1, 0, none⟩) 2 2), (4, .slice (some ⟨k2, 0, none⟩) 2 2), (5, .slice Ap np cp), (6, .slice Aq np cq), (7, .int .i64 ((aa : Nat) : Int)), (8, .int .i64 ((i : Nat) : Int)), (9, .pointer (some ⟨sx, 0, none⟩)), (10, .pointer (some ⟨bx, 0, none⟩))] (hK3 _ _ _ ⟨aa, px, Qx, Ax, cx, hx, Rx, np, ps, Rp, Ap, cp, Aq, cq, rfl, H50, (.inl rfl), hBx, (by omega), (fun x hx => Nat.le_trans (hps x hx) (by omega)), hnp, (by omega)⟩)
        refine Sx.c 7 [3, 3, 13, 13, 12] H40 (fun Hp R hR => cutH_c sx px (segsOf hx) Qx k4 k3 ((nn i) % ((3 : Nat) : Int)) (decide (((nn i) % ((6 : Nat) : Int)) < (3 : Int))) r1 rm s w23 R Hp hb_hx hc (fun p8 Q8 pb1 q1 Qq1 A10 c2 w30 G19 => hR _ _ _ G19 fun H51 => ?_))
        refine Sx.nz 9 (.code (Sx.cat [1, 1, 1, 1, 1, 1, 0, 1, 0, 0, 1, 0, 0, 1, 1, 1, 0, 1, 0, 1, 1, 1, 1, 1, 1, 1, 1, 1, 1, 1, 0, 1, 1, 1, 1] (Sx.bodyOf Try.f3))) [.blk 2, .to K3, .blk 1, .code (Sx.cat [1, 1, 1, 1, 1, 1, 0, 1, 0, 0, 1, 1] (Sx.bodyOf Try.f3)), .to K1, .blk 0, .code (Sx.cat [1, 1, 1, 1, 1, 1, 1] (Sx.bodyOf Try.f3))] [(0, .slice A n c), (3, .slice (some ⟨k1, 0, none⟩) 2 2), (4, .slice (some ⟨k2, 0, none⟩) 2 2), (5, .slice Ap np cp), (6, .slice Aq np cq), (7, .int .i64 ((aa : Nat) : Int)), (8, .int .i64 ((i : Nat) : Int)), (9, .pointer (some ⟨sx, 0, none⟩)), (10, .pointer (some ⟨bx, 0, none⟩)), (26, .pointer (some ⟨k3, 0, none⟩)), (27, .bool (decide (((nn i) % ((6 : Nat) : Int)) < (3 : Int)))), (28, .pointer (some ⟨k4, 0, none⟩)), (29, .pointer (some ⟨pb1, 0, none⟩)), (30, .int .i64 s.tag), (31, .bool true)] fun b21 => ?_
        refine Sx.l 5 10 H51 ?_
        refine Sx.c 0 [11] H51 (fun Hp R hR => Flat_c (srI Rx Ax cx hx) Ax hx.length cx hx w30 R Hp sy_sr rfl hc_hx (fun Af3 cf3 nf3 Af4 cf4 nf4 w31 G20 hf15 hf16 => hR _ _ _ G20 fun H52 => ?_))
        refine Sx.l 10 9 H52 ?_
        refine Sx.c 1 [13, 2] H52 (fun Hp R hR => dcutH_c bx hx.length cx Ax hx Rx ((nn i) % ((3 : Nat) : Int)) (decide (((nn i) % ((6 : Nat) : Int)) < (3 : Int))) r1 rm s w31 R Hp rfl hm_hx hc_hx hc (fun cap7 A11 hm7 S9 c3 A12 hp1 S10 w32 G21 hf17 hf18 => hR _ _ _ G21 fun H53 => ?_))
        refine Sx.v 14 (.bool (!(true == true))) (.bool false) (congrArg Value.bool (by simp)) ?_
        refine Sx.v 5 (.bool (s.tag != s.tag)) (.bool false) (congrArg Value.bool (by simp)) ?_
        have H54 := H53.pick (a := [.blk bx (.cells #[.slice A11 hm7.length cap7] 49), srI S9 A11 cap7 hm7, srI S10 A12 c3 hp1, .own 52 2 Af3 cf3 nf3 (prs (allF 0 (segsOf hx))), .own 52 2 Af4 cf4 nf4 (prs (tagsF 0 (segsOf hx))), .blk sx (.cells #[.pointer p8] 58), sgI Q8 p8 rm.reverse, .blk pb1 (.cells #[.pointer q1] 78), sgI Qq1 q1 (fixS (decide (((nn i) % ((6 : Nat) : Int)) < (3 : Int))) s :: r1.reverse), .blk k4 (.cells #[.slice A10 ((askR ((nn i) % ((3 : Nat) : Int)) (segsOf hx).reverse).length) c2] 39), .own 3 1 A10 c2 ((askR ((nn i) % ((3 : Nat) : Int)) (segsOf hx).reverse).length) (ints (askR ((nn i) % ((3 : Nat) : Int)) (segsOf hx).reverse)), .blk k3 (.cells #[.int .i64 ((nn i) % ((3 : Nat) : Int))] 3), entI w, .own 23 1 (some ⟨k1, 0, none⟩) 2 2 (two aa sx sz), .own 26 1 (some ⟨k2, 0, none⟩) 2 2 (two aa bx bz), .blk sz (.cells #[.pointer pz] 58), sgI Qz pz (segsOf hz), .blk bz (.cells #[.slice Az hz.length cz] 49), srI Rz Az cz hz, ppI Rp ps, .own 40 1 Ap cp np (bps ps), .own 47 1 Aq cq np (sls ps)]) [0, 0, 0, 0, 0, 0, 0, 0, 0, 0, 0, 0, 0, 0, 0, 0, 0, 0, 0, 0, 0, 0] (by kernel_rfl)
        refine Sx.lp 22 (fun z l' w' => ∃ (j : Nat), l' = [(0, .slice A n c), (3, .slice (some ⟨k1, 0, none⟩) 2 2), (4, .slice (some ⟨k2, 0, none⟩) 2 2), (5, .slice Ap np cp), (6, .slice Aq np cq), (7, .int .i64 ((aa : Nat) : Int)), (8, .int .i64 ((i : Nat) : Int)), (9, .pointer (some ⟨sx, 0, none⟩)), (10, .pointer (some ⟨bx, 0, none⟩)), (26, .pointer (some ⟨k3, 0, none⟩)), (28, .pointer (some ⟨k4, 0, none⟩)), (29, .pointer (some ⟨pb1, 0, none⟩)), (33, .slice Af4 nf4 cf4), (34, .slice A12 hp1.length c3), (36, .bool true), (37, .int .i64 ((j : Nat) : Int))] ∧ z = (askR ((nn i) % ((3 : Nat) : Int)) (segsOf hx).reverse).length - j ∧ Hs w L0 w' [.blk bx (.cells #[.slice A11 hm7.length cap7] 49), srI S9 A11 cap7 hm7, srI S10 A12 c3 hp1, .own 52 2 Af3 cf3 nf3 (prs (allF 0 (segsOf hx))), .own 52 2 Af4 cf4 nf4 (prs (tagsF 0 (segsOf hx))), .blk sx (.cells #[.pointer p8] 58), sgI Q8 p8 rm.reverse, .blk pb1 (.cells #[.pointer q1] 78), sgI Qq1 q1 (fixS (decide (((nn i) % ((6 : Nat) : Int)) < (3 : Int))) s :: r1.reverse), .blk k4 (.cells #[.slice A10 ((askR ((nn i) % ((3 : Nat) : Int)) (segsOf hx).reverse).length) c2] 39), .own 3 1 A10 c2 ((askR ((nn i) % ((3 : Nat) : Int)) (segsOf hx).reverse).length) (ints (askR ((nn i) % ((3 : Nat) : Int)) (segsOf hx).reverse)), .blk k3 (.cells #[.int .i64 ((nn i) % ((3 : Nat) : Int))] 3), entI w, .own 23 1 (some ⟨k1, 0, none⟩) 2 2 (two aa sx sz), .own 26 1 (some ⟨k2, 0, none⟩) 2 2 (two aa bx bz), .blk sz (.cells #[.pointer pz] 58), sgI Qz pz (segsOf hz), .blk bz (.cells #[.slice Az hz.length cz] 49), srI Rz Az cz hz, ppI Rp ps, .own 40 1 Ap cp np (bps ps), .own 47 1 Aq cq np (sls ps)]) _ [(0, .slice A n c), (3, .slice (some ⟨k1, 0, none⟩) 2 2), (4, .slice (some ⟨k2, 0, none⟩) 2 2), (5, .slice Ap np cp), (6, .slice Aq np cq), (7, .int .i64 ((aa : Nat) : Int)), (8, .int .i64 ((i : Nat) : Int)), (9, .pointer (some ⟨sx, 0, none⟩)), (10, .pointer (some ⟨bx, 0, none⟩)), (26, .pointer (some ⟨k3, 0, none⟩)), (28, .pointer (some ⟨k4, 0, none⟩)), (29, .pointer (some ⟨pb1, 0, none⟩)), (33, .slice Af4 nf4 cf4), (34, .slice A12 hp1.length c3), (36, .bool true), (37, .int .i64 ((0 : Nat) : Int))] ⟨0, rfl, rfl, H54⟩ (fun b22 z3 l5 w33 hI5 K5 hK5 => ?_)
        obtain ⟨j, rfl, rfl, H55⟩ := hI5
        refine Or.elim (Nat.lt_or_ge (j + 1) (askR ((nn i) % ((3 : Nat) : Int)) (segsOf hx).reverse).length) (fun hj1 => ?_) (fun hj1 => ?_)
        · skip
          refine Sx.l 4 9 H55 ?_
          refine Sx.v 1 (.bool (decide (((j : Nat) : Int) < (((askR ((nn i) % ((3 : Nat) : Int)) (segsOf hx).reverse).length : Nat) : Int)))) (.bool true) (congrArg Value.bool (decide_eq_true (by omega))) ?_
          obtain ⟨f, hf⟩ : ∃ f, (askR ((nn i) % ((3 : Nat) : Int)) (segsOf hx).reverse)[j]? = some f := ⟨_, List.getElem?_eq_getElem (by omega)⟩
          obtain ⟨ta, hT⟩ := ask_at hf; rw [← hf16] at hT
          have hlt := (List.getElem?_eq_some_iff.1 hT).1; rw [← hf16] at hlt
          have hle := ask_le ((nn i) % ((3 : Nat) : Int)) (segsOf hx); rw [← hf16] at hle; have hnl := tagsF_len 0 (segsOf hx); rw [← hf16] at hnl
          obtain ⟨g5, hg5⟩ := H55.row 10 (A := A10) (e := 3) (sz := 1) (cap := c2) (n := ((askR ((nn i) % ((3 : Nat) : Int)) (segsOf hx).reverse).length)) (xs := (ints (askR ((nn i) % ((3 : Nat) : Int)) (segsOf hx).reverse))) (by kernel_rfl) (by omega)
          subst hg5
          obtain ⟨g6, hg6⟩ := H55.row 4 (A := Af4) (e := 52) (sz := 2) (cap := cf4) (n := nf4) (xs := (prs (tagsF 0 (segsOf hx)))) (by kernel_rfl) (by omega)
          subst hg6
          refine Sx.dr 8 H55 [9, 10, 4, 11] [] (LJ := [.blk k4 (.cells #[.slice (some ⟨g5, 0, none⟩) ((askR ((nn i) % ((3 : Nat) : Int)) (segsOf hx).reverse).length) c2] 39), .own 3 1 (some ⟨g5, 0, none⟩) c2 ((askR ((nn i) % ((3 : Nat) : Int)) (segsOf hx).reverse).length) (ints (askR ((nn i) % ((3 : Nat) : Int)) (segsOf hx).reverse)), .own 52 2 (some ⟨g6, 0, none⟩) cf4 nf4 (prs (tagsF 0 (segsOf hx))), .blk k3 (.cells #[.int .i64 ((nn i) % ((3 : Nat) : Int))] 3)]) (by kernel_rfl) fun w34 H56 => ?_
          refine Sx.tk [(0, none), (1, none), (2, none)] (fun _ => (H56.sub [9, 9, 4, 8] (by kernel_rfl))) ?_
          refine Sx.tva 3 [] (.bool (decide (((j : Nat) : Int) ≥ ((nf4 : Nat) : Int)))) (.bool false) (congrArg Value.bool (decide_eq_false (by omega))) (fun _ => (H56.sub [9, 9, 4, 8] (by kernel_rfl))) ?_
          refine Sx.tk [(4, none), (5, some (0, [])), (6, none)] (fun _ => (H56.sub [9, 9, 4, 8] (by kernel_rfl))) ?_
          refine Sx.tvg 7 [] g5 j 1 ((askR ((nn i) % ((3 : Nat) : Int)) (segsOf hx).reverse).length) c2 (by omega) (fun _ => (H56.sub [9, 9, 4, 8] (by kernel_rfl))) ?_
          refine Sx.tvl 8 [] 1 3 1 3 g5 c2 ((askR ((nn i) % ((3 : Nat) : Int)) (segsOf hx).reverse).length) (j * 1) (ints (askR ((nn i) % ((3 : Nat) : Int)) (segsOf hx).reverse)) (.int .i64 f) (ints_ld hf) (fun _ => (H56.sub [9, 9, 4, 8] (by kernel_rfl))) ?_
          refine Sx.tk [(9, none), (10, none), (11, none)] (fun _ => (H56.sub [9, 9, 4, 8] (by kernel_rfl))) ?_
          refine Sx.tva 12 [] (.int .i64 (IntKind.i64.wrap (((nf4 : Nat) : Int) - (1 : Int)))) (.int .i64 ((nf4 - 1 : Nat) : Int)) (congrArg (Value.int .i64) (by rw [IntWalk.i64_in _ (by omega)]; omega)) (fun _ => (H56.sub [9, 9, 4, 8] (by kernel_rfl))) ?_
          refine Sx.tk [(13, none)] (fun _ => (H56.sub [9, 9, 4, 8] (by kernel_rfl))) ?_
          refine Sx.tva 14 [] (.int .i64 (IntKind.i64.wrap (((nf4 - 1 : Nat) : Int) - ((j : Nat) : Int)))) (.int .i64 ((nf4 - 1 - j : Nat) : Int)) (congrArg (Value.int .i64) (by rw [IntWalk.i64_in _ (by omega)]; omega)) (fun _ => (H56.sub [9, 9, 4, 8] (by kernel_rfl))) ?_
          refine Sx.tvg 15 [] g6 (nf4 - 1 - j) 2 nf4 cf4 (by omega) (fun _ => (H56.sub [9, 9, 4, 8] (by kernel_rfl))) ?_
          refine Sx.tk [(16, none)] (fun _ => (H56.sub [9, 9, 4, 8] (by kernel_rfl))) ?_
          refine Sx.tvl 17 [] 2 52 2 3 g6 cf4 nf4 ((nf4 - 1 - j) * 2 + 1) (prs (tagsF 0 (segsOf hx))) (.int .i64 f) (prs_ld1 hT) (fun _ => (H56.sub [9, 9, 4, 8] (by kernel_rfl))) ?_
          refine Sx.tva 18 [] (.bool (f != f)) (.bool false) (congrArg Value.bool (by simp)) (fun _ => (H56.sub [9, 9, 4, 8] (by kernel_rfl))) ?_
          refine Sx.tk [(19, none), (20, none), (21, none), (22, some (0, [])), (23, none)] (fun _ => (H56.sub [9, 9, 4, 8] (by kernel_rfl))) ?_
          refine Sx.tva 24 [] (.int .i64 (IntKind.i64.wrap ((((askR ((nn i) % ((3 : Nat) : Int)) (segsOf hx).reverse).length : Nat) : Int) - (1 : Int)))) (.int .i64 ((((askR ((nn i) % ((3 : Nat) : Int)) (segsOf hx).reverse).length : Nat) : Int) - 1)) (congrArg (Value.int .i64) (IntWalk.i64_in _ (by omega))) (fun _ => (H56.sub [9, 9, 4, 8] (by kernel_rfl))) ?_
          refine Sx.tva 25 [] (.bool (decide (((j : Nat) : Int) < ((((askR ((nn i) % ((3 : Nat) : Int)) (segsOf hx).reverse).length : Nat) : Int) - 1)))) (.bool true) (congrArg Value.bool (decide_eq_true (by omega))) (fun _ => (H56.sub [9, 9, 4, 8] (by kernel_rfl))) ?_
          refine Sx.tk [(26, none), (27, some (0, [])), (28, none)] (fun _ => (H56.sub [9, 9, 4, 8] (by kernel_rfl))) ?_
          refine Sx.tvg 29 [] g5 j 1 ((askR ((nn i) % ((3 : Nat) : Int)) (segsOf hx).reverse).length) c2 (by omega) (fun _ => (H56.sub [9, 9, 4, 8] (by kernel_rfl))) ?_
          refine Sx.tvl 30 [] 1 3 1 3 g5 c2 ((askR ((nn i) % ((3 : Nat) : Int)) (segsOf hx).reverse).length) (j * 1) (ints (askR ((nn i) % ((3 : Nat) : Int)) (segsOf hx).reverse)) (.int .i64 f) (ints_ld hf) (fun _ => (H56.sub [9, 9, 4, 8] (by kernel_rfl))) ?_
          refine Sx.tva 31 [] (.int .i64 (Int.tmod f (3 : Int))) (.int .i64 (Int.tmod f (3 : Int))) (congrArg (Value.int .i64) (rfl)) (fun _ => (H56.sub [9, 9, 4, 8] (by kernel_rfl))) ?_
          refine Sx.tk [(32, some (3, []))] (fun _ => (H56.sub [9, 9, 4, 8] (by kernel_rfl))) ?_
          refine Sx.tva 33 [] (.bool ((Int.tmod f (3 : Int)) == ((nn i) % ((3 : Nat) : Int)))) (.bool false) (congrArg Value.bool (ask_ahead _ _ hf hj1)) (fun _ => (H56.sub [9, 9, 4, 8] (by kernel_rfl))) ?_
          refine Sx.tk [(34, none), (35, none)] (fun _ => (H56.sub [9, 9, 4, 8] (by kernel_rfl))) ?_
          refine Sx.dn ?_
          refine Sx.nz 1 (.code (Sx.cat [1, 1, 1, 1, 1, 1, 0, 1, 0, 0, 1, 0, 0, 1, 1, 1, 0, 1, 0, 1, 1, 1, 1, 1, 1, 1, 1, 1, 1, 1, 0, 1, 1, 1, 1, 1, 1, 1, 0, 1, 0, 0, 1, 0, 0, 1] (Sx.bodyOf Try.f3))) [.blk 4, .code (Sx.cat [1, 1, 1, 1, 1, 1, 0, 1, 0, 0, 1, 0, 0, 1, 1, 1, 0, 1, 0, 1, 1, 1, 1, 1, 1, 1, 1, 1, 1, 1, 0, 1, 1, 1, 1, 1, 1, 1, 0, 1, 0, 0, 1, 1] (Sx.bodyOf Try.f3)), .to K5, .blk 3, .code (Sx.cat [1, 1, 1, 1, 1, 1, 0, 1, 0, 0, 1, 0, 0, 1, 1, 1, 0, 1, 0, 1, 1, 1, 1, 1, 1, 1, 1, 1, 1, 1, 0, 1, 1, 1, 1, 1, 1, 1, 1] (Sx.bodyOf Try.f3)), .blk 2, .to K3, .blk 1, .code (Sx.cat [1, 1, 1, 1, 1, 1, 0, 1, 0, 0, 1, 1] (Sx.bodyOf Try.f3)), .to K1, .blk 0, .code (Sx.cat [1, 1, 1, 1, 1, 1, 1] (Sx.bodyOf Try.f3))] [(0, .slice A n c), (3, .slice (some ⟨k1, 0, none⟩) 2 2), (4, .slice (some ⟨k2, 0, none⟩) 2 2), (5, .slice Ap np cp), (6, .slice Aq np cq), (7, .int .i64 ((aa : Nat) : Int)), (8, .int .i64 ((i : Nat) : Int)), (9, .pointer (some ⟨sx, 0, none⟩)), (10, .pointer (some ⟨bx, 0, none⟩)), (26, .pointer (some ⟨k3, 0, none⟩)), (28, .pointer (some ⟨k4, 0, none⟩)), (29, .pointer (some ⟨pb1, 0, none⟩)), (33, .slice (some ⟨g6, 0, none⟩) nf4 cf4), (34, .slice A12 hp1.length c3), (36, .bool true), (37, .int .i64 ((j : Nat) : Int)), (258, .bool false)] fun b23 => ?_
          refine Sx.v 6 (.int .i64 (IntKind.i64.wrap (((j : Nat) : Int) + (1 : Int)))) (.int .i64 ((j + 1 : Nat) : Int)) (congrArg (Value.int .i64) (Gx.i64n (by omega) (by omega))) ?_
          have H57 := H56.pick (a := [.blk bx (.cells #[.slice A11 hm7.length cap7] 49), srI S9 A11 cap7 hm7, srI S10 A12 c3 hp1, .own 52 2 Af3 cf3 nf3 (prs (allF 0 (segsOf hx))), .own 52 2 (some ⟨g6, 0, none⟩) cf4 nf4 (prs (tagsF 0 (segsOf hx))), .blk sx (.cells #[.pointer p8] 58), sgI Q8 p8 rm.reverse, .blk pb1 (.cells #[.pointer q1] 78), sgI Qq1 q1 (fixS (decide (((nn i) % ((6 : Nat) : Int)) < (3 : Int))) s :: r1.reverse), .blk k4 (.cells #[.slice (some ⟨g5, 0, none⟩) ((askR ((nn i) % ((3 : Nat) : Int)) (segsOf hx).reverse).length) c2] 39), .own 3 1 (some ⟨g5, 0, none⟩) c2 ((askR ((nn i) % ((3 : Nat) : Int)) (segsOf hx).reverse).length) (ints (askR ((nn i) % ((3 : Nat) : Int)) (segsOf hx).reverse)), .blk k3 (.cells #[.int .i64 ((nn i) % ((3 : Nat) : Int))] 3), entI w, .own 23 1 (some ⟨k1, 0, none⟩) 2 2 (two aa sx sz), .own 26 1 (some ⟨k2, 0, none⟩) 2 2 (two aa bx bz), .blk sz (.cells #[.pointer pz] 58), sgI Qz pz (segsOf hz), .blk bz (.cells #[.slice Az hz.length cz] 49), srI Rz Az cz hz, ppI Rp ps, .own 40 1 Ap cp np (bps ps), .own 47 1 Aq cq np (sls ps)]) [0, 0, 0, 0, 0, 0, 0, 0, 0, 0, 0, 0, 0, 0, 0, 0, 0, 0, 0, 0, 0, 0] (by kernel_rfl)
          exact Sx.to 2 [(0, .slice A n c), (3, .slice (some ⟨k1, 0, none⟩) 2 2), (4, .slice (some ⟨k2, 0, none⟩) 2 2), (5, .slice Ap np cp), (6, .slice Aq np cq), (7, .int .i64 ((aa : Nat) : Int)), (8, .int .i64 ((i : Nat) : Int)), (9, .pointer (some ⟨sx, 0, none⟩)), (10, .pointer (some ⟨bx, 0, none⟩)), (26, .pointer (some ⟨k3, 0, none⟩)), (28, .pointer (some ⟨k4, 0, none⟩)), (29, .pointer (some ⟨pb1, 0, none⟩)), (33, .slice (some ⟨g6, 0, none⟩) nf4 cf4), (34, .slice A12 hp1.length c3), (36, .bool true), (37, .int .i64 ((j + 1 : Nat) : Int))] (hK5 _ _ _ _ (by omega) ⟨j + 1, rfl, rfl, H57⟩)
        refine Sx.l 4 9 H55 ?_
        refine Sx.v 1 (.bool (decide (((j : Nat) : Int) < (((askR ((nn i) % ((3 : Nat) : Int)) (segsOf hx).reverse).length : Nat) : Int)))) (.bool (decide (((j : Nat) : Int) < (((askR ((nn i) % ((3 : Nat) : Int)) (segsOf hx).reverse).length : Nat) : Int)))) (rfl) ?_
        refine Sx.nz 2 (.code (Sx.cat [1, 1, 1, 1, 1, 1, 0, 1, 0, 0, 1, 0, 0, 1, 1, 1, 0, 1, 0, 1, 1, 1, 1, 1, 1, 1, 1, 1, 1, 1, 0, 1, 1, 1, 1, 1, 1, 1, 0, 1, 0, 0, 0, 1] (Sx.bodyOf Try.f3))) [.code (Sx.cat [1, 1, 1, 1, 1, 1, 0, 1, 0, 0, 1, 0, 0, 1, 1, 1, 0, 1, 0, 1, 1, 1, 1, 1, 1, 1, 1, 1, 1, 1, 0, 1, 1, 1, 1, 1, 1, 1, 0, 1, 0, 0, 1] (Sx.bodyOf Try.f3)), .to K5, .blk 3, .code (Sx.cat [1, 1, 1, 1, 1, 1, 0, 1, 0, 0, 1, 0, 0, 1, 1, 1, 0, 1, 0, 1, 1, 1, 1, 1, 1, 1, 1, 1, 1, 1, 0, 1, 1, 1, 1, 1, 1, 1, 1] (Sx.bodyOf Try.f3)), .blk 2, .to K3, .blk 1, .code (Sx.cat [1, 1, 1, 1, 1, 1, 0, 1, 0, 0, 1, 1] (Sx.bodyOf Try.f3)), .to K1, .blk 0, .code (Sx.cat [1, 1, 1, 1, 1, 1, 1] (Sx.bodyOf Try.f3))] [(0, .slice A n c), (3, .slice (some ⟨k1, 0, none⟩) 2 2), (4, .slice (some ⟨k2, 0, none⟩) 2 2), (5, .slice Ap np cp), (6, .slice Aq np cq), (7, .int .i64 ((aa : Nat) : Int)), (8, .int .i64 ((i : Nat) : Int)), (9, .pointer (some ⟨sx, 0, none⟩)), (10, .pointer (some ⟨bx, 0, none⟩)), (26, .pointer (some ⟨k3, 0, none⟩)), (28, .pointer (some ⟨k4, 0, none⟩)), (29, .pointer (some ⟨pb1, 0, none⟩)), (33, .slice Af4 nf4 cf4), (34, .slice A12 hp1.length c3), (36, .bool true), (37, .int .i64 ((j : Nat) : Int)), (220, .bool (decide (((j : Nat) : Int) < (((askR ((nn i) % ((3 : Nat) : Int)) (segsOf hx).reverse).length : Nat) : Int))))] fun b24 => ?_
        refine Sx.br 0 (decide (((j : Nat) : Int) < (((askR ((nn i) % ((3 : Nat) : Int)) (segsOf hx).reverse).length : Nat) : Int))) (fun h_c220 => ?_) (fun h_c220 => ?_)
        · skip
          have p_c220 := of_decide_eq_true h_c220
          obtain ⟨f, hf⟩ : ∃ f, (askR ((nn i) % ((3 : Nat) : Int)) (segsOf hx).reverse)[j]? = some f := ⟨_, List.getElem?_eq_getElem (by omega)⟩
          obtain ⟨ta, hT⟩ := ask_at hf; rw [← hf16] at hT
          have hlt := (List.getElem?_eq_some_iff.1 hT).1; rw [← hf16] at hlt
          have hle := ask_le ((nn i) % ((3 : Nat) : Int)) (segsOf hx); rw [← hf16] at hle; have hnl := tagsF_len 0 (segsOf hx); rw [← hf16] at hnl
          obtain ⟨g7, hg7⟩ := H55.row 10 (A := A10) (e := 3) (sz := 1) (cap := c2) (n := ((askR ((nn i) % ((3 : Nat) : Int)) (segsOf hx).reverse).length)) (xs := (ints (askR ((nn i) % ((3 : Nat) : Int)) (segsOf hx).reverse))) (by kernel_rfl) (by omega)
          subst hg7
          obtain ⟨g8, hg8⟩ := H55.row 4 (A := Af4) (e := 52) (sz := 2) (cap := cf4) (n := nf4) (xs := (prs (tagsF 0 (segsOf hx)))) (by kernel_rfl) (by omega)
          subst hg8
          refine Sx.dr 5 H55 [9, 10, 4] [] (LJ := [.blk k4 (.cells #[.slice (some ⟨g7, 0, none⟩) ((askR ((nn i) % ((3 : Nat) : Int)) (segsOf hx).reverse).length) c2] 39), .own 3 1 (some ⟨g7, 0, none⟩) c2 ((askR ((nn i) % ((3 : Nat) : Int)) (segsOf hx).reverse).length) (ints (askR ((nn i) % ((3 : Nat) : Int)) (segsOf hx).reverse)), .own 52 2 (some ⟨g8, 0, none⟩) cf4 nf4 (prs (tagsF 0 (segsOf hx)))]) (by kernel_rfl) fun w35 H58 => ?_
          refine Sx.tk [(0, none), (1, none), (2, none)] (fun _ => (H58.sub [9, 9, 4] (by kernel_rfl))) ?_
          refine Sx.tva 3 [] (.bool (decide (((j : Nat) : Int) ≥ ((nf4 : Nat) : Int)))) (.bool false) (congrArg Value.bool (decide_eq_false (by omega))) (fun _ => (H58.sub [9, 9, 4] (by kernel_rfl))) ?_
          refine Sx.tk [(4, none), (5, some (0, [])), (6, none)] (fun _ => (H58.sub [9, 9, 4] (by kernel_rfl))) ?_
          refine Sx.tvg 7 [] g7 j 1 ((askR ((nn i) % ((3 : Nat) : Int)) (segsOf hx).reverse).length) c2 (by omega) (fun _ => (H58.sub [9, 9, 4] (by kernel_rfl))) ?_
          refine Sx.tvl 8 [] 1 3 1 3 g7 c2 ((askR ((nn i) % ((3 : Nat) : Int)) (segsOf hx).reverse).length) (j * 1) (ints (askR ((nn i) % ((3 : Nat) : Int)) (segsOf hx).reverse)) (.int .i64 f) (ints_ld hf) (fun _ => (H58.sub [9, 9, 4] (by kernel_rfl))) ?_
          refine Sx.tk [(9, none), (10, none), (11, none)] (fun _ => (H58.sub [9, 9, 4] (by kernel_rfl))) ?_
          refine Sx.tva 12 [] (.int .i64 (IntKind.i64.wrap (((nf4 : Nat) : Int) - (1 : Int)))) (.int .i64 ((nf4 - 1 : Nat) : Int)) (congrArg (Value.int .i64) (by rw [IntWalk.i64_in _ (by omega)]; omega)) (fun _ => (H58.sub [9, 9, 4] (by kernel_rfl))) ?_
          refine Sx.tk [(13, none)] (fun _ => (H58.sub [9, 9, 4] (by kernel_rfl))) ?_
          refine Sx.tva 14 [] (.int .i64 (IntKind.i64.wrap (((nf4 - 1 : Nat) : Int) - ((j : Nat) : Int)))) (.int .i64 ((nf4 - 1 - j : Nat) : Int)) (congrArg (Value.int .i64) (by rw [IntWalk.i64_in _ (by omega)]; omega)) (fun _ => (H58.sub [9, 9, 4] (by kernel_rfl))) ?_
          refine Sx.tvg 15 [] g8 (nf4 - 1 - j) 2 nf4 cf4 (by omega) (fun _ => (H58.sub [9, 9, 4] (by kernel_rfl))) ?_
          refine Sx.tk [(16, none)] (fun _ => (H58.sub [9, 9, 4] (by kernel_rfl))) ?_
          refine Sx.tvl 17 [] 2 52 2 3 g8 cf4 nf4 ((nf4 - 1 - j) * 2 + 1) (prs (tagsF 0 (segsOf hx))) (.int .i64 f) (prs_ld1 hT) (fun _ => (H58.sub [9, 9, 4] (by kernel_rfl))) ?_
          refine Sx.tva 18 [] (.bool (f != f)) (.bool false) (congrArg Value.bool (by simp)) (fun _ => (H58.sub [9, 9, 4] (by kernel_rfl))) ?_
          refine Sx.tk [(19, none), (20, none), (21, none), (22, some (0, [])), (23, none)] (fun _ => (H58.sub [9, 9, 4] (by kernel_rfl))) ?_
          refine Sx.tva 24 [] (.int .i64 (IntKind.i64.wrap ((((askR ((nn i) % ((3 : Nat) : Int)) (segsOf hx).reverse).length : Nat) : Int) - (1 : Int)))) (.int .i64 ((((askR ((nn i) % ((3 : Nat) : Int)) (segsOf hx).reverse).length : Nat) : Int) - 1)) (congrArg (Value.int .i64) (IntWalk.i64_in _ (by omega))) (fun _ => (H58.sub [9, 9, 4] (by kernel_rfl))) ?_
          refine Sx.tva 25 [] (.bool (decide (((j : Nat) : Int) < ((((askR ((nn i) % ((3 : Nat) : Int)) (segsOf hx).reverse).length : Nat) : Int) - 1)))) (.bool false) (congrArg Value.bool (decide_eq_false (by omega))) (fun _ => (H58.sub [9, 9, 4] (by kernel_rfl))) ?_
          refine Sx.tk [(26, none), (27, none), (28, none), (29, none), (30, none), (31, none), (32, none), (33, none), (34, none), (35, none)] (fun _ => (H58.sub [9, 9, 4] (by kernel_rfl))) ?_
          refine Sx.dn ?_
          refine Sx.nz 1 (.code (Sx.cat [1, 1, 1, 1, 1, 1, 0, 1, 0, 0, 1, 0, 0, 1, 1, 1, 0, 1, 0, 1, 1, 1, 1, 1, 1, 1, 1, 1, 1, 1, 0, 1, 1, 1, 1, 1, 1, 1, 0, 1, 0, 0, 1, 0, 0, 1] (Sx.bodyOf Try.f3))) [.blk 4, .code (Sx.cat [1, 1, 1, 1, 1, 1, 0, 1, 0, 0, 1, 0, 0, 1, 1, 1, 0, 1, 0, 1, 1, 1, 1, 1, 1, 1, 1, 1, 1, 1, 0, 1, 1, 1, 1, 1, 1, 1, 0, 1, 0, 0, 1, 1] (Sx.bodyOf Try.f3)), .to K5, .blk 3, .code (Sx.cat [1, 1, 1, 1, 1, 1, 0, 1, 0, 0, 1, 0, 0, 1, 1, 1, 0, 1, 0, 1, 1, 1, 1, 1, 1, 1, 1, 1, 1, 1, 0, 1, 1, 1, 1, 1, 1, 1, 1] (Sx.bodyOf Try.f3)), .blk 2, .to K3, .blk 1, .code (Sx.cat [1, 1, 1, 1, 1, 1, 0, 1, 0, 0, 1, 1] (Sx.bodyOf Try.f3)), .to K1, .blk 0, .code (Sx.cat [1, 1, 1, 1, 1, 1, 1] (Sx.bodyOf Try.f3))] [(0, .slice A n c), (3, .slice (some ⟨k1, 0, none⟩) 2 2), (4, .slice (some ⟨k2, 0, none⟩) 2 2), (5, .slice Ap np cp), (6, .slice Aq np cq), (7, .int .i64 ((aa : Nat) : Int)), (8, .int .i64 ((i : Nat) : Int)), (9, .pointer (some ⟨sx, 0, none⟩)), (10, .pointer (some ⟨bx, 0, none⟩)), (26, .pointer (some ⟨k3, 0, none⟩)), (28, .pointer (some ⟨k4, 0, none⟩)), (29, .pointer (some ⟨pb1, 0, none⟩)), (33, .slice (some ⟨g8, 0, none⟩) nf4 cf4), (34, .slice A12 hp1.length c3), (36, .bool true), (37, .int .i64 ((j : Nat) : Int)), (258, .bool false)] fun b25 => ?_
          refine Sx.v 6 (.int .i64 (IntKind.i64.wrap (((j : Nat) : Int) + (1 : Int)))) (.int .i64 ((j + 1 : Nat) : Int)) (congrArg (Value.int .i64) (Gx.i64n (by omega) (by omega))) ?_
          have H59 := H58.pick (a := [.blk bx (.cells #[.slice A11 hm7.length cap7] 49), srI S9 A11 cap7 hm7, srI S10 A12 c3 hp1, .own 52 2 Af3 cf3 nf3 (prs (allF 0 (segsOf hx))), .own 52 2 (some ⟨g8, 0, none⟩) cf4 nf4 (prs (tagsF 0 (segsOf hx))), .blk sx (.cells #[.pointer p8] 58), sgI Q8 p8 rm.reverse, .blk pb1 (.cells #[.pointer q1] 78), sgI Qq1 q1 (fixS (decide (((nn i) % ((6 : Nat) : Int)) < (3 : Int))) s :: r1.reverse), .blk k4 (.cells #[.slice (some ⟨g7, 0, none⟩) ((askR ((nn i) % ((3 : Nat) : Int)) (segsOf hx).reverse).length) c2] 39), .own 3 1 (some ⟨g7, 0, none⟩) c2 ((askR ((nn i) % ((3 : Nat) : Int)) (segsOf hx).reverse).length) (ints (askR ((nn i) % ((3 : Nat) : Int)) (segsOf hx).reverse)), .blk k3 (.cells #[.int .i64 ((nn i) % ((3 : Nat) : Int))] 3), entI w, .own 23 1 (some ⟨k1, 0, none⟩) 2 2 (two aa sx sz), .own 26 1 (some ⟨k2, 0, none⟩) 2 2 (two aa bx bz), .blk sz (.cells #[.pointer pz] 58), sgI Qz pz (segsOf hz), .blk bz (.cells #[.slice Az hz.length cz] 49), srI Rz Az cz hz, ppI Rp ps, .own 40 1 Ap cp np (bps ps), .own 47 1 Aq cq np (sls ps)]) [0, 0, 0, 0, 0, 0, 0, 0, 0, 0, 0, 0, 0, 0, 0, 0, 0, 0, 0, 0, 0, 0] (by kernel_rfl)
          exact Sx.to 2 [(0, .slice A n c), (3, .slice (some ⟨k1, 0, none⟩) 2 2), (4, .slice (some ⟨k2, 0, none⟩) 2 2), (5, .slice Ap np cp), (6, .slice Aq np cq), (7, .int .i64 ((aa : Nat) : Int)), (8, .int .i64 ((i : Nat) : Int)), (9, .pointer (some ⟨sx, 0, none⟩)), (10, .pointer (some ⟨bx, 0, none⟩)), (26, .pointer (some ⟨k3, 0, none⟩)), (28, .pointer (some ⟨k4, 0, none⟩)), (29, .pointer (some ⟨pb1, 0, none⟩)), (33, .slice (some ⟨g8, 0, none⟩) nf4 cf4), (34, .slice A12 hp1.length c3), (36, .bool true), (37, .int .i64 ((j + 1 : Nat) : Int))] (hK5 _ _ _ _ (by omega) ⟨j + 1, rfl, rfl, H59⟩)
        refine Sx.nz 5 (.code (Sx.cat [1, 1, 1, 1, 1, 1, 0, 1, 0, 0, 1, 0, 0, 1, 1, 1, 0, 1, 0, 1, 1, 1, 1, 1, 1, 1, 1, 1, 1, 1, 0, 1, 1, 1, 1, 1, 1, 1, 1] (Sx.bodyOf Try.f3))) [.blk 2, .to K3, .blk 1, .code (Sx.cat [1, 1, 1, 1, 1, 1, 0, 1, 0, 0, 1, 1] (Sx.bodyOf Try.f3)), .to K1, .blk 0, .code (Sx.cat [1, 1, 1, 1, 1, 1, 1] (Sx.bodyOf Try.f3))] [(0, .slice A n c), (3, .slice (some ⟨k1, 0, none⟩) 2 2), (4, .slice (some ⟨k2, 0, none⟩) 2 2), (5, .slice Ap np cp), (6, .slice Aq np cq), (7, .int .i64 ((aa : Nat) : Int)), (8, .int .i64 ((i : Nat) : Int)), (9, .pointer (some ⟨sx, 0, none⟩)), (10, .pointer (some ⟨bx, 0, none⟩)), (28, .pointer (some ⟨k4, 0, none⟩)), (29, .pointer (some ⟨pb1, 0, none⟩)), (33, .slice Af4 nf4 cf4), (34, .slice A12 hp1.length c3), (36, .bool true)] fun b26 => ?_
        refine Sx.nw 27 H55 fun k5 w36 H60 => ?_
        have p_c220 := of_decide_eq_false h_c220
        refine Sx.ap 0 20 22 8 1 0 40 1 29 1 k5 Ap cp np (bps ps) [.pointer (some ⟨pb1, 0, none⟩)] H60 (by omega) (by omega) (bps_app ps pb1 q1 A12 c3 hp1) fun A13 cap8 w37 H61 => ?_
        refine Sx.nw 6 H61 fun k6 w38 H62 => ?_
        refine Sx.ap 0 21 23 24 1 0 47 1 30 1 k6 Aq cq np (sls ps) [.slice A12 hp1.length c3] H62 (by omega) (by omega) (sls_app ps pb1 q1 A12 c3 hp1) fun A14 cap9 w39 H63 => ?_
        have H64 := H63
        rw [← hf17] at H64
        have H65 := H64
        rw [← hf18] at H65
        refine pp_add H65 [19, 7, 7, 2] Rp ps pb1 q1 Qq1 S10 A12 c3 hp1 (fun S11 H66 => ?_)
        have hsc := siz_cut (decide (((nn i) % ((6 : Nat) : Int)) < (3 : Int))) hc; rw [← hf17, ← hf18] at hsc
        have H67 := H66.pick (a := [entI w, .own 23 1 (some ⟨k1, 0, none⟩) 2 2 (two aa sx sz), .own 26 1 (some ⟨k2, 0, none⟩) 2 2 (two aa bx bz), .blk sx (.cells #[.pointer p8] 58), sgI Q8 p8 (segsOf hm7), .blk bx (.cells #[.slice A11 hm7.length cap7] 49), srI S9 A11 cap7 hm7, .blk sz (.cells #[.pointer pz] 58), sgI Qz pz (segsOf hz), .blk bz (.cells #[.slice Az hz.length cz] 49), srI Rz Az cz hz, ppI S11 (ps ++ [PP.mk pb1 q1 A12 c3 hp1]), .own 40 1 A13 cap8 (np + 1) (bps (ps ++ [PP.mk pb1 q1 A12 c3 hp1])), .own 47 1 A14 cap9 (np + 1) (sls (ps ++ [PP.mk pb1 q1 A12 c3 hp1]))]) [10, 10, 10, 5, 5, 1, 1, 6, 6, 6, 6, 0, 5, 5] (by kernel_rfl)
        exact Sx.to 3 [(0, .slice A n c), (3, .slice (some ⟨k1, 0, none⟩) 2 2), (4, .slice (some ⟨k2, 0, none⟩) 2 2), (5, .slice A13 (np + 1) cap8), (6, .slice A14 (np + 1) cap9), (7, .int .i64 ((aa : Nat) : Int)), (8, .int .i64 ((i : Nat) : Int)), (9, .pointer (some ⟨sx, 0, none⟩)), (10, .pointer (some ⟨bx, 0, none⟩))] (hK3 _ _ _ ⟨aa, p8, Q8, A11, cap7, hm7, S9, (np + 1), (ps ++ [PP.mk pb1 q1 A12 c3 hp1]), S11, A13, cap8, A14, cap9, rfl, H67, (.inl rfl), (by rw [hf17]; exact hBx.cut hc), (by omega), (fun x hx => by rcases List.mem_append.1 hx with h | h; exact Nat.le_trans (hps x h) (by omega); rw [List.mem_singleton.1 h]; show siz (segsOf hp1) ≤ _; omega), (by simp; omega), (by omega)⟩)
      refine Sx.nz 6 (.code (Sx.cat [1, 1, 1, 1, 1, 1, 0, 1, 0, 0, 1, 0, 0, 1, 1, 1, 0, 1, 0, 1, 1, 1, 1, 1, 1, 1, 1, 1, 1, 1, 1, 1] (Sx.bodyOf Try.f3))) [.blk 2, .to K3, .blk 1, .code (Sx.cat [1, 1, 1, 1, 1, 1, 0, 1, 0, 0, 1, 1] (Sx.bodyOf Try.f3)), .to K1, .blk 0, .code (Sx.cat [1, 1, 1, 1, 1, 1, 1] (Sx.bodyOf Try.f3))] [(0, .slice A n c), (3, .slice (some ⟨k1, 0, none⟩) 2 2), (4, .slice (some ⟨k2, 0, none⟩) 2 2), (5, .slice Ap np cp), (6, .slice Aq np cq), (7, .int .i64 ((aa : Nat) : Int)), (8, .int .i64 ((i : Nat) : Int)), (9, .pointer (some ⟨sx, 0, none⟩)), (10, .pointer (some ⟨bx, 0, none⟩)), (11, .int .i64 (nn i)), (76, .int .i64 ((kd i) % ((9 : Nat) : Int))), (277, .bool (((kd i) % ((9 : Nat) : Int)) == (6 : Int)))] fun b27 => ?_
      refine Sx.br 0 (((kd i) % ((9 : Nat) : Int)) == (6 : Int)) (fun h_c277 => ?_) (fun h_c277 => ?_)
      · skip
        refine Sx.sp 6 282 (decide (((np : Nat) : Int) > (0 : Int))) (fun h_g282 => ?_) (fun h_g282 => ?_)
        · skip
          refine Sx.l 3 3 H13 ?_
          have p_c79 := Gx.k0 h_c79
          have p_c87 := Gx.k0 h_c87
          have p_c107 := Gx.k0 h_c107
          have p_c127 := Gx.k0 h_c127
          have p_c137 := Gx.k0 h_c137
          have p_c167 := Gx.k0 h_c167
          have p_c277 := Gx.k1 h_c277
          have p_g282 := of_decide_eq_true h_g282
          refine Sx.c 0 [4] H13 (fun Hp R hR => Len_c px (segsOf hx) Qx w7 R Hp  (fun w40 G22 => hR _ _ _ G22 fun H68 => ?_))
          refine Sx.sp 3 290 (decide (((tot (segsOf hx) : Nat) : Int) < (2000 : Int))) (fun h_g290 => ?_) (fun h_g290 => ?_)
          · skip
            refine Sx.l 3 4 H68 ?_
            have p_g290 := of_decide_eq_true h_g290
            refine Sx.c 0 [0] H68 (fun Hp R hR => Segments_c px (segsOf hx) Qx w40 R Hp  (fun w41 G23 => hR _ _ _ G23 fun H69 => ?_))
            refine Sx.nz 4 (.code (Sx.cat [1, 1, 1, 1, 1, 1, 0, 1, 0, 0, 1, 0, 0, 1, 1, 1, 0, 1, 0, 1, 1, 1, 1, 1, 1, 1, 1, 1, 1, 1, 1, 1, 0, 1] (Sx.bodyOf Try.f3))) [.blk 2, .to K3, .blk 1, .code (Sx.cat [1, 1, 1, 1, 1, 1, 0, 1, 0, 0, 1, 1] (Sx.bodyOf Try.f3)), .to K1, .blk 0, .code (Sx.cat [1, 1, 1, 1, 1, 1, 1] (Sx.bodyOf Try.f3))] [(0, .slice A n c), (3, .slice (some ⟨k1, 0, none⟩) 2 2), (4, .slice (some ⟨k2, 0, none⟩) 2 2), (5, .slice Ap np cp), (6, .slice Aq np cq), (7, .int .i64 ((aa : Nat) : Int)), (8, .int .i64 ((i : Nat) : Int)), (9, .pointer (some ⟨sx, 0, none⟩)), (10, .pointer (some ⟨bx, 0, none⟩)), (11, .int .i64 (nn i)), (297, .bool (decide ((((segsOf hx).length : Nat) : Int) < (500 : Int))))] fun b28 => ?_
            refine Sx.br 0 (decide ((((segsOf hx).length : Nat) : Int) < (500 : Int))) (fun h_c297 => ?_) (fun h_c297 => ?_)
            · skip
              have p_c297 := of_decide_eq_true h_c297
              have hj0 := Int.emod_nonneg (nn i) (show ((np : Nat) : Int) ≠ 0 by omega); have hj2 := Int.emod_lt_of_pos (nn i) (show (0 : Int) < ((np : Nat) : Int) by omega)
              obtain ⟨jn, hjn⟩ : ∃ jn : Nat, nn i % ((np : Nat) : Int) = (jn : Int) := ⟨(nn i % ((np : Nat) : Int)).toNat, by omega⟩
              refine Sx.c 5 [] H69 (fun Hp R hR => mod_c (nn i) np w41 R Hp (by omega) (by omega) (hR _ _ _ (.refl Hp) fun _ => ?_))
              refine Sx.v 0 (.int .i64 (nn i % ((np : Nat) : Int))) (.int .i64 ((jn : Nat) : Int)) (congrArg (Value.int .i64) hjn) ?_
              obtain ⟨⟨pb, pq, pA, pc, ph⟩, hpx⟩ : ∃ x, ps[jn]? = some x := ⟨_, List.getElem?_eq_getElem (by omega)⟩
              have hph := hps _ (List.mem_of_getElem? hpx); simp only at hph
              have hbp : tot (segsOf hx) + (segsOf hx).length + tot (segsOf ph) + (segsOf ph).length < 100000000000 := by unfold siz at hph; omega
              have hbp2 : tot (segsOf ph) + ph.length < 100000000000 := by unfold siz at hph; rw [segsOf_len] at hph; omega
              refine pp_at H69 11 Rp ps jn ⟨pb, pq, pA, pc, ph⟩ (by kernel_rfl) hpx (fun H70 => ?_)
              obtain ⟨g9, hg9⟩ := H70.row 12 (A := Ap) (e := 40) (sz := 1) (cap := cp) (n := np) (xs := (bps ps)) (by kernel_rfl) (by omega)
              subst hg9
              obtain ⟨g10, hg10⟩ := H70.row 13 (A := Aq) (e := 47) (sz := 1) (cap := cq) (n := np) (xs := (sls ps)) (by kernel_rfl) (by omega)
              subst hg10
              refine Sx.ir 7 g9 jn 1 np cp (by omega) ?_
              refine Sx.lr 0 12 40 1 40 g9 cp np (jn * 1) (bps ps) H70 (.pointer (some ⟨pb, 0, none⟩)) (bps_ld hpx) ?_
              refine Sx.c 0 [4, 0, 12, 12] H70 (fun Hp R hR => Put_c sx px (segsOf hx) Qx pb Rp pq (segsOf ph) Rp w41 R Hp hbp (fun Q9 p9 w42 G24 => hR _ _ _ G24 fun H71 => ?_))
              refine Sx.nz 2 (.code (Sx.cat [1, 1, 1, 1, 1, 1, 0, 1, 0, 0, 1, 0, 0, 1, 1, 1, 0, 1, 0, 1, 1, 1, 1, 1, 1, 1, 1, 1, 1, 1, 1, 1, 0, 1, 0, 1, 1] (Sx.bodyOf Try.f3))) [.blk 2, .to K3, .blk 1, .code (Sx.cat [1, 1, 1, 1, 1, 1, 0, 1, 0, 0, 1, 1] (Sx.bodyOf Try.f3)), .to K1, .blk 0, .code (Sx.cat [1, 1, 1, 1, 1, 1, 1] (Sx.bodyOf Try.f3))] [(0, .slice A n c), (3, .slice (some ⟨k1, 0, none⟩) 2 2), (4, .slice (some ⟨k2, 0, none⟩) 2 2), (5, .slice (some ⟨g9, 0, none⟩) np cp), (6, .slice (some ⟨g10, 0, none⟩) np cq), (7, .int .i64 ((aa : Nat) : Int)), (8, .int .i64 ((i : Nat) : Int)), (9, .pointer (some ⟨sx, 0, none⟩)), (10, .pointer (some ⟨bx, 0, none⟩)), (38, .int .i64 ((jn : Nat) : Int))] fun b29 => ?_
              refine Sx.ir 4 g10 jn 1 np cq (by omega) ?_
              refine Sx.lr 0 15 47 1 47 g10 cq np (jn * 1) (sls ps) H71 (.slice pA ph.length pc) (sls_ld hpx) ?_
              refine Sx.c 0 [7, 7, 14] H71 (fun Hp R hR => dPut_c bx hx.length cx Ax hx Rx (rdI Rp pA pc ph) pA ph.length pc ph w42 R Hp rfl hc_hx rd_sy rfl hbp2 (fun n7 cap10 A15 hm8 S12 w43 G25 hf19 hf20 => hR _ _ _ G25 fun H72 => ?_))
              subst hf19
              have H73 := H72
              rw [← hf20] at H73
              have H74 := H73.pick (a := [entI w, .own 23 1 (some ⟨k1, 0, none⟩) 2 2 (two aa sx sz), .own 26 1 (some ⟨k2, 0, none⟩) 2 2 (two aa bx bz), .blk sx (.cells #[.pointer p9] 58), sgI Q9 p9 (segsOf hm8), .blk bx (.cells #[.slice A15 hm8.length cap10] 49), srI S12 A15 cap10 hm8, .blk sz (.cells #[.pointer pz] 58), sgI Qz pz (segsOf hz), .blk bz (.cells #[.slice Az hz.length cz] 49), srI Rz Az cz hz, ppI Rp ps, .own 40 1 (some ⟨g9, 0, none⟩) cp np (bps ps), .own 47 1 (some ⟨g10, 0, none⟩) cq np (sls ps)]) [7, 7, 7, 3, 3, 0, 0, 3, 3, 3, 3, 3, 3, 3] (by kernel_rfl)
              exact Sx.to 2 [(0, .slice A n c), (3, .slice (some ⟨k1, 0, none⟩) 2 2), (4, .slice (some ⟨k2, 0, none⟩) 2 2), (5, .slice (some ⟨g9, 0, none⟩) np cp), (6, .slice (some ⟨g10, 0, none⟩) np cq), (7, .int .i64 ((aa : Nat) : Int)), (8, .int .i64 ((i : Nat) : Int)), (9, .pointer (some ⟨sx, 0, none⟩)), (10, .pointer (some ⟨bx, 0, none⟩))] (hK3 _ _ _ ⟨aa, p9, Q9, A15, cap10, hm8, S12, np, ps, Rp, (some ⟨g9, 0, none⟩), cp, (some ⟨g10, 0, none⟩), cq, rfl, H74, (.inl rfl), (by rw [hf20]; exact hBx.app _), (by rw [hf20, siz_app]; unfold siz at *; omega), (fun x hx => Nat.le_trans (hps x hx) (by omega)), hnp, (by omega)⟩)
            have p_c297 := of_decide_eq_false h_c297
            have H75 := H69.pick (a := [entI w, .own 23 1 (some ⟨k1, 0, none⟩) 2 2 (two aa sx sz), .own 26 1 (some ⟨k2, 0, none⟩) 2 2 (two aa bx bz), .blk sx (.cells #[.pointer px] 58), sgI Qx px (segsOf hx), .blk bx (.cells #[.slice Ax hx.length cx] 49), srI Rx Ax cx hx, .blk sz (.cells #[.pointer pz] 58), sgI Qz pz (segsOf hz), .blk bz (.cells #[.slice Az hz.length cz] 49), srI Rz Az cz hz, ppI Rp ps, .own 40 1 Ap cp np (bps ps), .own 47 1 Aq cq np (sls ps)]) [1, 1, 1, 1, 0, 0, 0, 0, 0, 0, 0, 0, 0, 0] (by kernel_rfl)
            exact Sx.to 2 [(0, .slice A n c), (3, .slice (some ⟨k1, 0, none⟩) 2 2), (4, .slice (some ⟨k2, 0, none⟩) 2 2), (5, .slice Ap np cp), (6, .slice Aq np cq), (7, .int .i64 ((aa : Nat) : Int)), (8, .int .i64 ((i : Nat) : Int)), (9, .pointer (some ⟨sx, 0, none⟩)), (10, .pointer (some ⟨bx, 0, none⟩))] (hK3 _ _ _ ⟨aa, px, Qx, Ax, cx, hx, Rx, np, ps, Rp, Ap, cp, Aq, cq, rfl, H75, (.inl rfl), hBx, (by omega), (fun x hx => Nat.le_trans (hps x hx) (by omega)), hnp, (by omega)⟩)
          refine Sx.nz 9 (.code (Sx.cat [1, 1, 1, 1, 1, 1, 0, 1, 0, 0, 1, 0, 0, 1, 1, 1, 0, 1, 0, 1, 1, 1, 1, 1, 1, 1, 1, 1, 1, 1, 1, 1, 0, 1] (Sx.bodyOf Try.f3))) [.blk 2, .to K3, .blk 1, .code (Sx.cat [1, 1, 1, 1, 1, 1, 0, 1, 0, 0, 1, 1] (Sx.bodyOf Try.f3)), .to K1, .blk 0, .code (Sx.cat [1, 1, 1, 1, 1, 1, 1] (Sx.bodyOf Try.f3))] [(0, .slice A n c), (3, .slice (some ⟨k1, 0, none⟩) 2 2), (4, .slice (some ⟨k2, 0, none⟩) 2 2), (5, .slice Ap np cp), (6, .slice Aq np cq), (7, .int .i64 ((aa : Nat) : Int)), (8, .int .i64 ((i : Nat) : Int)), (9, .pointer (some ⟨sx, 0, none⟩)), (10, .pointer (some ⟨bx, 0, none⟩)), (11, .int .i64 (nn i)), (297, .bool false)] fun b30 => ?_
          have p_g290 := of_decide_eq_false h_g290
          have H76 := H68.pick (a := [entI w, .own 23 1 (some ⟨k1, 0, none⟩) 2 2 (two aa sx sz), .own 26 1 (some ⟨k2, 0, none⟩) 2 2 (two aa bx bz), .blk sx (.cells #[.pointer px] 58), sgI Qx px (segsOf hx), .blk bx (.cells #[.slice Ax hx.length cx] 49), srI Rx Ax cx hx, .blk sz (.cells #[.pointer pz] 58), sgI Qz pz (segsOf hz), .blk bz (.cells #[.slice Az hz.length cz] 49), srI Rz Az cz hz, ppI Rp ps, .own 40 1 Ap cp np (bps ps), .own 47 1 Aq cq np (sls ps)]) [1, 1, 1, 1, 0, 0, 0, 0, 0, 0, 0, 0, 0, 0] (by kernel_rfl)
          exact Sx.to 3 [(0, .slice A n c), (3, .slice (some ⟨k1, 0, none⟩) 2 2), (4, .slice (some ⟨k2, 0, none⟩) 2 2), (5, .slice Ap np cp), (6, .slice Aq np cq), (7, .int .i64 ((aa : Nat) : Int)), (8, .int .i64 ((i : Nat) : Int)), (9, .pointer (some ⟨sx, 0, none⟩)), (10, .pointer (some ⟨bx, 0, none⟩))] (hK3 _ _ _ ⟨aa, px, Qx, Ax, cx, hx, Rx, np, ps, Rp, Ap, cp, Aq, cq, rfl, H76, (.inl rfl), hBx, (by omega), (fun x hx => Nat.le_trans (hps x hx) (by omega)), hnp, (by omega)⟩)
        refine Sx.nz 17 (.code (Sx.cat [1, 1, 1, 1, 1, 1, 0, 1, 0, 0, 1, 0, 0, 1, 1, 1, 0, 1, 0, 1, 1, 1, 1, 1, 1, 1, 1, 1, 1, 1, 1, 1, 0, 1] (Sx.bodyOf Try.f3))) [.blk 2, .to K3, .blk 1, .code (Sx.cat [1, 1, 1, 1, 1, 1, 0, 1, 0, 0, 1, 1] (Sx.bodyOf Try.f3)), .to K1, .blk 0, .code (Sx.cat [1, 1, 1, 1, 1, 1, 1] (Sx.bodyOf Try.f3))] [(0, .slice A n c), (3, .slice (some ⟨k1, 0, none⟩) 2 2), (4, .slice (some ⟨k2, 0, none⟩) 2 2), (5, .slice Ap np cp), (6, .slice Aq np cq), (7, .int .i64 ((aa : Nat) : Int)), (8, .int .i64 ((i : Nat) : Int)), (9, .pointer (some ⟨sx, 0, none⟩)), (10, .pointer (some ⟨bx, 0, none⟩)), (11, .int .i64 (nn i)), (297, .bool false)] fun b31 => ?_
        have p_c79 := Gx.k0 h_c79
        have p_c87 := Gx.k0 h_c87
        have p_c107 := Gx.k0 h_c107
        have p_c127 := Gx.k0 h_c127
        have p_c137 := Gx.k0 h_c137
        have p_c167 := Gx.k0 h_c167
        have p_c277 := Gx.k1 h_c277
        have p_g282 := of_decide_eq_false h_g282
        exact Sx.to 3 [(0, .slice A n c), (3, .slice (some ⟨k1, 0, none⟩) 2 2), (4, .slice (some ⟨k2, 0, none⟩) 2 2), (5, .slice Ap np cp), (6, .slice Aq np cq), (7, .int .i64 ((aa : Nat) : Int)), (8, .int .i64 ((i : Nat) : Int)), (9, .pointer (some ⟨sx, 0, none⟩)), (10, .pointer (some ⟨bx, 0, none⟩))] (hK3 _ _ _ ⟨aa, px, Qx, Ax, cx, hx, Rx, np, ps, Rp, Ap, cp, Aq, cq, rfl, H13, (.inl rfl), hBx, (by omega), (fun x hx => Nat.le_trans (hps x hx) (by omega)), hnp, (by omega)⟩)
      refine Sx.nz 6 (.code (Sx.cat [1, 1, 1, 1, 1, 1, 0, 1, 0, 0, 1, 0, 0, 1, 1, 1, 0, 1, 0, 1, 1, 1, 1, 1, 1, 1, 1, 1, 1, 1, 1, 1, 1, 1] (Sx.bodyOf Try.f3))) [.blk 2, .to K3, .blk 1, .code (Sx.cat [1, 1, 1, 1, 1, 1, 0, 1, 0, 0, 1, 1] (Sx.bodyOf Try.f3)), .to K1, .blk 0, .code (Sx.cat [1, 1, 1, 1, 1, 1, 1] (Sx.bodyOf Try.f3))] [(0, .slice A n c), (3, .slice (some ⟨k1, 0, none⟩) 2 2), (4, .slice (some ⟨k2, 0, none⟩) 2 2), (5, .slice Ap np cp), (6, .slice Aq np cq), (7, .int .i64 ((aa : Nat) : Int)), (8, .int .i64 ((i : Nat) : Int)), (9, .pointer (some ⟨sx, 0, none⟩)), (10, .pointer (some ⟨bx, 0, none⟩)), (314, .bool (((kd i) % ((9 : Nat) : Int)) == (7 : Int)))] fun b32 => ?_
      refine Sx.br 0 (((kd i) % ((9 : Nat) : Int)) == (7 : Int)) (fun h_c314 => ?_) (fun h_c314 => ?_)
      · skip
        have p_c79 := Gx.k0 h_c79
        have p_c87 := Gx.k0 h_c87
        have p_c107 := Gx.k0 h_c107
        have p_c127 := Gx.k0 h_c127
        have p_c137 := Gx.k0 h_c137
        have p_c167 := Gx.k0 h_c167
        have p_c277 := Gx.k0 h_c277
        have p_c314 := Gx.k1 h_c314
        refine Sx.c 2 [] H13 (fun Hp R hR => PutN_c sx w7 R Hp  (hR _ _ _ (.refl Hp) fun _ => ?_))
        exact Sx.to 2 [(0, .slice A n c), (3, .slice (some ⟨k1, 0, none⟩) 2 2), (4, .slice (some ⟨k2, 0, none⟩) 2 2), (5, .slice Ap np cp), (6, .slice Aq np cq), (7, .int .i64 ((aa : Nat) : Int)), (8, .int .i64 ((i : Nat) : Int)), (9, .pointer (some ⟨sx, 0, none⟩)), (10, .pointer (some ⟨bx, 0, none⟩))] (hK3 _ _ _ ⟨aa, px, Qx, Ax, cx, hx, Rx, np, ps, Rp, Ap, cp, Aq, cq, rfl, H13, (.inl rfl), hBx, (by omega), (fun x hx => Nat.le_trans (hps x hx) (by omega)), hnp, (by omega)⟩)
      have p_c79 := Gx.k0 h_c79
      have p_c87 := Gx.k0 h_c87
      have p_c107 := Gx.k0 h_c107
      have p_c127 := Gx.k0 h_c127
      have p_c137 := Gx.k0 h_c137
      have p_c167 := Gx.k0 h_c167
      have p_c277 := Gx.k0 h_c277
      have p_c314 := Gx.k0 h_c314
      refine Sx.v 2 (.int .i64 (IntKind.i64.wrap ((1 : Int) - ((aa : Nat) : Int)))) (.int .i64 ((1 - aa : Nat) : Int)) (congrArg (Value.int .i64) (by rw [IntWalk.i64_in _ (by omega)]; omega)) ?_
      exact Sx.to 3 [(0, .slice A n c), (3, .slice (some ⟨k1, 0, none⟩) 2 2), (4, .slice (some ⟨k2, 0, none⟩) 2 2), (5, .slice Ap np cp), (6, .slice Aq np cq), (7, .int .i64 ((1 - aa : Nat) : Int)), (8, .int .i64 ((i : Nat) : Int)), (9, .pointer (some ⟨sx, 0, none⟩)), (10, .pointer (some ⟨bx, 0, none⟩))] (hK3 _ _ _ ⟨(1 - aa), px, Qx, Ax, cx, hx, Rx, np, ps, Rp, Ap, cp, Aq, cq, rfl, H13, (.inr rfl), hBx, (by omega), (fun x hx => Nat.le_trans (hps x hx) (by omega)), hnp, (by omega)⟩)
    obtain ⟨a2, p2, Q2, A2, c2, h2, S2, np2, ps2, Rp2, Ap2, cp2, Aq2, cq2, rfl, H77, ha2, hB2, hs2, hp2, hnp2, hpl2⟩ := hI3
    have hn_h2 := hB2.ne; have hm_h2 : h2 ≠ [] := fun e => hn_h2 (by rw [e]; rfl)
    have hb_h2 : tot (segsOf h2) + (segsOf h2).length < 100000000000 := by unfold siz at hs2; omega
    have hc_h2 : tot (segsOf h2) + h2.length < 100000000000 := by rw [segsOf_len] at hb_h2; exact hb_h2
    have hd_h2 : tot (segsOf h2) + h2.length < 1000000000 := by unfold siz at hs2; rw [segsOf_len] at hs2; omega
    rcases ha2 with rfl | rfl
    · skip
      refine Sx.c 4 [3, 3, 3, 3] H77 (fun Hp R hR => alike_c sx p2 Q2 bx h2.length c2 A2 h2 S2 w9 R Hp rfl hd_h2 (fun w44 G26 => hR _ _ _ G26 fun H78 => ?_))
      refine Sx.nz 3 (.code (Sx.cat [1, 1, 1, 1, 1, 1, 0, 1, 0, 0, 1, 0, 0, 1, 1, 1, 1, 1] (Sx.bodyOf Try.f3))) [.blk 1, .code (Sx.cat [1, 1, 1, 1, 1, 1, 0, 1, 0, 0, 1, 1] (Sx.bodyOf Try.f3)), .to K1, .blk 0, .code (Sx.cat [1, 1, 1, 1, 1, 1, 1] (Sx.bodyOf Try.f3))] [(0, .slice A n c), (3, .slice (some ⟨k1, 0, none⟩) 2 2), (4, .slice (some ⟨k2, 0, none⟩) 2 2), (5, .slice Ap2 np2 cp2), (6, .slice Aq2 np2 cq2), (7, .int .i64 ((aa : Nat) : Int)), (8, .int .i64 ((i : Nat) : Int)), (39, .bool true)] fun b33 => ?_
      refine Sx.v 12 (.int .i64 (IntKind.i64.wrap (((i : Nat) : Int) + (1 : Int)))) (.int .i64 ((i + 1 : Nat) : Int)) (congrArg (Value.int .i64) (Gx.i64n (by omega) (by omega))) ?_
      have H79 := H78.pick (a := [entI w, .own 23 1 (some ⟨k1, 0, none⟩) 2 2 (two aa sx sz), .own 26 1 (some ⟨k2, 0, none⟩) 2 2 (two aa bx bz), .blk sx (.cells #[.pointer p2] 58), sgI Q2 p2 (segsOf h2), .blk bx (.cells #[.slice A2 h2.length c2] 49), srI S2 A2 c2 h2, .blk sz (.cells #[.pointer pz] 58), sgI Qz pz (segsOf hz), .blk bz (.cells #[.slice Az hz.length cz] 49), srI Rz Az cz hz, ppI Rp2 ps2, .own 40 1 Ap2 cp2 np2 (bps ps2), .own 47 1 Aq2 cq2 np2 (sls ps2)]) [4, 4, 4, 0, 0, 0, 0, 0, 0, 0, 0, 0, 0, 0] (by kernel_rfl)
      exact Sx.to 2 [(0, .slice A n c), (3, .slice (some ⟨k1, 0, none⟩) 2 2), (4, .slice (some ⟨k2, 0, none⟩) 2 2), (5, .slice Ap2 np2 cp2), (6, .slice Aq2 np2 cq2), (7, .int .i64 ((aa : Nat) : Int)), (8, .int .i64 ((i + 1 : Nat) : Int))] (hK1 _ _ _ _ (by omega) ⟨i + 1, aa, sx, p2, Q2, bx, A2, c2, h2, S2, sz, pz, Qz, bz, Az, cz, hz, Rz, np2, ps2, Rp2, Ap2, cp2, Aq2, cq2, rfl, rfl, H79, (by omega), (by omega), hB2, hs2, hBz, (by omega), hp2, hnp2, hpl2⟩)
    have H80 := H77
    rw [two_swap (a := aa) (x := sx) (z := sz) haa, two_swap (a := aa) (x := bx) (z := bz) haa] at H80
    refine Sx.c 4 [3, 3, 3, 3] H80 (fun Hp R hR => alike_c sx p2 Q2 bx h2.length c2 A2 h2 S2 w9 R Hp rfl hd_h2 (fun w45 G27 => hR _ _ _ G27 fun H81 => ?_))
    refine Sx.nz 3 (.code (Sx.cat [1, 1, 1, 1, 1, 1, 0, 1, 0, 0, 1, 0, 0, 1, 1, 1, 1, 1] (Sx.bodyOf Try.f3))) [.blk 1, .code (Sx.cat [1, 1, 1, 1, 1, 1, 0, 1, 0, 0, 1, 1] (Sx.bodyOf Try.f3)), .to K1, .blk 0, .code (Sx.cat [1, 1, 1, 1, 1, 1, 1] (Sx.bodyOf Try.f3))] [(0, .slice A n c), (3, .slice (some ⟨k1, 0, none⟩) 2 2), (4, .slice (some ⟨k2, 0, none⟩) 2 2), (5, .slice Ap2 np2 cp2), (6, .slice Aq2 np2 cq2), (7, .int .i64 ((1 - aa : Nat) : Int)), (8, .int .i64 ((i : Nat) : Int)), (39, .bool true)] fun b34 => ?_
    refine Sx.v 12 (.int .i64 (IntKind.i64.wrap (((i : Nat) : Int) + (1 : Int)))) (.int .i64 ((i + 1 : Nat) : Int)) (congrArg (Value.int .i64) (Gx.i64n (by omega) (by omega))) ?_
    have H82 := H81.pick (a := [entI w, .own 23 1 (some ⟨k1, 0, none⟩) 2 2 (two (1 - aa) sz sx), .own 26 1 (some ⟨k2, 0, none⟩) 2 2 (two (1 - aa) bz bx), .blk sz (.cells #[.pointer pz] 58), sgI Qz pz (segsOf hz), .blk bz (.cells #[.slice Az hz.length cz] 49), srI Rz Az cz hz, .blk sx (.cells #[.pointer p2] 58), sgI Q2 p2 (segsOf h2), .blk bx (.cells #[.slice A2 h2.length c2] 49), srI S2 A2 c2 h2, ppI Rp2 ps2, .own 40 1 Ap2 cp2 np2 (bps ps2), .own 47 1 Aq2 cq2 np2 (sls ps2)]) [4, 4, 4, 4, 4, 4, 4, 0, 0, 0, 0, 0, 0, 0] (by kernel_rfl)
    exact Sx.to 2 [(0, .slice A n c), (3, .slice (some ⟨k1, 0, none⟩) 2 2), (4, .slice (some ⟨k2, 0, none⟩) 2 2), (5, .slice Ap2 np2 cp2), (6, .slice Aq2 np2 cq2), (7, .int .i64 (((1 - aa) : Nat) : Int)), (8, .int .i64 ((i + 1 : Nat) : Int))] (hK1 _ _ _ _ (by omega) ⟨i + 1, (1 - aa), sz, pz, Qz, bz, Az, cz, hz, Rz, sx, p2, Q2, bx, A2, c2, h2, S2, np2, ps2, Rp2, Ap2, cp2, Aq2, cq2, rfl, rfl, H82, (by omega), (by omega), hBz, (by omega), hB2, hs2, hp2, hnp2, hpl2⟩)
  refine Sx.nz 5 (.code (Sx.cat [1, 1, 1, 1, 1, 1, 1] (Sx.bodyOf Try.f3))) [] [(3, .slice (some ⟨k1, 0, none⟩) 2 2), (4, .slice (some ⟨k2, 0, none⟩) 2 2), (5, .slice Ap np cp), (6, .slice Aq np cq)] fun b35 => ?_
  refine Sx.cut 0 (fun l' w' => l' = [(3, .slice (some ⟨k1, 0, none⟩) 2 2), (4, .slice (some ⟨k2, 0, none⟩) 2 2)] ∧ Hs w L0 w' [entI w, .own 23 1 (some ⟨k1, 0, none⟩) 2 2 (two aa sx sz), .own 26 1 (some ⟨k2, 0, none⟩) 2 2 (two aa bx bz), .blk sx (.cells #[.pointer px] 58), sgI Qx px (segsOf hx), .blk bx (.cells #[.slice Ax hx.length cx] 49), srI Rx Ax cx hx, .blk sz (.cells #[.pointer pz] 58), sgI Qz pz (segsOf hz), .blk bz (.cells #[.slice Az hz.length cz] 49), srI Rz Az cz hz, ppI Rp ps, .own 40 1 Ap cp np (bps ps), .own 47 1 Aq cq np (sls ps)]) (fun K6 hK6 => ?_) (fun b36 l6 w46 hI6 => ?_)
  · skip
    have H83 := H13.pick (a := [entI w, .own 23 1 (some ⟨k1, 0, none⟩) 2 2 (two aa sx sz), .own 26 1 (some ⟨k2, 0, none⟩) 2 2 (two aa bx bz), .blk sx (.cells #[.pointer px] 58), sgI Qx px (segsOf hx), .blk bx (.cells #[.slice Ax hx.length cx] 49), srI Rx Ax cx hx, .blk sz (.cells #[.pointer pz] 58), sgI Qz pz (segsOf hz), .blk bz (.cells #[.slice Az hz.length cz] 49), srI Rz Az cz hz, ppI Rp ps, .own 40 1 Ap cp np (bps ps), .own 47 1 Aq cq np (sls ps)]) [0, 0, 0, 0, 0, 0, 0, 0, 0, 0, 0, 0, 0, 0] (by kernel_rfl)
    have p_c55 := h_c55; try simp [-List.getD_eq_getElem?_getD] at p_c55
    refine Sx.lp 6 (fun z l' w' => ∃ (t : Nat), l' = [(3, .slice (some ⟨k1, 0, none⟩) 2 2), (4, .slice (some ⟨k2, 0, none⟩) 2 2), (5, .slice Ap np cp), (6, .slice Aq np cq), (40, .int .i64 ((t : Nat) : Int))] ∧ z = np - t ∧ Hs w L0 w' [entI w, .own 23 1 (some ⟨k1, 0, none⟩) 2 2 (two aa sx sz), .own 26 1 (some ⟨k2, 0, none⟩) 2 2 (two aa bx bz), .blk sx (.cells #[.pointer px] 58), sgI Qx px (segsOf hx), .blk bx (.cells #[.slice Ax hx.length cx] 49), srI Rx Ax cx hx, .blk sz (.cells #[.pointer pz] 58), sgI Qz pz (segsOf hz), .blk bz (.cells #[.slice Az hz.length cz] 49), srI Rz Az cz hz, ppI Rp ps, .own 40 1 Ap cp np (bps ps), .own 47 1 Aq cq np (sls ps)]) _ [(3, .slice (some ⟨k1, 0, none⟩) 2 2), (4, .slice (some ⟨k2, 0, none⟩) 2 2), (5, .slice Ap np cp), (6, .slice Aq np cq), (40, .int .i64 ((0 : Nat) : Int))] ⟨0, rfl, rfl, H83⟩ (fun b37 z4 l7 w47 hI7 K7 hK7 => ?_)
    obtain ⟨t, rfl, rfl, H84⟩ := hI7
    refine Sx.br 9 (decide (((t : Nat) : Int) < ((np : Nat) : Int))) (fun h_c326 => ?_) (fun h_c326 => ?_)
    · skip
      have p_c326 := of_decide_eq_true h_c326
      obtain ⟨⟨pb, pq, pA, pc, ph⟩, hpx⟩ : ∃ x, ps[t]? = some x := ⟨_, List.getElem?_eq_getElem (by omega)⟩
      have hph := hps _ (List.mem_of_getElem? hpx); simp only at hph
      have hbp3 : tot (segsOf ph) + ph.length < 1000000000 := by unfold siz at hph; rw [segsOf_len] at hph; omega
      refine pp_at H84 11 Rp ps t ⟨pb, pq, pA, pc, ph⟩ (by kernel_rfl) hpx (fun H85 => ?_)
      obtain ⟨g11, hg11⟩ := H85.row 12 (A := Ap) (e := 40) (sz := 1) (cap := cp) (n := np) (xs := (bps ps)) (by kernel_rfl) (by omega)
      subst hg11
      obtain ⟨g12, hg12⟩ := H85.row 13 (A := Aq) (e := 47) (sz := 1) (cap := cq) (n := np) (xs := (sls ps)) (by kernel_rfl) (by omega)
      subst hg12
      refine Sx.dr 5 H85 [12, 13] [] (LJ := [.own 40 1 (some ⟨g11, 0, none⟩) cp np (bps ps), .own 47 1 (some ⟨g12, 0, none⟩) cq np (sls ps)]) (by kernel_rfl) fun w48 H86 => ?_
      refine Sx.tk [(0, none), (1, none)] (fun _ => (H86.sub [12, 12] (by kernel_rfl))) ?_
      refine Sx.tvg 2 [] g11 t 1 np cp (by omega) (fun _ => (H86.sub [12, 12] (by kernel_rfl))) ?_
      refine Sx.tvl 3 [] 0 40 1 40 g11 cp np (t * 1) (bps ps) (.pointer (some ⟨pb, 0, none⟩)) (bps_ld hpx) (fun _ => (H86.sub [12, 12] (by kernel_rfl))) ?_
      refine Sx.tk [(4, none), (5, none)] (fun _ => (H86.sub [12, 12] (by kernel_rfl))) ?_
      refine Sx.tvg 6 [] g12 t 1 np cq (by omega) (fun _ => (H86.sub [12, 12] (by kernel_rfl))) ?_
      refine Sx.tvl 7 [] 1 47 1 47 g12 cq np (t * 1) (sls ps) (.slice pA ph.length pc) (sls_ld hpx) (fun _ => (H86.sub [12, 12] (by kernel_rfl))) ?_
      refine Sx.nmx ?_
      intro zx1
      refine Sx.on 8 ?_
      refine Sx.c 0 [14, 14, 14] H86 (fun Hp R hR => piece_c pb Rp pq Rp (rdI Rp pA pc ph) pA ph.length pc ph w48 R Hp rd_sy rfl hbp3 (fun w49 G28 => hR _ _ _ G28 fun H87 => ?_))
      refine Sx.bk (x := zx1) 8 (fun _ => (H87.sub [15, 15] (by kernel_rfl))) ?_
      refine Sx.tk [(9, none)] (fun _ => (H87.sub [15, 15] (by kernel_rfl))) ?_
      refine Sx.dn ?_
      refine Sx.nz 1 (.code (Sx.cat [1, 1, 1, 1, 1, 1, 1, 0, 1, 0, 0, 1, 0, 0, 1] (Sx.bodyOf Try.f3))) [.blk 6, .code (Sx.cat [1, 1, 1, 1, 1, 1, 1, 0, 1, 0, 0, 1, 1] (Sx.bodyOf Try.f3)), .to K7, .blk 5, .to K6] [(3, .slice (some ⟨k1, 0, none⟩) 2 2), (4, .slice (some ⟨k2, 0, none⟩) 2 2), (5, .slice (some ⟨g11, 0, none⟩) np cp), (6, .slice (some ⟨g12, 0, none⟩) np cq), (40, .int .i64 ((t : Nat) : Int)), (41, .bool true)] fun b38 => ?_
      refine Sx.v 12 (.int .i64 (IntKind.i64.wrap (((t : Nat) : Int) + (1 : Int)))) (.int .i64 ((t + 1 : Nat) : Int)) (congrArg (Value.int .i64) (Gx.i64n (by omega) (by omega))) ?_
      have H88 := H87.pick (a := [entI w, .own 23 1 (some ⟨k1, 0, none⟩) 2 2 (two aa sx sz), .own 26 1 (some ⟨k2, 0, none⟩) 2 2 (two aa bx bz), .blk sx (.cells #[.pointer px] 58), sgI Qx px (segsOf hx), .blk bx (.cells #[.slice Ax hx.length cx] 49), srI Rx Ax cx hx, .blk sz (.cells #[.pointer pz] 58), sgI Qz pz (segsOf hz), .blk bz (.cells #[.slice Az hz.length cz] 49), srI Rz Az cz hz, ppI Rp ps, .own 40 1 (some ⟨g11, 0, none⟩) cp np (bps ps), .own 47 1 (some ⟨g12, 0, none⟩) cq np (sls ps)]) [3, 3, 3, 3, 3, 3, 3, 3, 3, 3, 3, 3, 3, 3] (by kernel_rfl)
      exact Sx.to 2 [(3, .slice (some ⟨k1, 0, none⟩) 2 2), (4, .slice (some ⟨k2, 0, none⟩) 2 2), (5, .slice (some ⟨g11, 0, none⟩) np cp), (6, .slice (some ⟨g12, 0, none⟩) np cq), (40, .int .i64 ((t + 1 : Nat) : Int))] (hK7 _ _ _ _ (by omega) ⟨t + 1, rfl, rfl, H88⟩)
    have p_c326 := of_decide_eq_false h_c326
    exact Sx.to 4 [(3, .slice (some ⟨k1, 0, none⟩) 2 2), (4, .slice (some ⟨k2, 0, none⟩) 2 2)] (hK6 _ _ _ ⟨rfl, H84⟩)
  obtain ⟨rfl, H89⟩ := hI6
  rcases (show aa = 0 ∨ aa = 1 by omega) with rfl | rfl
  · skip
    refine Sx.dr 1 H89 [1, 2] [] (LJ := [.own 23 1 (some ⟨k1, 0, none⟩) 2 2 (two 0 sx sz), .own 26 1 (some ⟨k2, 0, none⟩) 2 2 (two 0 bx bz)]) (by kernel_rfl) fun w50 H90 => ?_
    have p_c55 := h_c55; try simp [-List.getD_eq_getElem?_getD] at p_c55
    refine Sx.tk [(0, none)] (fun _ => (H90.sub [1, 1] (by kernel_rfl))) ?_
    refine Sx.tvg 1 [] k1 0 1 2 2 (by omega) (fun _ => (H90.sub [1, 1] (by kernel_rfl))) ?_
    refine Sx.tvl 2 [] 0 23 1 23 k1 2 2 (0 * 1) (two 0 sx sz) (.pointer (some ⟨sx, 0, none⟩)) (two_ld (a := 0) (x := sx) (z := sz) (by decide)) (fun _ => (H90.sub [1, 1] (by kernel_rfl))) ?_
    refine Sx.tk [(3, none)] (fun _ => (H90.sub [1, 1] (by kernel_rfl))) ?_
    refine Sx.tvg 4 [] k2 0 1 2 2 (by omega) (fun _ => (H90.sub [1, 1] (by kernel_rfl))) ?_
    refine Sx.tvl 5 [] 1 26 1 26 k2 2 2 (0 * 1) (two 0 bx bz) (.pointer (some ⟨bx, 0, none⟩)) (two_ld (a := 0) (x := bx) (z := bz) (by decide)) (fun _ => (H90.sub [1, 1] (by kernel_rfl))) ?_
    refine Sx.nmx ?_
    intro zx2
    refine Sx.on 6 ?_
    refine Sx.c 0 [3, 3, 3, 3] H90 (fun Hp R hR => alike_c sx px Qx bx hx.length cx Ax hx Rx w50 R Hp rfl hd_hx (fun w51 G29 => hR _ _ _ G29 fun H91 => ?_))
    refine Sx.bk (x := zx2) 6 (fun _ => (H91.sub [5, 5] (by kernel_rfl))) ?_
    refine Sx.tk [(7, none), (8, none)] (fun _ => (H91.sub [5, 5] (by kernel_rfl))) ?_
    refine Sx.tvg 9 [] k1 1 1 2 2 (by omega) (fun _ => (H91.sub [5, 5] (by kernel_rfl))) ?_
    refine Sx.tvl 10 [] 0 23 1 23 k1 2 2 (1 * 1) (two 0 sx sz) (.pointer (some ⟨sz, 0, none⟩)) (two_ld (a := 1) (x := sz) (z := sx) (by decide)) (fun _ => (H91.sub [5, 5] (by kernel_rfl))) ?_
    refine Sx.tk [(11, none)] (fun _ => (H91.sub [5, 5] (by kernel_rfl))) ?_
    refine Sx.tvg 12 [] k2 1 1 2 2 (by omega) (fun _ => (H91.sub [5, 5] (by kernel_rfl))) ?_
    refine Sx.tvl 13 [] 1 26 1 26 k2 2 2 (1 * 1) (two 0 bx bz) (.pointer (some ⟨bz, 0, none⟩)) (two_ld (a := 1) (x := bz) (z := bx) (by decide)) (fun _ => (H91.sub [5, 5] (by kernel_rfl))) ?_
    refine Sx.nmx ?_
    intro zx3
    refine Sx.on 14 ?_
    refine Sx.c 0 [7, 7, 7, 7] H91 (fun Hp R hR => alike_c sz pz Qz bz hz.length cz Az hz Rz w51 R Hp rfl hd_hz (fun w52 G30 => hR _ _ _ G30 fun H92 => ?_))
    refine Sx.bk (x := zx3) 14 (fun _ => (H92.sub [9, 9] (by kernel_rfl))) ?_
    refine Sx.tk [(15, none), (16, none)] (fun _ => (H92.sub [9, 9] (by kernel_rfl))) ?_
    refine Sx.dn ?_
    refine Sx.nz 1 (.code (Sx.cat [1, 1, 1, 1, 1, 1, 1, 1, 1] (Sx.bodyOf Try.f3))) [] [(2, .bool true)] fun b39 => ?_
    exact Sx.rt 1 [] H92 (.bool true) (hK _ (H92.pe hL0 [8]))
  refine Sx.dr 1 H89 [1, 2] [] (LJ := [.own 23 1 (some ⟨k1, 0, none⟩) 2 2 (two 1 sx sz), .own 26 1 (some ⟨k2, 0, none⟩) 2 2 (two 1 bx bz)]) (by kernel_rfl) fun w53 H93 => ?_
  have p_c55 := h_c55; try simp [-List.getD_eq_getElem?_getD] at p_c55
  refine Sx.tk [(0, none)] (fun _ => (H93.sub [1, 1] (by kernel_rfl))) ?_
  refine Sx.tvg 1 [] k1 0 1 2 2 (by omega) (fun _ => (H93.sub [1, 1] (by kernel_rfl))) ?_
  refine Sx.tvl 2 [] 0 23 1 23 k1 2 2 (0 * 1) (two 1 sx sz) (.pointer (some ⟨sz, 0, none⟩)) (two_ld (a := 0) (x := sz) (z := sx) (by decide)) (fun _ => (H93.sub [1, 1] (by kernel_rfl))) ?_
  refine Sx.tk [(3, none)] (fun _ => (H93.sub [1, 1] (by kernel_rfl))) ?_
  refine Sx.tvg 4 [] k2 0 1 2 2 (by omega) (fun _ => (H93.sub [1, 1] (by kernel_rfl))) ?_
  refine Sx.tvl 5 [] 1 26 1 26 k2 2 2 (0 * 1) (two 1 bx bz) (.pointer (some ⟨bz, 0, none⟩)) (two_ld (a := 0) (x := bz) (z := bx) (by decide)) (fun _ => (H93.sub [1, 1] (by kernel_rfl))) ?_
  refine Sx.nmx ?_
  intro zx4
  refine Sx.on 6 ?_
  refine Sx.c 0 [7, 7, 7, 7] H93 (fun Hp R hR => alike_c sz pz Qz bz hz.length cz Az hz Rz w53 R Hp rfl hd_hz (fun w54 G31 => hR _ _ _ G31 fun H94 => ?_))
  refine Sx.bk (x := zx4) 6 (fun _ => (H94.sub [5, 5] (by kernel_rfl))) ?_
  refine Sx.tk [(7, none), (8, none)] (fun _ => (H94.sub [5, 5] (by kernel_rfl))) ?_
  refine Sx.tvg 9 [] k1 1 1 2 2 (by omega) (fun _ => (H94.sub [5, 5] (by kernel_rfl))) ?_
  refine Sx.tvl 10 [] 0 23 1 23 k1 2 2 (1 * 1) (two 1 sx sz) (.pointer (some ⟨sx, 0, none⟩)) (two_ld (a := 1) (x := sx) (z := sz) (by decide)) (fun _ => (H94.sub [5, 5] (by kernel_rfl))) ?_
  refine Sx.tk [(11, none)] (fun _ => (H94.sub [5, 5] (by kernel_rfl))) ?_
  refine Sx.tvg 12 [] k2 1 1 2 2 (by omega) (fun _ => (H94.sub [5, 5] (by kernel_rfl))) ?_
  refine Sx.tvl 13 [] 1 26 1 26 k2 2 2 (1 * 1) (two 1 bx bz) (.pointer (some ⟨bx, 0, none⟩)) (two_ld (a := 1) (x := bx) (z := bz) (by decide)) (fun _ => (H94.sub [5, 5] (by kernel_rfl))) ?_
  refine Sx.nmx ?_
  intro zx5
  refine Sx.on 14 ?_
  refine Sx.c 0 [7, 7, 7, 7] H94 (fun Hp R hR => alike_c sx px Qx bx hx.length cx Ax hx Rx w54 R Hp rfl hd_hx (fun w55 G32 => hR _ _ _ G32 fun H95 => ?_))
  refine Sx.bk (x := zx5) 14 (fun _ => (H95.sub [9, 9] (by kernel_rfl))) ?_
  refine Sx.tk [(15, none), (16, none)] (fun _ => (H95.sub [9, 9] (by kernel_rfl))) ?_
  refine Sx.dn ?_
  refine Sx.nz 1 (.code (Sx.cat [1, 1, 1, 1, 1, 1, 1, 1, 1] (Sx.bodyOf Try.f3))) [] [(2, .bool true)] fun b40 => ?_
  exact Sx.rt 1 [] H95 (.bool true) (hK _ (H95.pe hL0 [8]))
end Go.Proofs.Ytokplpijjnkboaa
