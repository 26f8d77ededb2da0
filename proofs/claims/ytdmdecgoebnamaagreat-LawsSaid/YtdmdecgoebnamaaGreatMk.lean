/- What programs mean: how a run starts, in plain Lean and in memory. -/
import Derived.Test.YtdmdecgoebnamaaGreatMw6
import Derived.Test.YtdmdecgoebnamaaGreatMw3
import Derived.Test.YtdmdecgoebnamaaGreatCheck
import Derived.Test.YtdmdecgoebnamaaGreatSx6
import Derived.Test.YtdmdecgoebnamaaGreatYb
import Derived.Test.YtdmdecgoebnamaaGreatProg
set_option linter.unusedVariables false
set_option linter.unusedSimpArgs false
namespace Go.Mn
open Go.RowKit Go.Sx Go.aS Go.Gx
def uz (l : List PN) : List (Nm × Value) := l.foldl (fun m d => Sx.AM d.nm (.bool (d.n == 1)) m) []
theorem rH {l : List PN} {i : Nat} {d : PN} (h : l[i]? = some d) : uz (l.take (i + 1)) = Sx.AM d.nm (.bool (d.n == 1)) (uz (l.take i)) := by
 obtain ⟨hi, he⟩ := List.getElem?_eq_some_iff.1 h;rw [List.take_succ_eq_append_getElem hi, uz, List.foldl_append, he]; rfl
theorem WA {mp : List (Nm × Value)} (h : ur mp) (a : Nm) (b : Bool) : ur (Sx.AM a (.bool b) mp) := fun p hp => by
 unfold Sx.AM at hp;split at hp
 · rcases List.mem_or_eq_of_mem_set hp with q | q
   · exact h p q
   · exact ⟨b, by rw [q]⟩
 · rcases List.mem_append.1 hp with q | q
   · exact h p q
   · exact ⟨b, by rw [List.mem_singleton.1 q]⟩
inductive Lets : List PN → PN → Prop
 | one (m : PN) : Lets [m] m
 | more {k a : Nat} {nm : Nm} {n : Int} {A B : Option Addr} {c c2 : Nat} {x : PN} {ks l : List PN} {e : PN} (h : Lets l e) : Lets (.mk k a nm n A c (x :: ks) :: l) (.mk 2 a nm n B c2 [x, e])
theorem JJ {ks : List PN} {d : PN} (h : ks[ks.length - 1]? = some d) : Lets (ks.drop (((ks.length - 1 : Nat) : Int) - 1 + 1).toNat) d := by
 obtain ⟨hi, he⟩ := List.getElem?_eq_some_iff.1 h;rw [show (((ks.length - 1 : Nat) : Int) - 1 + 1).toNat = ks.length - 1 by omega, List.drop_eq_getElem_cons hi, he, List.drop_of_length_le (by omega)];exact .one d
theorem JK {ks : List PN} {j k a : Nat} {nm : Nm} {n : Int} {A B : Option Addr} {c c2 : Nat} {x : PN} {l : List PN} {e : PN} (h : ks[j]? = some (.mk k a nm n A c (x :: l))) (he : Lets (ks.drop ((j : Int) + 1).toNat) e) : Lets (ks.drop ((j : Int) - 1 + 1).toNat) (.mk 2 a nm n B c2 [x, e]) := by
 obtain ⟨hi, hx⟩ := List.getElem?_eq_some_iff.1 h;rw [show ((j : Int) + 1).toNat = j + 1 by omega] at he;rw [show ((j : Int) - 1 + 1).toNat = j by omega, List.drop_eq_getElem_cons hi, hx];exact .more he
theorem PK.two {w : World} {S : Nat → Prop} {x e : PN} {k a b c2 : Nat} {nm : Nm} {n : Int} (hx : PK w S x) (he : PK w S e) (hb : S b) (hc : w.cells? 0 ⟨b, 0, none⟩ 10 = some (x.cells ++ e.cells)) (h2 : 2 ≤ c2) : PK w S (.mk k a nm n (some ⟨b, 0, none⟩) c2 [x, e]) := by
 have hx5 : x.cells.length = 5 := by cases x; rfl
 have he5 : e.cells.length = 5 := by cases e; rfl
 refine .mk ⟨h2, by simp⟩ (fun i d hi => ⟨_, rfl, hb, ?_⟩) (fun i d hi => ?_)
 · match i, hi with
   | 0, hi => cases hi; have := aa hc (by decide : 0 + 5 ≤ 10); rw [List.drop_zero, List.take_left' hx5] at this; exact this
   | 1, hi => cases hi; have := aa hc (by decide : 5 + 5 ≤ 10); rw [List.drop_left' hx5, List.take_of_length_le (by omega)] at this; exact this
   | i + 2, hi => cases hi
 · match i, hi with
   | 0, hi => cases hi; exact hx
   | 1, hi => cases hi; exact he
   | i + 2, hi => cases hi
theorem aaz (a : Nm) : Instr.sameBits 10000 (Value.string a) (Value.string a) = true := (MapKept.bytes_beq a a).2 rfl
theorem WB {w : World} {e sz : Nat} : (wI e sz none 0 0 []).holds w := ru ⟨by simp, .inl ⟨rfl, rfl, rfl⟩⟩
theorem RY {w : World} : (tN [] []).holds w := mn (fun i _ h _ => by cases i <;> cases h) (fun i _ _ h => by cases i <;> cases h)
section
variable {w0 w : World} {L0 L : List Sx.Item}
theorem WC (H : Hs w0 L0 w L) (i : Nat) {bt : Nat} (hi : L[i]? = some (.al bt (.map #[] 0))) : Hs w0 L0 w (L.set i (uq bt [])) := gH _ _ H hi
theorem WD (H : Hs w0 L0 w L) (e sz : Nat) : Hs w0 L0 w (L ++ [wI e sz none 0 0 []]) := H.add (Gx.Ext.refl _) WB (fun _ h => by cases h)
theorem WE (H : Hs w0 L0 w L) : Hs w0 L0 w (L ++ [tN [] []]) := H.add (Gx.Ext.refl _) RY (fun _ h => by obtain ⟨i, h, _⟩ := h; cases i <;> cases h)
variable [Rd] {P : Program} {B : Exit → Act → World → Prop} {b : Nat → Value} {n : Nat} {d : List Deferred} {x : Sx.St}
theorem muO {t kt et : Nat} (m i : Nat) (H : Hs w0 L0 w L) {bt : Nat} {mp : List (Nm × Value)} (a : Nm) (v : Bool) (hi : L[i]? = some (uq bt mp))
   (k : ∀ w', Hs w0 L0 w' (L.set i (uq bt (Sx.AM a (.bool v) mp))) → Goal P B b n d (Sx.nx (vX (via P b n m w x (Sx.ask (pH b n)))).y (vX (via P b n m w x (Sx.ask (pH b n)))).q undef) w')
   (h : vA (via P b n m w x (Sx.ask (pH b n))) = vB w (via P b n m w x (Sx.ask (pH b n))) := by kernel_rfl)
   (h2 : ((vX (via P b n m w x (Sx.ask (pH b n)))).u, (vX (via P b n m w x (Sx.ask (pH b n)))).t) = ([.map (some bt), .string a, .bool v], [t]) := by kernel_rfl)
   (ht : ki P t = some (kt, et) := by kernel_rfl) (lE : P.underlying kt = some .string := by kernel_rfl) : Goal P B b n d x w := mu m i H (enc := Value.string) a (.bool v) hi aaf str_inj aaz k h h2 ht lE
end
end Go.Mn
namespace Go.Proofs.YtdmdecgoebnamaaGreat
open Go.RowKit Go.Sx Go.aS Go.Mn
attribute [local irreducible] Go.wpOps Go.Code.wp Go.wpOp Go.wpAnyH Go.Calls Go.Sx.Goal
set_option maxRecDepth 20000
namespace Mr
set_option maxHeartbeats 8000000 in
theorem JL (S : Nat → Prop) (k ta : Nat) (nm : Nm) (N : Nat) (nA : Option Addr) (nc : Nat) (ks : List PN) (w : World) (K : Ending → World → Prop) (H0 : Sp w [mI S ([]) ([]) [.aG (PN.mk k ta nm (N : Int) nA nc ks)]]) (hN : N < ks.length) (hds : ∀ (j : Nat) (d : PN), N ≤ j → j + 1 < ks.length → ks[j]? = some d → ∃ x l, d.ks = x :: l) (hK : ∀ (br : Nat) (bo : Nat) (S' : Nat → Prop) (k' : Nat) (a' : Nat) (qw : Nm) (qx : Int) (qy : Option Addr) (qz : Nat) (o3 : List PN) w', Hs w [mI S ([]) ([]) [.aG (PN.mk k ta nm (N : Int) nA nc ks)]] w' [bR br none 0 0 (.n k') (.n a') qw (.int .i64 qx) qy o3.length qz (.pointer none) (.pointer none) bo (.int .i64 0) eB (.int .i64 0), wI 135 8 none 0 0 (bh ([])), mI S' ([]) ([]) [.env none .nil, .aG (PN.mk k' a' qw qx qy qz o3), .vo none none], tN ([]) ([]), uq bo (uz (ks.take N))] → (Lets (ks.drop N) (PN.mk k' a' qw qx qy qz o3)) → (ur (uz (ks.take N))) → K (.returned (.p br)) w') :
   Calls Tryz.prog 27 #[.agg #[.n k, .n ta, .string nm, .n N, .slice nA ks.length nc]] w K := by
 obtain ⟨L0, ak, H⟩ := Sx.bX H0;refine xu (vs := [.agg #[.n k, .n ta, .string nm, .n N, .slice nA ks.length nc]]) 76 Tryz.func27 ?_;have m1 : aL w S ([]) ([]) [.aG (PN.mk k ta nm (N : Int) nA nc ks)] := ay H 0 (by kernel_rfl);have Ub : ks.length < 1000000000 := by obtain ⟨⟨_, h⟩, _⟩ := PK.at (m1.2 _ j0) (List.getElem?_eq_getElem hN); exact h
 refine xf 2 H fun k1 w1 H1 => xf 5 H1 fun k2 w2 H2 => ?_;have H3 := WC (bt := k2) H2 2 (by kernel_rfl);refine xb 0 1 H3 <| xf 1 H3 fun k3 w3 H4 => ?_;refine xz 10 (fun z l' w' => ∃ (i : Nat) (mp : List (Nm × Value)), l' = [(1, .p k1), (3, .p k3), (4, .n i)] ∧ z = N - i ∧ Hs w L0 w' [.al k1 (.cells #[.n k, .n ta, .string nm, .n N, .slice nA ks.length nc] 62), bR k3 none 0 0 (.n k) (.n ta) nm (.n N) nA ks.length nc (.pointer none) (.pointer none) k2 (.int .i64 0) eB (.int .i64 0), mI S ([]) ([]) [.aG (PN.mk k ta nm (N : Int) nA nc ks)], uq k2 mp] ∧ (i ≤ N) ∧ (mp = uz (ks.take i)) ∧ (ur mp)) _ _ ⟨0, [], rfl, rfl, H4.pk [1, 2, 0, 0], (Nat.zero_le _), rfl, (fun _ h => by cases h)⟩ (fun b1 z1 l1 w4 bQ K1 aN => ?_);obtain ⟨i, mp, rfl, rfl, H6, hi, hmp, fB⟩ := bQ;refine xb 5 0 H6 ?_;refine xl 3 (decide ((i : Int) < (N : Int))) (fun bI => ?_) (fun bI => ?_)
 · have iG := of_decide_eq_true bI;have au : ∃ d, ks[i]? = some d := ⟨_, List.getElem?_eq_getElem (by omega)⟩;obtain ⟨⟨dk, da, bJ, dn, dA, dc, cH⟩, hd⟩ := au;have m2 : aL w4 S ([]) ([]) [.aG (PN.mk k ta nm (N : Int) nA nc ks)] := ay H6 2 (by kernel_rfl);have au := PK.at (m2.2 _ j0) hd;obtain ⟨Dj, ⟨gk, zd, _, _⟩, _⟩ := au;refine xw 4 H6 [1, 0, 2] [] (LJ := [bR k3 none 0 0 (.n k) (.n ta) nm (.n N) nA ks.length nc (.pointer none) (.pointer none) k2 (.int .i64 0) eB (.int .i64 0), .al k1 (.cells #[.n k, .n ta, .string nm, .n N, .slice nA ks.length nc] 62), mI S ([]) ([]) [.aG (PN.mk k ta nm (N : Int) nA nc ks)]]) (by kernel_rfl) fun w5 H7 => xm [(0, none), (1, none), (2, none), (3, some (0, [])), (4, none), (5, some (1, [])), (6, none)] (H7.sb [1, 0, 0]) <| yi 7 [] gk i 5 ks.length nc zd (by omega) (H7.sb [1, 0, 0]) <| ym 8 [] (Addr.add gk (i * 5)) 2 (H7.sb [1, 0, 0]) ?_;have m3 : aL w5 S ([]) ([]) [.aG (PN.mk k ta nm (N : Int) nA nc ks)] := ay H7 2 (by kernel_rfl);refine yg (c := 1) (t := 9) 9 [] [.string bJ] (.string bJ) (fun w' hs => (aa (PK.cell ((Go.aS.cQ hs 2 (it := mI S ([]) ([]) [.aG (PN.mk k ta nm (N : Int) nA nc ks)]) (by kernel_rfl)).1.2 _ j0) zd (i := i) hd) (by decide : 2 + 1 ≤ 5))) (H7.sb [1, 0, 0]) <| xm [(10, none), (11, some (1, [])), (12, none)] (H7.sb [1, 0, 0]) <| yi 13 [] gk i 5 ks.length nc zd (by omega) (H7.sb [1, 0, 0]) <| ym 14 [] (Addr.add gk (i * 5)) 3 (H7.sb [1, 0, 0]) <| yg (c := 1) (t := 3) 15 [] [.int .i64 dn] (.int .i64 dn) (fun w' hs => (aa (PK.cell ((Go.aS.cQ hs 2 (it := mI S ([]) ([]) [.aG (PN.mk k ta nm (N : Int) nA nc ks)]) (by kernel_rfl)).1.2 _ j0) zd (i := i) hd) (by decide : 3 + 1 ≤ 5))) (H7.sb [1, 0, 0]) <| Sx.L2 16 [] (.bool (dn == (1 : Int))) (.bool (dn == 1)) (rfl) (H7.sb [1, 0, 0]) ?_;refine xg ?_;intro gy;refine xi 17 <| muO (bt := k2) (mp := mp) (t := 72) (kt := 9) (et := 4) 0 3 H7 bJ (dn == 1) (by kernel_rfl) fun w6 H8 => xe (x := gy) 17 (H8.sb [1, 0, 0]) <| xt <| Sx.vi 4 ((i : Int) + (1 : Int)) ((i + 1 : Nat) : Int) (Gx.bj (by omega) (by omega)) ?_;exact xj 2 _ (aN _ _ _ _ (by omega) ⟨(i + 1), (Sx.AM bJ (.bool (dn == 1)) mp), rfl, rfl, H8.pk [0, 0, 0, 0], (by omega), (by rw [rH hd, ← hmp]; rfl), (WA fB _ _)⟩)
 have iG := of_decide_eq_false bI;have hiN : i = N := by omega
 rw [hiN] at hmp;subst hmp;have au : ∃ d, ks[(ks.length - 1)]? = some d := ⟨_, List.getElem?_eq_getElem (by omega)⟩;obtain ⟨⟨dk, da, bJ, dn, dA, dc, cH⟩, hd⟩ := au;have m4 : aL w4 S ([]) ([]) [.aG (PN.mk k ta nm (N : Int) nA nc ks)] := ay H6 2 (by kernel_rfl);have au := PK.at (m4.2 _ j0) hd;obtain ⟨Dj, ⟨gk, zd, _, _⟩, _⟩ := au;refine xb 8 0 H6 <| xb 1 0 H6 <| Sx.vi 1 ((ks.length : Int) - (1 : Int)) ((ks.length - 1 : Nat) : Int) ((by rw [show ((ks.length : Int) - (1 : Int)) = ((ks.length - 1 : Nat) : Int) by omega]; exact IntWalk.i64_in _ (by omega))) <| xv 0 gk (ks.length - 1) 5 ks.length nc zd (by omega) <| xr (c := 5) (t := 62) 0 (Sx.nC dk da bJ dn dA cH dc) (Sx.nA dk da bJ dn dA cH dc) (PK.cell (m4.2 _ j0) zd (i := (ks.length - 1)) hd) <| xf 0 H6 fun k4 w7 aY => ?_;refine xd 0 4 aY fun w8 aZ => xb 6 0 aZ <| Sx.vi 1 ((ks.length : Int) - (2 : Int)) (((ks.length - 1 : Nat) : Int) - 1) ((by rw [show ((ks.length : Int) - (2 : Int)) = ((ks.length - 1 : Nat) : Int) - 1 by omega]; exact IntWalk.i64_in _ (by omega))) ?_;have m5 : aL w8 S ([]) ([]) [.aG (PN.mk k ta nm (N : Int) nA nc ks)] := ay aZ 2 (by kernel_rfl);have aP := dy m5 aZ 2 (by kernel_rfl) ([]) [.aG (PN.mk k ta nm (N : Int) nA nc ks), .aG (PN.mk dk da bJ dn dA dc cH)] (⟨m5.1, fun q h => (by rcases List.mem_cons.1 h with rfl | h; exact m5.2 _ (.head _); rw [List.mem_singleton.1 h]; exact PK.nB (m5.2 _ j0) hd)⟩);refine xz 4 (fun z l' w' => ∃ (S : Nat → Prop) (i : Int) (ek : Nat) (ea : Nat) (Bm : Nm) (en : Int) (eA : Option Addr) (ec : Nat) (Bn : List PN), l' = [(1, .p k1), (3, .p k3), (5, .p k4), (6, .int .i64 i)] ∧ z = (i + 1).toNat ∧ Hs w L0 w' [.al k1 (.cells #[.n k, .n ta, .string nm, .n N, .slice nA ks.length nc] 62), bR k3 none 0 0 (.n k) (.n ta) nm (.n N) nA ks.length nc (.pointer none) (.pointer none) k2 (.int .i64 0) eB (.int .i64 0), mI S ([]) ([]) [.aG (PN.mk k ta nm (N : Int) nA nc ks), .aG (PN.mk ek ea Bm en eA ec Bn)], .al k4 (.cells #[.n ek, .n ea, .string Bm, .int .i64 en, .slice eA Bn.length ec] 62), uq k2 (uz (ks.take N))] ∧ ((N : Int) - 1 ≤ i ∧ i + 2 ≤ ks.length) ∧ (Lets (ks.drop (i + 1).toNat) (PN.mk ek ea Bm en eA ec Bn))) _ _ ⟨S, (((ks.length - 1 : Nat) : Int) - 1), dk, da, bJ, dn, dA, dc, cH, rfl, rfl, aP.pk [0, 0, 3, 2, 1], (by omega), (JJ hd)⟩ (fun b2 z2 l2 w9 gA K2 dH => ?_);obtain ⟨S, i, ek, ea, Bm, en, eA, ec, Bn, rfl, rfl, bq, hi, dO⟩ := gA;refine xb 5 0 bq ?_;refine xl 3 (decide (i ≥ (N : Int))) (fun MV => ?_) (fun MV => ?_)
 · have aaB := of_decide_eq_true MV;have au : ∃ j : Nat, i = (j : Int) := ⟨i.toNat, by omega⟩;obtain ⟨j, rfl⟩ := au;have au : ∃ d, ks[j]? = some d := ⟨_, List.getElem?_eq_getElem (by omega)⟩;obtain ⟨⟨dk, da, bJ, dn, dA, dc, cH⟩, hd⟩ := au;have m6 : aL w9 S ([]) ([]) [.aG (PN.mk k ta nm (N : Int) nA nc ks), .aG (PN.mk ek ea Bm en eA ec Bn)] := ay bq 2 (by kernel_rfl);have au := PK.at (m6.2 _ j0) hd;obtain ⟨Dj, ⟨gk, zd, _, _⟩, _⟩ := au;have au := hds j _ (by omega) (by omega) hd;obtain ⟨⟨xk, xa, sP, xn, xA, xc, yP⟩, dl, rfl⟩ := au;have bu := dy m6 bq 2 (by kernel_rfl) ([]) [.aG (PN.mk k ta nm (N : Int) nA nc ks), .aG (PN.mk ek ea Bm en eA ec Bn), .aG (PN.mk dk da bJ dn dA dc ((PN.mk xk xa sP xn xA xc yP) :: dl))] (aL.l3 m6.1 (m6.2 _ j0) (m6.2 _ j1) (PK.nB (m6.2 _ j0) hd));have m7 : aL w9 S ([]) ([]) [.aG (PN.mk k ta nm (N : Int) nA nc ks), .aG (PN.mk ek ea Bm en eA ec Bn), .aG (PN.mk dk da bJ dn dA dc ((PN.mk xk xa sP xn xA xc yP) :: dl))] := ay bu 5 (by kernel_rfl);have au := PK.at (m7.2 _ j2) (i := 0) rfl;obtain ⟨_, ⟨gz, hgz, _, _⟩, _⟩ := au;refine xb 7 0 bu <| xv 1 gk j 5 ks.length nc zd (by omega) ?_;have m8 : aL w9 S ([]) ([]) [.aG (PN.mk k ta nm (N : Int) nA nc ks), .aG (PN.mk ek ea Bm en eA ec Bn)] := ay bu 2 (by kernel_rfl);refine xr (c := 5) (t := 62) 0 [.n dk, .n da, .string bJ, .int .i64 dn, .slice dA (((PN.mk xk xa sP xn xA xc yP) :: dl).length) dc] (.agg #[.n dk, .n da, .string bJ, .int .i64 dn, .slice dA (((PN.mk xk xa sP xn xA xc yP) :: dl).length) dc]) (PK.cell (m8.2 _ j0) zd (i := j) hd) <| xf 0 bu fun k5 cJ bS => xd 0 6 bS fun fU bx => xw 2 bx [6, 5, 3] [13] (LJ := [.al k5 (.cells #[.n dk, .n da, .string bJ, .int .i64 dn, .slice dA (((PN.mk xk xa sP xn xA xc yP) :: dl).length) dc] 62), mI S ([]) ([]) [.aG (PN.mk k ta nm (N : Int) nA nc ks), .aG (PN.mk ek ea Bm en eA ec Bn), .aG (PN.mk dk da bJ dn dA dc ((PN.mk xk xa sP xn xA xc yP) :: dl))], .al k4 (.cells #[.n ek, .n ea, .string Bm, .int .i64 en, .slice eA Bn.length ec] 62)]) (by kernel_rfl) fun gV cV => xm [(0, none), (1, some (0, [12, 13])), (2, none), (3, some (0, [12, 13])), (4, none), (5, some (0, [12, 13])), (6, none), (7, some (0, [8, 9, 11, 12, 13]))] (cV.sb [6, 5, 3]) <| yi 8 [9, 11, 12, 13] gz 0 5 (((PN.mk xk xa sP xn xA xc yP) :: dl).length) dc hgz (by simp) (cV.sb [6, 5, 3]) ?_;have m9 : aL gV S ([]) ([]) [.aG (PN.mk k ta nm (N : Int) nA nc ks), .aG (PN.mk ek ea Bm en eA ec Bn), .aG (PN.mk dk da bJ dn dA dc ((PN.mk xk xa sP xn xA xc yP) :: dl))] := ay cV 5 (by kernel_rfl);refine yg (c := 5) (t := 62) 9 [11, 12, 13] (Sx.nC xk xa sP xn xA yP xc) (Sx.nA xk xa sP xn xA yP xc) (fun w' hs => (PK.cell ((Go.aS.cQ hs 1 (it := mI S ([]) ([]) [.aG (PN.mk k ta nm (N : Int) nA nc ks), .aG (PN.mk ek ea Bm en eA ec Bn), .aG (PN.mk dk da bJ dn dA dc ((PN.mk xk xa sP xn xA xc yP) :: dl))]) (by kernel_rfl)).1.2 _ j2) hgz (i := 0) rfl)) (cV.sb [6, 5, 3]) <| xm [(10, some (2, [11, 12, 13]))] (cV.sb [6, 5, 3]) <| xg ?_;intro im;refine xi 11 <| xf 0 cV fun k6 iq bZ => xe (x := im) 11 (bZ.sb [6, 5, 3]) <| xm [(12, none)] (bZ.sb [6, 5, 3]) <| xg ?_;intro kc;refine xi 13 <| xd 0 3 bZ fun iF cj => xe (x := kc) 13 Sx.np <| xt <| Sx.vi 4 ((j : Int) - (1 : Int)) ((j : Int) - (1 : Int)) (IntWalk.i64_in _ (by omega)) ?_;have Ct : aL iF S ([]) ([]) [.aG (PN.mk k ta nm (N : Int) nA nc ks), .aG (PN.mk ek ea Bm en eA ec Bn), .aG (PN.mk dk da bJ dn dA dc ((PN.mk xk xa sP xn xA xc yP) :: dl))] := ay cj 5 (by kernel_rfl);have au := m0 Ct cj [5, 6] ([]) [.aG (PN.mk k ta nm (N : Int) nA nc ks), .aG (PN.mk 2 da bJ dn (some ⟨k6, 0, none⟩) 2 [(PN.mk xk xa sP xn xA xc yP), (PN.mk ek ea Bm en eA ec Bn)])] k6 62 #[.n xk, .n xa, .string sP, .int .i64 xn, .slice xA yP.length xc, .n ek, .n ea, .string Bm, .int .i64 en, .slice eA Bn.length ec] (by kernel_rfl) (fun S' h hb hc => ⟨h.1, fun q hq => (by rcases List.mem_cons.1 hq with rfl | hq; exact h.2 _ j0; rw [List.mem_singleton.1 hq]; exact PK.two (PK.nB (h.2 _ j2) (i := 0) rfl) (h.2 _ j1) hb hc (Nat.le_refl _))⟩);obtain ⟨S1, cC⟩ := au;exact xj 2 _ (dH _ _ _ _ (by omega) ⟨S1, ((j : Int) - 1), 2, da, bJ, dn, (some ⟨k6, 0, none⟩), 2, [(PN.mk xk xa sP xn xA xc yP), (PN.mk ek ea Bm en eA ec Bn)], rfl, rfl, cC.pk [1, 1, 0, 1, 1], (by omega), (JK hd dO)⟩)
 refine xb 8 3 bq <| xd 2 1 bq fun kr dJ => xh 9 [] dJ (.p k3) ?_;have aaB := of_decide_eq_false MV;have cW := WD dJ 135 8;have cK := WE cW;have HG : aL kr S ([]) ([]) [.aG (PN.mk k ta nm (N : Int) nA nc ks), .aG (PN.mk ek ea Bm en eA ec Bn)] := ay cK 2 (by kernel_rfl);have ef := dy HG cK 2 (by kernel_rfl) ([]) [.env none .nil, .aG (PN.mk ek ea Bm en eA ec Bn), .vo none none] (aL.l3 HG.1 .nil (HG.2 _ j1) trivial);subst ak;exact hK k3 k2 S ek ea Bm en eA ec Bn _ (ef.pick [1, 4, 5, 4, 3] (by kernel_rfl)) (by rw [show i = (N : Int) - 1 by omega, show ((N : Int) - 1 + 1).toNat = N by omega] at dO; exact dO) fB
end Mr
end Go.Proofs.YtdmdecgoebnamaaGreat
namespace Go.aS
open Go.RowKit Go.Sx Go.Gx Go.fO
abbrev Nr := Nd × Option Addr × Nat
def z7 (Q : Nat → Prop) (l : List Nr) : Sx.Item := .ro Q (fun w => ∀ p ∈ l, KV Q w p.1.ks p.2.1 p.2.2)
theorem Bo (Q : Nat → Prop) (l : List Nr) : Sx.Loc Q (fun w => ∀ p ∈ l, KV Q w p.1.ks p.2.1 p.2.2) := fun _ _ _ hk h p hp => (h p hp).frame (fun j hj _ => hk j hj)
inductive Kd where
 | lf (k a : Nat) (x : ByteArray) (n : Int)
 | nd (Q : Nat → Prop) (t : Nd) (A : Option Addr) (c : Nat)
def Kd.r : Kd → Nr
 | .lf k a x n => (.mk k a x n [], none, 0)
 | .nd _ t A c => (t, A, c)
def Kd.i : Kd → Option Sx.Item
 | .lf _ _ _ _ => none
 | .nd Q t A c => some (eK Q t.ks A c)
section
variable {w0 w : World} {L0 L : List Sx.Item}
theorem _root_.Go.Sx.Hs.pe {L1 : List Sx.Item} (H : Hs w0 L0 w L) (e : L0 = L1) (I : List Nat) {a : List Sx.Item} (h : bp I L = some a := by kernel_rfl) : Hs w0 L1 w a := e ▸ H.pick I h
theorem wE (H : Hs w0 L0 w L) : Hs w0 L0 w (L ++ [z7 (fun _ => False) []]) := H.add (Gx.Ext.refl _) (it := z7 (fun _ => False) []) ⟨fun _ h => (by cases h), fun _ h => h.elim, Bo _ _⟩ (fun _ h => h.elim)
theorem db (H : Hs w0 L0 w L) : Hs w0 L0 w (L ++ [eK (fun _ => False) [] none 0]) := H.add (Gx.Ext.refl _) (it := eK (fun _ => False) [] none 0) ⟨.nil, fun _ h => h.elim, uX _ _ _ _⟩ (fun _ h => h.elim)
theorem MW {S : List Sx.Item} {m : List Kd} (s : ∀ it ∈ S, it.holds w) (h : ∀ x ∈ m.filterMap Kd.i, x ∈ S) : ∀ p ∈ m.map Kd.r, KV (E8 S) w p.1.ks p.2.1 p.2.2 := fun p hp => by
 obtain ⟨k, hk, rfl⟩ := List.mem_map.1 hp;cases k with
 | lf => exact .nil
 | nd Q t A c =>
   have hm := h (eK Q t.ks A c) (List.mem_filterMap.2 ⟨_, hk, rfl⟩);exact (s _ hm).1.mono fun c hc _ => ⟨_, hm, hc⟩
theorem MX (H : Hs w0 L0 w L) (I : List Nat) (Q : Nat → Prop) (l : List Nr) (m : List Kd) (hp : bp I L = some (z7 Q l :: m.filterMap Kd.i) := by kernel_rfl) : ∃ Q', Hs w0 L0 w (z7 Q' (l ++ m.map Kd.r) :: rest I L) := by
 refine ⟨_, H.fz I hp (fun s p hp => ?_) (Bo _ _)⟩;rcases List.mem_append.1 hp with h | h
 · exact ((s.all _ (.head _)).1 p h).mono fun c hc _ => ⟨_, .head _, hc⟩
 · exact MW s.all (fun x hx => .tail _ hx) p h
theorem RZ (H : Hs w0 L0 w L) (I : List Nat) (Q Q2 : Nat → Prop) (l m : List Nr) (hp : bp I L = some [z7 Q l, z7 Q2 m] := by kernel_rfl) : ∃ Q', Hs w0 L0 w (z7 Q' (l ++ m) :: rest I L) := by
 refine ⟨_, H.fz I hp (fun s p hp => ?_) (Bo _ _)⟩;rcases List.mem_append.1 hp with h | h
 · exact ((s.all _ (.head _)).1 p h).mono fun c hc _ => ⟨_, .head _, hc⟩
 · exact ((s.all _ (.tail _ (.head _))).1 p h).mono fun c hc _ => ⟨_, .tail _ (.head _), hc⟩
theorem R0 (H : Hs w0 L0 w L) (I : List Nat) (e : Nat) (A : Option Addr) (cap n : Nat) (Q : Nat → Prop) (l : List Nr) (hp : bp I L = some [.own e 5 A cap n (flat l), z7 Q l]) (hn : n = l.length) : ∃ Q', Hs w0 L0 w (eK Q' (iT l) A cap :: rest I L) := by
 refine ⟨_, H.fz I hp (fun s => ?_) (uX _ _ _ _)⟩;obtain ⟨A', c', e1, h⟩ := KV.VF (Q := E8 [.own e 5 A cap n (flat l), z7 Q l]) l (s.all _ (.head _)) (fun j hj => ⟨_, .head _, hj⟩) (fun p hp => ((s.all _ (.tail _ (.head _))).1 p hp).mono fun c hc _ => ⟨_, .tail _ (.head _), hc⟩);cases e1;exact h
theorem MY (H : Hs w0 L0 w L) (I : List Nat) (k e : Nat) (m : List Kd) (hp : bp I L = some (.al k (.cells (flat (m.map Kd.r)).toArray e) :: m.filterMap Kd.i) := by kernel_rfl) (hl : Nat.ble m.length 9 = true := by kernel_rfl) : ∃ Q, Hs w0 L0 w (eK Q (iT (m.map Kd.r)) (some ⟨k, 0, none⟩) m.length :: rest I L) :=
 ⟨_, H.fz I hp (fun s => KV.Ly (n := (flat (m.map Kd.r)).length) (m.map Kd.r) (s.all _ (.head _)) (List.take_length) ⟨_, .head _, rfl⟩ (MW s.all (fun x hx => .tail _ hx)) (by simp) (by have := Nat.le_of_ble_eq_true hl; unfold maxLen; simp; omega)) (uX _ _ _ _)⟩
theorem MZ (H : Hs w0 L0 w L) (i k e : Nat) (m : List Kd) (hi : L[i]? = some (.al k (.cells (flat (m.map Kd.r)).toArray e)) := by kernel_rfl) (hl : Nat.ble m.length 9 = true := by kernel_rfl) : Hs w0 L0 w (L.set i (.own e 5 (some ⟨k, 0, none⟩) m.length m.length (flat (m.map Kd.r)))) :=
 H.tI i 5 m.length hi ((nO (m.map Kd.r)).trans (by rw [List.length_map])) (by have := Nat.le_of_ble_eq_true hl; omega)
variable {P : Prop}
theorem gM (H : Hs w0 L0 w L) (I : List Nat) (Q : Nat → Prop) (l : List Nr) (m : List Kd) (k : ∀ Q', Hs w0 L0 w (z7 Q' (l ++ m.map Kd.r) :: rest I L) → P) (hp : bp I L = some (z7 Q l :: m.filterMap Kd.i) := by kernel_rfl) : P := (MX H I Q l m hp).elim k
theorem WG (H : Hs w0 L0 w L) (I : List Nat) (Q Q2 : Nat → Prop) (l m : List Nr) (k : ∀ Q', Hs w0 L0 w (z7 Q' (l ++ m) :: rest I L) → P) (hp : bp I L = some [z7 Q l, z7 Q2 m] := by kernel_rfl) : P := (RZ H I Q Q2 l m hp).elim k
theorem Bp (H : Hs w0 L0 w L) (I : List Nat) (e : Nat) (A : Option Addr) (cap n : Nat) (Q : Nat → Prop) (l : List Nr) (hn : n = l.length) (k : ∀ Q', Hs w0 L0 w (eK Q' (iT l) A cap :: rest I L) → P) (hp : bp I L = some [.own e 5 A cap n (flat l), z7 Q l] := by kernel_rfl) : P := (R0 H I e A cap n Q l hp hn).elim k
theorem bP (H : Hs w0 L0 w L) (I : List Nat) (k e : Nat) (m : List Kd) (c : ∀ Q', Hs w0 L0 w (eK Q' (iT (m.map Kd.r)) (some ⟨k, 0, none⟩) m.length :: rest I L) → P) (hp : bp I L = some (.al k (.cells (flat (m.map Kd.r)).toArray e) :: m.filterMap Kd.i) := by kernel_rfl) (hl : Nat.ble m.length 9 = true := by kernel_rfl) : P := (MY H I k e m hp hl).elim c
end
structure Up (S : ByteArray) (q q' : Rs) : Prop where
 ok : Ok S q'
 m : M S q' ≤ M S q
 x : q'.x = q.x
 y : q'.y = q.y
theorem Up.of {S : ByteArray} {q q' : Rs} (h : Tr S q q') : Up S q q' := ⟨h.ok, h.m, h.x, h.y⟩
theorem Ur {S : ByteArray} {q : Rs} (h : Ok S q) (x y : Nat) (hx : x ≤ 200) (hy : y ≤ 200) : Ok S ⟨q.k, q.a, q.t, q.n, q.e, q.fk, q.fa, x, y⟩ := ⟨h.size, h.e, hx, hy, h.a, h.n, h.t, h.k, h.end_, h.nm, h.sg⟩
theorem R1 {S : ByteArray} {q q' : Rs} (h : Ok S q) (e : bU S q = q') : Up S q q' ∧ ∀ s, bw q s = true → M S q' < M S q := by subst e; exact ⟨.of (qV h), fun s hs => is_lt h hs⟩
theorem Ut {S : ByteArray} {q q' : Rs} (h : Ok S q) (e : qh q = q') : Up S q q' := by subst e; exact .of (CW h)
theorem M0 {S s : ByteArray} {q q' : Rs} (h : Ok S q) (e : aO S q s = q') : Up S q q' ∧ (bw q s = true → M S q' < M S q) := by subst e; exact ⟨.of (vM h), fun hs => sH h hs⟩
theorem HK {S s : ByteArray} {q q' : Rs} (h : Ok S q) (e : aK S q s = q') : Up S q q' := by subst e; exact .of (Ha h)
theorem HL {S x : ByteArray} {a : Nat} {q q' : Rs} (h : Ok S q) (e : bK S q = ((x, a), q')) : Up S q q' ∧ (okB q' = true → M S q' < M S q) := by
 have t := Hb h;have l := QQ (S := S) (q := q) h;rw [e] at t l;exact ⟨.of t, l⟩
theorem nt {b : Bool} (h : (!b) = true) : b = false := by simpa using h
theorem nf {b : Bool} (h : (!b) = false) : b = true := by simpa using h
theorem s0 : ((true = true) = True) ∧ ((false = true) = False) ∧ ((!true) = false) ∧ ((!false) = true) ∧ (∀ b, (true && b) = b) ∧ (∀ b, (false && b) = false) ∧ (∀ b, (true || b) = true) ∧ (∀ b, (false || b) = b) ∧ (∀ b, (b && true) = b) ∧ (∀ b, (b || false) = b) ∧ (∀ b, (b && false) = false) ∧ (∀ b, (b || true) = true) := by simp
theorem ago {q : Rs} (h : ((!(okB q)) || ((q.k : Int) != (2 : Int))) = true) : eu q = false := by unfold eu; revert h; cases okB q <;> simp [bne]
theorem agp {q : Rs} (h : ((!(okB q)) || ((q.k : Int) != (2 : Int))) = false) : eu q = true := by unfold eu; revert h; cases okB q <;> simp [bne]
theorem fV {α : Type} (a b : Bool) (x y : α) : (if a = true then if b = true then x else y else y) = if (a && b) = true then x else y := by cases a <;> cases b <;> rfl
theorem kU {α : Type} (a b : Bool) (x y : α) : (if a = true then x else if b = true then x else y) = if (a || b) = true then x else y := by cases a <;> cases b <;> rfl
theorem M1 (l m : List Nr) : flat l ++ flat m = flat (l ++ m) := List.flatMap_append.symm
theorem JM {l : List Nd} {i : Nat} {d z : Nd} (h : l[i]? = some d) : (l.drop i).foldr zL z = zL d ((l.drop (i + 1)).foldr zL z) := by
 obtain ⟨hi, e⟩ := List.getElem?_eq_some_iff.1 h;rw [List.drop_eq_getElem_cons hi, List.foldr_cons, e]
theorem JN {w : World} {e sz cap n : Nat} {A : Option Addr} {xs : List Value} (h : (Sx.Item.own e sz A cap n xs).holds w) : (A = none → n = 0) ∧ ∀ a, A = some a → ∀ j u, xs[j]? = some u → w.cell? (a.add j) = some u := by
 rcases h.2 with ⟨hv, hn⟩ | ⟨g, cM, cur, hv, _, hg, zI, _, _, ZV⟩
 · injection hv with e1; subst e1; exact ⟨fun _ => hn, fun a ha => by cases ha⟩
 · injection hv with e1 e2 e3;subst e1;refine ⟨fun q => (by cases q), fun a ha j u hu => ?_⟩;cases ha;have ea : (⟨g, 0, none⟩ : Addr).add j = ⟨g, j, none⟩ := by unfold Addr.add; split <;> simp_all
   rw [ea, cell_of_row w g j cur e (0, 0) hg];rw [← ZV, List.getElem?_take] at hu;split at hu
   · simpa using hu
   · cases hu
end Go.aS
namespace Go.Sx
open Go.RowKit Go.Gx
section
variable {P : Program} {fn : Func} {R : Ending → World → Prop} {b : Nat → Value} {n : Nat} {d : List Deferred} {w : World} {x : St}
theorem on3 (i j m : Nat) (k1 : Goal P (bodyPost P fn R) b n d (YK i P (bodyPost P fn R) x) w) (k2 : Goal P (bodyPost P fn R) b n d (YK j P (bodyPost P fn R) x) w) (k3 : Goal P (bodyPost P fn R) b n d (YK m P (bodyPost P fn R) x) w) (h : Re x = [i, j, m] := by kernel_rfl) : Goal P (bodyPost P fn R) b n d x w := by
 obtain ⟨f, kk, l⟩ := x;cases f with
 | any ops LJ D fuel aj =>
   cases fuel with
   | zero => simp [Re] at h
   | succ fuel =>
     have h' : Region.ready .any ops aj = [i, j, m] := h;refine ⟨fun h0 => absurd (h' ▸ h0) (by simp), fun q hq => ?_⟩;rw [h'] at hq;simp only [List.mem_cons, List.not_mem_nil, or_false] at hq;rcases hq with rfl | rfl | rfl
     · exact k1
     · exact k2
     · exact k3
 | _ => simp [Re] at h
end
end Go.Sx
namespace Go.Sx
open Go.RowKit Go.Gx
section
variable [Rd] {P : Program} {B : Exit → Act → World → Prop} {b : Nat → Value} {n : Nat} {d : List Deferred} {w : World} {x : St}
def WH (P : Program) (b : Nat → Value) (n : Nat) (x : St) : Option Ask :=
 match hd b n x with
 | some q => match q.2.2.op with
   | .index t s i => match P.underlying t with
     | some .string => some ⟨[ev b n x.l s, ev b n x.l i], [], x, q⟩
     | _ => none
   | _ => none
 | none => none
theorem Qe (m : Nat) (s : ByteArray) (i : Nat) (hi : i < s.size) (g : Goal P B b n d (nx (vX (via P b n m w x (ask (WH P b n)))).y (vX (via P b n m w x (ask (WH P b n)))).q (.int .u8 ((ae s i).toNat : Int))) w)
   (h : vA (via P b n m w x (ask (WH P b n))) = vB w (via P b n m w x (ask (WH P b n))) := by kernel_rfl)
   (h2 : (vX (via P b n m w x (ask (WH P b n)))).u = [.string s, .int .i64 (i : Int)] := by kernel_rfl) : Goal P B b n d x w := by
 obtain ⟨y, hr, hf⟩ := cG h;refine az hr ?_;generalize vX (via P b n m w x (ask (WH P b n))) = z at *;unfold WH at hf;split at hf <;> try contradiction
 rename_i q hq;split at hf <;> try contradiction
 rename_i t s' i' hop;split at hf <;> try contradiction
 rename_i hu;simp only [Option.some.injEq] at hf;subst hf;simp only [List.cons.injEq, and_true] at h2;obtain ⟨h3, h4⟩ := h2;refine cF hq (v := .int .u8 ((ae s i).toNat : Int)) ?_ g;unfold execOp;have hb := IW hi;simp [hop, h3, h4, Instr.index, asIntOf, underlying, hu, Sem.run_bind, go_sem, hb]
def WI (P : Program) (b : Nat → Value) (n : Nat) (x : St) : Option Ask :=
 match hd b n x with
 | some q => match q.2.2.op with
   | .slice t s lo hi mx => match lo, hi, mx with
     | some j, some k, none => match P.underlying t with
       | some .string => some ⟨[ev b n x.l s, ev b n x.l j, ev b n x.l k], [], x, q⟩
       | _ => none
     | _, _, _ => none
   | _ => none
 | none => none
theorem sl2 (m : Nat) (s : ByteArray) (j k : Nat) (hj : j ≤ k) (hk : k ≤ s.size) (g : Goal P B b n d (nx (vX (via P b n m w x (ask (WI P b n)))).y (vX (via P b n m w x (ask (WI P b n)))).q (.string (s.extract j k))) w)
   (h : vA (via P b n m w x (ask (WI P b n))) = vB w (via P b n m w x (ask (WI P b n))) := by kernel_rfl)
   (h2 : (vX (via P b n m w x (ask (WI P b n)))).u = [.string s, .int .i64 (j : Int), .int .i64 (k : Int)] := by kernel_rfl) : Goal P B b n d x w := by
 obtain ⟨y, hr, hf⟩ := cG h;refine az hr ?_;generalize vX (via P b n m w x (ask (WI P b n))) = z at *;unfold WI at hf;split at hf <;> try contradiction
 rename_i q hq;split at hf <;> try contradiction
 rename_i t s' lo oN mx hop;split at hf <;> try contradiction
 rename_i jo ko;split at hf <;> try contradiction
 rename_i hu;simp only [Option.some.injEq] at hf;subst hf;simp only [List.cons.injEq, and_true] at h2;obtain ⟨h3, h4, h5⟩ := h2;refine cF hq (v := .string (s.extract j k)) ?_ g;exact nE hop hu s j k h3 (.inr ⟨.i64, by rw [Option.map_some, h4]⟩) (.inr ⟨.i64, by rw [Option.map_some, h5]⟩) hj hk
end
section
variable [Rd] {P : Program} {B : Exit → Act → World → Prop} [Pn B] {b : Nat → Value} {n : Nat} {d : List Deferred} {w : World} {x : St}
def s2O (P : Program) (b : Nat → Value) (n : Nat) (z : Tz) : Option (List Value) := match z.o.op with
 | .slice t s lo hi mx => match lo, hi, mx with
   | some j, some k, none => match P.underlying t with
     | some .string => some [ev b n z.l s, ev b n z.l j, ev b n z.l k]
     | _ => none
   | _, _, _ => none
 | _ => none
theorem tvz (i : Nat) (C : List Nat) (s : ByteArray) (j k : Nat) (hj : j ≤ k) (hk : k ≤ s.size) (hS : mW x = true → Sp w (jy x))
   (g : Goal P B b n d ((vX (via P b n 0 w x (gC b n i C))).k (.string (s.extract j k))) w)
   (h : vA (via P b n 0 w x (gC b n i C)) = vB w (via P b n 0 w x (gC b n i C)) := by kernel_rfl)
   (h2 : s2O P b n (vX (via P b n 0 w x (gC b n i C))) = some [.string s, .int .i64 (j : Int), .int .i64 (k : Int)] := by kernel_rfl) : Goal P B b n d x w := by
 refine tv i C _ hS (fun w' _ => ?_) g h;generalize vX (via P b n 0 w x (gC b n i C)) = z at *;unfold s2O at h2;split at h2 <;> try contradiction
 rename_i t s' lo oN mx hop;split at h2 <;> try contradiction
 rename_i jo ko;split at h2 <;> try contradiction
 rename_i hu;simp only [Option.some.injEq, List.cons.injEq, and_true] at h2;obtain ⟨h3, h4, h5⟩ := h2;exact nE hop hu s j k h3 (.inr ⟨.i64, by rw [Option.map_some, h4]⟩) (.inr ⟨.i64, by rw [Option.map_some, h5]⟩) hj hk
end
end Go.Sx
namespace Go.Lex
open Go.RowKit Go.Gx
theorem kL {w : World} {b t i : Nat} {l : List ByteArray} (h : Has w b (.cells (uf l) t)) (hi : i < l.length) : w.cells? 0 ((⟨b, 0, none⟩ : Addr).add (i * 1)) 1 = some [.string (gs l i)] := by
 rw [Addr.add_lit];refine ChangeShapes.cells?_of (Nat.zero_le _) rfl (fun j hj => ?_);obtain rfl : j = 0 := by omega
 rw [cell_of_row w b _ _ t (0, 0) h];simp [uf, gs, hi]
theorem lT {p : Prop} [Decidable p] (h : p) : Value.bool (decide p) = .bool true := by rw [decide_eq_true h]
theorem lF {p : Prop} [Decidable p] (h : ¬ p) : Value.bool (decide p) = .bool false := by rw [decide_eq_false h]
end Go.Lex
namespace Go.Proofs.YtdmdecgoebnamaaGreat
open Go.RowKit Go.Sx Go.aS Go.Lex
attribute [local irreducible] Go.wpOps Go.Code.wp Go.wpOp Go.wpAnyH Go.Calls Go.Sx.Goal
set_option maxRecDepth 20000
namespace Lx
theorem Bq (c : UInt8) (w : World) (K : Ending → World → Prop) (H0 : Sp w []) (hK : ∀ w', Hs w [] w' [] → K (.returned (.bool (ah c))) w') :
   Calls Tryz.prog 75 #[.int .u8 ((c).toNat : Int)] w K := by
 obtain ⟨L0, ak, H⟩ := Sx.bX H0;refine xu (vs := [.int .u8 ((c).toNat : Int)]) 9 Tryz.func75 ?_;refine yd 5 (fun l' w' => l' = [(2, .bool ((decide (((c).toNat : Int) ≥ (48 : Int))) && (decide (((c).toNat : Int) ≤ (57 : Int)))))] ∧ w = w') (fun K1 aN => ?_) (fun b1 l1 w1 bQ => ?_)
 · refine ye 4 5 (decide (((c).toNat : Int) ≥ (48 : Int))) (fun fQ => ?_) (fun fQ => ?_)
   · exact xj 5 _ (aN _ _ _ ⟨rfl, rfl⟩) (h2 := (by rw [fQ]; try kernel_rfl))
   exact xj 5 _ (aN _ _ _ ⟨rfl, rfl⟩) (h2 := (by rw [fQ]; try kernel_rfl))
 obtain ⟨rfl, rfl⟩ := bQ;refine xh 1 [] H (.bool ((decide (((c).toNat : Int) ≥ (48 : Int))) && (decide (((c).toNat : Int) ≤ (57 : Int))))) ?_;subst ak;exact Gx.af (v' := .bool (ah c)) (by rfl) (hK _ (H.pk []))
theorem Du (c : UInt8) (w : World) (K : Ending → World → Prop) (H0 : Sp w []) (hK : ∀ w', Hs w [] w' [] → K (.returned (.bool (ax c))) w') :
   Calls Tryz.prog 77 #[.int .u8 ((c).toNat : Int)] w K := by
 obtain ⟨L0, ak, H⟩ := Sx.bX H0;refine xu (vs := [.int .u8 ((c).toNat : Int)]) 21 Tryz.func77 ?_;refine yd 5 (fun l' w' => l' = [(2, .bool ((((decide (((c).toNat : Int) ≥ (97 : Int))) && (decide (((c).toNat : Int) ≤ (122 : Int)))) || ((decide (((c).toNat : Int) ≥ (65 : Int))) && (decide (((c).toNat : Int) ≤ (90 : Int))))) || (((c).toNat : Int) == (95 : Int))))] ∧ w = w') (fun K1 aN => ?_) (fun b1 l1 w1 bQ => ?_)
 · refine ye 4 5 (decide (((c).toNat : Int) ≥ (97 : Int))) (fun fQ => ?_) (fun fQ => ?_)
   · refine ye 4 9 (decide (((c).toNat : Int) ≤ (122 : Int))) (fun zi => ?_) (fun zi => ?_)
     · exact xj 13 _ (aN _ _ _ ⟨rfl, rfl⟩) (h2 := (by rw [fQ, zi]; try kernel_rfl))
     refine ye 3 12 (decide (((c).toNat : Int) ≥ (65 : Int))) (fun fG => ?_) (fun fG => ?_)
     · refine ye 5 17 (decide (((c).toNat : Int) ≤ (90 : Int))) (fun wF => ?_) (fun wF => ?_)
       · exact xj 5 _ (aN _ _ _ ⟨rfl, rfl⟩) (h2 := (by rw [fQ, zi, fG, wF]; try kernel_rfl))
       exact xj 5 _ (aN _ _ _ ⟨rfl, rfl⟩) (h2 := (by rw [fQ, zi, fG, wF]; try kernel_rfl))
     exact xj 10 _ (aN _ _ _ ⟨rfl, rfl⟩) (h2 := (by rw [fQ, zi, fG]; try kernel_rfl))
   refine ye 7 12 (decide (((c).toNat : Int) ≥ (65 : Int))) (fun fG => ?_) (fun fG => ?_)
   · refine ye 5 17 (decide (((c).toNat : Int) ≤ (90 : Int))) (fun wF => ?_) (fun wF => ?_)
     · exact xj 5 _ (aN _ _ _ ⟨rfl, rfl⟩) (h2 := (by rw [fQ, fG, wF]; try kernel_rfl))
     exact xj 5 _ (aN _ _ _ ⟨rfl, rfl⟩) (h2 := (by rw [fQ, fG, wF]; try kernel_rfl))
   exact xj 10 _ (aN _ _ _ ⟨rfl, rfl⟩) (h2 := (by rw [fQ, fG]; try kernel_rfl))
 obtain ⟨rfl, rfl⟩ := bQ;refine xh 1 [] H (.bool ((((decide (((c).toNat : Int) ≥ (97 : Int))) && (decide (((c).toNat : Int) ≤ (122 : Int)))) || ((decide (((c).toNat : Int) ≥ (65 : Int))) && (decide (((c).toNat : Int) ≤ (90 : Int))))) || (((c).toNat : Int) == (95 : Int)))) ?_;subst ak;exact Gx.af (v' := .bool (ax c)) (by rfl) (hK _ (H.pk []))
theorem R2 (c : UInt8) (w : World) (K : Ending → World → Prop) (H0 : Sp w []) (hK : ∀ w', Hs w [] w' [] → K (.returned (.bool (cY c))) w') :
   Calls Tryz.prog 110 #[.int .u8 ((c).toNat : Int)] w K := by
 obtain ⟨L0, ak, H⟩ := Sx.bX H0;refine xu (vs := [.int .u8 ((c).toNat : Int)]) 17 Tryz.func110 ?_;refine yd 5 (fun l' w' => l' = [(2, .bool ((((((c).toNat : Int) == (9 : Int)) || (((c).toNat : Int) == (10 : Int))) || (((c).toNat : Int) == (13 : Int))) || (((c).toNat : Int) == (32 : Int))))] ∧ w = w') (fun K1 aN => ?_) (fun b1 l1 w1 bQ => ?_)
 · refine ye 4 5 (((c).toNat : Int) == (9 : Int)) (fun fQ => ?_) (fun fQ => ?_)
   · exact xj 13 _ (aN _ _ _ ⟨rfl, rfl⟩) (h2 := (by rw [fQ]; try kernel_rfl))
   refine ye 4 9 (((c).toNat : Int) == (10 : Int)) (fun zi => ?_) (fun zi => ?_)
   · exact xj 9 _ (aN _ _ _ ⟨rfl, rfl⟩) (h2 := (by rw [fQ, zi]; try kernel_rfl))
   refine ye 4 13 (((c).toNat : Int) == (13 : Int)) (fun M3 => ?_) (fun M3 => ?_)
   · exact xj 5 _ (aN _ _ _ ⟨rfl, rfl⟩) (h2 := (by rw [fQ, zi, M3]; try kernel_rfl))
   exact xj 5 _ (aN _ _ _ ⟨rfl, rfl⟩) (h2 := (by rw [fQ, zi, M3]; try kernel_rfl))
 obtain ⟨rfl, rfl⟩ := bQ;refine xh 1 [] H (.bool ((((((c).toNat : Int) == (9 : Int)) || (((c).toNat : Int) == (10 : Int))) || (((c).toNat : Int) == (13 : Int))) || (((c).toNat : Int) == (32 : Int)))) ?_;subst ak;exact Gx.af (v' := .bool (cY c)) (by rfl) (hK _ (H.pk []))
theorem R3  (w : World) (K : Ending → World → Prop) (H0 : Sp w []) (hK : ∀ (b : Nat) w', Hs w [] w' [.al b (.cells (Gx.uf eJ) 9)] → K (.returned (.slice (some ⟨b, 0, none⟩) 28 28)) w') :
   Calls Tryz.prog 111 #[] w K := by
 obtain ⟨L0, ak, H⟩ := Sx.bX H0;refine xu (vs := []) 2 Tryz.func111 <| xf 7 H fun k1 w1 H1 => xh 4 [] H1 (.slice (some ⟨k1, 0, none⟩) 28 28) ?_;subst ak;exact hK k1 _ (H1.pk [0])
theorem R4  (w : World) (K : Ending → World → Prop) (H0 : Sp w []) (hK : ∀ (b : Nat) w', Hs w [] w' [.al b (.cells (Gx.uf a_) 9)] → K (.returned (.slice (some ⟨b, 0, none⟩) 20 20)) w') :
   Calls Tryz.prog 79 #[] w K := by
 obtain ⟨L0, ak, H⟩ := Sx.bX H0;refine xu (vs := []) 2 Tryz.func79 <| xf 7 H fun k1 w1 H1 => xh 4 [] H1 (.slice (some ⟨k1, 0, none⟩) 20 20) ?_;subst ak;exact hK k1 _ (H1.pk [0])
theorem M4 (s : ByteArray) (w : World) (K : Ending → World → Prop) (H0 : Sp w []) (hK : ∀ w', Hs w [] w' [] → K (.returned (.bool (nH s))) w') :
   Calls Tryz.prog 78 #[.string s] w K := by
 obtain ⟨L0, ak, H⟩ := Sx.bX H0;refine xu (vs := [.string s]) 18 Tryz.func78 ?_;refine x0 7 [] H (fun Hp R hZ => R3 w R Hp  (fun mJ w1 G1 => hZ _ _ _ G1 fun H1 => ?_));refine xz 10 (fun z l' w' => ∃ (k : Nat), l' = [(0, .string s), (3, .slice (some ⟨mJ, 0, none⟩) 28 28), (4, .n k)] ∧ z = 28 - k ∧ Hs w L0 w' [.al mJ (.cells (Gx.uf eJ) 9)] ∧ (k ≤ 28) ∧ (∀ j, j < k → ((Gx.gs eJ j).toList == s.toList) = false)) _ _ ⟨0, rfl, rfl, H1.pk [0], (by omega), (by intro j hj; omega)⟩ (fun b1 z1 l1 w2 bQ K1 aN => ?_);obtain ⟨k, rfl, rfl, H3, hk, hn⟩ := bQ;refine xl 9 (decide ((k : Int) < (28 : Int))) (fun hY => ?_) (fun hY => ?_)
 · have sU := of_decide_eq_true hY;refine xv 8 ⟨mJ, 0, none⟩ k 1 28 28 rfl (by omega) <| xr (c := 1) (t := 9) 0 [.string (Gx.gs eJ k)] (.string (Gx.gs eJ k)) (kL (H3.at 0 (it := .al mJ (.cells (Gx.uf eJ) 9)) (by kernel_rfl)) (by show _ < 28; omega)) ?_;refine xl 4 ((Gx.gs eJ k).toList == s.toList) (fun cT => ?_) (fun cT => ?_)
   · refine xh 11 [] H3 (.bool true) ?_;subst ak;exact Gx.af (v' := .bool (nH s)) (by rw [Lj (by omega) cT]) (hK _ (H3.pk []))
   refine Sx.vi 5 ((k : Int) + (1 : Int)) ((k + 1 : Nat) : Int) (Gx.bj (by omega) (by omega)) ?_;exact xj 2 _ (aN _ _ _ _ (by omega) ⟨(k + 1), rfl, rfl, H3.pk [0], (by omega), (fun j hj => by rcases Nat.lt_or_ge j k with h | h; exact hn j h; (obtain rfl : j = k := by omega); exact cT)⟩)
 refine xh 11 [] H3 (.bool false) ?_;have sU := of_decide_eq_false hY;subst ak;exact Gx.af (v' := .bool (nH s)) (by rw [E0 (fun j hj => hn j (by omega))]) (hK _ (H3.pk []))
theorem WJ (s : ByteArray) (i : Nat) (w : World) (K : Ending → World → Prop) (H0 : Sp w []) (hs : s.size ≤ 3000) (hi : i ≤ s.size) (hK : ∀ w', Hs w [] w' [] → K (.returned (.int .i64 ((pass s i : Nat) : Int))) w') :
   Calls Tryz.prog 74 #[.string s, .n i] w K := by
 obtain ⟨L0, ak, H⟩ := Sx.bX H0;refine xu (vs := [.string s, .n i]) 33 Tryz.func74 ?_;refine xz 7 (fun z l' w' => ∃ (k : Nat), l' = [(0, .string s), (1, .n k)] ∧ z = s.size - k ∧ Hs w L0 w' [] ∧ (k ≤ s.size) ∧ (pass s k = pass s i)) _ _ ⟨i, rfl, rfl, H, hi, rfl⟩ (fun b1 z1 l1 w1 bQ K1 aN => ?_);obtain ⟨k, rfl, rfl, H1, hk, hp⟩ := bQ;refine xl 9 (decide ((k : Int) < (s.size : Int))) (fun jT => ?_) (fun jT => ?_)
 · have MU := of_decide_eq_true jT;refine Sx.Qe 8 s k (by omega) ?_;refine x0 0 [] H1 (fun Hp R hZ => R2 (Gx.ae s k) w1 R Hp  (fun w2 G1 => hZ _ _ _ G1 fun H2 => ?_));refine xl 2 (cY (Gx.ae s k)) (fun fh => ?_) (fun fh => ?_)
   · have rI := fh; try simp [-List.getD_eq_getElem?_getD] at rI
     refine Sx.vi 3 ((k : Int) + (1 : Int)) ((k + 1 : Nat) : Int) (Gx.bj (by omega) (by omega)) ?_;exact xj 6 _ (aN _ _ _ _ (by omega) ⟨(k + 1), rfl, rfl, H2, (by omega), (by rw [← hp, gZ (s := s) (k := k) (by omega) fh])⟩)
   have rI := fh; try simp [-List.getD_eq_getElem?_getD] at rI
   refine Sx.Qe 7 s k (by omega) ?_;refine xl 3 (((Gx.ae s k).toNat : Int) != (35 : Int)) (fun gW => ?_) (fun gW => ?_)
   · refine xh 12 [] H2 (.n k) ?_;have Dv := gW; try simp [-List.getD_eq_getElem?_getD] at Dv
     subst ak;exact Gx.af (v' := .int .i64 ((pass s i : Nat) : Int)) (by rw [← hp, jF (s := s) (k := k) (by omega) (by rw [fh]; simp) (by omega)]) (hK _ (H2.pk []))
   have Dv := gW; try simp [-List.getD_eq_getElem?_getD] at Dv
   refine xz 3 (fun z l' w' => ∃ (j : Nat), l' = [(0, .string s), (1, .n j)] ∧ z = s.size - j ∧ Hs w L0 w' [] ∧ (k ≤ j ∧ j ≤ s.size) ∧ (stop cE s j = stop cE s k)) _ _ ⟨k, rfl, rfl, H2, (by omega), rfl⟩ (fun b2 z2 l2 w3 gA K2 dH => ?_);obtain ⟨j, rfl, rfl, H3, hj, cw⟩ := gA;refine yd 1 (fun l' w' => l' = [(0, .string s), (1, .n j), (29, .bool ((decide ((j : Int) < (s.size : Int))) && (((Gx.ae s j).toNat : Int) != (10 : Int))))] ∧ w3 = w') (fun K3 lX => ?_) (fun b3 l3 w4 uB => ?_)
   · refine ye 6 24 (decide ((j : Int) < (s.size : Int))) (fun n_ => ?_) (fun n_ => ?_)
     · have alq := of_decide_eq_true n_;refine Sx.Qe 2 s j (by omega) ?_;exact xj 3 _ (lX _ _ _ ⟨rfl, rfl⟩) (h2 := (by rw [n_]; try kernel_rfl))
     exact xj 6 _ (lX _ _ _ ⟨rfl, rfl⟩) (h2 := (by rw [n_]; try kernel_rfl))
   obtain ⟨rfl, rfl⟩ := uB;refine xl 0 ((decide ((j : Int) < (s.size : Int))) && (((Gx.ae s j).toNat : Int) != (10 : Int))) (fun gN => ?_) (fun gN => ?_)
   · have Dw := gN; try simp [-List.getD_eq_getElem?_getD] at Dw
     refine Sx.vi 5 ((j : Int) + (1 : Int)) ((j + 1 : Nat) : Int) (Gx.bj (by omega) (by omega)) ?_;exact xj 3 _ (dH _ _ _ _ (by omega) ⟨(j + 1), rfl, rfl, H3, (by omega), (by rw [← cw, eO (p := cE) (s := s) (k := j) (by omega) (by unfold cE; simp; omega)])⟩)
   have Dw := gN; try simp [-List.getD_eq_getElem?_getD] at Dw
   exact xj 5 _ (aN _ _ _ _ (by have h1 := cy cE s (k + 1); rw [← eO (p := cE) (s := s) (k := k) (by omega) (by unfold cE; simp; omega), ← cw, er (p := cE) (s := s) (k := j) (by simpa [cE] using gN)] at h1; omega) ⟨j, rfl, rfl, H3, (by omega), (by rw [← hp, iw (s := s) (k := k) (by omega) (by omega), ← eO (p := cE) (s := s) (k := k) (by omega) (by unfold cE; simp; omega), ← cw, er (p := cE) (s := s) (k := j) (by simpa [cE] using gN)])⟩)
 refine xh 12 [] H1 (.n k) ?_;have MU := of_decide_eq_false jT;subst ak;exact Gx.af (v' := .int .i64 ((pass s i : Nat) : Int)) (by rw [← hp, nG (s := s) (k := k) (by omega)]) (hK _ (H1.pk []))
theorem M5 (s : ByteArray) (w : World) (K : Ending → World → Prop) (H0 : Sp w []) (hs : s.size ≤ 3000) (hd : ∀ m, m < s.size → ah (Gx.ae s m) = true) (hK : ∀ w', Hs w [] w' [] → K (.returned (.tuple #[.n (bif dq s 0 s.size then ed s 0 s.size else 0), .bool (dq s 0 s.size)])) w') :
   Calls Tryz.prog 76 #[.string s] w K := by
 obtain ⟨L0, ak, H⟩ := Sx.bX H0;refine xu (vs := [.string s]) 36 Tryz.func76 ?_;refine yd 7 (fun l' w' => l' = [(0, .string s), (14, .bool ((decide ((s.size : Int) > (1 : Int))) && (((Gx.ae s 0).toNat : Int) == (48 : Int))))] ∧ w = w') (fun K1 aN => ?_) (fun b1 l1 w1 bQ => ?_)
 · refine ye 5 10 (decide ((s.size : Int) > (1 : Int))) (fun HM => ?_) (fun HM => ?_)
   · have alr := of_decide_eq_true HM;refine Sx.Qe 1 s 0 (by omega) ?_;exact xj 3 _ (aN _ _ _ ⟨rfl, rfl⟩) (h2 := (by rw [HM]; try kernel_rfl))
   exact xj 5 _ (aN _ _ _ ⟨rfl, rfl⟩) (h2 := (by rw [HM]; try kernel_rfl))
 obtain ⟨rfl, rfl⟩ := bQ;refine xl 0 ((decide ((s.size : Int) > (1 : Int))) && (((Gx.ae s 0).toNat : Int) == (48 : Int))) (fun mK => ?_) (fun mK => ?_)
 · refine xh 8 [] H (.tuple #[.int .i64 0, .bool false]) ?_;have M6 := mK; try simp [-List.getD_eq_getElem?_getD] at M6
   subst ak;exact Gx.af (v' := .tuple #[.n (bif dq s 0 s.size then ed s 0 s.size else 0), .bool (dq s 0 s.size)]) (by rw [EZ (s := s) (j := 0) (e := s.size) (by omega) (by omega)]; rfl) (hK _ (H.pk []))
 have M6 := mK; try simp [-List.getD_eq_getElem?_getD] at M6
 refine xz 14 (fun z l' w' => ∃ (k : Nat) (v : Nat), l' = [(0, .string s), (4, .n v), (5, .n k)] ∧ z = s.size - k ∧ Hs w L0 w' [] ∧ (k ≤ s.size) ∧ (v = ed s 0 k) ∧ (v ≤ 9223372036854775807)) _ _ ⟨0, 0, rfl, rfl, H, (by omega), rfl, (by omega)⟩ (fun b2 z1 l2 w2 gA K2 dH => ?_);obtain ⟨k, v, rfl, rfl, H1, hk, hv, hm⟩ := gA;refine xl 9 (decide ((k : Int) < (s.size : Int))) (fun gW => ?_) (fun gW => ?_)
 · have Dv := of_decide_eq_true gW;have Uo := (oJ _).1 (hd k (by omega));refine Sx.Qe 8 s k (by omega) <| xp 0 (.int .u8 (IntKind.u8.wrap (((Gx.ae s k).toNat : Int) - (48 : Int)))) (.int .u8 (((Gx.ae s k).toNat - 48 : Nat) : Int)) (congrArg (Value.int .u8) ((by rw [IntWalk.u8_in _ (by omega)]; omega))) <| Sx.vi 0 (((Gx.ae s k).toNat - 48 : Nat) : Int) (((Gx.ae s k).toNat - 48 : Nat) : Int) (IntWalk.i64_in _ (by omega)) <| Sx.vi 8 ((9223372036854775807 : Int) - (((Gx.ae s k).toNat - 48 : Nat) : Int)) ((9223372036854775807 - ((Gx.ae s k).toNat - 48) : Nat) : Int) ((by rw [IntWalk.i64_in _ (by omega)]; omega)) <| Sx.vi 0 (Int.tdiv ((9223372036854775807 - ((Gx.ae s k).toNat - 48) : Nat) : Int) (10 : Int)) (((9223372036854775807 - ((Gx.ae s k).toNat - 48)) / 10 : Nat) : Int) (by rw [IntWalk.i64_quo _ _ (by omega)]; omega) ?_;refine xl 3 (decide ((v : Int) > (((9223372036854775807 - ((Gx.ae s k).toNat - 48)) / 10 : Nat) : Int))) (fun iH => ?_) (fun iH => ?_)
   · refine xh 13 [] H1 (.tuple #[.int .i64 0, .bool false]) ?_;have wG := of_decide_eq_true iH;subst ak;exact Gx.af (v' := .tuple #[.n (bif dq s 0 s.size then ed s 0 s.size else 0), .bool (dq s 0 s.size)]) (by rw [EY (s := s) (j := 0) (e := s.size) (k := k) (d := (Gx.ae s k).toNat - 48) (by omega) (by rw [Nat.zero_add]) (by rw [← hv]; unfold fW; omega) (by omega)]; rfl) (hK _ (H1.pk []))
   have wG := of_decide_eq_false iH;refine Sx.vi 4 ((10 : Int) * (v : Int)) ((10 * v : Nat) : Int) (Gx.bj (by omega) (by omega)) <| Sx.vi 1 (((10 * v : Nat) : Int) + (((Gx.ae s k).toNat - 48 : Nat) : Int)) (((10 * v) + ((Gx.ae s k).toNat - 48) : Nat) : Int) (Gx.bj (by omega) (by omega)) <| Sx.vi 6 ((k : Int) + (1 : Int)) ((k + 1 : Nat) : Int) (Gx.bj (by omega) (by omega)) ?_;exact xj 2 _ (dH _ _ _ _ (by omega) ⟨(k + 1), (10 * v + ((Gx.ae s k).toNat - 48)), rfl, rfl, H1, (by omega), (by simp only [ed, Nat.zero_add]; omega), (by omega)⟩)
 refine xh 13 [] H1 (.tuple #[.n v, .bool true]) ?_;have Dv := of_decide_eq_false gW;subst ak;exact Gx.af (v' := .tuple #[.n (bif dq s 0 s.size then ed s 0 s.size else 0), .bool (dq s 0 s.size)]) (by have e : k = s.size := (by omega); subst e; rw [zG (s := s) (j := 0) (e := s.size) (by omega) (by show ed s 0 s.size ≤ fW; unfold fW; omega), hv]; rfl) (hK _ (H1.pk []))
set_option maxHeartbeats 4000000 in
theorem WK (s : ByteArray) (i : Nat) (w : World) (K : Ending → World → Prop) (H0 : Sp w []) (hs : s.size ≤ 3000) (hi : i ≤ s.size) (hK : ∀ w', Hs w [] w' [] → K (.returned (Nx.V (next s i))) w') :
   Calls Tryz.prog 43 #[.string s, .n i] w K := by
 obtain ⟨L0, ak, H⟩ := Sx.bX H0;refine xu (vs := [.string s, .n i]) 144 Tryz.func43 ?_;have hi1 := uU s i;have EK := qO s i hi;refine xf 2 H fun k1 w1 H1 => xf 1 H1 fun k2 w2 H2 => ?_;refine x0 6 [] H2 (fun Hp R hZ => WJ s i w2 R Hp hs hi (fun w3 G1 => hZ _ _ _ G1 fun H3 => ?_));refine xl 12 (decide (((pass s i : Nat) : Int) ≥ (s.size : Int))) (fun wH => ?_) (fun wH => ?_)
 · refine xd 8 0 H3 fun w4 H4 => ?_;refine xd 1 1 H4 fun w5 H5 => xh 4 [0, 1] H5 (.tuple #[.agg #[.int .i64 0, .n s.size, .string (bY []), .int .i64 0], .n s.size, .agg #[.int .i64 0, .int .i64 0]]) ?_;have M7 := of_decide_eq_true wH;subst ak;exact Gx.af (v' := Nx.V (next s i)) (by unfold next; rw [if_neg (show ¬ pass s i < s.size by omega)]; rfl) (hK _ (H5.pk []))
 have M7 := of_decide_eq_false wH;refine Sx.Qe 13 s (pass s i) (by omega) ?_;refine x0 0 [] H3 (fun Hp R hZ => Bq (Gx.ae s (pass s i)) w3 R Hp  (fun w6 G2 => hZ _ _ _ G2 fun H6 => ?_));refine xl 2 (ah (Gx.ae s (pass s i))) (fun iH => ?_) (fun iH => ?_)
 · refine yd 0 (fun l' w' => ∃ (e : Nat), l' = [(0, .string s), (1, .int .i64 ((pass s i : Nat) : Int)), (4, .p k1), (6, .p k2), (7, .n e)] ∧ Hs w L0 w' [.al k1 (.cells #[.int .i64 0, .int .i64 0, .string (bY []), .int .i64 0] 89), .al k2 (.cells #[.int .i64 0, .int .i64 0] 35)] ∧ (e = stop ah s (pass s i))) (fun K1 aN => ?_) (fun b1 l1 w7 bQ => ?_)
   · have H7 := H6.pick (a := [.al k1 (.cells #[.int .i64 0, .int .i64 0, .string (bY []), .int .i64 0] 89), .al k2 (.cells #[.int .i64 0, .int .i64 0] 35)]) [0, 0] (by kernel_rfl);have wG := iH; try simp [-List.getD_eq_getElem?_getD] at wG
     refine xz 1 (fun z l' w' => ∃ (e : Nat), l' = [(0, .string s), (1, .int .i64 ((pass s i : Nat) : Int)), (4, .p k1), (6, .p k2), (7, .n e)] ∧ z = s.size - e ∧ Hs w L0 w' [.al k1 (.cells #[.int .i64 0, .int .i64 0, .string (bY []), .int .i64 0] 89), .al k2 (.cells #[.int .i64 0, .int .i64 0] 35)] ∧ (pass s i ≤ e ∧ e ≤ s.size) ∧ (stop ah s e = stop ah s (pass s i))) _ _ ⟨(pass s i), rfl, rfl, H7, (by omega), rfl⟩ (fun b2 z1 l2 w8 gA K2 dH => ?_);obtain ⟨e, rfl, rfl, H8, he, cw⟩ := gA;refine ye 8 35 (decide ((e : Int) < (s.size : Int))) (fun M8 => ?_) (fun M8 => ?_)
     · have aaD := of_decide_eq_true M8;refine Sx.Qe 2 s e (by omega) ?_;refine x0 0 [] H8 (fun Hp R hZ => Bq (Gx.ae s e) w8 R Hp  (fun w9 G3 => hZ _ _ _ G3 fun H9 => ?_));refine xl 3 (ah (Gx.ae s e)) (fun bV => ?_) (fun bV => ?_)
       · have fR := bV; try simp [-List.getD_eq_getElem?_getD] at fR
         refine Sx.vi 5 ((e : Int) + (1 : Int)) ((e + 1 : Nat) : Int) (Gx.bj (by omega) (by omega)) ?_;exact xj 3 _ (dH _ _ _ _ (by omega) ⟨(e + 1), rfl, rfl, H9.pk [0, 0], (by omega), (by rw [← cw, eO (p := ah) (s := s) (k := e) (by omega) (by simp [bV])])⟩)
       have fR := bV; try simp [-List.getD_eq_getElem?_getD] at fR
       exact xj 4 _ (aN _ _ _ ⟨e, rfl, H9.pk [0, 0], (by rw [← cw, er (p := ah) (s := s) (k := e) (fun q => by simp [bV] at q)])⟩)
     have aaD := of_decide_eq_false M8;exact xj 12 _ (aN _ _ _ ⟨e, rfl, H8.pk [0, 0], (by rw [← cw, er (p := ah) (s := s) (k := e) (fun q => by omega)])⟩)
   obtain ⟨e, rfl, bF, hee⟩ := bQ;have m_ := cy ah s (pass s i);have uZ := di ah s (pass s i) EK;subst hee;have wG := iH; try simp [-List.getD_eq_getElem?_getD] at wG
   refine Sx.sl2 5 s (pass s i) (stop ah s (pass s i)) (by omega) (by omega) ?_;refine x0 0 [] bF (fun Hp R hZ => M5 (s.extract (pass s i) (stop ah s (pass s i))) w7 R Hp (by rw [nI (di ah s (pass s i) EK)]; omega) (E1 s (pass s i) EK) (fun cJ G4 => hZ _ _ _ G4 fun bq => ?_));refine xl 14 (!(dq (s.extract (pass s i) (stop ah s (pass s i))) 0 (s.extract (pass s i) (stop ah s (pass s i))).size)) (fun cL => ?_) (fun cL => ?_)
   · refine xd 5 0 bq fun fU bu => ?_;refine xd 1 1 bu fun gV bS => xh 5 [0, 1] bS (.tuple #[.agg #[.int .i64 0, .int .i64 0, .string (bY []), .int .i64 0], .int .i64 0, .agg #[.int .i64 3, .int .i64 ((pass s i : Nat) : Int)]]) ?_;have fH := cL; try simp [-List.getD_eq_getElem?_getD] at fH
     subst ak;exact Gx.af (v' := Nx.V (next s i)) (by unfold next; rw [if_pos (show pass s i < s.size by omega)]; unfold cx; rw [if_pos iH]; unfold qP; rw [if_neg (by rw [← pv (cy _ _ _) (di ah s (pass s i) EK)]; simpa using cL)]; rfl) (hK _ (bS.pk []))
   refine xd 9 0 bq fun iq bx => xd 1 1 bx fun iF cV => xh 4 [0, 1] cV (.tuple #[.agg #[.int .i64 1, .int .i64 ((pass s i : Nat) : Int), .string (bY []), .int .i64 ((bif dq (s.extract (pass s i) (stop ah s (pass s i))) 0 (s.extract (pass s i) (stop ah s (pass s i))).size then ed (s.extract (pass s i) (stop ah s (pass s i))) 0 (s.extract (pass s i) (stop ah s (pass s i))).size else 0 : Nat) : Int)], .int .i64 ((stop ah s (pass s i) : Nat) : Int), .agg #[.int .i64 0, .int .i64 0]]) ?_;have fH := cL; try simp [-List.getD_eq_getElem?_getD] at fH
   subst ak;exact Gx.af (v' := Nx.V (next s i)) (by unfold next; rw [if_pos (show pass s i < s.size by omega)]; unfold cx; rw [if_pos iH]; unfold qP; rw [if_pos (by rw [← pv (cy _ _ _) (di ah s (pass s i) EK)]; simpa using cL)]; rw [AP (cy _ _ _) (di ah s (pass s i) EK) (by simpa using cL)]; rfl) (hK _ (cV.pk []))
 have wG := iH; try simp [-List.getD_eq_getElem?_getD] at wG
 refine Sx.Qe 7 s (pass s i) (by omega) ?_;refine x0 0 [] H6 (fun Hp R hZ => Du (Gx.ae s (pass s i)) w6 R Hp  (fun kr G5 => hZ _ _ _ G5 fun bZ => ?_));refine xl 2 (ax (Gx.ae s (pass s i))) (fun lK => ?_) (fun lK => ?_)
 · refine yd 0 (fun l' w' => ∃ (e : Nat), l' = [(0, .string s), (1, .int .i64 ((pass s i : Nat) : Int)), (4, .p k1), (6, .p k2), (7, .n e)] ∧ Hs w L0 w' [.al k1 (.cells #[.int .i64 0, .int .i64 0, .string (bY []), .int .i64 0] 89), .al k2 (.cells #[.int .i64 0, .int .i64 0] 35)] ∧ (e = stop (fun c => ax c || ah c) s (pass s i))) (fun K3 lX => ?_) (fun b3 l3 ku uB => ?_)
   · have cj := bZ.pick (a := [.al k1 (.cells #[.int .i64 0, .int .i64 0, .string (bY []), .int .i64 0] 89), .al k2 (.cells #[.int .i64 0, .int .i64 0] 35)]) [0, 0] (by kernel_rfl);have Dx := lK; try simp [-List.getD_eq_getElem?_getD] at Dx
     refine xz 1 (fun z l' w' => ∃ (e : Nat), l' = [(0, .string s), (1, .int .i64 ((pass s i : Nat) : Int)), (4, .p k1), (6, .p k2), (7, .n e)] ∧ z = s.size - e ∧ Hs w L0 w' [.al k1 (.cells #[.int .i64 0, .int .i64 0, .string (bY []), .int .i64 0] 89), .al k2 (.cells #[.int .i64 0, .int .i64 0] 35)] ∧ (pass s i ≤ e ∧ e ≤ s.size) ∧ (stop (fun c => ax c || ah c) s e = stop (fun c => ax c || ah c) s (pass s i))) _ _ ⟨(pass s i), rfl, rfl, cj, (by omega), rfl⟩ (fun b4 z2 l4 ke Dy K4 nh => ?_);obtain ⟨e, rfl, rfl, cC, he, cw⟩ := Dy;refine ye 8 69 (decide ((e : Int) < (s.size : Int))) (fun M9 => ?_) (fun M9 => ?_)
     · have aaE := of_decide_eq_true M9;refine Sx.Qe 2 s e (by omega) ?_;refine x0 0 [] cC (fun Hp R hZ => Du (Gx.ae s e) ke R Hp  (fun mm G6 => hZ _ _ _ G6 fun c_ => ?_));refine ye 1 74 (ax (Gx.ae s e)) (fun z8 => ?_) (fun z8 => ?_)
       · have M_ := z8; try simp [-List.getD_eq_getElem?_getD] at M_
         refine Sx.vi 14 ((e : Int) + (1 : Int)) ((e + 1 : Nat) : Int) (Gx.bj (by omega) (by omega)) ?_;exact xj 3 _ (nh _ _ _ _ (by omega) ⟨(e + 1), rfl, rfl, c_.pk [0, 0], (by omega), (by rw [← cw, eO (p := (fun c => ax c || ah c)) (s := s) (k := e) (by omega) (by simp [z8])])⟩)
       have M_ := z8; try simp [-List.getD_eq_getElem?_getD] at M_
       refine Sx.Qe 2 s e (by omega) ?_;refine x0 0 [] c_ (fun Hp R hZ => Bq (Gx.ae s e) mm R Hp  (fun nX G7 => hZ _ _ _ G7 fun cW => ?_));refine xl 4 (ah (Gx.ae s e)) (fun Dz => ?_) (fun Dz => ?_)
       · have Na := Dz; try simp [-List.getD_eq_getElem?_getD] at Na
         refine Sx.vi 5 ((e : Int) + (1 : Int)) ((e + 1 : Nat) : Int) (Gx.bj (by omega) (by omega)) ?_;exact xj 3 _ (nh _ _ _ _ (by omega) ⟨(e + 1), rfl, rfl, cW.pk [0, 0], (by omega), (by rw [← cw, eO (p := (fun c => ax c || ah c)) (s := s) (k := e) (by omega) (by simp [z8, Dz])])⟩)
       have Na := Dz; try simp [-List.getD_eq_getElem?_getD] at Na
       exact xj 4 _ (lX _ _ _ ⟨e, rfl, cW.pk [0, 0], (by rw [← cw, er (p := (fun c => ax c || ah c)) (s := s) (k := e) (fun q => by simp [z8, Dz] at q)])⟩)
     have aaE := of_decide_eq_false M9;exact xj 18 _ (lX _ _ _ ⟨e, rfl, cC.pk [0, 0], (by rw [← cw, er (p := (fun c => ax c || ah c)) (s := s) (k := e) (fun q => by omega)])⟩)
   obtain ⟨e, rfl, iU, hee⟩ := uB;have m_ := cy (fun c => ax c || ah c) s (pass s i);have uZ := di (fun c => ax c || ah c) s (pass s i) EK;subst hee;have Dx := lK; try simp [-List.getD_eq_getElem?_getD] at Dx
   refine Sx.vi 5 (((stop (fun c => ax c || ah c) s (pass s i) : Nat) : Int) - ((pass s i : Nat) : Int)) (((stop (fun c => ax c || ah c) s (pass s i) : Nat) : Int) - ((pass s i : Nat) : Int)) (IntWalk.i64_in _ (by omega)) ?_;refine xl 3 (decide ((((stop (fun c => ax c || ah c) s (pass s i) : Nat) : Int) - ((pass s i : Nat) : Int)) > (20 : Int))) (fun Nb => ?_) (fun Nb => ?_)
   · refine xd 5 0 iU fun o4 eC => ?_;refine xd 1 1 eC fun kR dz => xh 5 [0, 1] dz (.tuple #[.agg #[.int .i64 0, .int .i64 0, .string (bY []), .int .i64 0], .int .i64 0, .agg #[.int .i64 3, .int .i64 ((pass s i : Nat) : Int)]]) ?_;have aaF := of_decide_eq_true Nb;subst ak;exact Gx.af (v' := Nx.V (next s i)) (by unfold next; rw [if_pos (show pass s i < s.size by omega)]; unfold cx; rw [if_neg (by rw [iH]; simp)]; rw [if_pos lK]; unfold nameAt; rw [if_pos (by omega)]; rfl) (hK _ (dz.pk []))
   have aaF := of_decide_eq_false Nb;refine Sx.sl2 13 s (pass s i) (stop (fun c => ax c || ah c) s (pass s i)) (by omega) (by omega) ?_;refine x0 0 [] iU (fun Hp R hZ => M4 (s.extract (pass s i) (stop (fun c => ax c || ah c) s (pass s i))) ku R Hp  (fun ry G8 => hZ _ _ _ G8 fun dS => ?_));refine xl 2 (nH (s.extract (pass s i) (stop (fun c => ax c || ah c) s (pass s i)))) (fun DA => ?_) (fun DA => ?_)
   · have Nc := DA; try simp [-List.getD_eq_getElem?_getD] at Nc
     refine Sx.sl2 11 s (pass s i) (stop (fun c => ax c || ah c) s (pass s i)) (by omega) (by omega) <| xd 3 0 dS fun tK fy => xd 1 1 fy fun qB kv => xh 4 [0, 1] kv (.tuple #[.agg #[.int .i64 3, .int .i64 ((pass s i : Nat) : Int), .string (s.extract (pass s i) (stop (fun c => ax c || ah c) s (pass s i))), .int .i64 0], .int .i64 ((stop (fun c => ax c || ah c) s (pass s i) : Nat) : Int), .agg #[.int .i64 0, .int .i64 0]]) ?_;subst ak;exact Gx.af (v' := Nx.V (next s i)) (by unfold next; rw [if_pos (show pass s i < s.size by omega)]; unfold cx; rw [if_neg (by rw [iH]; simp)]; rw [if_pos lK]; unfold nameAt; rw [if_neg (by omega)]; rw [if_pos DA]; rfl) (hK _ (kv.pk []))
   have Nc := DA; try simp [-List.getD_eq_getElem?_getD] at Nc
   refine Sx.sl2 9 s (pass s i) (stop (fun c => ax c || ah c) s (pass s i)) (by omega) (by omega) <| xd 3 0 dS fun um gi => xd 1 1 gi fun pK fP => xh 4 [0, 1] fP (.tuple #[.agg #[.int .i64 2, .int .i64 ((pass s i : Nat) : Int), .string (s.extract (pass s i) (stop (fun c => ax c || ah c) s (pass s i))), .int .i64 0], .int .i64 ((stop (fun c => ax c || ah c) s (pass s i) : Nat) : Int), .agg #[.int .i64 0, .int .i64 0]]) ?_;subst ak;exact Gx.af (v' := Nx.V (next s i)) (by unfold next; rw [if_pos (show pass s i < s.size by omega)]; unfold cx; rw [if_neg (by rw [iH]; simp)]; rw [if_pos lK]; unfold nameAt; rw [if_neg (by omega)]; rw [if_neg (by rw [DA]; simp)]; rfl) (hK _ (fP.pk []))
 have Dx := lK; try simp [-List.getD_eq_getElem?_getD] at Dx
 refine x0 4 [] bZ (fun Hp R hZ => R4 kr R Hp  (fun mJ tL G9 => hZ _ _ _ G9 fun hP => ?_));refine xz 10 (fun z l' w' => ∃ (q : Nat), l' = [(0, .string s), (1, .int .i64 ((pass s i : Nat) : Int)), (4, .p k1), (6, .p k2), (11, .slice (some ⟨mJ, 0, none⟩) 20 20), (12, .n q)] ∧ z = 20 - q ∧ Hs w L0 w' [.al mJ (.cells (Gx.uf a_) 9), .al k1 (.cells #[.int .i64 0, .int .i64 0, .string (bY []), .int .i64 0] 89), .al k2 (.cells #[.int .i64 0, .int .i64 0] 35)] ∧ (q ≤ 20) ∧ (∀ r, r < q → kP s (pass s i) r = false)) _ _ ⟨0, rfl, rfl, hP.pk [0, 0, 0], (by omega), (by intro r hr; omega)⟩ (fun b5 z3 l5 tM WL K5 wJ => ?_);obtain ⟨q, rfl, rfl, iV, hq, hn⟩ := WL;refine Or.elim (Nat.lt_or_ge q 20) (fun yQ => ?_) (fun yQ => ?_)
 · have zH : (Gx.gs a_ q).size ≤ 2 := by rw [oL q (by omega)]; split <;> omega
   refine Or.elim (Nat.lt_or_ge s.size (pass s i + (Gx.gs a_ q).size)) (fun FH => ?_) (fun FH => ?_)
   · refine xp 6 (.bool (decide ((q : Int) < (20 : Int)))) (.bool true) (lT (by omega)) ?_;refine xv 12 ⟨mJ, 0, none⟩ q 1 20 20 rfl (by omega) <| xr (c := 1) (t := 9) 0 [.string (Gx.gs a_ q)] (.string (Gx.gs a_ q)) (kL (iV.at 0 (it := .al mJ (.cells (Gx.uf a_) 9)) (by kernel_rfl)) (by show _ < 20; omega)) <| Sx.vi 1 (((pass s i : Nat) : Int) + (((Gx.gs a_ q).size : Nat) : Int)) (((pass s i) + ((Gx.gs a_ q).size) : Nat) : Int) (Gx.bj (by omega) (by omega)) <| xw 4 iV [] [] (LJ := []) (by kernel_rfl) fun ze kK => xm [(0, none), (1, none), (2, none)] Sx.sn <| Sx.L2 3 [] (.bool (decide ((((pass s i) + ((Gx.gs a_ q).size) : Nat) : Int) ≤ (s.size : Int)))) (.bool false) (lF (by omega)) Sx.sn ?_;refine xm [(4, none), (5, none), (6, none), (7, none), (8, none), (9, none), (10, none), (11, none), (12, none), (13, none), (14, none)] Sx.sn <| xt <| Sx.vi 7 ((q : Int) + (1 : Int)) ((q + 1 : Nat) : Int) (Gx.bj (by omega) (by omega)) ?_;exact xj 2 _ (wJ _ _ _ _ (by omega) ⟨(q + 1), rfl, rfl, kK.pk [0, 0, 0], (by omega), (fun r hr => by rcases Nat.lt_or_ge r q with h | h; exact hn r h; (have e : r = q := by omega); subst e; unfold kP; rw [decide_eq_false (by omega)]; rfl)⟩)
   refine xp 6 (.bool (decide ((q : Int) < (20 : Int)))) (.bool true) (lT (by omega)) <| xv 12 ⟨mJ, 0, none⟩ q 1 20 20 rfl (by omega) <| xr (c := 1) (t := 9) 0 [.string (Gx.gs a_ q)] (.string (Gx.gs a_ q)) (kL (iV.at 0 (it := .al mJ (.cells (Gx.uf a_) 9)) (by kernel_rfl)) (by show _ < 20; omega)) <| Sx.vi 1 (((pass s i : Nat) : Int) + (((Gx.gs a_ q).size : Nat) : Int)) (((pass s i) + ((Gx.gs a_ q).size) : Nat) : Int) (Gx.bj (by omega) (by omega)) <| xw 4 iV [0] [] (LJ := [.al mJ (.cells (Gx.uf a_) 9)]) (by kernel_rfl) fun zY hU => xm [(0, none), (1, none), (2, none)] (hU.sb [0]) ?_;refine Sx.L2 3 [] (.bool (decide ((((pass s i) + ((Gx.gs a_ q).size) : Nat) : Int) ≤ (s.size : Int)))) (.bool true) (lT (by omega)) (hU.sb [0]) <| xm [(4, none), (5, none), (6, none), (7, none)] (hU.sb [0]) <| Sx.tvz 8 [] s (pass s i) ((pass s i) + ((Gx.gs a_ q).size)) (by omega) (by omega) (hU.sb [0]) <| xm [(9, none), (10, none)] (hU.sb [0]) <| yi 11 [] ⟨mJ, 0, none⟩ q 1 20 20 rfl (by omega) (hU.sb [0]) <| yg (c := 1) (t := 9) 12 [] [.string (Gx.gs a_ q)] (.string (Gx.gs a_ q)) (fun w' hs => (kL (Go.aS.cQ hs 0 (it := .al mJ (.cells (Gx.uf a_) 9)) (by kernel_rfl)) (by show _ < 20; omega))) (hU.sb [0]) ?_;refine xm [(13, none), (14, none)] (hU.sb [0]) <| xt ?_;refine xl 1 ((s.extract (pass s i) ((pass s i) + ((Gx.gs a_ q).size))).toList == (Gx.gs a_ q).toList) (fun FI => ?_) (fun FI => ?_)
   · refine xv 5 ⟨mJ, 0, none⟩ q 1 20 20 rfl (by omega) ?_;refine xr (c := 1) (t := 9) 0 [.string (Gx.gs a_ q)] (.string (Gx.gs a_ q)) (kL (hU.at 0 (it := .al mJ (.cells (Gx.uf a_) 9)) (by kernel_rfl)) (by show _ < 20; omega)) <| xd 3 1 hU fun zZ ky => xd 1 2 ky fun zf nD => xh 8 [1, 2] nD (.tuple #[.agg #[.int .i64 4, .int .i64 ((pass s i : Nat) : Int), .string (Gx.gs a_ q), .int .i64 0], .int .i64 (((pass s i) + ((Gx.gs a_ q).size) : Nat) : Int), .agg #[.int .i64 0, .int .i64 0]]) ?_;subst ak;exact Gx.af (v' := Nx.V (next s i)) (by have hy := Ll (s := s) (j := pass s i) (q := q) (by omega) hn (by unfold kP; rw [decide_eq_true (by omega), FI]; rfl); unfold next; rw [if_pos (show pass s i < s.size by omega)]; unfold cx; rw [if_neg (by rw [iH]; simp)]; rw [if_neg (by rw [lK]; simp)]; rw [if_pos hy.1, hy.2.1, hy.2.2]; rfl) (hK _ (nD.pk []))
   refine Sx.vi 5 ((q : Int) + (1 : Int)) ((q + 1 : Nat) : Int) (Gx.bj (by omega) (by omega)) ?_;exact xj 2 _ (wJ _ _ _ _ (by omega) ⟨(q + 1), rfl, rfl, hU.pk [0, 0, 0], (by omega), (fun r hr => by rcases Nat.lt_or_ge r q with h | h; exact hn r h; (have e : r = q := by omega); subst e; unfold kP; rw [decide_eq_true (by omega), FI]; rfl)⟩)
 refine xp 6 (.bool (decide ((q : Int) < (20 : Int)))) (.bool false) (lF (by omega)) <| xd 13 1 iV fun Dp lW => xd 1 2 lW fun Cx o6 => xh 3 [1, 2] o6 (.tuple #[.agg #[.int .i64 0, .int .i64 0, .string (bY []), .int .i64 0], .int .i64 0, .agg #[.int .i64 2, .int .i64 ((pass s i : Nat) : Int)]]) ?_;subst ak;exact Gx.af (v' := Nx.V (next s i)) (by have hy := QL (s := s) (j := pass s i) (by omega) (fun r hr => hn r (by omega)); unfold next; rw [if_pos (show pass s i < s.size by omega)]; unfold cx; rw [if_neg (by rw [iH]; simp)]; rw [if_neg (by rw [lK]; simp)]; rw [if_neg (by rw [hy]; simp)]; rfl) (hK _ (o6.pk []))
end Lx
end Go.Proofs.YtdmdecgoebnamaaGreat
namespace Go.Proofs.YtdmdecgoebnamaaGreat
open Go.RowKit Go.Sx Go.aS Go.fO
attribute [local irreducible] Go.wpOps Go.Code.wp Go.wpOp Go.wpAnyH Go.Calls Go.Sx.Goal
set_option maxRecDepth 20000
namespace Rd
abbrev kz (b : Nat) (S : ByteArray) (q : Rs) : Sx.Item := .al b (.cells #[.string S, .n q.k, .n q.a, .string q.t, .n q.n, .n q.e, .n q.fk, .n q.fa, .n q.x, .n q.y] 91)
theorem h_ (b : Nat) (S : ByteArray) (q : Rs) (w : World) (K : Ending → World → Prop) (H0 : Sp w [kz b S q]) (hK : K (.returned (.bool (okB q))) w) :
   Calls Tryz.prog 35 #[.p b] w K := by
 obtain ⟨L0, ak, H⟩ := Sx.bX H0;refine xu (vs := [.p b]) 9 Tryz.func35 <| xb 11 0 H ?_;exact xh 5 [] H (.bool ((q.fk : Int) == (0 : Int))) (Gx.af (v' := .bool (okB q)) (congrArg Value.bool (by rfl)) hK)
theorem uC (b : Nat) (S : ByteArray) (q : Rs) (s : ByteArray) (w : World) (K : Ending → World → Prop) (H0 : Sp w [kz b S q]) (hK : K (.returned (.bool (bw q s))) w) :
   Calls Tryz.prog 45 #[.p b, .string s] w K := by
 obtain ⟨L0, ak, H⟩ := Sx.bX H0;refine xu (vs := [.p b, .string s]) 32 Tryz.func45 ?_;refine yd 5 (fun l' w' => l' = [(4, .bool (((okB q) && (((q.k : Int) == (3 : Int)) || ((q.k : Int) == (4 : Int)))) && (q.t.toList == s.toList)))] ∧ w = w') (fun K1 aN => ?_) (fun b1 l1 w1 bQ => ?_)
 · refine x0 2 [0] H (fun Hp R hR => h_ b S q w R Hp (hR _ _ _ (.refl Hp) fun _ => ?_));refine ye 1 7 (okB q) (fun Nf => ?_) (fun Nf => ?_)
   · refine xb 4 0 H ?_;refine ye 2 14 ((q.k : Int) == (3 : Int)) (fun HN => ?_) (fun HN => ?_)
     · refine xb 13 0 H ?_;exact xj 5 _ (aN _ _ _ ⟨rfl, rfl⟩) (h2 := (by rw [Nf, HN]; try kernel_rfl))
     refine xb 4 0 H ?_;refine ye 4 23 ((q.k : Int) == (4 : Int)) (fun jU => ?_) (fun jU => ?_)
     · refine xb 4 0 H ?_;exact xj 5 _ (aN _ _ _ ⟨rfl, rfl⟩) (h2 := (by rw [Nf, HN, jU]; try kernel_rfl))
     exact xj 10 _ (aN _ _ _ ⟨rfl, rfl⟩) (h2 := (by rw [Nf, HN, jU]; try kernel_rfl))
   exact xj 26 _ (aN _ _ _ ⟨rfl, rfl⟩) (h2 := (by rw [Nf]; try kernel_rfl))
 obtain ⟨rfl, rfl⟩ := bQ;exact xh 1 [] H (.bool (((okB q) && (((q.k : Int) == (3 : Int)) || ((q.k : Int) == (4 : Int)))) && (q.t.toList == s.toList))) (Gx.af (v' := .bool (bw q s)) (congrArg Value.bool (by rfl)) hK)
theorem Ng (b : Nat) (S : ByteArray) (q : Rs) (w : World) (K : Ending → World → Prop) (H0 : Sp w [kz b S q]) (hK : K (.returned (.bool (eu q))) w) :
   Calls Tryz.prog 81 #[.p b] w K := by
 obtain ⟨L0, ak, H⟩ := Sx.bX H0;refine xu (vs := [.p b]) 13 Tryz.func81 ?_;refine yd 5 (fun l' w' => l' = [(2, .bool ((okB q) && ((q.k : Int) == (2 : Int))))] ∧ w = w') (fun K1 aN => ?_) (fun b1 l1 w1 bQ => ?_)
 · refine x0 2 [0] H (fun Hp R hR => h_ b S q w R Hp (hR _ _ _ (.refl Hp) fun _ => ?_));refine ye 1 5 (okB q) (fun fQ => ?_) (fun fQ => ?_)
   · refine xb 4 0 H ?_;exact xj 4 _ (aN _ _ _ ⟨rfl, rfl⟩) (h2 := (by rw [fQ]; try kernel_rfl))
   exact xj 9 _ (aN _ _ _ ⟨rfl, rfl⟩) (h2 := (by rw [fQ]; try kernel_rfl))
 obtain ⟨rfl, rfl⟩ := bQ;exact xh 1 [] H (.bool ((okB q) && ((q.k : Int) == (2 : Int)))) (Gx.af (v' := .bool (eu q)) (congrArg Value.bool (by rfl)) hK)
theorem Nh (b : Nat) (S : ByteArray) (q : Rs) (w : World) (K : Ending → World → Prop) (H0 : Sp w [kz b S q]) (hK : K (.returned (.bool (Ja q))) w) :
   Calls Tryz.prog 139 #[.p b] w K := by
 obtain ⟨L0, ak, H⟩ := Sx.bX H0;refine xu (vs := [.p b]) 41 Tryz.func139 ?_;refine yd 5 (fun l' w' => l' = [(2, .bool ((okB q) && ((((((((q.k : Int) == (2 : Int)) || ((q.k : Int) == (1 : Int))) || (bw q (bY [126]))) || (bw q (bY [116,114,117,101]))) || (bw q (bY [102,97,108,115,101]))) || (bw q (bY [40]))) || (bw q (bY [91])))))] ∧ w = w') (fun K1 aN => ?_) (fun b1 l1 w1 bQ => ?_)
 · refine x0 2 [0] H (fun Hp R hR => h_ b S q w R Hp (hR _ _ _ (.refl Hp) fun _ => ?_));refine ye 1 5 (okB q) (fun fQ => ?_) (fun fQ => ?_)
   · refine xb 4 0 H ?_;refine ye 2 12 ((q.k : Int) == (2 : Int)) (fun fG => ?_) (fun fG => ?_)
     · exact xj 30 _ (aN _ _ _ ⟨rfl, rfl⟩) (h2 := (by rw [fQ, fG]; try kernel_rfl))
     refine xb 4 0 H ?_;refine ye 3 20 ((q.k : Int) == (1 : Int)) (fun jV => ?_) (fun jV => ?_)
     · exact xj 22 _ (aN _ _ _ ⟨rfl, rfl⟩) (h2 := (by rw [fQ, fG, jV]; try kernel_rfl))
     refine x0 1 [0] H (fun Hp R hR => uC b S q (bY [126]) w R Hp (hR _ _ _ (.refl Hp) fun _ => ?_));refine ye 2 24 (bw q (bY [126])) (fun n_ => ?_) (fun n_ => ?_)
     · exact xj 18 _ (aN _ _ _ ⟨rfl, rfl⟩) (h2 := (by rw [fQ, fG, jV, n_]; try kernel_rfl))
     refine x0 1 [0] H (fun Hp R hR => uC b S q (bY [116,114,117,101]) w R Hp (hR _ _ _ (.refl Hp) fun _ => ?_));refine ye 2 28 (bw q (bY [116,114,117,101])) (fun DB => ?_) (fun DB => ?_)
     · exact xj 14 _ (aN _ _ _ ⟨rfl, rfl⟩) (h2 := (by rw [fQ, fG, jV, n_, DB]; try kernel_rfl))
     refine x0 1 [0] H (fun Hp R hR => uC b S q (bY [102,97,108,115,101]) w R Hp (hR _ _ _ (.refl Hp) fun _ => ?_));refine ye 2 32 (bw q (bY [102,97,108,115,101])) (fun HO => ?_) (fun HO => ?_)
     · exact xj 10 _ (aN _ _ _ ⟨rfl, rfl⟩) (h2 := (by rw [fQ, fG, jV, n_, DB, HO]; try kernel_rfl))
     refine x0 1 [0] H (fun Hp R hR => uC b S q (bY [40]) w R Hp (hR _ _ _ (.refl Hp) fun _ => ?_));refine ye 2 36 (bw q (bY [40])) (fun Ni => ?_) (fun Ni => ?_)
     · exact xj 6 _ (aN _ _ _ ⟨rfl, rfl⟩) (h2 := (by rw [fQ, fG, jV, n_, DB, HO, Ni]; try kernel_rfl))
     refine x0 1 [0] H (fun Hp R hR => uC b S q (bY [91]) w R Hp (hR _ _ _ (.refl Hp) fun _ => ?_));exact xj 4 _ (aN _ _ _ ⟨rfl, rfl⟩) (h2 := (by rw [fQ, fG, jV, n_, DB, HO, Ni]; try kernel_rfl))
   exact xj 37 _ (aN _ _ _ ⟨rfl, rfl⟩) (h2 := (by rw [fQ]; try kernel_rfl))
 obtain ⟨rfl, rfl⟩ := bQ;exact xh 1 [] H (.bool ((okB q) && ((((((((q.k : Int) == (2 : Int)) || ((q.k : Int) == (1 : Int))) || (bw q (bY [126]))) || (bw q (bY [116,114,117,101]))) || (bw q (bY [102,97,108,115,101]))) || (bw q (bY [40]))) || (bw q (bY [91]))))) (Gx.af (v' := .bool (Ja q)) (congrArg Value.bool (by rfl)) hK)
theorem wK (s : ByteArray) (i : Nat) (w : World) (K : Ending → World → Prop) (H0 : Sp w []) (hs : s.size ≤ 3000) (hi : i ≤ s.size) (hK : ∀ w', Hs w [] w' [] → K (.returned (Go.Lex.Nx.V (Go.Lex.next s i))) w') : Calls Tryz.prog 43 #[.string s, .n i] w K :=
 Lx.WK s i w K H0 hs hi hK
set_option maxHeartbeats 2000000 in
theorem HP (b : Nat) (S : ByteArray) (q : Rs) (w : World) (K : Ending → World → Prop) (H0 : Sp w [kz b S q]) (hz : S.size ≤ 3000) (he : q.e ≤ S.size) (hK : ∀ (q' : Rs) (e : bU S q = q') w', Hs w [kz b S q] w' [kz b S q'] → K (.returned (.tuple #[])) w') :
   Calls Tryz.prog 33 #[.p b] w K := by
 obtain ⟨L0, ak, H⟩ := Sx.bX H0;refine xu (vs := [.p b]) 36 Tryz.func33 <| xb 7 0 H ?_;refine xl 3 ((q.fk : Int) != (0 : Int)) (fun iI => ?_) (fun iI => ?_)
 · have gX := iI; try simp [-List.getD_eq_getElem?_getD] at gX
   have e : bU S q = q := by unfold bU; rw [if_neg (by unfold okB; simpa using iI)]
   exact xh 2 [] H _ (hK _ e _ (H.pe ak [0]))
 refine yd 2 (fun l' w' => ∃ (k1 : Nat) (k2 : Nat), l' = [(0, .p b), (2, .p k1), (3, .int .i64 (((Go.Lex.next S q.e).nx : Nat) : Int)), (4, .p k2)] ∧ Hs w L0 w' [kz b S q, .al k1 (.cells #[.int .i64 (((Go.Lex.next S q.e).kind : Nat) : Int), .int .i64 (((Go.Lex.next S q.e).at_ : Nat) : Int), .string ((Go.Lex.next S q.e).text), .int .i64 (((Go.Lex.next S q.e).n : Nat) : Int)] 89), .al k2 (.cells #[.int .i64 (((Go.Lex.next S q.e).fk : Nat) : Int), .int .i64 (((Go.Lex.next S q.e).fa : Nat) : Int)] 35)]) (fun K1 aN => ?_) (fun b1 l1 w1 bQ => ?_)
 · refine xw 0 H [0] [] (LJ := [kz b S q]) (by kernel_rfl) fun w2 H1 => ?_;refine xm [(0, none), (1, none), (2, none), (3, some (0, [])), (4, none), (5, none), (6, none), (7, some (0, []))] (H1.sb [0]) <| xg ?_;intro gy;refine Sx.on3 8 13 14 ?_ ?_ ?_
   · have gX := iI; try simp [-List.getD_eq_getElem?_getD] at gX
     refine x0 0 [] H1 (fun Hp R hR => wK S q.e w2 R Hp hz he (fun w3 G1 => hR _ _ _ G1 fun H2 => ?_));refine xe (x := gy) 8 (H2.sb [0]) <| xm [(9, none), (10, none), (11, none), (12, none)] (H2.sb [0]) <| xg ?_;intro im;refine yp 13 14 ?_ ?_
     · refine xf 0 H2 fun k1 w4 H3 => ?_;refine xe (x := im) 13 (H3.sb [0]) <| xg ?_;intro kc;refine xi 14 <| xf 0 H3 fun k2 w5 H4 => xe (x := kc) 14 (H4.sb [0]) <| xg ?_;intro o5;refine xi 15 <| xd 0 1 H4 fun w6 H5 => xe (x := o5) 15 (H5.sb [0]) <| xm [(16, none)] (H5.sb [0]) <| xg ?_;intro tO;refine xi 17 <| xd 0 2 H5 fun w7 H6 => xe (x := tO) 17 (H6.sb [0]) <| xt ?_;exact xj 0 _ (aN _ _ _ ⟨k1, k2, rfl, H6.pk [0, 0, 0]⟩)
     refine xf 0 H2 fun k3 w8 H8 => xe (x := im) 14 (H8.sb [0]) <| xg ?_;intro zX;refine xi 13 <| xf 0 H8 fun k4 w9 H9 => xe (x := zX) 13 (H9.sb [0]) <| xg ?_;intro Cu;refine xi 15 <| xd 0 2 H9 fun cJ aY => xe (x := Cu) 15 (aY.sb [0]) <| xm [(16, none)] (aY.sb [0]) <| xg ?_;intro Dn;refine xi 17 <| xd 0 1 aY fun fU aZ => xe (x := Dn) 17 (aZ.sb [0]) <| xt ?_;exact xj 0 _ (aN _ _ _ ⟨k4, k3, rfl, aZ.pk [0, 1, 0]⟩)
   · refine xf 0 H1 fun k5 gV bF => ?_;refine xe (x := gy) 13 (bF.sb [0]) <| xg ?_;intro Cv;refine yp 8 14 ?_ ?_
     · have gX := iI; try simp [-List.getD_eq_getElem?_getD] at gX
       refine x0 0 [] bF (fun Hp R hR => wK S q.e gV R Hp hz he (fun iq G2 => hR _ _ _ G2 fun bq => ?_));refine xe (x := Cv) 8 (bq.sb [0]) <| xm [(9, none), (10, none), (11, none), (12, none)] (bq.sb [0]) <| xg ?_;intro rD;refine xi 14 <| xf 0 bq fun k6 iF bu => xe (x := rD) 14 (bu.sb [0]) <| xg ?_;intro wM;refine xi 15 <| xd 0 1 bu fun kr bS => xe (x := wM) 15 (bS.sb [0]) <| xm [(16, none)] (bS.sb [0]) <| xg ?_;intro wP;refine xi 17 <| xd 0 2 bS fun ku bx => xe (x := wP) 17 (bx.sb [0]) <| xt ?_;exact xj 0 _ (aN _ _ _ ⟨k5, k6, rfl, bx.pk [0, 0, 0]⟩)
     refine xf 0 bF fun k7 ke bZ => xe (x := Cv) 14 (bZ.sb [0]) <| xg ?_;intro wQ;refine xi 8 ?_;have gX := iI; try simp [-List.getD_eq_getElem?_getD] at gX
     refine x0 0 [] bZ (fun Hp R hR => wK S q.e ke R Hp hz he (fun mm G3 => hR _ _ _ G3 fun cj => ?_));refine xe (x := wQ) 8 (cj.sb [0]) <| xm [(9, none), (10, none), (11, none), (12, none)] (cj.sb [0]) <| xg ?_;intro wR;refine xi 15 <| xd 0 1 cj fun nX cC => xe (x := wR) 15 (cC.sb [0]) <| xm [(16, none)] (cC.sb [0]) <| xg ?_;intro wS;refine xi 17 <| xd 0 2 cC fun o4 c_ => xe (x := wS) 17 (c_.sb [0]) <| xt ?_;exact xj 0 _ (aN _ _ _ ⟨k5, k7, rfl, c_.pk [0, 0, 0]⟩)
   refine xf 0 H1 fun k8 kR cW => xe (x := gy) 14 (cW.sb [0]) <| xg ?_;intro uD;refine yp 8 13 ?_ ?_
   · have gX := iI; try simp [-List.getD_eq_getElem?_getD] at gX
     refine x0 0 [] cW (fun Hp R hR => wK S q.e kR R Hp hz he (fun ry G4 => hR _ _ _ G4 fun cK => ?_));refine xe (x := uD) 8 (cK.sb [0]) <| xm [(9, none), (10, none), (11, none), (12, none)] (cK.sb [0]) <| xg ?_;intro uE;refine xi 13 <| xf 0 cK fun k9 tK ef => xe (x := uE) 13 (ef.sb [0]) <| xg ?_;intro wT;refine xi 15 <| xd 0 2 ef fun qB eL => xe (x := wT) 15 (eL.sb [0]) <| xm [(16, none)] (eL.sb [0]) <| xg ?_;intro Br;refine xi 17 <| xd 0 1 eL fun um iU => xe (x := Br) 17 (iU.sb [0]) <| xt ?_;exact xj 0 _ (aN _ _ _ ⟨k9, k8, rfl, iU.pk [0, 1, 0]⟩)
   refine xf 0 cW fun nY pK dz => xe (x := uD) 13 (dz.sb [0]) <| xg ?_;intro Bs;refine xi 8 ?_;have gX := iI; try simp [-List.getD_eq_getElem?_getD] at gX
   refine x0 0 [] dz (fun Hp R hR => wK S q.e pK R Hp hz he (fun tL G5 => hR _ _ _ G5 fun dS => ?_));refine xe (x := Bs) 8 (dS.sb [0]) <| xm [(9, none), (10, none), (11, none), (12, none)] (dS.sb [0]) <| xg ?_;intro FJ;refine xi 15 <| xd 0 2 dS fun tM fy => xe (x := FJ) 15 (fy.sb [0]) <| xm [(16, none)] (fy.sb [0]) <| xg ?_;intro FK;refine xi 17 <| xd 0 1 fy fun ze kv => xe (x := FK) 17 (kv.sb [0]) <| xt ?_;exact xj 0 _ (aN _ _ _ ⟨nY, k8, rfl, kv.pk [0, 1, 0]⟩)
 obtain ⟨k1, k2, rfl, fP⟩ := bQ;refine xb 3 1 fP <| xd 2 0 fP fun zY hP => xd 8 0 hP fun zZ jQ => xb 4 2 jQ <| xd 2 0 jQ fun zf iV => ?_;have gX := iI; try simp [-List.getD_eq_getElem?_getD] at gX
 have e : bU S q = (⟨(Go.Lex.next S q.e).kind, (Go.Lex.next S q.e).at_, (Go.Lex.next S q.e).text, (Go.Lex.next S q.e).n, (Go.Lex.next S q.e).nx, (Go.Lex.next S q.e).fk, (Go.Lex.next S q.e).fa, q.x, q.y⟩ : Rs) := by unfold bU; rw [if_pos (by unfold okB; simpa using iI)]
 exact xh 1 [] iV _ (hK _ e _ (iV.pe ak [0]))
theorem jW (b : Nat) (S : ByteArray) (q : Rs) (w : World) (K : Ending → World → Prop) (H0 : Sp w [kz b S q]) (ok : Ok S q) (hK : ∀ (q' : Rs) (e : bU S q = q') (u : Up S q q' ∧ ∀ s, bw q s = true → M S q' < M S q) w', Hs w [kz b S q] w' [kz b S q'] → K (.returned (.tuple #[])) w') : Calls Tryz.prog 33 #[.p b] w K :=
 HP b S q w K H0 ok.size ok.e fun q' e w' H => hK q' e (R1 ok e) w' H
theorem jd (b : Nat) (S : ByteArray) (q : Rs) (w : World) (K : Ending → World → Prop) (H0 : Sp w [kz b S q]) (ok : Ok S q) (hK : ∀ (q' : Rs) (e : qh q = q') (u : Up S q q') w', Hs w [kz b S q] w' [kz b S q'] → K (.returned (.tuple #[])) w') :
   Calls Tryz.prog 36 #[.p b] w K := by
 obtain ⟨L0, ak, H⟩ := Sx.bX H0;refine xu (vs := [.p b]) 13 Tryz.func36 ?_;refine x0 3 [0] H (fun Hp R hR => h_ b S q w R Hp (hR _ _ _ (.refl Hp) fun _ => ?_));refine xl 2 (okB q) (fun agr => ?_) (fun agr => ?_)
 · refine xb 6 0 H ?_;refine xd 3 0 H fun w1 H1 => ?_;have e : qh q = (⟨q.k, q.a, q.t, q.n, q.e, 4, q.a, q.x, q.y⟩ : Rs) := by simp only [qh, *, s0, reduceIte]
   exact xh 1 [] H1 _ (hK _ e (Ut ok e) _ (H1.pe ak [0]))
 have e : qh q = q := by simp only [qh, *, s0, reduceIte]
 exact xh 1 [] H _ (hK _ e (Ut ok e) _ (H.pe ak [0]))
theorem cm (b : Nat) (S : ByteArray) (q : Rs) (s : ByteArray) (w : World) (K : Ending → World → Prop) (H0 : Sp w [kz b S q]) (ok : Ok S q) (hK : ∀ (q' : Rs) (e : aO S q s = q') (u : Up S q q' ∧ (bw q s = true → M S q' < M S q)) w', Hs w [kz b S q] w' [kz b S q'] → K (.returned (.bool (bw q s))) w') :
   Calls Tryz.prog 50 #[.p b, .string s] w K := by
 obtain ⟨L0, ak, H⟩ := Sx.bX H0;refine xu (vs := [.p b, .string s]) 10 Tryz.func50 ?_;refine x0 10 [0] H (fun Hp R hR => uC b S q s w R Hp (hR _ _ _ (.refl Hp) fun _ => ?_));refine xl 2 (bw q s) (fun lL => ?_) (fun lL => ?_)
 · refine x0 3 [0] H (fun Hp R hR => jW b S q w R Hp ok (fun q1 e1 ⟨⟨iW, m1, x1, y1⟩, l1⟩ w1 G1 => hR _ _ _ G1 fun H1 => ?_));have := l1 _ lL;have e : aO S q s = q1 := by simp only [aO, *, s0, reduceIte]
   exact xh 9 [] H1 (.bool true) (Gx.af (congrArg Value.bool lL) (hK _ e (M0 ok e) _ (H1.pe ak [0])))
 have e : aO S q s = q := by simp only [aO, *, s0, reduceIte]
 exact xh 8 [] H (.bool false) (Gx.af (congrArg Value.bool lL) (hK _ e (M0 ok e) _ (H.pe ak [0])))
theorem bz (b : Nat) (S : ByteArray) (q : Rs) (s : ByteArray) (w : World) (K : Ending → World → Prop) (H0 : Sp w [kz b S q]) (ok : Ok S q) (hK : ∀ (q' : Rs) (e : aK S q s = q') (u : Up S q q') w', Hs w [kz b S q] w' [kz b S q'] → K (.returned (.tuple #[])) w') :
   Calls Tryz.prog 47 #[.p b, .string s] w K := by
 obtain ⟨L0, ak, H⟩ := Sx.bX H0;refine xu (vs := [.p b, .string s]) 10 Tryz.func47 ?_;refine x0 4 [0] H (fun Hp R hR => cm b S q s w R Hp ok (fun q1 e1 ⟨⟨iW, m1, x1, y1⟩, l1⟩ w1 G1 => hR _ _ _ G1 fun H1 => ?_));refine xl 3 (!(bw q s)) (fun lL => ?_) (fun lL => ?_)
 · have JO := nt lL;refine x0 2 [0] H1 (fun Hp R hR => jd b S q1 w1 R Hp iW (fun q2 e2 ⟨mL, m2, x2, y2⟩ w2 G2 => hR _ _ _ G2 fun H2 => ?_));have e : aK S q s = q2 := by unfold aK; rw [if_neg (by rw [JO]; exact Bool.false_ne_true)]; unfold aO at e1; rw [if_neg (by rw [JO]; exact Bool.false_ne_true)] at e1; subst e1; assumption
   exact xh 1 [] H2 _ (hK _ e (HK ok e) _ (H2.pe ak [0]))
 have JO := nf lL;have EL := l1 JO;have e : aK S q s = q1 := by unfold aK; rw [if_pos JO]; unfold aO at e1; rw [if_pos JO] at e1; exact e1
 exact xh 1 [] H1 _ (hK _ e (HK ok e) _ (H1.pe ak [0]))
theorem fK (b : Nat) (S : ByteArray) (q : Rs) (w : World) (K : Ending → World → Prop) (H0 : Sp w [kz b S q]) (ok : Ok S q) (hK : ∀ (x : ByteArray) (a : Nat) (q' : Rs) (e : bK S q = ((x, a), q')) (u : Up S q q' ∧ (okB q' = true → M S q' < M S q)) w', Hs w [kz b S q] w' [kz b S q'] → K (.returned (.tuple #[.string x, .n a])) w') :
   Calls Tryz.prog 46 #[.p b] w K := by
 obtain ⟨L0, ak, H⟩ := Sx.bX H0;refine xu (vs := [.p b]) 25 Tryz.func46 <| xb 11 0 H <| xf 0 H fun k1 w1 H1 => xd 0 1 H1 fun w2 H2 => ?_;refine yd 3 (fun l' w' => l' = [(0, .p b), (4, .p k1), (16, .bool ((!(okB q)) || ((q.k : Int) != (2 : Int))))] ∧ w2 = w') (fun K1 aN => ?_) (fun b1 l1 w3 bQ => ?_)
 · refine x0 2 [0] H2 (fun Hp R hR => h_ b S q w2 R Hp (hR _ _ _ (.refl Hp) fun _ => ?_));refine ye 2 12 (!(okB q)) (fun fG => ?_) (fun fG => ?_)
   · exact xj 5 _ (aN _ _ _ ⟨rfl, rfl⟩) (h2 := (by rw [fG]; try kernel_rfl))
   refine xb 1 1 H2 ?_;exact xj 3 _ (aN _ _ _ ⟨rfl, rfl⟩) (h2 := (by rw [fG]; try kernel_rfl))
 obtain ⟨rfl, rfl⟩ := bQ;refine xl 0 ((!(okB q)) || ((q.k : Int) != (2 : Int))) (fun cU => ?_) (fun cU => ?_)
 · refine x0 3 [0] H2 (fun Hp R hR => jd b S q w2 R Hp ok (fun q1 e1 ⟨iW, m1, x1, y1⟩ w4 G1 => hR _ _ _ G1 fun H3 => ?_));have hn := ago cU;have e : bK S q = (((bY []), 0), q1) := by simp only [bK, *, s0, reduceIte]
   exact xh 10 [] H3 _ (hK _ _ _ e (HL ok e) _ (H3.pe ak [0]))
 refine x0 5 [0] H2 (fun Hp R hR => jW b S q w2 R Hp ok (fun q2 e2 ⟨⟨mL, m2, x2, y2⟩, l2⟩ w5 G2 => hR _ _ _ G2 fun H4 => ?_));refine xw 3 H4 [1] [] (LJ := [.al k1 (.cells #[.n q.k, .n q.a, .string q.t, .n q.n] 89)]) (by kernel_rfl) fun w6 H5 => xm [(0, none), (1, some (0, [])), (2, none), (3, some (0, [])), (4, none), (5, none)] (H5.sb [1]) <| xt ?_;have hn := agp cU;have e : bK S q = ((q.t, q.a), q2) := by simp only [bK, *, s0, reduceIte]
 exact xh 2 [] H5 _ (hK _ _ _ e (HL ok e) _ (H5.pe ak [0]))
theorem dU (k a : Int) (A : Option Addr) (n c : Nat) (w : World) (K : Ending → World → Prop) (H0 : Sp w []) (l : Nat) (hl : n = l) (hK : ∀ w', Hs w [] w' [] → K (.returned (.agg #[.int .i64 k, .int .i64 a, .string (bY []), .int .i64 0, .slice A l c])) w') :
   Calls Tryz.prog 44 #[.int .i64 k, .int .i64 a, .slice A n c] w K := by
 obtain ⟨L0, ak, H⟩ := Sx.bX H0;refine xu (vs := [.int .i64 k, .int .i64 a, .slice A n c]) 11 Tryz.func44 <| xf 2 H fun k1 w1 H1 => xd 8 0 H1 fun w2 H2 => ?_;subst hl;exact xh 3 [0] H2 _ (hK _ (H2.pe ak []))
theorem dp (k a : Int) (x : ByteArray) (A : Option Addr) (n c : Nat) (w : World) (K : Ending → World → Prop) (H0 : Sp w []) (l : Nat) (hl : n = l) (hK : ∀ w', Hs w [] w' [] → K (.returned (.agg #[.int .i64 k, .int .i64 a, .string x, .int .i64 0, .slice A l c])) w') :
   Calls Tryz.prog 49 #[.int .i64 k, .int .i64 a, .string x, .slice A n c] w K := by
 obtain ⟨L0, ak, H⟩ := Sx.bX H0;refine xu (vs := [.int .i64 k, .int .i64 a, .string x, .slice A n c]) 14 Tryz.func49 <| xf 2 H fun k1 w1 H1 => xd 9 0 H1 fun w2 H2 => ?_;subst hl;exact xh 3 [0] H2 _ (hK _ (H2.pe ak []))
theorem DC (x : ByteArray) (tu : Nd) (Au : Option Addr) (cu : Nat) (Pu : Nat → Prop) (tv : Nd) (Av : Option Addr) (cv : Nat) (Pv : Nat → Prop) (w : World) (K : Ending → World → Prop) (H0 : Sp w [eK Pu tu.ks Au cu, eK Pv tv.ks Av cv]) (hK : ∀ (Q : Nat → Prop) (A : Option Addr) w', Hs w [eK Pu tu.ks Au cu, eK Pv tv.ks Av cv] w' [eK Q [tu, tv] A 2] → K (.returned (.agg #[.int .i64 18, .n tu.a, .string x, .int .i64 0, .slice A 2 2])) w') :
   Calls Tryz.prog 130 #[.string x, Sx.nA tu.k tu.a tu.nm tu.n Au tu.ks cu, Sx.nA tv.k tv.a tv.nm tv.n Av tv.ks cv] w K := by
 obtain ⟨L0, ak, H⟩ := Sx.bX H0;refine xu (vs := [.string x, Sx.nA tu.k tu.a tu.nm tu.n Au tu.ks cu, Sx.nA tv.k tv.a tv.nm tv.n Av tv.ks cv]) 14 Tryz.func130 <| xf 2 H fun k1 w1 H1 => xf 0 H1 fun k2 w2 H2 => xf 0 H2 fun k3 w3 H3 => xb 5 2 H3 <| xb 1 2 H3 ?_;refine xb 0 3 H3 <| xf 0 H3 fun k4 w4 H4 => bP H4 [5, 0, 0] k4 62 [.nd Pu tu Au cu, .nd Pv tv Av cv] fun Q1 H5 => ?_;refine x0 0 [] H5 (fun Hp R hR => dp (18 : Int) (tu.a : Int) x (some ⟨k4, 0, none⟩) 2 2 w4 R Hp 2 rfl (fun w5 G1 => hR _ _ _ G1 fun H6 => ?_));refine xd 0 3 H6 fun w6 H7 => ?_;exact xh 3 [3] H7 _ (hK Q1 (some ⟨k4, 0, none⟩) _ (H7.pe ak [0]))
def RdX (X : ByteArray → Rs → Prop) (k : Nat) (nt : NT) (f : Nat) (vs : List Value) : Prop := ∀ (b : Nat) (S : ByteArray) (q : Rs) (w : World) (K : Ending → World → Prop), Sp w [kz b S q] → Ok S q → X S q →
 (∀ Q t A c q', run S k nt q = (t, q') → Up S q q' → ∀ w', Hs w [kz b S q] w' [kz b S q', eK Q t.ks A c] → K (.returned (.agg (vN t A c).toArray)) w') → Calls Tryz.prog f (.p b :: vs).toArray w K
abbrev oS (k : Nat) (nt : NT) (r f : Nat) (vs : List Value) : Prop := RdX (fun S q => 16 * M S q + r ≤ k) k nt f vs
theorem Cy {X : ByteArray → Rs → Prop} {k : Nat} {nt : NT} {f : Nat} {vs : List Value} (h : ∀ (b : Nat) (S : ByteArray) (q : Rs) (w : World) (K : Ending → World → Prop), Sp w [kz b S q] → Ok S q → X S q →
 (∀ Q t A c q', run S k nt q = (t, q') → ∀ w', Hs w [kz b S q] w' [kz b S q', eK Q t.ks A c] → K (.returned (.agg (vN t A c).toArray)) w') → Calls Tryz.prog f (.p b :: vs).toArray w K) : RdX X k nt f vs :=
 fun b S q w K H0 ok hm hK => h b S q w K H0 ok hm fun Q t A c q' e w' H => hK Q t A c q' e (.of (Jh ok e)) w' H
structure Spec (k : Nat) : Prop where
 oa : oS k .qQ 11 48 []
 Bt : oS k .pair 10 80 []
 FL : oS k .some 9 112 []
 eD : oS k .expr 11 52 []
 Nj : oS k .any 10 82 []
 iJ : ∀ (sign : ByteArray) (first : Bool), oS k (.params sign first) 12 51 [.string sign, .bool first]
 FM : ∀ (at_ : Nat), oS k (.Jb at_) 13 113 [.n at_]
 Bu : ∀ (at_ : Nat), oS k (.cases at_) 13 114 [.n at_]
 wU : ∀ (at_ : Nat), RdX (fun S q => 16 * M S q + 9 ≤ k ∧ (bw q (bY [104,97,110,100,108,101]) || bw q (bY [115,104,97,108,108,111,119])) = true) k (.handle at_) 115 [.n at_]
 FN : oS k .comp 9 116 []
 sV : oS k .cons 8 129 []
 Nk : oS k .sum 7 133 []
 DD : oS k .mul 6 136 []
 HQ : oS k .app 5 137 []
 qD : oS k .atom 3 138 []
 Bv : ∀ (at_ : Nat), oS k (.round at_) 13 140 [.n at_]
 wV : ∀ (at_ : Nat), oS k (.qi at_) 13 141 [.n at_]
 FO : oS k .prog 14 34 []
theorem WM (k : Nat) (ih : ∀ j, j ≤ k → Spec j) : oS (k + 1) .pair 10 80 [] := by
 refine Cy fun b S q w K H0 ok hm hK => ?_;obtain ⟨L0, ak, H⟩ := Sx.bX H0;refine xu (vs := [.p b]) 18 Tryz.func80 ?_;have f := ih k (Nat.le_refl k);refine xf 2 H fun k1 w1 H1 => ?_;refine x0 5 [0] H1 (fun Hp R hR => f.FL b S q w1 R Hp ok (by omega) (fun Q1 t1 A1 c1 q1 e1 ⟨iW, m1, x1, y1⟩ w2 G1 => hR _ _ _ G1 fun H2 => ?_));refine xf 0 H2 fun k2 w3 H3 => xd 0 3 H3 fun w4 H4 => ?_;refine x0 6 [0] H4 (fun Hp R hR => cm b S q1 (bY [42]) w4 R Hp iW (fun q2 e2 ⟨⟨mL, m2, x2, y2⟩, l1⟩ w5 G2 => hR _ _ _ G2 fun H5 => ?_));refine xl 2 (bw q1 (bY [42])) (fun jT => ?_) (fun jT => ?_)
 · have EL := l1 jT;refine x0 3 [0] H5 (fun Hp R hR => f.Bt b S q2 w5 R Hp mL (by omega) (fun Q2 t2 A2 c2 q3 e3 ⟨ni, m3, x3, y3⟩ w6 G3 => hR _ _ _ G3 fun H6 => ?_));refine xf 0 H6 fun k3 w7 H7 => xd 0 5 H7 fun w8 H8 => xb 5 4 H8 <| xb 0 4 H8 <| xb 0 5 H8 <| xf 0 H8 fun k4 w9 H9 => ?_;refine bP H9 [6, 2, 1] k4 62 [.nd Q1 t1 A1 c1, .nd Q2 t2 A2 c2] fun Q3 aY => ?_;refine x0 0 [] aY (fun Hp R hR => dU (28 : Int) (t1.a : Int) (some ⟨k4, 0, none⟩) 2 2 w9 R Hp 2 rfl (fun cJ G4 => hR _ _ _ G4 fun aZ => ?_));refine xd 0 2 aZ fun fU aP => ?_;exact xh 4 [2] aP _ (hK Q3 (.mk 28 t1.a (bY []) (0 : Int) [t1, t2]) (some ⟨k4, 0, none⟩) 2 q3 (by rw [ai]; simp only [aB, vI, *, s0, maps, decide_eq_true_eq, reduceIte]) _ (aP.pe ak [1, 0]))
 refine xb 4 3 H5 <| xd 0 2 H5 fun gV bF => ?_;exact xh 3 [2] bF _ (hK Q1 t1 A1 c1 q2 (by rw [ai]; simp only [aB, vI, *, s0, maps, decide_eq_true_eq, reduceIte]) _ (bF.pe ak [0, 0]))
theorem WN (k : Nat) (ih : ∀ j, j ≤ k → Spec j) : oS (k + 1) .cons 8 129 [] := by
 refine Cy fun b S q w K H0 ok hm hK => ?_;obtain ⟨L0, ak, H⟩ := Sx.bX H0;refine xu (vs := [.p b]) 18 Tryz.func129 ?_;have f := ih k (Nat.le_refl k);refine xf 2 H fun k1 w1 H1 => ?_;refine x0 5 [0] H1 (fun Hp R hR => f.Nk b S q w1 R Hp ok (by omega) (fun Q1 t1 A1 c1 q1 e1 ⟨iW, m1, x1, y1⟩ w2 G1 => hR _ _ _ G1 fun H2 => ?_));refine xf 0 H2 fun k2 w3 H3 => xd 0 3 H3 fun w4 H4 => ?_;refine x0 6 [0] H4 (fun Hp R hR => cm b S q1 (bY [58,58]) w4 R Hp iW (fun q2 e2 ⟨⟨mL, m2, x2, y2⟩, l1⟩ w5 G2 => hR _ _ _ G2 fun H5 => ?_));refine xl 2 (bw q1 (bY [58,58])) (fun jT => ?_) (fun jT => ?_)
 · have EL := l1 jT;refine x0 3 [0] H5 (fun Hp R hR => f.sV b S q2 w5 R Hp mL (by omega) (fun Q2 t2 A2 c2 q3 e3 ⟨ni, m3, x3, y3⟩ w6 G3 => hR _ _ _ G3 fun H6 => ?_));refine xf 0 H6 fun k3 w7 H7 => xd 0 5 H7 fun w8 H8 => xb 5 4 H8 <| xb 0 4 H8 <| xb 0 5 H8 <| xf 0 H8 fun k4 w9 H9 => ?_;refine bP H9 [6, 2, 1] k4 62 [.nd Q1 t1 A1 c1, .nd Q2 t2 A2 c2] fun Q3 aY => ?_;refine x0 0 [] aY (fun Hp R hR => dU (16 : Int) (t1.a : Int) (some ⟨k4, 0, none⟩) 2 2 w9 R Hp 2 rfl (fun cJ G4 => hR _ _ _ G4 fun aZ => ?_));refine xd 0 2 aZ fun fU aP => ?_;exact xh 4 [2] aP _ (hK Q3 (.mk 16 t1.a (bY []) (0 : Int) [t1, t2]) (some ⟨k4, 0, none⟩) 2 q3 (by rw [ai]; simp only [aB, vJ, *, s0, maps, decide_eq_true_eq, reduceIte]) _ (aP.pe ak [1, 0]))
 refine xb 4 3 H5 <| xd 0 2 H5 fun gV bF => ?_;exact xh 3 [2] bF _ (hK Q1 t1 A1 c1 q2 (by rw [ai]; simp only [aB, vJ, *, s0, maps, decide_eq_true_eq, reduceIte]) _ (bF.pe ak [0, 0]))
theorem WO (k : Nat) (ih : ∀ j, j ≤ k → Spec j) : oS (k + 1) .some 9 112 [] := by
 refine Cy fun b S q w K H0 ok hm hK => ?_;obtain ⟨L0, ak, H⟩ := Sx.bX H0;refine xu (vs := [.p b]) 43 Tryz.func112 ?_;have f := ih k (Nat.le_refl k);refine xf 2 H fun k1 w1 H1 => xb 8 0 H1 <| xf 6 H1 fun k2 w2 H2 => xd 0 2 H2 fun w3 H3 => ?_;refine yd 2 (fun l' w' => ∃ (q9 : Rs) (Q9 : Nat → Prop) (a9 : Nd) (A9 : Option Addr) (c9 : Nat), l' = [(0, .p b), (2, .p k1), (4, .p k2)] ∧ Hs w L0 w' [kz b S q9, .al k2 (.cells #[.n a9.k, .n a9.a, .string a9.nm, .int .i64 a9.n, .slice A9 a9.ks.length c9] 62), eK Q9 a9.ks A9 c9, .al k1 (.cells #[.int .i64 0, .int .i64 0, .string (bY []), .int .i64 0, .slice none 0 0] 62)] ∧ (run S (k + 1) .some q = run S k (.jn a9) q9) ∧ (Up S q q9)) (fun K1 aN => ?_) (fun b1 l1 w4 bQ => ?_)
 · refine x0 4 [0] H3 (fun Hp R hR => cm b S q (bY [105,110,116]) w3 R Hp ok (fun q1 e1 ⟨⟨iW, m1, x1, y1⟩, l2⟩ w5 G1 => hR _ _ _ G1 fun H4 => ?_));refine xl 3 (bw q (bY [105,110,116])) (fun eR => ?_) (fun eR => ?_)
   · have EL := l2 eR;refine x0 2 [] H4 (fun Hp R hR => dU (24 : Int) (q.a : Int) none 0 0 w5 R Hp 0 rfl (fun w6 G2 => hR _ _ _ G2 fun H5 => ?_));refine xd 0 2 H5 fun w7 H6 => ?_;have H7 := db H6;exact xj 2 _ (aN _ _ _ ⟨q1, (fun _ => False), (.mk 24 q.a (bY []) (0 : Int) []), none, 0, rfl, H7.pk [0, 1, 1, 0], (by rw [ai]; simp only [aB, py, *, s0, reduceIte]), ⟨iW, by omega, by omega, by omega⟩⟩)
   refine x0 3 [0] H4 (fun Hp R hR => cm b S q1 (bY [98,111,111,108]) w5 R Hp iW (fun q2 e2 ⟨⟨mL, m2, x2, y2⟩, l3⟩ w8 G3 => hR _ _ _ G3 fun H9 => ?_));refine xl 3 (bw q1 (bY [98,111,111,108])) (fun gW => ?_) (fun gW => ?_)
   · have R5 := l3 gW;refine x0 2 [] H9 (fun Hp R hR => dU (25 : Int) (q.a : Int) none 0 0 w8 R Hp 0 rfl (fun w9 G4 => hR _ _ _ G4 fun aY => ?_));refine xd 0 2 aY fun cJ aZ => ?_;have aP := db aZ;exact xj 2 _ (aN _ _ _ ⟨q2, (fun _ => False), (.mk 25 q.a (bY []) (0 : Int) []), none, 0, rfl, aP.pk [0, 1, 1, 0], (by rw [ai]; simp only [aB, py, *, s0, reduceIte]), ⟨mL, by omega, by omega, by omega⟩⟩)
   refine x0 3 [0] H9 (fun Hp R hR => cm b S q2 (bY [117,110,105,116]) w8 R Hp mL (fun q3 e3 ⟨⟨ni, m3, x3, y3⟩, l4⟩ fU G5 => hR _ _ _ G5 fun bq => ?_));refine xl 3 (bw q2 (bY [117,110,105,116])) (fun pQ => ?_) (fun pQ => ?_)
   · have lt3 := l4 pQ;refine x0 2 [] bq (fun Hp R hR => dU (26 : Int) (q.a : Int) none 0 0 fU R Hp 0 rfl (fun gV G6 => hR _ _ _ G6 fun bu => ?_));refine xd 0 2 bu fun iq bS => ?_;have bx := db bS;exact xj 2 _ (aN _ _ _ ⟨q3, (fun _ => False), (.mk 26 q.a (bY []) (0 : Int) []), none, 0, rfl, bx.pk [0, 1, 1, 0], (by rw [ai]; simp only [aB, py, *, s0, reduceIte]), ⟨ni, by omega, by omega, by omega⟩⟩)
   refine x0 3 [0] bq (fun Hp R hR => cm b S q3 (bY [40]) fU R Hp ni (fun q4 e4 ⟨⟨sW, m4, x4, y4⟩, l5⟩ iF G7 => hR _ _ _ G7 fun bZ => ?_));refine xl 3 (bw q3 (bY [40])) (fun wW => ?_) (fun wW => ?_)
   · have lt4 := l5 wW;refine x0 3 [0] bZ (fun Hp R hR => f.oa b S q4 iF R Hp sW (by omega) (fun Q1 t1 A1 c1 q5 e5 ⟨z_, m5, x5, y5⟩ kr G8 => hR _ _ _ G8 fun cj => ?_));refine xd 0 3 cj fun ku cC => ?_;refine x0 4 [0] cC (fun Hp R hR => bz b S q5 (bY [41]) ku R Hp z_ (fun q6 e6 ⟨Cz, m6, x6, y6⟩ ke G9 => hR _ _ _ G9 fun c_ => ?_));exact xj 2 _ (aN _ _ _ ⟨q6, Q1, t1, A1, c1, rfl, c_.pk [0, 2, 0, 0], (by rw [ai]; simp only [aB, py, *, s0, reduceIte]), ⟨Cz, by omega, by omega, by omega⟩⟩)
   refine x0 2 [0] bZ (fun Hp R hR => jd b S q4 iF R Hp sW (fun q7 e7 ⟨DE, m7, x7, y7⟩ mm nj => hR _ _ _ nj fun cW => ?_));have cK := db cW;exact xj 2 _ (aN _ _ _ ⟨q7, (fun _ => False), gF, none, 0, rfl, cK.pk [0, 1, 1, 0], (by rw [ai]; simp only [aB, py, *, s0, reduceIte]), ⟨DE, by omega, by omega, by omega⟩⟩)
 obtain ⟨q9, Q9, a9, A9, c9, rfl, eL, Uu, ⟨Ac, m9, x9, y9⟩⟩ := bQ;refine xz 2 (fun z l' w' => ∃ (j : Nat) (p : Rs) (Q : Nat → Prop) (a : Nd) (A : Option Addr) (c : Nat), l' = [(0, .p b), (2, .p k1), (4, .p k2)] ∧ z = M S p ∧ Hs w L0 w' [kz b S p, .al k2 (.cells #[.n a.k, .n a.a, .string a.nm, .int .i64 a.n, .slice A a.ks.length c] 62), eK Q a.ks A c, .al k1 (.cells #[.int .i64 0, .int .i64 0, .string (bY []), .int .i64 0, .slice none 0 0] 62)] ∧ (j ≤ k) ∧ (16 * M S p + 3 ≤ j) ∧ (run S j (.jn a) p = run S (k + 1) .some q) ∧ (Up S q9 p)) _ _ ⟨k, q9, Q9, a9, A9, c9, rfl, rfl, eL.pk [0, 0, 0, 0], (Nat.le_refl _), (by omega), Uu.symm, ⟨Ac, Nat.le_refl _, rfl, rfl⟩⟩ (fun b2 z1 l6 nX gA K2 dH => ?_);obtain ⟨j, p, Q, a, A, c, rfl, rfl, eC, hj, EM, hr, ⟨ho, hM, hx, hy⟩⟩ := gA;obtain ⟨i, rfl⟩ : ∃ i, j = i + 1 := ⟨j - 1, by omega⟩;have g := ih i (by omega);refine x0 4 [0] eC (fun Hp R hR => cm b S p (bY [108,105,115,116]) nX R Hp ho (fun q8 e8 ⟨⟨DF, m8, x8, y8⟩, l7⟩ o4 o9 => hR _ _ _ o9 fun dz => ?_));refine xl 2 (bw p (bY [108,105,115,116])) (fun Ad => ?_) (fun Ad => ?_)
 · refine xb 5 1 dz ?_;refine xb 0 1 dz <| xf 0 dz fun k3 kR dS => bP dS [4, 2] k3 62 [.nd Q a A c] fun Q2 fy => ?_;have lt5 := l7 Ad;refine x0 0 [] fy (fun Hp R hR => dU (27 : Int) (a.a : Int) (some ⟨k3, 0, none⟩) 1 1 kR R Hp 1 rfl (fun ry rJ => hR _ _ _ rJ fun kv => ?_));refine xd 0 2 kv fun tK gi => ?_;exact xj 2 _ (dH _ _ _ _ (by omega) ⟨i, q8, Q2, (.mk 27 a.a (bY []) (0 : Int) [a]), (some ⟨k3, 0, none⟩), 1, rfl, rfl, gi.pk [1, 1, 0, 0], (by omega), (by omega), (by rw [← hr, ai]; simp only [aB, qj, *, s0, reduceIte]), ⟨DF, by omega, by omega, by omega⟩⟩)
 have e9 : run S (k + 1) .some q = (a, q8) := by rw [← hr, ai]; simp only [aB, qj, *, s0, reduceIte]
 refine xb 7 1 dz <| xd 0 3 dz fun qB hP => ?_;exact xh 3 [3] hP _ (hK Q a A c q8 (e9) _ (hP.pe ak [0, 1]))
theorem aaG (k : Nat) (ih : ∀ j, j ≤ k → Spec j) : oS (k + 1) .mul 6 136 [] := by
 refine Cy fun b S q w K H0 ok hm hK => ?_;obtain ⟨L0, ak, H⟩ := Sx.bX H0;refine xu (vs := [.p b]) 15 Tryz.func136 ?_;have f := ih k (Nat.le_refl k);refine xf 2 H fun k1 w1 H1 => ?_;refine x0 5 [0] H1 (fun Hp R hR => f.HQ b S q w1 R Hp ok (by omega) (fun Q1 t1 A1 c1 q1 e1 ⟨iW, m1, x1, y1⟩ w2 G1 => hR _ _ _ G1 fun H2 => ?_));refine xf 0 H2 fun k2 w3 H3 => xd 0 3 H3 fun w4 H4 => ?_;refine xz 4 (fun z l' w' => ∃ (j : Nat) (p : Rs) (Q : Nat → Prop) (a : Nd) (A : Option Addr) (c : Nat), l' = [(0, .p b), (2, .p k1), (3, .p k2)] ∧ z = M S p ∧ Hs w L0 w' [kz b S p, .al k2 (.cells #[.n a.k, .n a.a, .string a.nm, .int .i64 a.n, .slice A a.ks.length c] 62), eK Q a.ks A c, .al k1 (.cells #[.int .i64 0, .int .i64 0, .string (bY []), .int .i64 0, .slice none 0 0] 62)] ∧ (j ≤ k) ∧ (16 * M S p + 5 ≤ j) ∧ (run S j (.mulL a) p = run S k (.mulL t1) q1) ∧ (Up S q1 p)) _ _ ⟨k, q1, Q1, t1, A1, c1, rfl, rfl, H4.pk [0, 2, 0, 0], (Nat.le_refl _), (by omega), rfl, ⟨iW, by omega, by omega, by omega⟩⟩ (fun b1 z1 l1 w5 bQ K1 aN => ?_);obtain ⟨j, p, Q, a, A, c, rfl, rfl, H6, hj, EM, hr, ⟨ho, hM, hx, hy⟩⟩ := bQ;obtain ⟨i, rfl⟩ : ∃ i, j = i + 1 := ⟨j - 1, by omega⟩;have g := ih i (by omega);refine x0 4 [0] H6 (fun Hp R hR => cm b S p (bY [42]) w5 R Hp ho (fun q2 e2 ⟨⟨mL, m2, x2, y2⟩, l2⟩ w6 G2 => hR _ _ _ G2 fun H7 => ?_));refine xl 2 (bw p (bY [42])) (fun jT => ?_) (fun jT => ?_)
 · have EL := l2 jT;refine x0 6 [0] H7 (fun Hp R hR => g.HQ b S q2 w6 R Hp mL (by omega) (fun Q2 t2 A2 c2 q3 e3 ⟨ni, m3, x3, y3⟩ w7 G3 => hR _ _ _ G3 fun H8 => ?_));refine xf 0 H8 fun k3 w8 H9 => xd 0 5 H9 fun w9 aY => xb 3 2 aY <| xb 0 5 aY ?_;refine x0 0 [3, 1] aY (fun Hp R hR => DC (bY [42]) a A c Q t2 A2 c2 Q2 w9 R Hp  (fun Q3 A3 cJ G4 => hR _ _ _ G4 fun aZ => ?_));refine xd 0 2 aZ fun fU aP => ?_;exact xj 2 _ (aN _ _ _ _ (by omega) ⟨i, q3, Q3, (.mk 18 a.a (bY [42]) (0 : Int) [a, t2]), A3, 2, rfl, rfl, aP.pk [1, 1, 0, 0], (by omega), (by omega), (by rw [← hr, ai]; simp only [aB, vK, two, *, s0, reduceIte]), ⟨ni, by omega, by omega, by omega⟩⟩)
 have e4 : run S k (.mulL t1) q1 = (a, q2) := by rw [← hr, ai]; simp only [aB, vK, two, *, s0, reduceIte]
 refine xb 7 1 H7 <| xd 0 3 H7 fun gV bq => ?_;exact xh 3 [3] bq _ (hK Q a A c q2 (by rw [ai]; simp only [aB, Je, two, *, s0, maps, decide_eq_true_eq, reduceIte]) _ (bq.pe ak [0, 1]))
theorem aaH (k : Nat) (ih : ∀ j, j ≤ k → Spec j) : oS (k + 1) .sum 7 133 [] := by
 refine Cy fun b S q w K H0 ok hm hK => ?_;obtain ⟨L0, ak, H⟩ := Sx.bX H0;refine xu (vs := [.p b]) 28 Tryz.func133 ?_;have f := ih k (Nat.le_refl k);refine xf 2 H fun k1 w1 H1 => ?_;refine x0 5 [0] H1 (fun Hp R hR => f.DD b S q w1 R Hp ok (by omega) (fun Q1 t1 A1 c1 q1 e1 ⟨iW, m1, x1, y1⟩ w2 G1 => hR _ _ _ G1 fun H2 => ?_));refine xf 0 H2 fun k2 w3 H3 => xd 0 3 H3 fun w4 H4 => ?_;refine xz 3 (fun z l' w' => ∃ (j : Nat) (p : Rs) (Q : Nat → Prop) (a : Nd) (A : Option Addr) (c : Nat), l' = [(0, .p b), (2, .p k1), (3, .p k2)] ∧ z = M S p ∧ Hs w L0 w' [kz b S p, .al k2 (.cells #[.n a.k, .n a.a, .string a.nm, .int .i64 a.n, .slice A a.ks.length c] 62), eK Q a.ks A c, .al k1 (.cells #[.int .i64 0, .int .i64 0, .string (bY []), .int .i64 0, .slice none 0 0] 62)] ∧ (j ≤ k) ∧ (16 * M S p + 6 ≤ j) ∧ (run S j (.vG a) p = run S k (.vG t1) q1) ∧ (Up S q1 p)) _ _ ⟨k, q1, Q1, t1, A1, c1, rfl, rfl, H4.pk [0, 2, 0, 0], (Nat.le_refl _), (by omega), rfl, ⟨iW, by omega, by omega, by omega⟩⟩ (fun b1 z1 l1 w5 bQ K1 aN => ?_);obtain ⟨j, p, Q, a, A, c, rfl, rfl, H6, hj, EM, hr, ⟨ho, hM, hx, hy⟩⟩ := bQ;obtain ⟨i, rfl⟩ : ∃ i, j = i + 1 := ⟨j - 1, by omega⟩;have g := ih i (by omega);refine xb 7 0 H6 ?_;refine x0 7 [0] H6 (fun Hp R hR => cm b S p (bY [43]) w5 R Hp ho (fun q2 e2 ⟨⟨mL, m2, x2, y2⟩, l2⟩ w6 G2 => hR _ _ _ G2 fun H7 => ?_));refine ye 2 16 (!(bw p (bY [43]))) (fun rK => ?_) (fun rK => ?_)
 · have Uv := nt rK;refine x0 1 [0] H7 (fun Hp R hR => cm b S q2 (bY [45]) w6 R Hp mL (fun q3 e3 ⟨⟨ni, m3, x3, y3⟩, l3⟩ w7 G3 => hR _ _ _ G3 fun H8 => ?_));refine xl 4 (!(bw q2 (bY [45]))) (fun iK => ?_) (fun iK => ?_)
   · have Uw := nt iK;have e4 : run S k (.vG t1) q1 = (a, q3) := by rw [← hr, ai]; simp only [aB, tF, two, *, s0, reduceIte]
     refine xb 2 1 H8 <| xd 0 3 H8 fun w8 H9 => ?_;exact xh 7 [3] H9 _ (hK Q a A c q3 (by rw [ai]; simp only [aB, Jd, two, *, s0, maps, decide_eq_true_eq, reduceIte]) _ (H9.pe ak [0, 1]))
   have Uw := nf iK;have EL := l3 Uw;refine x0 5 [0] H8 (fun Hp R hR => g.DD b S q3 w7 R Hp ni (by omega) (fun Q2 t2 A2 c2 q4 e5 ⟨sW, m4, x4, y4⟩ w9 G4 => hR _ _ _ G4 fun aY => ?_));refine xf 0 aY fun k3 cJ aZ => xd 0 5 aZ fun fU aP => xb 4 2 aP <| xb 0 5 aP ?_;refine x0 0 [3, 1] aP (fun Hp R hR => DC p.t a A c Q t2 A2 c2 Q2 fU R Hp  (fun Q3 A3 gV G5 => hR _ _ _ G5 fun bF => ?_));refine xd 0 2 bF fun iq bq => ?_;exact xj 2 _ (aN _ _ _ _ (by omega) ⟨i, q4, Q3, (.mk 18 a.a p.t (0 : Int) [a, t2]), A3, 2, rfl, rfl, bq.pk [1, 1, 0, 0], (by omega), (by omega), (by rw [← hr, ai]; simp only [aB, tF, two, *, s0, reduceIte]), ⟨sW, by omega, by omega, by omega⟩⟩)
 have Uv := nf rK;have R5 := l2 Uv;refine x0 12 [0] H7 (fun Hp R hR => g.DD b S q2 w6 R Hp mL (by omega) (fun Q4 t3 A4 c3 q5 e6 ⟨z_, m5, x5, y5⟩ iF G6 => hR _ _ _ G6 fun bS => ?_));refine xf 0 bS fun k4 kr bx => xd 0 5 bx fun ku cV => xb 4 2 cV <| xb 0 5 cV ?_;refine x0 0 [3, 1] cV (fun Hp R hR => DC p.t a A c Q t3 A4 c3 Q4 ku R Hp  (fun Q5 A5 ke G7 => hR _ _ _ G7 fun bZ => ?_));refine xd 0 2 bZ fun mm cj => ?_;exact xj 2 _ (aN _ _ _ _ (by omega) ⟨i, q5, Q5, (.mk 18 a.a p.t (0 : Int) [a, t3]), A5, 2, rfl, rfl, cj.pk [1, 1, 0, 0], (by omega), (by omega), (by rw [← hr, ai]; simp only [aB, tF, two, *, s0, reduceIte]), ⟨z_, by omega, by omega, by omega⟩⟩)
end Rd
end Go.Proofs.YtdmdecgoebnamaaGreat
