/- A part of the proof. -/
import Derived.Test.YtdmdecgoebnamaaGreatCheck
import Derived.Test.YtdmdecgoebnamaaGreatSx6
import Derived.Test.YtdmdecgoebnamaaGreatYb
set_option linter.unusedVariables false
set_option linter.unusedSimpArgs false
namespace Go.Proofs.YtdmdecgoebnamaaGreat
open Go.RowKit Go.Sx Go.aS Go.Mn
attribute [local irreducible] Go.wpOps Go.Code.wp Go.wpOp Go.wpAnyH Go.Calls Go.Sx.Goal
set_option maxRecDepth 20000
namespace Mr
set_option maxHeartbeats 4000000 in
theorem V9 (S : Nat → Prop) (T : List RR) (e : En) (us : List Bool) (r' : Rn) (br : Nat) (As : Option Addr) (ns cs : Nat) (sp : List FP) (k ta : Nat) (nm : Nm) (nn : Int) (nA : Option Addr) (nc : Nat) (ks : List PN) (eo : Option Nat) (bo : Nat) (steps : Int) (w : World) (K : Ending → World → Prop) (H0 : Sp w [bR br As ns cs (.n k) (.n ta) nm (.int .i64 nn) nA ks.length nc (pO eo) (.pointer none) bo (.int .i64 0) eB (.int .i64 steps), wI 135 8 As cs ns (bh sp), mI S T sp [.env eo e, .aG (PN.mk k ta nm nn nA nc ks)]]) (nW : ns = sp.length ∧ ns < 100000000) (hf : CZ ⟨sp.map (·.f), (PN.mk k ta nm nn nA nc ks), e, none, us⟩ = some r') (hK : ∀ (S' : Nat → Prop) (A' : Option Addr) (n' : Nat) (c' : Nat) (jr : List FP) (k' : Nat) (a' : Nat) (qw : Nm) (qx : Int) (qy : Option Addr) (qz : Nat) (o3 : List PN) (ED : Option Nat) (v' : Option Vl) w', Hs w [bR br As ns cs (.n k) (.n ta) nm (.int .i64 nn) nA ks.length nc (pO eo) (.pointer none) bo (.int .i64 0) eB (.int .i64 steps), wI 135 8 As cs ns (bh sp), mI S T sp [.env eo e, .aG (PN.mk k ta nm nn nA nc ks)]] w' [bR br A' n' c' (.n k') (.n a') qw (.int .i64 qx) qy o3.length qz (pO eo) (pO ED) bo (.int .i64 0) eB (.int .i64 steps), wI 135 8 A' c' n' (bh jr), mI S' T jr [.env eo e, .aG (PN.mk k' a' qw qx qy qz o3), .vo ED v']] → (r' = ⟨jr.map (·.f), (PN.mk k' a' qw qx qy qz o3), e, v', us⟩) → (n' = jr.length) → K (.returned (.tuple #[])) w') :
   Calls Tryz.prog 40 #[.p br] w K := by
 obtain ⟨L0, ak, H⟩ := Sx.bX H0;refine xu (vs := [.p br]) 76 Tryz.func40 ?_;have au := Rx hf;rcases au with ⟨hk, hr⟩ | ⟨hk, hr⟩ | ⟨hk, hr⟩ | ⟨hk, hr⟩ | ⟨hk, v, hv, hr⟩ | ⟨hk, hr⟩ | ⟨⟨n3, n4, n5, n15, n6, n7⟩, ⟨dk, da, bJ, dn, dA, dc, cH⟩, hd, hr⟩
 · refine xb 5 0 H ?_;refine xf 0 H fun k1 w1 H1 => xd 0 3 H1 fun w2 H2 => xb 5 3 H2 <| xp 5 (.bool ((k : Int) == (3 : Int))) (.bool true) (eT (by omega)) <| xb 7 3 H2 <| xf 1 H2 fun k2 w3 H3 => ?_;refine xd 2 0 H3 fun w4 H4 => xh 2 [] H4 (.tuple #[]) ?_;have m1 : aL w4 S T sp [.env eo e, .aG (PN.mk k ta nm nn nA nc ks)] := ay H4 2 (by kernel_rfl);have au := m0 m1 H4 [2, 3] sp [.env eo e, .aG (PN.mk k ta nm nn nA nc ks), .vo (some k2) (some (.int nn))] k2 137 (vA 0 (.int .i64 nn) (.pointer none) (.pointer none) (.pointer none)) (by kernel_rfl) (fun S' h hb hc => h.snoc (x := .vo (some k2) (some (.int nn))) (.int hb hc));obtain ⟨S1, H5⟩ := au;subst ak;exact hK S1 As ns cs sp k ta nm nn nA nc ks (some k2) (some (.int nn)) _ (H5.pick [1, 1, 0] (by kernel_rfl)) (by rw [hr]) nW.1
 · refine xb 5 0 H ?_;refine xf 0 H fun k3 w5 H6 => xd 0 3 H6 fun w6 H7 => xb 5 3 H7 <| xp 5 (.bool ((k : Int) == (3 : Int))) (.bool false) (eF (by omega)) <| xp 6 (.bool ((k : Int) == (4 : Int))) (.bool true) (eT (by omega)) <| xb 7 3 H7 ?_;refine xp 0 (.bool (nn == (1 : Int))) (.bool (nn == 1)) (rfl) ?_;refine x0 0 [] H7 (fun Hp R hZ => Bb T (nn == 1) w6 R Hp  (fun b1 S2 w7 G1 => hZ _ _ _ G1 fun H8 => ?_));refine xd 2 1 H8 fun w8 H9 => xh 2 [] H9 (.tuple #[]) ?_;have au := Mm (S := S) (S2 := S2) (T := T) (sp := sp) (l := [.env eo e, .aG (PN.mk k ta nm nn nA nc ks)]) (sp2 := []) (l2 := [.val b1 (.bool (nn == 1))]) (jr := sp) (l' := [.env eo e, .aG (PN.mk k ta nm nn nA nc ks), .vo (some b1) (some (.bool (nn == 1)))]) H9 [3, 0] (by kernel_rfl) (fun S' h h2 => h.snoc (x := .vo (some b1) (some (.bool (nn == 1)))) h2.val);obtain ⟨S3, aY⟩ := au;subst ak;exact hK S3 As ns cs sp k ta nm nn nA nc ks (some b1) (some (.bool (nn == 1))) _ (aY.pick [1, 1, 0] (by kernel_rfl)) (by rw [hr]) nW.1
 · refine xb 5 0 H ?_;refine xf 0 H fun k4 w9 aZ => xd 0 3 aZ fun cJ aP => xb 5 3 aP <| xp 5 (.bool ((k : Int) == (3 : Int))) (.bool false) (eF (by omega)) <| xp 6 (.bool ((k : Int) == (4 : Int))) (.bool false) (eF (by omega)) <| xp 6 (.bool ((k : Int) == (5 : Int))) (.bool true) (eT (by omega)) ?_;refine xf 7 aP fun k5 fU bF => xd 2 0 bF fun gV bq => xh 2 [] bq (.tuple #[]) ?_;have m2 : aL gV S T sp [.env eo e, .aG (PN.mk k ta nm nn nA nc ks)] := ay bq 2 (by kernel_rfl);have au := m0 m2 bq [2, 3] sp [.env eo e, .aG (PN.mk k ta nm nn nA nc ks), .vo (some k5) (some (.unit))] k5 137 (vA 2 (.int .i64 0) (.pointer none) (.pointer none) (.pointer none)) (by kernel_rfl) (fun S' h hb hc => h.snoc (x := .vo (some k5) (some (.unit))) (.unit hb hc));obtain ⟨S4, bu⟩ := au;subst ak;exact hK S4 As ns cs sp k ta nm nn nA nc ks (some k5) (some (.unit)) _ (bu.pick [1, 1, 0] (by kernel_rfl)) (by rw [hr]) nW.1
 · refine xb 5 0 H ?_;refine xf 0 H fun k6 iq bS => xd 0 3 bS fun iF bx => xb 5 3 bx <| xp 5 (.bool ((k : Int) == (3 : Int))) (.bool false) (eF (by omega)) <| xp 6 (.bool ((k : Int) == (4 : Int))) (.bool false) (eF (by omega)) <| xp 6 (.bool ((k : Int) == (5 : Int))) (.bool false) (eF (by omega)) ?_;refine xp 6 (.bool ((k : Int) == (15 : Int))) (.bool true) (eT (by omega)) <| xf 7 bx fun k7 kr cV => xd 2 0 cV fun ku bZ => xh 2 [] bZ (.tuple #[]) ?_;have m3 : aL ku S T sp [.env eo e, .aG (PN.mk k ta nm nn nA nc ks)] := ay bZ 2 (by kernel_rfl);have au := m0 m3 bZ [2, 3] sp [.env eo e, .aG (PN.mk k ta nm nn nA nc ks), .vo (some k7) (some (.nil))] k7 137 (vA 3 (.int .i64 0) (.pointer none) (.pointer none) (.pointer none)) (by kernel_rfl) (fun S' h hb hc => h.snoc (x := .vo (some k7) (some (.nil))) (.nil hb hc));obtain ⟨S5, cj⟩ := au;subst ak;exact hK S5 As ns cs sp k ta nm nn nA nc ks (some k7) (some (.nil)) _ (cj.pick [1, 1, 0] (by kernel_rfl)) (by rw [hr]) nW.1
 · refine xb 5 0 H ?_;refine xf 0 H fun k8 ke cC => xd 0 3 cC fun mm c_ => xb 5 3 c_ <| xp 5 (.bool ((k : Int) == (3 : Int))) (.bool false) (eF (by omega)) <| xp 6 (.bool ((k : Int) == (4 : Int))) (.bool false) (eF (by omega)) <| xp 6 (.bool ((k : Int) == (5 : Int))) (.bool false) (eF (by omega)) ?_;refine xp 6 (.bool ((k : Int) == (15 : Int))) (.bool false) (eF (by omega)) <| xp 6 (.bool ((k : Int) == (6 : Int))) (.bool true) (eT (by omega)) <| xw 5 c_ [0, 3] [10] (LJ := [bR br As ns cs (.n k) (.n ta) nm (.int .i64 nn) nA ks.length nc (pO eo) (.pointer none) bo (.int .i64 0) eB (.int .i64 steps), .al k8 (.cells #[.n k, .n ta, .string nm, .int .i64 nn, .slice nA ks.length nc] 62)]) (by kernel_rfl) fun nX dJ => xm [(0, none), (1, none), (2, none), (3, none), (4, some (0, [7, 8, 9, 10])), (5, none), (6, some (1, [7, 8, 9, 10]))] (dJ.sb [0, 2]) <| xg ?_;intro gy;refine xi 7 ?_;have m4 : aL nX S T sp [.env eo e, .aG (PN.mk k ta nm nn nA nc ks)] := ay dJ 2 (by kernel_rfl);have cW := dy m4 dJ 2 (by kernel_rfl) ([]) [.env eo e] (⟨fun _ h => (by cases h), fun _ h => (by rw [List.mem_singleton.1 h]; exact m4.2 _ (.head _))⟩);refine x0 0 [4] cW (fun Hp R hZ => V8 S T e v eo nm nX R Hp hv (fun vb1 o4 G2 => hZ _ _ _ G2 fun cK => ?_));refine xe (x := gy) 7 (cK.sb [2, 4]) <| xm [(8, none), (9, none)] (cK.sb [2, 4]) <| xg ?_;intro im;refine xi 10 <| xd 0 2 cK fun kR ef => xe (x := im) 10 Sx.np <| xt <| xb 6 2 ef <| xh 6 [] ef (.tuple #[]) ?_;have m5 : aL kR S T ([]) [.val vb1 v] := ay ef 1 (by kernel_rfl);have m6 : aL kR S T sp [.env eo e, .aG (PN.mk k ta nm nn nA nc ks)] := ay ef 4 (by kernel_rfl);have eL := dy m6 ef 4 (by kernel_rfl) sp [.env eo e, .aG (PN.mk k ta nm nn nA nc ks), .vo (some vb1) (some v)] (m6.snoc (x := .vo (some vb1) (some v)) m5.val);subst ak;exact hK S As ns cs sp k ta nm nn nA nc ks (some vb1) (some v) _ (eL.pick [2, 2, 4] (by kernel_rfl)) (by rw [hr]) nW.1
 · refine xb 5 0 H ?_;refine xf 0 H fun k9 ry iU => xd 0 3 iU fun tK eC => xb 5 3 eC <| xp 5 (.bool ((k : Int) == (3 : Int))) (.bool false) (eF (by omega)) <| xp 6 (.bool ((k : Int) == (4 : Int))) (.bool false) (eF (by omega)) <| xp 6 (.bool ((k : Int) == (5 : Int))) (.bool false) (eF (by omega)) ?_;refine xp 6 (.bool ((k : Int) == (15 : Int))) (.bool false) (eF (by omega)) <| xp 6 (.bool ((k : Int) == (6 : Int))) (.bool false) (eF (by omega)) <| xp 6 (.bool ((k : Int) == (7 : Int))) (.bool true) (eT (by omega)) <| xw 4 eC [3, 0] [10] (LJ := [.al k9 (.cells #[.n k, .n ta, .string nm, .int .i64 nn, .slice nA ks.length nc] 62), bR br As ns cs (.n k) (.n ta) nm (.int .i64 nn) nA ks.length nc (pO eo) (.pointer none) bo (.int .i64 0) eB (.int .i64 steps)]) (by kernel_rfl) fun qB dz => xm [(0, none), (1, some (0, [6, 7, 8, 9, 10])), (2, none), (3, none), (4, none), (5, some (1, [6, 7, 8, 9, 10])), (6, none)] (dz.sb [3, 0]) <| xg ?_;intro kc;refine xi 7 <| xf 0 dz fun nY um dS => xe (x := kc) 7 (dS.sb [3, 0]) <| xm [(8, none), (9, none)] (dS.sb [3, 0]) <| xg ?_;intro o5;refine xi 10 <| xd 0 0 dS fun pK fy => xe (x := o5) 10 Sx.np <| xt <| xh 1 [] fy (.tuple #[]) ?_;have m7 : aL pK S T sp [.env eo e, .aG (PN.mk k ta nm nn nA nc ks)] := ay fy 2 (by kernel_rfl);have au := m0 m7 fy [2, 3] sp [.env eo e, .aG (PN.mk k ta nm nn nA nc ks), .vo (some nY) (some (.fn (PN.mk k ta nm nn nA nc ks) e))] nY 137 #[.int .i64 6, .int .i64 0, .pointer none, .pointer none, .n k, .n ta, .string nm, .int .i64 nn, .slice nA ks.length nc, pO eo, .slice none 0 0, .string eB, .bool false, .bool false] (by kernel_rfl) (fun S' h hb hc => h.snoc (x := .vo (some nY) (some (.fn (PN.mk k ta nm nn nA nc ks) e))) (.fn hb hc (h.2 _ j0) (h.2 _ j1)));obtain ⟨S6, kv⟩ := au;subst ak;exact hK S6 As ns cs sp k ta nm nn nA nc ks (some nY) (some (.fn (PN.mk k ta nm nn nA nc ks) e)) _ (kv.pick [1, 1, 0] (by kernel_rfl)) (by rw [hr]) nW.1
 refine xb 5 0 H <| xf 0 H fun KN tL gi => xd 0 3 gi fun tM fP => xb 5 3 fP <| xp 5 (.bool ((k : Int) == (3 : Int))) (.bool false) (eF (by omega)) <| xp 6 (.bool ((k : Int) == (4 : Int))) (.bool false) (eF (by omega)) ?_;refine xp 6 (.bool ((k : Int) == (5 : Int))) (.bool false) (eF (by omega)) <| xp 6 (.bool ((k : Int) == (15 : Int))) (.bool false) (eF (by omega)) <| xp 6 (.bool ((k : Int) == (6 : Int))) (.bool false) (eF (by omega)) <| xp 6 (.bool ((k : Int) == (7 : Int))) (.bool false) (eF (by omega)) ?_;have m8 : aL tM S T sp [.env eo e, .aG (PN.mk k ta nm nn nA nc ks)] := ay fP 2 (by kernel_rfl);have hP := dy m8 fP 2 (by kernel_rfl) ([]) [.aG (PN.mk k ta nm nn nA nc ks)] (⟨fun _ h => (by cases h), fun _ h => (by rw [List.mem_singleton.1 h]; exact m8.2 _ j1)⟩);refine x0 6 [0, 0, 2] hP (fun Hp R hZ => Ue S T dk da bJ dn dA dc cH br As ns cs sp k ta nm nn nA nc ks eo none bo steps 0 none e none tM R Hp (by omega) hd (fun A1 c1 ze G3 => hZ _ _ _ G3 fun jQ => ?_));refine xh 2 [] jQ (.tuple #[]) ?_;have m9 : aL ze S T sp [.env eo e, .aG (PN.mk k ta nm nn nA nc ks)] := ay jQ 3 (by kernel_rfl);have iV := dy m9 jQ 3 (by kernel_rfl) (sp ++ [⟨.mk (PN.mk k ta nm nn nA nc ks) 0 e none, eo, none⟩]) [.env eo e, .aG (PN.mk dk da bJ dn dA dc cH), .vo none none] (aL.l3 (qu m9.1 (.no (m9.2 _ j0) (m9.2 _ j1))) (m9.2 _ j0) (PK.nB (m9.2 _ j1) hd) trivial);subst ak;exact hK S A1 (ns + 1) c1 (sp ++ [⟨.mk (PN.mk k ta nm nn nA nc ks) 0 e none, eo, none⟩]) dk da bJ dn dA dc cH none none _ (iV.pick [0, 0, 3] (by kernel_rfl)) (by rw [hr]; simp) (by rw [nW.1]; simp)
end Mr
end Go.Proofs.YtdmdecgoebnamaaGreat
namespace Go.Mn
open Go.RowKit Go.Sx Go.aS Go.Gx
theorem v_ {α : Type} {l : List α} {x : α} {i : Nat} {y : α} (h : (l ++ [x])[i]? = some y) : i < l.length ∧ l[i]? = some y ∨ i = l.length ∧ y = x := by
 rcases Nat.lt_or_ge i l.length with q | q
 · rw [List.getElem?_append_left q] at h; exact .inl ⟨q, h⟩
 · have := (List.getElem?_eq_some_iff.1 h).1;have e : i = l.length := by simp at this; omega
   subst e; simp at h; exact .inr ⟨rfl, h.symm⟩
def gj (ty : Nat) (T : List Nat) (C : Nat → List Value) (hs : List Nat) : Sx.Item := .abs (fun c => ∃ i : Nat, T[i]? = some c ∧ i ∉ hs) (fun w => (∀ (i b : Nat), T[i]? = some b → i ∉ hs → Has w b (.cells (C i).toArray ty)) ∧ ∀ (i j b : Nat), T[i]? = some b → T[j]? = some b → i ∉ hs → j ∉ hs → i = j)
section
variable {w0 w : World} {L0 L : List Sx.Item} {ty n b : Nat} {T hs : List Nat} {C C' : Nat → List Value}
theorem mn (h1 : ∀ (i b : Nat), T[i]? = some b → i ∉ hs → Has w b (.cells (C i).toArray ty)) (h2 : ∀ (i j b : Nat), T[i]? = some b → T[j]? = some b → i ∉ hs → j ∉ hs → i = j) : (gj ty T C hs).holds w :=
 ⟨⟨h1, h2⟩, fun _ ⟨i, hi, hn⟩ => (h1 i _ hi hn).lt, fun _ _ _ hk h => ⟨fun i b hi hn => (hk b ⟨i, hi, hn⟩).trans (h.1 i b hi hn), h.2⟩⟩
theorem Jx (H : Hs w0 L0 w L) (i : Nat) (hi : bp [i] L = some [gj ty T C hs]) (hb : T[n]? = some b) (hn : n ∉ hs) {v : List Value} (hv : C n = v) :
   Hs w0 L0 w (.al b (.cells v.toArray ty) :: gj ty T C (n :: hs) :: rest [i] L) := by
 subst hv;have k : Hs w0 L0 w (gj ty T C hs :: rest [i] L) := H.perm (gg hi);have hh := k.at 0 rfl;have sp : Sp w [.al b (.cells (C n).toArray ty), gj ty T C (n :: hs)] := by
   refine ⟨fun it pG => ?_, List.pairwise_cons.2 ⟨fun it pG => ?_, List.pairwise_singleton _ _⟩⟩
   · rcases List.mem_cons.1 pG with rfl | q
     · exact hh.1.1 n b hb hn
     · rw [List.mem_singleton.1 q];exact mn (fun i b hi h => hh.1.1 i b hi fun q => h (.tail _ q)) (fun i j b hi hj h1 h2 => hh.1.2 i j b hi hj (fun q => h1 (.tail _ q)) fun q => h2 (.tail _ q))
   · rw [List.mem_singleton.1 pG];rintro _ c hc ⟨j, hj, HD⟩;have hc : c = b := hc;subst hc;exact HD (by rw [hh.1.2 j n c hj hb (fun q => HD (.tail _ q)) hn]; exact .head _)
 have k2 := k.as 0 (comp (fun L => L = [.al b (.cells (C n).toArray ty), gj ty T C (n :: hs)]) (E8 [.al b (.cells (C n).toArray ty), gj ty T C (n :: hs)])) rfl rfl (vP sp rfl (fun it pG => by
     rcases List.mem_cons.1 pG with rfl | q
     · rfl
     · rw [List.mem_singleton.1 q]; rfl)) (fun c ⟨it, pG, hc⟩ => by
     rcases List.mem_cons.1 pG with rfl | q
     · have hc : c = b := hc;subst hc; exact ⟨n, hb, hn⟩
     · rw [List.mem_singleton.1 q] at hc;obtain ⟨j, hj, HD⟩ := hc
       exact ⟨j, hj, fun q => HD (.tail _ q)⟩)
 obtain ⟨L', rfl, k3⟩ := k2.gu 0 rfl;exact k3
theorem Mq (H : Hs w0 L0 w L) (I : List Nat) {v : List Value} (hp : bp I L = some [.al b (.cells v.toArray ty), gj ty T C (n :: hs)]) (hb : T[n]? = some b) (hn : n ∉ hs) (hv : C' n = v) (hC : ∀ i, i ≠ n → i < T.length → C' i = C i) :
   Hs w0 L0 w (gj ty T C' hs :: rest I L) := by
 subst hv;have sp := (H.pick I hp).sp;have h1 : Has w b (.cells (C' n).toArray ty) := sp.all _ (.head _);have h2 : (gj ty T C (n :: hs)).holds w := sp.all _ (.tail _ (.head _));have ap : ∀ j : Nat, T[j]? = some b → j ∉ hs → j = n := fun j hj HD => by
   by_cases e : j = n
   · exact e
   · exact absurd ⟨j, hj, fun q => (List.mem_cons.1 q).elim e HD⟩ ((List.pairwise_cons.1 sp.yO).1 _ (.head _) rfl b rfl)
 have nm : ∀ {i : Nat}, i ≠ n → i ∉ hs → i ∉ n :: hs := fun h1 h2 q => (List.mem_cons.1 q).elim h1 h2;have k := H.cls I hp (shape := fun L => L = [.al b (.cells (C' n).toArray ty), gj ty T C (n :: hs)]) rfl rfl;refine k.as 0 (gj ty T C' hs) rfl rfl (mn (fun i c hi Jy => ?_) (fun i j c hi hj Jy HD => ?_)) (fun c ⟨i, hi, Jy⟩ => ?_)
 · by_cases e : i = n
   · subst e; rw [hb] at hi; cases hi; exact h1
   · rw [hC i e (List.getElem?_eq_some_iff.1 hi).1]; exact h2.1.1 i c hi (nm e Jy)
 · by_cases e : i = n
   · subst e; rw [hb] at hi; cases hi; exact (ap j hj HD).symm
   · by_cases e2 : j = n
     · subst e2; rw [hb] at hj; cases hj; exact ap i hi Jy
     · exact h2.1.2 i j c hi hj (nm e Jy) (nm e2 HD)
 · by_cases e : i = n
   · subst e; rw [hb] at hi; cases hi; exact ⟨_, .head _, rfl⟩
   · exact ⟨_, .tail _ (.head _), i, hi, nm e Jy⟩
theorem Ms (H : Hs w0 L0 w L) (I : List Nat) {v : List Value} (hp : bp I L = some [.al b (.cells v.toArray ty), gj ty T C hs]) (hv : C' T.length = v) (hC : ∀ i, i < T.length → C' i = C i) :
   Hs w0 L0 w (gj ty (T ++ [b]) C' hs :: rest I L) := by
 subst hv;have sp := (H.pick I hp).sp;have h1 : Has w b (.cells (C' T.length).toArray ty) := sp.all _ (.head _);have h2 : (gj ty T C hs).holds w := sp.all _ (.tail _ (.head _));have ap : ∀ j : Nat, T[j]? = some b → j ∉ hs → False := fun j hj HD => (List.pairwise_cons.1 sp.yO).1 _ (.head _) rfl b rfl ⟨j, hj, HD⟩;have k := H.cls I hp (shape := fun L => L = [.al b (.cells (C' T.length).toArray ty), gj ty T C hs]) rfl rfl;refine k.as 0 (gj ty (T ++ [b]) C' hs) rfl rfl (mn (fun i c hi Jy => ?_) (fun i j c hi hj Jy HD => ?_)) (fun c ⟨i, hi, Jy⟩ => ?_)
 · rcases v_ hi with ⟨q, e⟩ | ⟨rfl, rfl⟩
   · rw [hC i q]; exact h2.1.1 i c e Jy
   · exact h1
 · rcases v_ hi with ⟨q, e⟩ | ⟨rfl, rfl⟩ <;> rcases v_ hj with ⟨q2, e2⟩ | ⟨rfl, e2⟩
   · exact h2.1.2 i j c e e2 Jy HD
   · subst e2; exact (ap i e Jy).elim
   · exact (ap j e2 HD).elim
   · rfl
 · rcases v_ hi with ⟨q, e⟩ | ⟨rfl, rfl⟩
   · exact ⟨_, .tail _ (.head _), i, e, Jy⟩
   · exact ⟨_, .head _, rfl⟩
end
def Uh (T : List RR) (us : List Bool) (i : Nat) : List Value := match T[i]? with
 | some r => Mj r.A r.n r.c r.op r.once (us[i]?.getD false)
 | none => []
def tN (T : List RR) (us : List Bool) : Sx.Item := gj 137 (T.map (·.b)) (Uh T us) []
theorem Ft {T : List RR} {us : List Bool} {i : Nat} {r : RR} {u : Bool} (h : T[i]? = some r) (hu : us[i]? = some u) : Uh T us i = Mj r.A r.n r.c r.op r.once u := by
 unfold Uh; rw [h, hu]; rfl
section
variable {w0 w : World} {L0 L : List Sx.Item} {T : List RR} {us : List Bool}
theorem RC (H : Hs w0 L0 w L) (i : Nat) (hi : bp [i] L = some [tN T us]) {n : Nat} {r : RR} {u : Bool} (hn : T[n]? = some r) (hu : us[n]? = some u) :
   Hs w0 L0 w (.al r.b (.cells (Mj r.A r.n r.c r.op r.once u).toArray 137) :: gj 137 (T.map (·.b)) (Uh T us) [n] :: rest [i] L) :=
 Jx H i hi (by simp [hn]) (fun h => by cases h) (Ft hn hu)
theorem V_ (H : Hs w0 L0 w L) (I : List Nat) {n : Nat} {r : RR} {u : Bool} (hp : bp I L = some [.al r.b (.cells (Mj r.A r.n r.c r.op r.once u).toArray 137), gj 137 (T.map (·.b)) (Uh T us) [n]]) (hn : T[n]? = some r) (hu : n < us.length) :
   Hs w0 L0 w (tN T (us.set n u) :: rest I L) :=
 Mq H I hp (by simp [hn]) (fun h => by cases h) (Ft hn (by simp [hu])) (fun i hi _ => by unfold Uh; rw [List.getElem?_set_ne (Ne.symm hi)])
theorem Wa (H : Hs w0 L0 w L) (I : List Nat) {r : RR} {u : Bool} (hp : bp I L = some [.al r.b (.cells (Mj r.A r.n r.c r.op r.once u).toArray 137), tN T us]) (hl : us.length = T.length) :
   Hs w0 L0 w (tN (T ++ [r]) (us ++ [u]) :: rest I L) := by
 have := Ms (C' := Uh (T ++ [r]) (us ++ [u])) H I hp (by rw [List.length_map]; exact Ft (by simp) (by simp [← hl])) (fun i hi => by
   rw [List.length_map] at hi
   unfold Uh; rw [List.getElem?_append_left hi, List.getElem?_append_left (by omega)])
 rw [tN, List.map_append]; exact this
end
def uq (b : Nat) (mp : List (Nm × Value)) : Sx.Item := rf .string Value.string b mp
def EE (mp : List (Nm × Value)) (x : Nm) : Bool := match Sx.look x mp with
 | some (.bool b) => b
 | _ => false
def ur (mp : List (Nm × Value)) : Prop := ∀ p ∈ mp, ∃ b, p.2 = .bool b
theorem Wb {mp : List (Nm × Value)} (h : ur mp) (x : Nm) : (Sx.look x mp).getD (.bool false) = .bool (EE mp x) := by
 unfold EE;cases e : Sx.look x mp with
 | none => rfl
 | some v =>
   unfold Sx.look at e;obtain ⟨j, _, e⟩ := Option.bind_eq_some_iff.1 e;obtain ⟨p, hp, rfl⟩ := Option.map_eq_some_iff.1 e;obtain ⟨b, hb⟩ := h p (List.mem_of_getElem? hp);rw [hb]; rfl
theorem aaf (a : Nm) : MapKept.IsKey .string (Value.string a) := trivial
theorem str_inj (a b : Nm) (h : Value.string a = .string b) : a = b := by injection h
section
variable [Rd] {P : Program} {B : Exit → Act → World → Prop} {b : Nat → Value} {n : Nat} {d : List Deferred} {w0 w : World} {x : Sx.St} {L0 L : List Sx.Item}
theorem Z6 {t kt et : Nat} (m i : Nat) (H : Hs w0 L0 w L) {bt : Nat} {mp : List (Nm × Value)} (a : Nm) (hi : L[i]? = some (uq bt mp)) (ho : ur mp)
   (k : Goal P B b n d (nx (vX (via P b n m w x (Sx.ask (lU b n)))).y (vX (via P b n m w x (Sx.ask (lU b n)))).q (.bool (EE mp a))) w)
   (h : vA (via P b n m w x (Sx.ask (lU b n))) = vB w (via P b n m w x (Sx.ask (lU b n))) := by kernel_rfl)
   (h2 : ((vX (via P b n m w x (Sx.ask (lU b n)))).u, (vX (via P b n m w x (Sx.ask (lU b n)))).t) = ([.map (some bt), .string a], [t, 0]) := by kernel_rfl)
   (ht : ki P t = some (kt, et) := by kernel_rfl) (lE : P.underlying kt = some .string := by kernel_rfl) (hz : (P.info? et).bind (·.zero) = some (.bool false) := by kernel_rfl) : Goal P B b n d x w :=
 lk (r := 0) m i H (enc := Value.string) a (.bool false) hi aaf str_inj (by rw [Wb ho]; exact k) h h2 ht lE hz
end
theorem aL.af0 {w : World} {S : Nat → Prop} {T : List RR} {sp : List FP} {b : Nat} {v : Vl} (h : aL w S T sp [.val b v]) : dm w S T b v := h.2 (.val b v) (.head _)
def cR : Option Nat → Int
 | none => -1
 | some k => (k : Int)
theorem aag {a b : Nm} (h : ee a b = false) : a ≠ b := fun e => by rw [kJ.2 e] at h; cases h
theorem Jz {op : Nm} {ks : List PN} {i : Nat} {o : Option Nat} (h : ey op (ks.drop i) i = o) : (¬ i < ks.length ∧ o = none) ∨
   (∃ (k a : Nat) (nm : Nm) (n : Int) (A : Option Addr) (c : Nat) (l : List PN), ks[i]? = some (.mk k a nm n A c l) ∧ i < ks.length ∧ op = nm ∧ o = some i) ∨
   (∃ (k a : Nat) (nm : Nm) (n : Int) (A : Option Addr) (c : Nat) (l : List PN), ks[i]? = some (.mk k a nm n A c l) ∧ i < ks.length ∧ nm ≠ op ∧ ey op (ks.drop (i + 1)) (i + 1) = o) := by
 by_cases hi : i < ks.length
 · rw [List.drop_eq_getElem_cons hi, ey] at h;have hk : ks[i]? = some ks[i] := List.getElem?_eq_getElem hi;revert hk h;generalize ks[i] = d;intro h hk;obtain ⟨k, a, nm, n, A, c, l⟩ := d;split at h
   · rename_i q; exact .inr (.inl ⟨k, a, nm, n, A, c, l, hk, hi, (kJ.1 q).symm, h.symm⟩)
   · rename_i q; exact .inr (.inr ⟨k, a, nm, n, A, c, l, hk, hi, fun e => q (kJ.2 e), h⟩)
 · rw [List.drop_eq_nil_of_le (by omega), ey] at h;exact .inl ⟨hi, h.symm⟩
theorem HE {op : Nm} : ∀ {l : List Fr} {i0 : Nat}, hand op l i0 = none → ∀ (j : Nat) (f : Fr), l[j]? = some f → f.nd.k = 20 → ey op (f.nd.ks.drop 2) 2 = none
 | [], _, _, j, f, hj, _ => by cases hj
 | g :: l, i0, h, j, f, hj, hk => by
   unfold hand at h;split at h
   · cases h
   · rename_i hn;cases j with
     | zero =>
       cases hj;rw [if_pos hk] at h;split at h
       · cases h
       · rename_i q; exact q
     | succ j => exact HE hn j f hj hk
theorem HF {op : Nm} : ∀ {l : List Fr} {i0 i k : Nat}, hand op l i0 = some (i, k) → ∃ f, i0 ≤ i ∧ l[i - i0]? = some f ∧ f.nd.k = 20 ∧ ey op (f.nd.ks.drop 2) 2 = some k ∧ ∀ (j : Nat) (f' : Fr), i - i0 < j → l[j]? = some f' → f'.nd.k = 20 → ey op (f'.nd.ks.drop 2) 2 = none
 | [], _, _, _, h => by cases h
 | g :: l, i0, i, k, h => by
   unfold hand at h;split at h
   · rename_i q hq;cases h;obtain ⟨f, h1, h2, h3, h4, h5⟩ := HF hq;refine ⟨f, by omega, ?_, h3, h4, fun j f' hj hf => ?_⟩
     · rw [show i - i0 = (i - (i0 + 1)) + 1 from by omega]; exact h2
     · obtain ⟨j, rfl⟩ : ∃ m, j = m + 1 := ⟨j - 1, by omega⟩;exact h5 j f' (by omega) hf
   · rename_i hn;split at h
     · rename_i hk;split at h
       · rename_i k' hc;cases h;refine ⟨g, Nat.le_refl _, by rw [Nat.sub_self]; rfl, hk, hc, fun j f' hj hf => ?_⟩;obtain ⟨j, rfl⟩ : ∃ m, j = m + 1 := ⟨j - 1, by omega⟩;exact HE hn j f' hf
       · cases h
     · cases h
theorem Mt {sp : List FP} {i : Nat} {f : Fr} (h : (sp.map (·.f))[i]? = some f) : ∃ o v, sp[i]? = some ⟨f, o, v⟩ := by
 rw [List.getElem?_map] at h;obtain ⟨p, hp, rfl⟩ := Option.map_eq_some_iff.1 h;exact ⟨p.e, p.v, hp⟩
theorem RD {once : Nm → Bool} {sp : List FP} {gF : PN} {e0 : En} {v0 : Option Vl} {us : List Bool} {op : Nm} {x : Vl} {r' : Rn} (h : pE once ⟨sp.map (·.f), gF, e0, v0, us⟩ op x = some r') :
   ∃ (i k fa : Nat) (dL : Nm) (fn : Int) (fA : Option Addr) (fc : Nat) (fF : List PN) (P9 : Nat) (fe : En) (fv : Option Vl) (fo Ui : Option Nat) (ck ca : Nat) (Dk : Nm) (cn : Int) (cA : Option Addr) (cc : Nat) (a b d : PN),
     sp[i]? = some ⟨.mk (.mk 20 fa dL fn fA fc fF) P9 fe fv, fo, Ui⟩ ∧ ey op (fF.drop 2) 2 = some k ∧ fF[k]? = some (.mk ck ca Dk cn cA cc [a, b, d]) ∧
     (∀ (j : Nat) (f' : Fr), i < j → (sp.map (·.f))[j]? = some f' → f'.nd.k = 20 → ey op (f'.nd.ks.drop 2) 2 = none) ∧
     r' = ⟨(sp.take i).map (·.f), d, .put b.nm (.res us.length ((sp.drop (if fn == 1 then i + 1 else i)).map (·.f)) op (once op)) (.put a.nm x fe), none, us ++ [false]⟩ := by
 unfold pE at h;split at h
 · rename_i i k hh;obtain ⟨f, h1, h2, h3, h4, h5⟩ := HF hh;simp only at h;rw [Nat.sub_zero] at h2 h5;rw [h2] at h;obtain ⟨⟨fk, fa, dL, fn, fA, fc, fF⟩, P9, fe, fv⟩ := f;simp only [PN.ks, PN.n] at h;split at h
   · rename_i c hc;obtain ⟨ck, ca, Dk, cn, cA, cc, cks⟩ := c;rcases cks with _ | ⟨a, _ | ⟨b, _ | ⟨d, _ | ⟨_, _⟩⟩⟩⟩
     · cases h
     · cases h
     · cases h
     · cases h;have h3 : fk = 20 := h3;subst h3;obtain ⟨o, v, hs⟩ := Mt h2;exact ⟨i, k, fa, dL, fn, fA, fc, fF, P9, fe, fv, o, v, ck, ca, Dk, cn, cA, cc, a, b, d, hs, h4, hc, h5, by rw [List.map_take, List.map_drop]; rfl⟩
     · cases h
   · cases h
 · cases h
theorem RE {op : Nm} {sp : List FP} {i j : Nat} (P6 : i ≤ j) (hj : j < sp.length) (h : ∀ (j : Nat) (f' : Fr), i < j → (sp.map (·.f))[j]? = some f' → f'.nd.k = 20 → ey op (f'.nd.ks.drop 2) 2 = none) :
   i = j ∨ ∃ (qk qa : Nat) (bW : Nm) (qn : Int) (qA : Option Addr) (qc : Nat) (bH : List PN) (Bc : Nat) (qe : En) (qv : Option Vl) (qo gl : Option Nat), sp[j]? = some ⟨.mk (.mk qk qa bW qn qA qc bH) Bc qe qv, qo, gl⟩ ∧ i < j ∧ (qk ≠ 20 ∨ qk = 20 ∧ ey op (bH.drop 2) 2 = none) := by
 rcases Nat.eq_or_lt_of_le P6 with e | e
 · exact .inl e
 · have hs : sp[j]? = some sp[j] := List.getElem?_eq_getElem hj;revert hs;generalize sp[j] = f;intro hs;obtain ⟨⟨⟨qk, qa, bW, qn, qA, qc, bH⟩, Bc, qe, qv⟩, qo, gl⟩ := f;refine .inr ⟨qk, qa, bW, qn, qA, qc, bH, Bc, qe, qv, qo, gl, hs, e, ?_⟩;by_cases q : qk = 20
   · exact .inr ⟨q, h j (.mk (.mk qk qa bW qn qA qc bH) Bc qe qv) e (by rw [List.getElem?_map, hs]; rfl) q⟩
   · exact .inl q
theorem tJ.nd {w : World} {S : Nat → Prop} {T : List RR} {o vo : Option Nat} {nd : PN} {at_ : Nat} {e : En} {v : Option Vl} (h : tJ w S T o vo (.mk nd at_ e v)) : PK w S nd ∧ v7 w S T o e := by
 cases h with
 | no he hk => exact ⟨hk, he⟩
 | so he hv hk => exact ⟨hk, he⟩
theorem af2 {r s : Nm} (h : r = s) : Value.bool (s.toList == r.toList) = .bool true := by rw [h]; simp
theorem oQ (f : FP) : (Fp f).length = 8 := by obtain ⟨⟨⟨⟩, _, _, _⟩, _, _⟩ := f; rfl
theorem RF (f : FP) : ∀ u ∈ Fp f, u.oneCell' = true := by obtain ⟨⟨⟨⟩, _, _, _⟩, _, _⟩ := f; exact List.all_eq_true.1 rfl
theorem lJ (l : List FP) : (bh l).length = l.length * 8 := by
 induction l with
 | nil => rfl
 | cons f l ih => rw [bh, List.flatMap_cons, List.length_append, oQ]; rw [bh] at ih; rw [ih, List.length_cons]; omega
theorem Dl (l : List FP) : ∀ u ∈ bh l, u.oneCell' = true := fun u hu => by
 obtain ⟨f, _, hf⟩ := List.mem_flatMap.1 hu;exact RF f u hf
theorem Mu (l m : List FP) : bh l ++ bh m = bh (l ++ m) := by simp [bh]
theorem sN (l : List FP) : ∀ k, (bh l).take (k * 8) = bh (l.take k) := by
 induction l with
 | nil => intro k; simp [bh]
 | cons f l ih =>
   intro k;cases k with
   | zero => simp [bh]
   | succ k =>
     have := ih k;simp only [bh, List.flatMap_cons, List.take_succ_cons] at this ⊢;rw [← this, show (k + 1) * 8 = (Fp f).length + k * 8 from by rw [oQ]; omega, List.take_length_add_append]
theorem zW (l : List FP) : ∀ k, (bh l).drop (k * 8) = bh (l.drop k) := by
 induction l with
 | nil => intro k; simp [bh]
 | cons f l ih =>
   intro k;cases k with
   | zero => simp [bh]
   | succ k =>
     have := ih k;simp only [bh, List.flatMap_cons, List.drop_succ_cons] at this ⊢;rw [← this, show (k + 1) * 8 = (Fp f).length + k * 8 from by rw [oQ]; omega, List.drop_length_add_append]
theorem sO {l : List FP} {i : Nat} {f : FP} (h : l[i]? = some f) : ((bh l).drop (i * 8)).take 8 = Fp f := by
 obtain ⟨hi, rfl⟩ := List.getElem?_eq_some_iff.1 h;rw [zW, List.drop_eq_getElem_cons hi, bh, List.flatMap_cons, List.take_append_of_le_length (Nat.le_of_eq (oQ _).symm), List.take_of_length_le (Nat.le_of_eq (oQ _))]
theorem Mv {w : World} {A C : Option Addr} {cap n k : Nat} {sp : List FP} (h : gv w 135 8 A cap n (bh sp)) (hC : ∀ a, C = some a → ∃ a0, A = some a0 ∧ (k < n → a = a0.add (k * 8))) :
   ∀ a, C = some a → ∀ (j : Nat) (u : Value), (bh (sp.drop k))[j]? = some u → w.cell? (a.add j) = some u := fun a ha j u hu => by
 obtain ⟨a0, h0, hk⟩ := hC a ha;have hl := (List.getElem?_eq_some_iff.1 hu).1;have h1 := h.1;rw [lJ, List.length_drop] at hl;rw [lJ] at h1;rw [hk (by omega), add_add];refine h.at h0 _ _ ?_;rw [← zW, List.getElem?_drop] at hu;exact hu
theorem Mw {w : World} {A : Option Addr} {cap n : Nat} {fp : List FP} (h : w.ownsRow 0 135 8 (.slice A n cap) n (bh fp)) {j : Nat} {f : FP} (hj : fp[j]? = some f) : ∃ g, A = some g ∧ (Value.slice A n cap).ownBlock = some g.block ∧ w.cells? 0 (g.add (j * 8)) 8 = some (Fp f) := by
 have hl := (List.getElem?_eq_some_iff.1 hj).1;have h1 := h.1;rw [lJ] at h1;rcases h.2 with ⟨_, h0⟩ | ⟨g, cM, cur, hv, _⟩
 · omega
 · injection hv with h2;exact ⟨_, h2, by rw [h2]; rfl, (gv.of h).cells h2 (sO hj) (oQ f)⟩
theorem PK.cell {w : World} {S : Nat → Prop} {k a : Nat} {nm : Nm} {n : Int} {A : Option Addr} {c : Nat} {ks : List PN} (h : PK w S (.mk k a nm n A c ks)) {g : Addr} (hA : A = some g) {i : Nat} {d : PN} (hi : ks[i]? = some d) : w.cells? 0 (g.add (i * 5)) 5 = some d.cells := by
 obtain ⟨_, ⟨g', h1, _, h2⟩, _⟩ := h.at hi;rw [hA] at h1; cases h1; exact h2
section
variable {w0 w : World} {L0 L : List Sx.Item} {S : Nat → Prop} {T T' : List RR} {sp jr : List FP} {l l' : List MF}
theorem aah (H : Hs w0 L0 w L) (I : List Nat) {A : Option Addr} {cap n : Nat} {fp : List FP} {b1 b2 t1 t2 : Nat} {c1 c2 : Array Value} (hp : bp I L = some [mI S T sp l, .own 135 8 A cap n (bh fp), .al b1 (.cells c1 t1), .al b2 (.cells c2 t2)])
   (hT : ∀ (i : Nat) (r : RR), T[i]? = some r → T'[i]? = some r)
   (h : ∀ S' : Nat → Prop, aL w S' T' sp l → (∀ (j : Nat) (f : FP), fp[j]? = some f → ∃ g, A = some g ∧ S' g.block ∧ w.cells? 0 (g.add (j * 8)) 8 = some (Fp f)) → n ≤ cap → S' b1 → w.cells? 0 ⟨b1, 0, none⟩ c1.size = some c1.toList → S' b2 → w.cells? 0 ⟨b2, 0, none⟩ c2.size = some c2.toList → aL w S' T' jr l') :
   ∃ S', Hs w0 L0 w (mI S' T' jr l' :: rest I L) := by
 refine ⟨_, H.fz I hp (fun s => ?_) (qt _ _ _ _)⟩;have h0 : aL w S T sp l := (s.all _ (.head _)).1;have h1 : w.ownsRow 0 135 8 (.slice A n cap) n (bh fp) := s.all _ (.tail _ (.head _));have h2 : Has w b1 (.cells c1 t1) := s.all _ (.tail _ (.tail _ (.head _)));have h3 : Has w b2 (.cells c2 t2) := s.all _ (.tail _ (.tail _ (.tail _ (.head _))));refine h _ (h0.up ⟨fun _ _ => rfl, fun c hc => ⟨_, .head _, hc⟩, hT⟩) (fun j f hj => ?_) (kD h1) ⟨_, .tail _ (.tail _ (.head _)), rfl⟩ ?_ ⟨_, .tail _ (.tail _ (.tail _ (.head _))), rfl⟩ ?_
 · obtain ⟨g, hg, hb, hc⟩ := Mw h1 hj;exact ⟨g, hg, ⟨_, .tail _ (.head _), hb⟩, hc⟩
 · refine ChangeShapes.cells?_of (Nat.zero_le _) (by simp) (fun j hj => ?_);rw [cell_of_row w b1 _ c1 t1 (0, 0) h2, Nat.zero_add]; simp
 · refine ChangeShapes.cells?_of (Nat.zero_le _) (by simp) (fun j hj => ?_);rw [cell_of_row w b2 _ c2 t2 (0, 0) h3, Nat.zero_add]; simp
end
theorem RG {w : World} {S : Nat → Prop} {T : List RR} {sp : List FP} {i kk fr m vb id bk cap b1 b2 P9 : Nat} {x : Vl} {nd c a b d : PN} {fe : En} {fv : Option Vl} {fo Ui : Option Nat} {A : Option Addr} {op : Nm} {once : Bool}
   (h : aL w S T sp [.val vb x]) (hs : sp[i]? = some ⟨.mk nd P9 fe fv, fo, Ui⟩) (hk : nd.ks[kk]? = some c) (rB : c.ks = [a, b, d]) (hid : T[id]? = some ⟨bk, A, m, cap, op, once⟩) (hlen : ((sp.drop fr).map (·.f)).length = m) (zI : m ≤ cap)
   (YO : ∀ (j : Nat) (f : FP), (sp.drop fr)[j]? = some f → ∃ g, A = some g ∧ S g.block ∧ w.cells? 0 (g.add (j * 8)) 8 = some (Fp f)) (KL : S b1) (m_ : w.cells? 0 ⟨b1, 0, none⟩ 3 = some [.string a.nm, pO (some vb), pO fo])
   (hb2 : S b2) (uZ : w.cells? 0 ⟨b2, 0, none⟩ 3 = some [.string b.nm, pO (some bk), pO (some b1)]) :
   aL w S T (sp.take i) [.env (some b2) (.put b.nm (.res id ((sp.drop fr).map (·.f)) op once) (.put a.nm x fe)), .aG d, .vo none none] := by
 obtain ⟨Ub, hen⟩ := tJ.nd (h.1 _ (List.mem_of_getElem? hs));subst hlen;refine aL.l3 (fun f hf => h.1 f (List.mem_of_mem_take hf)) ?_ (PK.nB (PK.nB Ub hk) (i := 2) (by rw [rB]; rfl)) trivial;exact .put hb2 uZ (.res _ hid rfl zI YO (fun j f hj => h.1 f (List.mem_of_mem_drop (List.mem_of_getElem? hj)))) (.put KL m_ h.af0 hen)
end Go.Mn
namespace Go.Proofs.YtdmdecgoebnamaaGreat
open Go.RowKit Go.Sx Go.aS Go.Mn
attribute [local irreducible] Go.wpOps Go.Code.wp Go.wpOp Go.wpAnyH Go.Calls Go.Sx.Goal
set_option maxRecDepth 20000
namespace Mr
theorem Dm (S : Nat → Prop) (T : List RR) (k ta : Nat) (nm : Nm) (nn : Int) (nA : Option Addr) (nc : Nat) (ks : List PN) (op : Nm) (o : Option Nat) (w : World) (K : Ending → World → Prop) (H0 : Sp w [mI S T ([]) [.aG (PN.mk k ta nm nn nA nc ks)]]) (hf : ey op (ks.drop 2) 2 = o) (hK : ∀ w', Hs w [mI S T ([]) [.aG (PN.mk k ta nm nn nA nc ks)]] w' [mI S T [] [.aG (PN.mk k ta nm nn nA nc ks)]] → K (.returned (.int .i64 (cR o))) w') :
   Calls Tryz.prog 108 #[Sx.nA k ta nm nn nA ks nc, .string op] w K := by
 obtain ⟨L0, ak, H⟩ := Sx.bX H0;refine xu (vs := [Sx.nA k ta nm nn nA ks nc, .string op]) 22 Tryz.func108 <| xf 2 H fun k1 w1 H1 => ?_;refine xz 10 (fun z l' w' => ∃ (i : Nat), l' = [(1, .string op), (2, .p k1), (5, .n i)] ∧ z = ks.length - i ∧ Hs w L0 w' [mI S T ([]) [.aG (PN.mk k ta nm nn nA nc ks)], .al k1 (.cells #[.n k, .n ta, .string nm, .int .i64 nn, .slice nA ks.length nc] 62)] ∧ (ey op (ks.drop i) i = o)) _ _ ⟨2, rfl, rfl, H1, hf⟩ (fun b1 z1 l1 w2 bQ K1 aN => ?_);obtain ⟨i, rfl, rfl, H2, hi⟩ := bQ;have au := Jz hi;rcases au with ⟨hge, ho⟩ | ⟨dk, da, bJ, dn, dA, dc, cH, hd, aai, Mo, ho⟩ | ⟨dk, da, bJ, dn, dA, dc, cH, hd, aai, Mo, hn⟩
 · subst ho;refine xb 5 1 H2 <| xp 1 (.bool (decide ((i : Int) < (ks.length : Int)))) (.bool false) (dF (by omega)) <| xh 14 [] H2 (.int .i64 (-1)) ?_;subst ak;exact hK _ (H2.pick [0] (by kernel_rfl))
 · subst ho;have m1 : aL w2 S T ([]) [.aG (PN.mk k ta nm nn nA nc ks)] := ay H2 0 (by kernel_rfl);have au := PK.at (m1.2 _ j0) hd;obtain ⟨Dj, ⟨gk, zd, _, Uf⟩, _⟩ := au;refine xb 5 1 H2 <| xp 1 (.bool (decide ((i : Int) < (ks.length : Int)))) (.bool true) (dT (by omega)) <| xb 10 1 H2 <| xv 1 gk i 5 ks.length nc zd (by omega) <| xy 0 (Addr.add gk (i * 5)) 2 <| xr (c := 1) (t := 9) 0 [.string bJ] (.string bJ) (aa Uf (by decide : 2 + 1 ≤ 5)) ?_;refine xp 1 (.bool (bJ.toList == op.toList)) (.bool true) (af2 Mo) <| xh 15 [] H2 (.n i) ?_;subst ak;exact hK _ (H2.pick [0] (by kernel_rfl))
 have m2 : aL w2 S T ([]) [.aG (PN.mk k ta nm nn nA nc ks)] := ay H2 0 (by kernel_rfl);have au := PK.at (m2.2 _ j0) hd;obtain ⟨Dj, ⟨gk, zd, _, Uf⟩, _⟩ := au;refine xb 5 1 H2 <| xp 1 (.bool (decide ((i : Int) < (ks.length : Int)))) (.bool true) (dT (by omega)) <| xb 10 1 H2 <| xv 1 gk i 5 ks.length nc zd (by omega) <| xy 0 (Addr.add gk (i * 5)) 2 <| xr (c := 1) (t := 9) 0 [.string bJ] (.string bJ) (aa Uf (by decide : 2 + 1 ≤ 5)) ?_;refine xp 1 (.bool (bJ.toList == op.toList)) (.bool false) (V7 (Ne.symm (Ne.symm Mo))) <| Sx.vi 8 ((i : Int) + (1 : Int)) ((i + 1 : Nat) : Int) (Gx.bj (by omega) (by omega)) ?_;exact xj 2 _ (aN _ _ _ _ (by omega) ⟨(i + 1), rfl, rfl, H2, hn⟩)
set_option maxHeartbeats 4000000 in
theorem Fu (S : Nat → Prop) (T : List RR) (us : List Bool) (mp : List (Nm × Value)) (e : En) (r' : Rn) (br : Nat) (As : Option Addr) (ns cs : Nat) (sp : List FP) (k ta : Nat) (nm : Nm) (nn : Int) (nA : Option Addr) (nc : Nat) (ks : List PN) (eo : Option Nat) (bo : Nat) (steps : Int) (op : Nm) (vb : Nat) (x : Vl) (w : World) (K : Ending → World → Prop) (H0 : Sp w [bR br As ns cs (.n k) (.n ta) nm (.int .i64 nn) nA ks.length nc (pO eo) (.pointer none) bo (.int .i64 0) eB (.int .i64 steps), wI 135 8 As cs ns (bh sp), mI S T sp [.val vb x], tN T us, uq bo mp]) (nW : ns = sp.length ∧ ns < 100000000) (ng : us.length = T.length) (fB : ur mp) (hf : pE (EE mp) ⟨sp.map (·.f), (PN.mk k ta nm nn nA nc ks), e, none, us⟩ op x = some r') (hK : ∀ (S' : Nat → Prop) (T' : List RR) (A' : Option Addr) (n' : Nat) (c' : Nat) (jr : List FP) (k' : Nat) (a' : Nat) (qw : Nm) (qx : Int) (qy : Option Addr) (qz : Nat) (o3 : List PN) (JA : Option Nat) (e' : En) (ED : Option Nat) (v' : Option Vl) (Fv : List Bool) w', Hs w [bR br As ns cs (.n k) (.n ta) nm (.int .i64 nn) nA ks.length nc (pO eo) (.pointer none) bo (.int .i64 0) eB (.int .i64 steps), wI 135 8 As cs ns (bh sp), mI S T sp [.val vb x], tN T us, uq bo mp] w' [bR br A' n' c' (.n k') (.n a') qw (.int .i64 qx) qy o3.length qz (pO JA) (pO ED) bo (.int .i64 0) eB (.int .i64 steps), wI 135 8 A' c' n' (bh jr), mI S' T' jr [.env JA e', .aG (PN.mk k' a' qw qx qy qz o3), .vo ED v'], tN T' Fv, uq bo mp] → (r' = ⟨jr.map (·.f), (PN.mk k' a' qw qx qy qz o3), e', v', Fv⟩) → (n' = jr.length) → (Fv.length = T'.length) → K (.returned (.tuple #[])) w') :
   Calls Tryz.prog 67 #[.p br, .string op, .pointer (some (⟨vb, 0, none⟩))] w K := by
 obtain ⟨L0, ak, H⟩ := Sx.bX H0;refine xu (vs := [.p br, .string op, .pointer (some (⟨vb, 0, none⟩))]) 117 Tryz.func67 ?_;have au := RD hf;obtain ⟨i, kk, fa, dL, fn, fA, fc, fF, P9, fe, fv, fo, Ui, ck, ca, Dk, cn, cA, cc, ⟨xk, xa, sP, xn, xA, xc, yP⟩, ⟨yk, ya, Mx, yn, yA, yc, YP⟩, ⟨dk, da, bJ, dn, dA, dc, cH⟩, KO, af4, Fw, I4, hr⟩ := au;have P7 := (List.getElem?_eq_some_iff.1 KO).1;have au := Mk (e := 135) (sz := 8) (A := As) (cap := cs) (n := ns) (xs := bh sp) H 1 (by kernel_rfl) (by omega);obtain ⟨g0, RH⟩ := au;refine xb 6 0 H <| Sx.vi 1 ((ns : Int) - (1 : Int)) ((ns - 1 : Nat) : Int) ((by rw [show ((ns : Int) - (1 : Int)) = ((ns - 1 : Nat) : Int) by omega]; exact IntWalk.i64_in _ (by omega))) ?_;refine xz 4 (fun z l' w' => ∃ (j : Nat), l' = [(0, .p br), (1, .string op), (2, .pointer (some (⟨vb, 0, none⟩))), (6, .n j)] ∧ z = j + 1 ∧ Hs w L0 w' [bR br As ns cs (.n k) (.n ta) nm (.int .i64 nn) nA ks.length nc (pO eo) (.pointer none) bo (.int .i64 0) eB (.int .i64 steps), wI 135 8 As cs ns (bh sp), mI S T sp [.val vb x], tN T us, uq bo mp] ∧ (i ≤ j ∧ j < sp.length)) _ _ ⟨(ns - 1), rfl, rfl, H, (by omega)⟩ (fun b1 z1 l1 w1 bQ K1 aN => ?_);obtain ⟨j, rfl, rfl, H1, hj⟩ := bQ;have au := RE hj.1 hj.2 I4;rcases au with P6 | ⟨qk, qa, bW, qn, qA, qc, bH, Bc, qe, qv, qo, gl, hq, dO, Wc | ⟨Wc, hqc⟩⟩
 · subst P6;refine xb 17 0 H1 <| xv 1 (⟨g0, 0, none⟩) i 8 ns cs RH (by omega) ?_;have m1 := H1.at 1 (it := wI 135 8 As cs ns (bh sp)) (by kernel_rfl);refine xr (c := 8) (t := 135) 0 [.n 20, .n fa, .string dL, .int .i64 fn, .slice fA fF.length fc, .n P9, pO fo, pO Ui] (.agg #[.n 20, .n fa, .string dL, .int .i64 fn, .slice fA fF.length fc, .n P9, pO fo, pO Ui]) ((m1).1.cells RH (sO KO) rfl) <| xf 0 H1 fun k1 w2 H2 => xd 0 5 H2 fun w3 H3 => xb 7 5 H3 <| xp 0 (.bool (((20 : Nat) : Int) != (20 : Int))) (.bool false) (nF (by omega)) <| xb 8 5 H3 ?_;have m2 : aL w3 S T sp [.val vb x] := ay H3 2 (by kernel_rfl);have H4 := dy m2 H3 2 (by kernel_rfl) ([]) [.aG (PN.mk 20 fa dL fn fA fc fF)] (⟨fun _ h => (by cases h), fun _ h => (by rw [List.mem_singleton.1 h]; exact (tJ.nd (m2.1 _ (List.mem_of_getElem? KO))).1)⟩);refine x0 1 [6] H4 (fun Hp R hZ => Dm S T 20 fa dL fn fA fc fF op (some kk) w3 R Hp af4 (fun w4 G1 => hZ _ _ _ G1 fun H5 => ?_));refine yd 19 (fun l' w' => ∃ (fr : Nat), l' = [(0, .p br), (1, .string op), (2, .pointer (some (⟨vb, 0, none⟩))), (6, .n i), (7, .p k1), (8, .n kk), (9, .n fr)] ∧ Hs w L0 w' [mI S T ([]) [.aG (PN.mk 20 fa dL fn fA fc fF)], bR br As ns cs (.n k) (.n ta) nm (.int .i64 nn) nA ks.length nc (pO eo) (.pointer none) bo (.int .i64 0) eB (.int .i64 steps), wI 135 8 As cs ns (bh sp), mI S T sp [.val vb x], tN T us, uq bo mp, .al k1 (.cells #[.n 20, .n fa, .string dL, .int .i64 fn, .slice fA fF.length fc, .n P9, pO fo, pO Ui] 135)] ∧ (fr = if fn == 1 then i + 1 else i)) (fun K2 dH => ?_) (fun b2 l2 w5 gA => ?_)
   · refine xb 4 6 H5 ?_;refine xl 3 (fn == (1 : Int)) (fun jR => ?_) (fun jR => ?_)
     · have wg := Gx.k1 jR;refine Sx.vi 2 ((i : Int) + (1 : Int)) ((i + 1 : Nat) : Int) (Gx.bj (by omega) (by omega)) ?_;exact xj 2 _ (dH _ _ _ ⟨(i + 1), rfl, H5.pk [0, 0, 0, 0, 0, 0, 0], (by simp [jR])⟩)
     have wg := Gx.k0 jR;exact xj 1 _ (dH _ _ _ ⟨i, rfl, H5.pk [0, 0, 0, 0, 0, 0, 0], (by simp [jR])⟩)
   obtain ⟨fr, rfl, H8, hfr⟩ := gA;have hfl : fr ≤ ns ∧ i < ns := by split at hfr <;> omega
   refine xb 6 1 H8 <| Z6 (bt := bo) (mp := mp) (t := 72) (kt := 9) (et := 4) 1 5 H8 op (by kernel_rfl) fB <| xf 1 H8 fun k2 w6 H9 => xw 4 H9 [7, 1] [14] (LJ := [.al k2 (.cells #[.int .i64 7, .int .i64 0, .pointer none, .pointer none, .int .i64 0, .int .i64 0, .string eB, .int .i64 0, .slice none 0 0, .pointer none, .slice none 0 0, .string op, .bool (EE mp op), .bool false] 137), bR br As ns cs (.n k) (.n ta) nm (.int .i64 nn) nA ks.length nc (pO eo) (.pointer none) bo (.int .i64 0) eB (.int .i64 steps)]) (by kernel_rfl) fun w7 aY => xm [(0, none), (1, none), (2, none), (3, none), (4, some (0, [11, 12, 13, 14])), (5, none), (6, none), (7, none), (8, some (1, [10, 11, 12, 13, 14])), (9, none)] (aY.sb [7, 1]) <| xg ?_;intro gy;refine xi 10 ?_;have m3 := aY.at 2 (it := wI 135 8 As cs ns (bh sp)) (by kernel_rfl);have VE := (m3).1;refine Sx.sf 0 As ns cs fr 8 (by omega) VE.nV (fun C1 wh hD1 => ?_);refine xe (x := gy) 10 (aY.sb [7, 1]) <| xg ?_;intro im;refine xi 11 ?_;have aZ := aY.add (Gx.Ext.refl _) (it := .own 135 8 none 0 0 []) (World.ownsRow_nil _ _ _ _) (fun _ h => by cases h);have m4 := aZ.at 2 (it := wI 135 8 As cs ns (bh sp)) (by kernel_rfl);have My := (m4).1;refine Sx.Z5 0 8 88 (ns - fr) 135 8 69 (cs - fr) C1 none 0 0 [] (bh (sp.drop fr)) aZ (fun h => by have hz := wh h; rw [hz] at My; have := My.nil; omega) (Mv My hD1) (by rw [lJ, List.length_drop, nW.1]) (Dl _) (by omega) (by omega) (Nat.le_refl 0) (y_ := bh (sp.drop fr)) rfl fun A1 bG w8 aP => xe (x := im) 11 (aP.sb [7, 1]) <| xm [(12, none), (13, none)] (aP.sb [7, 1]) <| xg ?_;intro kc;refine xi 14 <| xd 0 7 aP fun w9 bF => xe (x := kc) 14 Sx.np <| xt <| xb 7 1 bF ?_;have m5 := bF.at 2 (it := wI 135 8 As cs ns (bh sp)) (by kernel_rfl);refine Sx.s3 2 i (len := ns) (cap := cs) (A := As) (by omega) (gv.nV (m5).1) <| xd 2 1 bF fun cJ bq => ?_;have m6 : aL cJ S T sp [.val vb x] := ay bq 3 (by kernel_rfl);have au := PK.at (tJ.nd (m6.1 _ (List.mem_of_getElem? KO))).1 Fw;obtain ⟨Dj, ⟨gk, zd, _, Uf⟩, _⟩ := au;have Mz := (List.getElem?_eq_some_iff.1 Fw).1;have au := PK.at (PK.nB (tJ.nd (m6.1 _ (List.mem_of_getElem? KO))).1 Fw) (i := 0) rfl;obtain ⟨_, ⟨gc, JB, _, _⟩, _⟩ := au;refine xb 6 6 bq <| xv 1 gk kk 5 fF.length fc zd (by omega) <| xr (c := 5) (t := 62) 0 [.n ck, .n ca, .string Dk, .int .i64 cn, .slice cA ([(PN.mk xk xa sP xn xA xc yP), (PN.mk yk ya Mx yn yA yc YP), (PN.mk dk da bJ dn dA dc cH)].length) cc] (.agg #[.n ck, .n ca, .string Dk, .int .i64 cn, .slice cA ([(PN.mk xk xa sP xn xA xc yP), (PN.mk yk ya Mx yn yA yc YP), (PN.mk dk da bJ dn dA dc cH)].length) cc]) Uf <| xf 0 bq fun k3 fU bu => xd 0 9 bu fun gV bS => xw 3 bS [9, 3, 6] [] (LJ := [.al k3 (.cells #[.n ck, .n ca, .string Dk, .int .i64 cn, .slice cA ([(PN.mk xk xa sP xn xA xc yP), (PN.mk yk ya Mx yn yA yc YP), (PN.mk dk da bJ dn dA dc cH)].length) cc] 62), mI S T sp [.val vb x], .al k1 (.cells #[.n 20, .n fa, .string dL, .int .i64 fn, .slice fA fF.length fc, .n P9, pO fo, pO Ui] 135)]) (by kernel_rfl) fun iq bx => ?_;refine xm [(0, none), (1, none), (2, some (0, []))] (bx.sb [9, 3, 5]) <| yi 3 [] gc 1 5 ([(PN.mk xk xa sP xn xA xc yP), (PN.mk yk ya Mx yn yA yc YP), (PN.mk dk da bJ dn dA dc cH)].length) cc JB (by simp) (bx.sb [9, 3, 5]) <| ym 4 [] (Addr.add gc (1 * 5)) 2 (bx.sb [9, 3, 5]) ?_;have m7 : aL iq S T sp [.val vb x] := ay bx 3 (by kernel_rfl);refine yg (c := 1) (t := 9) 5 [] [.string Mx] (.string Mx) (fun w' hs => (aa (PK.cell (PK.nB (tJ.nd ((Go.aS.cQ hs 1 (it := mI S T sp [.val vb x]) (by kernel_rfl)).1.1 _ (List.mem_of_getElem? KO))).1 Fw) JB (i := 1) rfl) (by decide : 2 + 1 ≤ 5))) (bx.sb [9, 3, 5]) <| xm [(6, none), (7, none), (8, some (0, []))] (bx.sb [9, 3, 5]) <| yi 9 [] gc 0 5 ([(PN.mk xk xa sP xn xA xc yP), (PN.mk yk ya Mx yn yA yc YP), (PN.mk dk da bJ dn dA dc cH)].length) cc JB (by simp) (bx.sb [9, 3, 5]) <| ym 10 [] (Addr.add gc (0 * 5)) 2 (bx.sb [9, 3, 5]) <| yg (c := 1) (t := 9) 11 [] [.string sP] (.string sP) (fun w' hs => (aa (PK.cell (PK.nB (tJ.nd ((Go.aS.cQ hs 1 (it := mI S T sp [.val vb x]) (by kernel_rfl)).1.1 _ (List.mem_of_getElem? KO))).1 Fw) JB (i := 0) rfl) (by decide : 2 + 1 ≤ 5))) (bx.sb [9, 3, 5]) <| xm [(12, none), (13, none), (14, some (2, [])), (15, none)] (bx.sb [9, 3, 5]) ?_;refine xg ?_;intro o5;refine xi 16 <| xf 0 bx fun k4 iF cV => xe (x := o5) 16 (cV.sb [9, 3, 5]) <| xm [(17, none)] (cV.sb [9, 3, 5]) <| xg ?_;intro tO;refine xi 18 <| xf 0 cV fun k5 kr bZ => xe (x := tO) 18 (bZ.sb [9, 3, 5]) <| xm [(19, none), (20, none)] (bZ.sb [9, 3, 5]) <| xg ?_;intro zX;refine xi 21 <| xd 0 1 bZ fun ku cj => xe (x := zX) 21 (cj.sb [9, 3, 5]) <| xt <| xb 5 9 cj <| xv 0 gc 2 5 ([(PN.mk xk xa sP xn xA xc yP), (PN.mk yk ya Mx yn yA yc YP), (PN.mk dk da bJ dn dA dc cH)].length) cc JB (by simp) ?_;have m8 : aL ku S T sp [.val vb x] := ay cj 3 (by kernel_rfl);refine xr (c := 5) (t := 62) 0 (Sx.nC dk da bJ dn dA cH dc) (Sx.nA dk da bJ dn dA cH dc) (PK.cell (PK.nB (tJ.nd (m8.1 _ (List.mem_of_getElem? KO))).1 Fw) JB (i := 2) rfl) <| xd 2 1 cj fun ke cC => xh 8 [] cC (.tuple #[]) ?_;have m9 := cC.at 2 (it := wI 135 8 As cs ns (bh sp)) (by kernel_rfl);have c_ := Fq (e := 135) (sz := 8) (A := As) (cap := cs) (n := ns) (xs := bh sp) (k := i) (cM := i) cC 2 (by kernel_rfl) (by omega) (Nat.le_refl _) (by have := (m9).1.nV; omega) (sN sp i);have hlen : ((sp.drop fr).map (fun x : FP => x.f)).length = 0 + (ns - fr) := by rw [List.length_map, List.length_drop, nW.1, Nat.zero_add]
   have au := aah (A := A1) (cap := bG) (n := 0 + (ns - fr)) (t1 := 139) (t2 := 139) (S := S) (T := T) (T' := (T ++ [⟨k2, A1, 0 + (ns - fr), bG, op, EE mp op⟩])) (sp := sp) (l := [.val vb x]) (jr := sp.take i) (l' := [.env (some k5) (.put Mx (.res us.length ((sp.drop fr).map (fun x : FP => x.f)) op (EE mp op)) (.put sP x fe)), .aG (PN.mk dk da bJ dn dA dc cH), .vo none none]) (fp := sp.drop fr) (b1 := k4) (b2 := k5) (c1 := #[.string sP, .pointer (some (⟨vb, 0, none⟩)), pO fo]) (c2 := #[.string Mx, .p k2, .p k4]) c_ [3, 7, 8, 8] (by kernel_rfl) (fun i r h => by rw [List.getElem?_append_left (List.getElem?_eq_some_iff.1 h).1]; exact h) (fun S' h YO zI KL m_ hb2 uZ => RG (id := us.length) (A := A1) (cap := bG) (bk := k2) (op := op) (once := EE mp op) h KO Fw rfl (by rw [ng]; simp) hlen zI YO KL m_ hb2 uZ);obtain ⟨S1, dJ⟩ := au;have cW := Wa (r := ⟨k2, A1, 0 + (ns - fr), bG, op, EE mp op⟩) (u := false) dJ [7, 4] (by kernel_rfl) ng;subst ak;exact hK S1 (T ++ [⟨k2, A1, 0 + (ns - fr), bG, op, EE mp op⟩]) As i i (sp.take i) dk da bJ dn dA dc cH (some k5) (.put Mx (.res us.length ((sp.drop fr).map (fun x : FP => x.f)) op (EE mp op)) (.put sP x fe)) none none (us ++ [false]) _ (cW.pick [3, 3, 1, 0, 1] (by kernel_rfl)) (by rw [hr, ← hfr]; rfl) (by rw [List.length_take]; omega) (by simp [ng])
 · refine xb 17 0 H1 ?_;refine xv 1 (⟨g0, 0, none⟩) j 8 ns cs RH (by omega) ?_;have Ct := H1.at 1 (it := wI 135 8 As cs ns (bh sp)) (by kernel_rfl);refine xr (c := 8) (t := 135) 0 [.n qk, .n qa, .string bW, .int .i64 qn, .slice qA bH.length qc, .n Bc, pO qo, pO gl] (.agg #[.n qk, .n qa, .string bW, .int .i64 qn, .slice qA bH.length qc, .n Bc, pO qo, pO gl]) ((Ct).1.cells RH (sO hq) rfl) <| xf 0 H1 fun k6 mm cK => xd 0 5 cK fun nX ef => xb 7 5 ef <| xp 0 (.bool ((qk : Int) != (20 : Int))) (.bool true) (nT (by omega)) <| Sx.vi 9 ((j : Int) - (1 : Int)) ((j - 1 : Nat) : Int) ((by rw [show ((j : Int) - (1 : Int)) = ((j - 1 : Nat) : Int) by omega]; exact IntWalk.i64_in _ (by omega))) ?_;exact xj 2 _ (aN _ _ _ _ (by omega) ⟨(j - 1), rfl, rfl, ef.pk [0, 0, 0, 0, 0], (by omega)⟩)
 refine xb 17 0 H1 <| xv 1 (⟨g0, 0, none⟩) j 8 ns cs RH (by omega) ?_;have HG := H1.at 1 (it := wI 135 8 As cs ns (bh sp)) (by kernel_rfl);refine xr (c := 8) (t := 135) 0 [.n qk, .n qa, .string bW, .int .i64 qn, .slice qA bH.length qc, .n Bc, pO qo, pO gl] (.agg #[.n qk, .n qa, .string bW, .int .i64 qn, .slice qA bH.length qc, .n Bc, pO qo, pO gl]) ((HG).1.cells RH (sO hq) rfl) <| xf 0 H1 fun k7 o4 iU => xd 0 5 iU fun kR eC => xb 7 5 eC <| xp 0 (.bool ((qk : Int) != (20 : Int))) (.bool false) (nF (by omega)) <| xb 8 5 eC ?_;have Fx : aL kR S T sp [.val vb x] := ay eC 2 (by kernel_rfl);have dz := dy Fx eC 2 (by kernel_rfl) ([]) [.aG (PN.mk qk qa bW qn qA qc bH)] (⟨fun _ h => (by cases h), fun _ h => (by rw [List.mem_singleton.1 h]; exact (tJ.nd (Fx.1 _ (List.mem_of_getElem? hq))).1)⟩);refine x0 1 [6] dz (fun Hp R hZ => Dm S T qk qa bW qn qA qc bH op none kR R Hp hqc (fun ry G2 => hZ _ _ _ G2 fun dS => ?_));refine Sx.vi 17 ((j : Int) - (1 : Int)) ((j - 1 : Nat) : Int) ((by rw [show ((j : Int) - (1 : Int)) = ((j - 1 : Nat) : Int) by omega]; exact IntWalk.i64_in _ (by omega))) ?_;exact xj 2 _ (aN _ _ _ _ (by omega) ⟨(j - 1), rfl, rfl, dS.pk [1, 1, 1, 1, 1], (by omega)⟩)
end Mr
end Go.Proofs.YtdmdecgoebnamaaGreat
namespace Go.Mn
open Go.RowKit Go.Sx Go.aS Go.Gx
theorem MA {st : List Fr} {gF : PN} {e0 : En} {us : List Bool} {fv x : Vl} {r' : Rn} (h : vO ⟨st, gF, e0, none, us⟩ fv x = some r') :
   (∃ (fk fa : Nat) (dL : Nm) (fn : Int) (fA : Option Addr) (fc : Nat) (d : PN) (e1 : En), fv = .fn (.mk fk fa dL fn fA fc [d]) e1 ∧ r' = ⟨st, d, .put dL x e1, none, us⟩) ∨
   (∃ (id : Nat) (fr : List Fr) (op : Nm) (once u : Bool), fv = .res id fr op once ∧ us[id]? = some u ∧ (once && u) = false ∧ st.length + fr.length < 100000000 ∧ r' = ⟨st ++ fr, gF, e0, some x, us.set id true⟩) := by
 cases fv with
 | fn nd e1 =>
   obtain ⟨fk, fa, dL, fn, fA, fc, fF⟩ := nd;rcases fF with _ | ⟨d, _ | ⟨_, _⟩⟩
   · cases h
   · cases h; exact .inl ⟨fk, fa, dL, fn, fA, fc, d, e1, rfl, rfl⟩
   · cases h
 | res id fr op once =>
   unfold vO at h;simp only at h;split at h
   · rename_i u hu;by_cases q : (once && u || ! decide (st.length + fr.length < 100000000)) = true
     · rw [if_pos q] at h; cases h
     · rw [if_neg q] at h;cases h;simp only [Bool.or_eq_true, not_or, Bool.not_eq_true, Bool.not_eq_eq_eq_not, Bool.not_true, Bool.not_false, decide_eq_true_eq] at q;exact .inr ⟨id, fr, op, once, u, rfl, hu, q.1, (by simpa using q.2), rfl⟩
   · cases h
 | _ => cases h
section
variable {w w' w0 : World} {S : Nat → Prop} {T : List RR} {L0 L : List Sx.Item} {b : Nat}
theorem dm.aaj {nd : PN} {e : En} (h : dm w S T b (.fn nd e)) : ∃ o, (S b ∧ w.cells? 0 ⟨b, 0, none⟩ 14 = some (mZ 6 0 none none nd o)) ∧ v7 w S T o e ∧ PK w S nd := by
 cases h with
 | fn hS h he hk => exact ⟨_, ⟨hS, h⟩, he, hk⟩
theorem dm.Wd {i : Nat} {fr : List Fr} {op : Nm} {once : Bool} (h : dm w S T b (.res i fr op once)) : ∃ (A : Option Addr) (c : Nat) (fp : List FP), T[i]? = some ⟨b, A, fr.length, c, op, once⟩ ∧ (fp.map (fun x : FP => x.f) = fr ∧ fp.length = fr.length) ∧ fr.length ≤ c ∧
   (∀ (j : Nat) (f : FP), fp[j]? = some f → ∃ g, A = some g ∧ S g.block ∧ w.cells? 0 (g.add (j * 8)) 8 = some (Fp f)) ∧ ∀ f ∈ fp, tJ w S T f.e f.v f.f := by
 cases h with
 | res fp hi hf hl hr h => exact ⟨_, _, fp, hi, ⟨hf, by rw [← hf, List.length_map]⟩, hl, hr, fun f hf => by obtain ⟨j, hj⟩ := List.mem_iff_getElem?.1 hf; exact h j f hj⟩
theorem dm.aak {n : Int} (h : dm w S T b (.int n)) : w.cells? 0 ⟨b, 0, none⟩ 14 = some (mZ 0 n none none pz none) := by
 cases h with
 | int _ h => exact h
theorem dm.RI {v : Vl} {nd : PN} {e : En} (h : dm w S T b v) (hv : v = .fn nd e) : ∃ o, (S b ∧ w.cells? 0 ⟨b, 0, none⟩ 14 = some (mZ 6 0 none none nd o)) ∧ v7 w S T o e ∧ PK w S nd := by subst hv; exact h.aaj
theorem dm.aal {v : Vl} {i : Nat} {fr : List Fr} {op : Nm} {once : Bool} (h : dm w S T b v) (hv : v = .res i fr op once) : ∃ (A : Option Addr) (c : Nat) (fp : List FP), T[i]? = some ⟨b, A, fr.length, c, op, once⟩ ∧ (fp.map (fun x : FP => x.f) = fr ∧ fp.length = fr.length) ∧ fr.length ≤ c ∧
   (∀ (j : Nat) (f : FP), fp[j]? = some f → ∃ g, A = some g ∧ S g.block ∧ w.cells? 0 (g.add (j * 8)) 8 = some (Fp f)) ∧ ∀ f ∈ fp, tJ w S T f.e f.v f.f := by subst hv; exact h.Wd
theorem dm.pL {v : Vl} {n : Int} (h : dm w S T b v) (hv : v = .int n) : w.cells? 0 ⟨b, 0, none⟩ 14 = some (mZ 0 n none none pz none) := by subst hv; exact h.aak
def cI (S : Nat → Prop) (b n : Nat) (cs : List Value) : Sx.Item := .ro S (fun w => S b ∧ w.cells? 0 ⟨b, 0, none⟩ n = some cs)
theorem af5 (H : Hs w0 L0 w L) (j : Nat) {φ : World → Prop} {n : Nat} {cs : List Value} (hi : L[j]? = some (.ro S φ)) (h : S b ∧ w.cells? 0 ⟨b, 0, none⟩ n = some cs) : Hs w0 L0 w (L ++ [cI S b n cs]) :=
 H.ro j hi h (fun _ _ _ hk h => ⟨h.1, eZ h.2 (hk _ h.1)⟩)
theorem jS {T : List RR} {sp : List FP} {l : List MF} (_ : aL w S T sp l) (H : Hs w0 L0 w L) (j : Nat) (hi : L[j]? = some (mI S T sp l)) (b n : Nat) (cs : List Value) (h : S b ∧ w.cells? 0 ⟨b, 0, none⟩ n = some cs) : Hs w0 L0 w (L ++ [cI S b n cs]) := af5 H j hi h
def JC (w : World) (S : Nat → Prop) (A : Option Addr) (fp : List FP) : Prop := ∀ (j : Nat) (f : FP), fp[j]? = some f → ∃ g, A = some g ∧ S g.block ∧ w.cells? 0 (g.add (j * 8)) 8 = some (Fp f)
def rwI (S : Nat → Prop) (A : Option Addr) (fp : List FP) : Sx.Item := .ro S (fun w => JC w S A fp)
theorem aam (H : Hs w0 L0 w L) (j : Nat) {φ : World → Prop} {A : Option Addr} {fp : List FP} (hi : L[j]? = some (.ro S φ)) (h : JC w S A fp) : Hs w0 L0 w (L ++ [rwI S A fp]) :=
 H.ro j hi h (fun _ _ _ hk h j f hj => by obtain ⟨g, hg, hS, hc⟩ := h j f hj; exact ⟨g, hg, hS, eZ hc (by rw [gh]; exact hk _ hS)⟩)
theorem JC.none {fp : List FP} (h : JC w S none fp) : fp.length = 0 := by
 cases fp with
 | nil => rfl
 | cons f l => obtain ⟨g, hg, _⟩ := h 0 f rfl; cases hg
theorem JC.cell {A : Option Addr} {fp : List FP} (h : JC w S A fp) : ∀ a, A = some a → ∀ (j : Nat) (u : Value), (bh fp)[j]? = some u → w.cell? (a.add j) = some u := fun a ha j u hu => by
 have hj := (List.getElem?_eq_some_iff.1 hu).1;rw [lJ] at hj;have hq : j / 8 < fp.length := by omega
 obtain ⟨g, hg, _, hc⟩ := h (j / 8) fp[j / 8] (List.getElem?_eq_getElem hq);rw [ha] at hg; cases hg;have e : j = j / 8 * 8 + j % 8 := by omega
 have hx : (Fp fp[j / 8])[j % 8]? = some u := by
   rw [← sO (List.getElem?_eq_getElem hq), List.getElem?_take_of_lt (by omega), List.getElem?_drop, ← e]; exact hu
 rw [e, ← add_add];exact (World.cells?_some hc).2.2 (j % 8) (by omega) ▸ hx
end
theorem aan (nm : Nm) (x y : Int) : (ee nm ⟨#[43]⟩ = true ∧ E7 nm x y = .int (IntKind.i64.wrap (x + y))) ∨ (ee nm ⟨#[43]⟩ = false ∧ ee nm ⟨#[45]⟩ = true ∧ E7 nm x y = .int (IntKind.i64.wrap (x - y))) ∨
   (ee nm ⟨#[43]⟩ = false ∧ ee nm ⟨#[45]⟩ = false ∧ ee nm ⟨#[42]⟩ = true ∧ E7 nm x y = .int (IntKind.i64.wrap (x * y))) ∨
   (ee nm ⟨#[43]⟩ = false ∧ ee nm ⟨#[45]⟩ = false ∧ ee nm ⟨#[42]⟩ = false ∧ ee nm ⟨#[60]⟩ = true ∧ E7 nm x y = .bool (decide (x < y))) ∨
   (ee nm ⟨#[43]⟩ = false ∧ ee nm ⟨#[45]⟩ = false ∧ ee nm ⟨#[42]⟩ = false ∧ ee nm ⟨#[60]⟩ = false ∧ E7 nm x y = .bool (x == y)) := by
 unfold E7;cases ee nm ⟨#[43]⟩ with
 | true => exact .inl ⟨rfl, rfl⟩
 | false => cases ee nm ⟨#[45]⟩ with
   | true => exact .inr (.inl ⟨rfl, rfl, rfl⟩)
   | false => cases ee nm ⟨#[42]⟩ with
     | true => exact .inr (.inr (.inl ⟨rfl, rfl, rfl, rfl⟩))
     | false => cases ee nm ⟨#[60]⟩ with
       | true => exact .inr (.inr (.inr (.inl ⟨rfl, rfl, rfl, rfl, rfl⟩)))
       | false => exact .inr (.inr (.inr (.inr ⟨rfl, rfl, rfl, rfl, rfl⟩)))
theorem RJ {st : List Fr} {k ta : Nat} {nm : Nm} {nn : Int} {nA : Option Addr} {nc : Nat} {ks : List PN} {e : En} {us : List Bool} {a b : Vl} {r' : Rn} (h : zN ⟨st, .mk k ta nm nn nA nc ks, e, none, us⟩ a b = some r') :
   (k = 12 ∧ r' = ⟨st, .mk k ta nm nn nA nc ks, e, some (.pair a b), us⟩) ∨ (k = 16 ∧ r' = ⟨st, .mk k ta nm nn nA nc ks, e, some (.cons a b), us⟩) ∨
   (k = 18 ∧ ∃ x y, (a = .int x ∧ b = .int y) ∧ ∃ v, r' = ⟨st, .mk k ta nm nn nA nc ks, e, some v, us⟩ ∧
     ((ee nm ⟨#[43]⟩ = true ∧ v = .int (IntKind.i64.wrap (x + y))) ∨ (ee nm ⟨#[43]⟩ = false ∧ ee nm ⟨#[45]⟩ = true ∧ v = .int (IntKind.i64.wrap (x - y))) ∨ (ee nm ⟨#[43]⟩ = false ∧ ee nm ⟨#[45]⟩ = false ∧ ee nm ⟨#[42]⟩ = true ∧ v = .int (IntKind.i64.wrap (x * y))) ∨
       (ee nm ⟨#[43]⟩ = false ∧ ee nm ⟨#[45]⟩ = false ∧ ee nm ⟨#[42]⟩ = false ∧ ee nm ⟨#[60]⟩ = true ∧ v = .bool (decide (x < y))) ∨ (ee nm ⟨#[43]⟩ = false ∧ ee nm ⟨#[45]⟩ = false ∧ ee nm ⟨#[42]⟩ = false ∧ ee nm ⟨#[60]⟩ = false ∧ v = .bool (x == y)))) ∨
   (k = 8 ∧ vO ⟨st, .mk k ta nm nn nA nc ks, e, none, us⟩ a b = some r') := by
 unfold zN at h;simp only [PN.k, PN.nm] at h;split at h
 · cases h; exact .inl ⟨rfl, rfl⟩
 · cases h; exact .inr (.inl ⟨rfl, rfl⟩)
 · split at h
   · rename_i x y;cases h;exact .inr (.inr (.inl ⟨rfl, x, y, ⟨rfl, rfl⟩, _, rfl, aan _ _ _⟩))
   · cases h
 · exact .inr (.inr (.inr ⟨rfl, h⟩))
 · cases h
theorem eb {a b : Nm} {t : Bool} (h : ee a b = t) : Value.bool (a.toList == b.toList) = .bool t := by
 cases t with
 | true => rw [kJ.1 h]; simp
 | false => exact V7 (fun e => aag h e)
end Go.Mn
namespace Go.Proofs.YtdmdecgoebnamaaGreat
open Go.RowKit Go.Sx Go.aS Go.Mn
attribute [local irreducible] Go.wpOps Go.Code.wp Go.wpOp Go.wpAnyH Go.Calls Go.Sx.Goal
set_option maxRecDepth 20000
namespace Mr
set_option maxHeartbeats 4000000 in
theorem RK (S : Nat → Prop) (T : List RR) (us : List Bool) (mp : List (Nm × Value)) (e : En) (r' : Rn) (br : Nat) (As : Option Addr) (ns cs : Nat) (sp : List FP) (k ta : Nat) (nm : Nm) (nn : Int) (nA : Option Addr) (nc : Nat) (ks : List PN) (eo : Option Nat) (bo : Nat) (steps : Int) (fb : Nat) (fv : Vl) (vb : Nat) (x : Vl) (w : World) (K : Ending → World → Prop) (H0 : Sp w [bR br As ns cs (.n k) (.n ta) nm (.int .i64 nn) nA ks.length nc (pO eo) (.pointer none) bo (.int .i64 0) eB (.int .i64 steps), wI 135 8 As cs ns (bh sp), mI S T sp [.env eo e, .aG (PN.mk k ta nm nn nA nc ks), .val fb fv, .val vb x], tN T us, uq bo mp]) (nW : ns = sp.length ∧ ns < 100000000) (ng : us.length = T.length) (fB : ur mp) (hf : vO ⟨sp.map (·.f), (PN.mk k ta nm nn nA nc ks), e, none, us⟩ fv x = some r') (hK : ∀ (S' : Nat → Prop) (T' : List RR) (A' : Option Addr) (n' : Nat) (c' : Nat) (jr : List FP) (k' : Nat) (a' : Nat) (qw : Nm) (qx : Int) (qy : Option Addr) (qz : Nat) (o3 : List PN) (JA : Option Nat) (e' : En) (ED : Option Nat) (v' : Option Vl) (Fv : List Bool) w', Hs w [bR br As ns cs (.n k) (.n ta) nm (.int .i64 nn) nA ks.length nc (pO eo) (.pointer none) bo (.int .i64 0) eB (.int .i64 steps), wI 135 8 As cs ns (bh sp), mI S T sp [.env eo e, .aG (PN.mk k ta nm nn nA nc ks), .val fb fv, .val vb x], tN T us, uq bo mp] w' [bR br A' n' c' (.n k') (.n a') qw (.int .i64 qx) qy o3.length qz (pO JA) (pO ED) bo (.int .i64 0) eB (.int .i64 steps), wI 135 8 A' c' n' (bh jr), mI S' T' jr [.env JA e', .aG (PN.mk k' a' qw qx qy qz o3), .vo ED v'], tN T' Fv, uq bo mp] → (r' = ⟨jr.map (·.f), (PN.mk k' a' qw qx qy qz o3), e', v', Fv⟩) → (n' = jr.length) → (Fv.length = T'.length) → K (.returned (.tuple #[])) w') :
   Calls Tryz.prog 109 #[.p br, .pointer (some (⟨fb, 0, none⟩)), .pointer (some (⟨vb, 0, none⟩))] w K := by
 obtain ⟨L0, ak, H⟩ := Sx.bX H0;refine xu (vs := [.p br, .pointer (some (⟨fb, 0, none⟩)), .pointer (some (⟨vb, 0, none⟩))]) 95 Tryz.func109 ?_;have au := MA hf;rcases au with ⟨fk, fa, dL, fn, fA, fc, ⟨dk, da, bJ, dn, dA, dc, cH⟩, e1, hv, hr⟩ | ⟨id, fr, op, once, u, hv, hu, hou, hlen, hr⟩
 · have m1 : aL w S T sp [.env eo e, .aG (PN.mk k ta nm nn nA nc ks), .val fb fv, .val vb x] := ay H 2 (by kernel_rfl);have au := dm.RI (m1.2 (.val fb fv) j2) hv;obtain ⟨fo, Uj, Fy, uW⟩ := au;have au := PK.at uW (i := 0) rfl;obtain ⟨_, ⟨gf, hgf, _, _⟩, _⟩ := au;have H1 := dy m1 H 2 (by kernel_rfl) sp [.env fo e1, .aG (PN.mk fk fa dL fn fA fc [(PN.mk dk da bJ dn dA dc cH)]), .val vb x] (aL.l3 m1.1 Fy uW (m1.2 (.val vb x) j3));have m2 : aL w S T sp [.env eo e, .aG (PN.mk k ta nm nn nA nc ks), .val fb fv, .val vb x] := ay H1 2 (by kernel_rfl);have H2 := jS m2 H1 2 (by kernel_rfl) fb 14 [.int .i64 6, .int .i64 0, .pointer none, .pointer none, .n fk, .n fa, .string dL, .int .i64 fn, .slice fA ([(PN.mk dk da bJ dn dA dc cH)].length) fc, pO fo, .slice none 0 0, .string eB, .bool false, .bool false] Uj;refine xy 4 (⟨fb, 0, none⟩) 0 ?_;have m3 := H2.at 6 (it := cI S fb 14 [.int .i64 6, .int .i64 0, .pointer none, .pointer none, .n fk, .n fa, .string dL, .int .i64 fn, .slice fA ([(PN.mk dk da bJ dn dA dc cH)].length) fc, pO fo, .slice none 0 0, .string eB, .bool false, .bool false]) (by kernel_rfl);refine xr (c := 1) (t := 3) 0 [.int .i64 6] (.int .i64 6) (aa m3.1.2 (by decide : 0 + 1 ≤ 14)) <| xw 11 H2 [6] [] (LJ := [cI S fb 14 [.int .i64 6, .int .i64 0, .pointer none, .pointer none, .n fk, .n fa, .string dL, .int .i64 fn, .slice fA ([(PN.mk dk da bJ dn dA dc cH)].length) fc, pO fo, .slice none 0 0, .string eB, .bool false, .bool false]]) (by kernel_rfl) fun w1 H3 => xm [(0, none), (1, none), (2, none)] (H3.sb [6]) <| ym 3 [] (⟨fb, 0, none⟩) 4 (H3.sb [6]) <| ym 4 [] (Addr.add (⟨fb, 0, none⟩) 4) 2 (H3.sb [6]) ?_;have m4 := H3.at 6 (it := cI S fb 14 [.int .i64 6, .int .i64 0, .pointer none, .pointer none, .n fk, .n fa, .string dL, .int .i64 fn, .slice fA ([(PN.mk dk da bJ dn dA dc cH)].length) fc, pO fo, .slice none 0 0, .string eB, .bool false, .bool false]) (by kernel_rfl);refine yg (c := 1) (t := 9) 5 [] [.string dL] (.string dL) (fun w' hs => (aa (aa (Go.aS.cQ hs 0 (it := cI S fb 14 [.int .i64 6, .int .i64 0, .pointer none, .pointer none, .n fk, .n fa, .string dL, .int .i64 fn, .slice fA ([(PN.mk dk da bJ dn dA dc cH)].length) fc, pO fo, .slice none 0 0, .string eB, .bool false, .bool false]) (by kernel_rfl)).1.2 (by decide : 4 + 10 ≤ 14)) (by decide : 2 + 1 ≤ 10))) (H3.sb [6]) <| xm [(6, none), (7, none), (8, none)] (H3.sb [6]) <| ym 9 [] (⟨fb, 0, none⟩) 9 (H3.sb [6]) <| yg (c := 1) (t := 70) 10 [] [pO fo] (pO fo) (fun w' hs => (aa (Go.aS.cQ hs 0 (it := cI S fb 14 [.int .i64 6, .int .i64 0, .pointer none, .pointer none, .n fk, .n fa, .string dL, .int .i64 fn, .slice fA ([(PN.mk dk da bJ dn dA dc cH)].length) fc, pO fo, .slice none 0 0, .string eB, .bool false, .bool false]) (by kernel_rfl)).1.2 (by decide : 9 + 1 ≤ 14))) (H3.sb [6]) <| xm [(11, none)] (H3.sb [6]) <| xg ?_;intro gy;refine xi 12 <| xf 0 H3 fun k1 w2 H4 => xe (x := gy) 12 (H4.sb [6]) <| xm [(13, none), (14, none)] (H4.sb [6]) <| xg ?_;intro im;refine xi 15 <| xd 0 0 H4 fun w3 H5 => xe (x := im) 15 (H5.sb [6]) <| xt <| xy 5 (⟨fb, 0, none⟩) 4 <| xy 0 (Addr.add (⟨fb, 0, none⟩) 4) 4 ?_;have m5 := H5.at 6 (it := cI S fb 14 [.int .i64 6, .int .i64 0, .pointer none, .pointer none, .n fk, .n fa, .string dL, .int .i64 fn, .slice fA ([(PN.mk dk da bJ dn dA dc cH)].length) fc, pO fo, .slice none 0 0, .string eB, .bool false, .bool false]) (by kernel_rfl);refine xr (c := 1) (t := 60) 0 [.slice fA ([(PN.mk dk da bJ dn dA dc cH)].length) fc] (.slice fA ([(PN.mk dk da bJ dn dA dc cH)].length) fc) (aa (aa m5.1.2 (by decide : 4 + 10 ≤ 14)) (by decide : 4 + 1 ≤ 10)) <| xv 0 gf 0 5 ([(PN.mk dk da bJ dn dA dc cH)].length) fc hgf (by simp) ?_;have m6 : aL w3 S T sp [.env fo e1, .aG (PN.mk fk fa dL fn fA fc [(PN.mk dk da bJ dn dA dc cH)]), .val vb x] := ay H5 5 (by kernel_rfl);refine xr (c := 5) (t := 62) 0 (Sx.nC dk da bJ dn dA cH dc) (Sx.nA dk da bJ dn dA cH dc) (PK.cell (m6.2 _ j1) hgf (i := 0) rfl) <| xd 2 0 H5 fun w4 H6 => xh 2 [] H6 (.tuple #[]) ?_;have m7 : aL w4 S T sp [.env fo e1, .aG (PN.mk fk fa dL fn fA fc [(PN.mk dk da bJ dn dA dc cH)]), .val vb x] := ay H6 5 (by kernel_rfl);have au := m0 m7 H6 [5, 6] sp [.env (some k1) (.put dL x e1), .aG (PN.mk dk da bJ dn dA dc cH), .vo none none] k1 139 #[.string dL, .pointer (some (⟨vb, 0, none⟩)), pO fo] (by kernel_rfl) (fun S' h hb hc => aL.l3 h.1 (.put hb hc (h.2 (.val vb x) j2) (h.2 _ j0)) (PK.nB (h.2 _ j1) (i := 0) rfl) trivial);obtain ⟨S1, H7⟩ := au;subst ak;exact hK S1 T As ns cs sp dk da bJ dn dA dc cH (some k1) (.put dL x e1) none none us _ (H7.pick [1, 1, 0, 1, 1] (by kernel_rfl)) (by rw [hr]) nW.1 ng
 have m8 : aL w S T sp [.env eo e, .aG (PN.mk k ta nm nn nA nc ks), .val fb fv, .val vb x] := ay H 2 (by kernel_rfl);have au := dm.aal (m8.2 (.val fb fv) j2) hv;obtain ⟨A, c, fp, hi, hfp, Uj, YO, YN⟩ := au;have alh : ns + fr.length < 100000000 := by rw [List.length_map] at hlen; omega
 have H8 := dy m8 H 2 (by kernel_rfl) (sp ++ fp) [.env eo e, .aG (PN.mk k ta nm nn nA nc ks), .vo (some vb) (some x)] (aL.l3 (fun f hf => (List.mem_append.1 hf).elim (m8.1 f) (YN f)) (m8.2 _ j0) (m8.2 _ j1) (m8.2 (.val vb x) j3));have H9 := aam (S := S) (φ := fun w => aL w S T sp [.env eo e, .aG (PN.mk k ta nm nn nA nc ks), .val fb fv, .val vb x]) (A := A) (fp := fp) H8 2 (by kernel_rfl) YO;have aY := RC (T := T) (us := us) (n := id) (r := ⟨fb, A, fr.length, c, op, once⟩) (u := u) H9 3 (by kernel_rfl) hi hu;refine xb 5 0 aY ?_;refine yd 18 (fun l' w' => l' = [(0, .p br), (1, .p fb), (2, .pointer (some (⟨vb, 0, none⟩))), (52, .bool (once && u))] ∧ w = w') (fun K1 aN => ?_) (fun b1 l1 w5 bQ => ?_)
 · refine xb 4 0 aY ?_;refine ye 1 47 once (fun MB => ?_) (fun MB => ?_)
   · refine xb 3 0 aY ?_;exact xj 2 _ (aN _ _ _ ⟨rfl, rfl⟩) (h2 := (by rw [MB]; try kernel_rfl))
   exact xj 6 _ (aN _ _ _ ⟨rfl, rfl⟩) (h2 := (by rw [MB]; try kernel_rfl))
 obtain ⟨rfl, rfl⟩ := bQ;refine xl 0 (once && u) (fun Uk => absurd (hou.symm.trans Uk) (by decide)) (fun Uk => ?_);refine xd 7 0 aY fun w6 aZ => xw 3 aZ [2, 0] [23] (LJ := [bR br As ns cs (.n k) (.n ta) nm (.int .i64 nn) nA ks.length nc (pO eo) (.pointer none) bo (.int .i64 0) eB (.int .i64 steps), .al fb (.cells #[.int .i64 7, .int .i64 0, .pointer none, .pointer none, .int .i64 0, .int .i64 0, .string eB, .int .i64 0, .slice none 0 0, .pointer none, .slice A fr.length c, .string op, .bool once, .bool true] 137)]) (by kernel_rfl) fun w7 aP => xm [(0, none), (1, none), (2, none), (3, none), (4, some (0, [15, 20, 21, 22, 23])), (5, none), (6, none), (7, none), (8, some (0, [9, 15, 20, 21, 22, 23])), (9, none), (10, none), (11, none), (12, none), (13, some (0, [14, 15, 20, 21, 22, 23])), (14, none), (16, none), (17, none), (18, none), (19, some (1, [20, 21, 22, 23]))] (aP.sb [2, 0]) <| xg ?_;intro kc;refine xi 15 ?_;have m9 := aP.at 3 (it := wI 135 8 As cs ns (bh sp)) (by kernel_rfl);refine Sx.s3 0 ns (len := ns) (cap := cs) (A := As) (Nat.le_refl _) (gv.nV m9.1) ?_;have bF := Fq (e := 135) (sz := 8) (A := As) (cap := cs) (n := ns) (xs := bh sp) (k := ns) (cM := ns) (y_ := bh sp) aP 3 (by kernel_rfl) (Nat.le_refl _) (Nat.le_refl _) (gv.nV m9.1) (by rw [sN, nW.1, List.take_length]);refine xe (x := kc) 15 (bF.sb [2, 0]) <| xg ?_;intro o5;refine xi 20 ?_;have Ct := bF.at 7 (it := rwI S A fp) (by kernel_rfl);refine Sx.apw 0 3 88 fr.length 135 8 69 c A As ns ns (bh sp) (bh fp) bF (fun h => by have hz := Ct.1; rw [h] at hz; have := hz.none; omega) Ct.1.cell (by rw [lJ, hfp.2]) (Dl _) (by omega) (by omega) (Mu sp fp) fun A1 bG w8 bq => xe (x := o5) 20 (bq.sb [2, 0]) <| xm [(21, none), (22, none)] (bq.sb [2, 0]) <| xg ?_;intro tO;refine xi 23 <| xd 0 2 bq fun w9 bu => xe (x := tO) 23 Sx.np <| xt <| xd 6 2 bu fun cJ bS => xh 2 [] bS (.tuple #[]) ?_;have bx := V_ (T := T) (us := us) (n := id) (r := ⟨fb, A, fr.length, c, op, once⟩) (u := true) bS [0, 0] (by kernel_rfl) hi (List.getElem?_eq_some_iff.1 hu).1;subst ak;exact hK S T A1 (ns + fr.length) bG (sp ++ fp) k ta nm nn nA nc ks eo e (some vb) (some x) (us.set id true) _ (bx.pick [1, 1, 3, 0, 1] (by kernel_rfl)) (by rw [hr, List.map_append, hfp.1]) (by rw [List.length_append, nW.1, hfp.2]) (by rw [List.length_set, ng])
set_option maxHeartbeats 4000000 in
theorem We (S : Nat → Prop) (T : List RR) (us : List Bool) (mp : List (Nm × Value)) (e : En) (r' : Rn) (br : Nat) (As : Option Addr) (ns cs : Nat) (sp : List FP) (k ta : Nat) (nm : Nm) (nn : Int) (nA : Option Addr) (nc : Nat) (ks : List PN) (eo : Option Nat) (bo : Nat) (steps : Int)  (ab : Nat) (av : Vl) (bb : Nat) (bv : Vl) (w : World) (K : Ending → World → Prop) (H0 : Sp w [bR br As ns cs (.n k) (.n ta) nm (.int .i64 nn) nA ks.length nc (pO eo) (.pointer none) bo (.int .i64 0) eB (.int .i64 steps), wI 135 8 As cs ns (bh sp), mI S T sp [.env eo e, .aG (PN.mk k ta nm nn nA nc ks), .val ab av, .val bb bv], tN T us, uq bo mp]) (nW : ns = sp.length ∧ ns < 100000000) (ng : us.length = T.length) (fB : ur mp) (hf : zN ⟨sp.map (·.f), (PN.mk k ta nm nn nA nc ks), e, none, us⟩ av bv = some r') (hK : ∀ (S' : Nat → Prop) (T' : List RR) (A' : Option Addr) (n' : Nat) (c' : Nat) (jr : List FP) (k' : Nat) (a' : Nat) (qw : Nm) (qx : Int) (qy : Option Addr) (qz : Nat) (o3 : List PN) (JA : Option Nat) (e' : En) (ED : Option Nat) (v' : Option Vl) (Fv : List Bool) w', Hs w [bR br As ns cs (.n k) (.n ta) nm (.int .i64 nn) nA ks.length nc (pO eo) (.pointer none) bo (.int .i64 0) eB (.int .i64 steps), wI 135 8 As cs ns (bh sp), mI S T sp [.env eo e, .aG (PN.mk k ta nm nn nA nc ks), .val ab av, .val bb bv], tN T us, uq bo mp] w' [bR br A' n' c' (.n k') (.n a') qw (.int .i64 qx) qy o3.length qz (pO JA) (pO ED) bo (.int .i64 0) eB (.int .i64 steps), wI 135 8 A' c' n' (bh jr), mI S' T' jr [.env JA e', .aG (PN.mk k' a' qw qx qy qz o3), .vo ED v'], tN T' Fv, uq bo mp] → (r' = ⟨jr.map (·.f), (PN.mk k' a' qw qx qy qz o3), e', v', Fv⟩) → (n' = jr.length) → (Fv.length = T'.length) → K (.returned (.tuple #[])) w') :
   Calls Tryz.prog 69 #[.p br, Sx.nA k ta nm nn nA ks nc, .pointer (some (⟨ab, 0, none⟩)), .pointer (some (⟨bb, 0, none⟩))] w K := by
 obtain ⟨L0, ak, H⟩ := Sx.bX H0;refine xu (vs := [.p br, Sx.nA k ta nm nn nA ks nc, .pointer (some (⟨ab, 0, none⟩)), .pointer (some (⟨bb, 0, none⟩))]) 112 Tryz.func69 ?_;have au := RJ hf;rcases au with ⟨hk, hr⟩ | ⟨hk, hr⟩ | ⟨hk, x, y, ⟨hx, hy⟩, v, hr, ⟨h1, hv⟩ | ⟨h1, h2, hv⟩ | ⟨h1, h2, h3, hv⟩ | ⟨h1, h2, h3, h4, hv⟩ | ⟨h1, h2, h3, h4, hv⟩⟩ | ⟨hk, Ul⟩
 · refine xf 2 H fun k1 w1 H1 => ?_;refine xb 5 5 H1 <| xp 5 (.bool ((k : Int) == (12 : Int))) (.bool true) (eT (by omega)) <| xf 9 H1 fun k2 w2 H2 => xd 2 0 H2 fun w3 H3 => xh 2 [] H3 (.tuple #[]) ?_;have m1 : aL w3 S T sp [.env eo e, .aG (PN.mk k ta nm nn nA nc ks), .val ab av, .val bb bv] := ay H3 2 (by kernel_rfl);have au := m0 m1 H3 [2, 5] sp [.env eo e, .aG (PN.mk k ta nm nn nA nc ks), .vo (some k2) (some (.pair av bv))] k2 137 #[.int .i64 5, .int .i64 0, .pointer (some (⟨ab, 0, none⟩)), .pointer (some (⟨bb, 0, none⟩)), .int .i64 0, .int .i64 0, .string eB, .int .i64 0, .slice none 0 0, .pointer none, .slice none 0 0, .string eB, .bool false, .bool false] (by kernel_rfl) (fun S' h hb hc => aL.l3 h.1 (h.2 _ j0) (h.2 _ j1) (.pair hb hc (h.2 (.val ab av) j2) (h.2 (.val bb bv) j3)));obtain ⟨S1, H4⟩ := au;subst ak;exact hK S1 T As ns cs sp k ta nm nn nA nc ks eo e (some k2) (some (.pair av bv)) us _ (H4.pick [1, 1, 0, 0, 0] (by kernel_rfl)) (by rw [hr]) nW.1 ng
 · refine xf 2 H fun k3 w4 H5 => ?_;refine xb 5 5 H5 <| xp 5 (.bool ((k : Int) == (12 : Int))) (.bool false) (eF (by omega)) <| xp 6 (.bool ((k : Int) == (16 : Int))) (.bool true) (eT (by omega)) <| xf 9 H5 fun k4 w5 H6 => xd 2 0 H6 fun w6 H7 => xh 2 [] H7 (.tuple #[]) ?_;have m2 : aL w6 S T sp [.env eo e, .aG (PN.mk k ta nm nn nA nc ks), .val ab av, .val bb bv] := ay H7 2 (by kernel_rfl);have au := m0 m2 H7 [2, 5] sp [.env eo e, .aG (PN.mk k ta nm nn nA nc ks), .vo (some k4) (some (.cons av bv))] k4 137 #[.int .i64 4, .int .i64 0, .pointer (some (⟨ab, 0, none⟩)), .pointer (some (⟨bb, 0, none⟩)), .int .i64 0, .int .i64 0, .string eB, .int .i64 0, .slice none 0 0, .pointer none, .slice none 0 0, .string eB, .bool false, .bool false] (by kernel_rfl) (fun S' h hb hc => aL.l3 h.1 (h.2 _ j0) (h.2 _ j1) (.cons hb hc (h.2 (.val ab av) j2) (h.2 (.val bb bv) j3)));obtain ⟨S2, H8⟩ := au;subst ak;exact hK S2 T As ns cs sp k ta nm nn nA nc ks eo e (some k4) (some (.cons av bv)) us _ (H8.pick [1, 1, 0, 0, 0] (by kernel_rfl)) (by rw [hr]) nW.1 ng
 · refine xf 2 H fun k5 w7 H9 => ?_;refine xb 5 5 H9 <| xp 5 (.bool ((k : Int) == (12 : Int))) (.bool false) (eF (by omega)) <| xp 6 (.bool ((k : Int) == (16 : Int))) (.bool false) (eF (by omega)) <| xp 6 (.bool ((k : Int) == (18 : Int))) (.bool true) (eT (by omega)) <| xb 7 5 H9 <| xp 5 (.bool (nm.toList == (bY [43]).toList)) (.bool true) (eb h1) ?_;refine xw 4 H9 [2] [] (LJ := [mI S T sp [.env eo e, .aG (PN.mk k ta nm nn nA nc ks), .val ab av, .val bb bv]]) (by kernel_rfl) fun w8 aY => xm [(0, none), (1, none), (2, none)] (aY.sb [2]) <| ym 3 [] (⟨ab, 0, none⟩) 1 (aY.sb [2]) ?_;have m3 : aL w8 S T sp [.env eo e, .aG (PN.mk k ta nm nn nA nc ks), .val ab av, .val bb bv] := ay aY 2 (by kernel_rfl);refine yg (c := 1) (t := 3) 4 [] [.int .i64 x] (.int .i64 x) (fun w' hs => (aa (dm.pL ((Go.aS.cQ hs 0 (it := mI S T sp [.env eo e, .aG (PN.mk k ta nm nn nA nc ks), .val ab av, .val bb bv]) (by kernel_rfl)).1.2 (.val ab av) j2) hx) (by decide : 1 + 1 ≤ 14))) (aY.sb [2]) <| xm [(5, none), (6, none)] (aY.sb [2]) <| ym 7 [] (⟨bb, 0, none⟩) 1 (aY.sb [2]) <| yg (c := 1) (t := 3) 8 [] [.int .i64 y] (.int .i64 y) (fun w' hs => (aa (dm.pL ((Go.aS.cQ hs 0 (it := mI S T sp [.env eo e, .aG (PN.mk k ta nm nn nA nc ks), .val ab av, .val bb bv]) (by kernel_rfl)).1.2 (.val bb bv) j3) hy) (by decide : 1 + 1 ≤ 14))) (aY.sb [2]) <| Sx.L2 9 [] (.int .i64 (IntKind.i64.wrap (x + y))) (.int .i64 (IntKind.i64.wrap (x + y))) (rfl) (aY.sb [2]) <| xm [(10, none)] (aY.sb [2]) ?_;refine xg ?_;intro gy;refine xi 11 <| xf 0 aY fun k6 w9 aZ => xe (x := gy) 11 (aZ.sb [2]) <| xm [(12, none), (13, none)] (aZ.sb [2]) <| xg ?_;intro im;refine xi 14 <| xd 0 0 aZ fun cJ aP => xe (x := im) 14 (aP.sb [2]) <| xt <| xh 2 [] aP (.tuple #[]) ?_;have m4 : aL cJ S T sp [.env eo e, .aG (PN.mk k ta nm nn nA nc ks), .val ab av, .val bb bv] := ay aP 2 (by kernel_rfl);have au := m0 m4 aP [2, 5] sp [.env eo e, .aG (PN.mk k ta nm nn nA nc ks), .vo (some k6) (some (.int (IntKind.i64.wrap (x + y))))] k6 137 (vA 0 (.int .i64 (IntKind.i64.wrap (x + y))) (.pointer none) (.pointer none) (.pointer none)) (by kernel_rfl) (fun S' h hb hc => aL.l3 h.1 (h.2 _ j0) (h.2 _ j1) (.int hb hc));obtain ⟨S3, bF⟩ := au;subst ak;exact hK S3 T As ns cs sp k ta nm nn nA nc ks eo e (some k6) (some (.int (IntKind.i64.wrap (x + y)))) us _ (bF.pick [1, 1, 0, 0, 0] (by kernel_rfl)) (by rw [hr, hv]) nW.1 ng
 · refine xf 2 H fun k7 fU bq => ?_;refine xb 5 5 bq <| xp 5 (.bool ((k : Int) == (12 : Int))) (.bool false) (eF (by omega)) <| xp 6 (.bool ((k : Int) == (16 : Int))) (.bool false) (eF (by omega)) <| xp 6 (.bool ((k : Int) == (18 : Int))) (.bool true) (eT (by omega)) <| xb 7 5 bq <| xp 5 (.bool (nm.toList == (bY [43]).toList)) (.bool false) (eb h1) ?_;refine xp 6 (.bool (nm.toList == (bY [45]).toList)) (.bool true) (eb h2) <| xw 4 bq [2] [] (LJ := [mI S T sp [.env eo e, .aG (PN.mk k ta nm nn nA nc ks), .val ab av, .val bb bv]]) (by kernel_rfl) fun gV bu => xm [(0, none), (1, none), (2, none)] (bu.sb [2]) <| ym 3 [] (⟨ab, 0, none⟩) 1 (bu.sb [2]) ?_;have m5 : aL gV S T sp [.env eo e, .aG (PN.mk k ta nm nn nA nc ks), .val ab av, .val bb bv] := ay bu 2 (by kernel_rfl);refine yg (c := 1) (t := 3) 4 [] [.int .i64 x] (.int .i64 x) (fun w' hs => (aa (dm.pL ((Go.aS.cQ hs 0 (it := mI S T sp [.env eo e, .aG (PN.mk k ta nm nn nA nc ks), .val ab av, .val bb bv]) (by kernel_rfl)).1.2 (.val ab av) j2) hx) (by decide : 1 + 1 ≤ 14))) (bu.sb [2]) <| xm [(5, none), (6, none)] (bu.sb [2]) <| ym 7 [] (⟨bb, 0, none⟩) 1 (bu.sb [2]) <| yg (c := 1) (t := 3) 8 [] [.int .i64 y] (.int .i64 y) (fun w' hs => (aa (dm.pL ((Go.aS.cQ hs 0 (it := mI S T sp [.env eo e, .aG (PN.mk k ta nm nn nA nc ks), .val ab av, .val bb bv]) (by kernel_rfl)).1.2 (.val bb bv) j3) hy) (by decide : 1 + 1 ≤ 14))) (bu.sb [2]) <| Sx.L2 9 [] (.int .i64 (IntKind.i64.wrap (x - y))) (.int .i64 (IntKind.i64.wrap (x - y))) (rfl) (bu.sb [2]) <| xm [(10, none)] (bu.sb [2]) ?_;refine xg ?_;intro kc;refine xi 11 <| xf 0 bu fun k8 iq bS => xe (x := kc) 11 (bS.sb [2]) <| xm [(12, none), (13, none)] (bS.sb [2]) <| xg ?_;intro o5;refine xi 14 <| xd 0 0 bS fun iF bx => xe (x := o5) 14 (bx.sb [2]) <| xt <| xh 2 [] bx (.tuple #[]) ?_;have m6 : aL iF S T sp [.env eo e, .aG (PN.mk k ta nm nn nA nc ks), .val ab av, .val bb bv] := ay bx 2 (by kernel_rfl);have au := m0 m6 bx [2, 5] sp [.env eo e, .aG (PN.mk k ta nm nn nA nc ks), .vo (some k8) (some (.int (IntKind.i64.wrap (x - y))))] k8 137 (vA 0 (.int .i64 (IntKind.i64.wrap (x - y))) (.pointer none) (.pointer none) (.pointer none)) (by kernel_rfl) (fun S' h hb hc => aL.l3 h.1 (h.2 _ j0) (h.2 _ j1) (.int hb hc));obtain ⟨S4, cV⟩ := au;subst ak;exact hK S4 T As ns cs sp k ta nm nn nA nc ks eo e (some k8) (some (.int (IntKind.i64.wrap (x - y)))) us _ (cV.pick [1, 1, 0, 0, 0] (by kernel_rfl)) (by rw [hr, hv]) nW.1 ng
 · refine xf 2 H fun k9 kr bZ => ?_;refine xb 5 5 bZ <| xp 5 (.bool ((k : Int) == (12 : Int))) (.bool false) (eF (by omega)) <| xp 6 (.bool ((k : Int) == (16 : Int))) (.bool false) (eF (by omega)) <| xp 6 (.bool ((k : Int) == (18 : Int))) (.bool true) (eT (by omega)) <| xb 7 5 bZ <| xp 5 (.bool (nm.toList == (bY [43]).toList)) (.bool false) (eb h1) ?_;refine xp 6 (.bool (nm.toList == (bY [45]).toList)) (.bool false) (eb h2) <| xp 6 (.bool (nm.toList == (bY [42]).toList)) (.bool true) (eb h3) <| xw 4 bZ [2] [] (LJ := [mI S T sp [.env eo e, .aG (PN.mk k ta nm nn nA nc ks), .val ab av, .val bb bv]]) (by kernel_rfl) fun ku cj => xm [(0, none), (1, none), (2, none)] (cj.sb [2]) <| ym 3 [] (⟨ab, 0, none⟩) 1 (cj.sb [2]) ?_;have m7 : aL ku S T sp [.env eo e, .aG (PN.mk k ta nm nn nA nc ks), .val ab av, .val bb bv] := ay cj 2 (by kernel_rfl);refine yg (c := 1) (t := 3) 4 [] [.int .i64 x] (.int .i64 x) (fun w' hs => (aa (dm.pL ((Go.aS.cQ hs 0 (it := mI S T sp [.env eo e, .aG (PN.mk k ta nm nn nA nc ks), .val ab av, .val bb bv]) (by kernel_rfl)).1.2 (.val ab av) j2) hx) (by decide : 1 + 1 ≤ 14))) (cj.sb [2]) <| xm [(5, none), (6, none)] (cj.sb [2]) <| ym 7 [] (⟨bb, 0, none⟩) 1 (cj.sb [2]) <| yg (c := 1) (t := 3) 8 [] [.int .i64 y] (.int .i64 y) (fun w' hs => (aa (dm.pL ((Go.aS.cQ hs 0 (it := mI S T sp [.env eo e, .aG (PN.mk k ta nm nn nA nc ks), .val ab av, .val bb bv]) (by kernel_rfl)).1.2 (.val bb bv) j3) hy) (by decide : 1 + 1 ≤ 14))) (cj.sb [2]) <| Sx.L2 9 [] (.int .i64 (IntKind.i64.wrap (x * y))) (.int .i64 (IntKind.i64.wrap (x * y))) (rfl) (cj.sb [2]) <| xm [(10, none)] (cj.sb [2]) ?_;refine xg ?_;intro tO;refine xi 11 <| xf 0 cj fun nY ke cC => xe (x := tO) 11 (cC.sb [2]) <| xm [(12, none), (13, none)] (cC.sb [2]) <| xg ?_;intro zX;refine xi 14 <| xd 0 0 cC fun mm c_ => xe (x := zX) 14 (c_.sb [2]) <| xt <| xh 2 [] c_ (.tuple #[]) ?_;have m8 : aL mm S T sp [.env eo e, .aG (PN.mk k ta nm nn nA nc ks), .val ab av, .val bb bv] := ay c_ 2 (by kernel_rfl);have au := m0 m8 c_ [2, 5] sp [.env eo e, .aG (PN.mk k ta nm nn nA nc ks), .vo (some nY) (some (.int (IntKind.i64.wrap (x * y))))] nY 137 (vA 0 (.int .i64 (IntKind.i64.wrap (x * y))) (.pointer none) (.pointer none) (.pointer none)) (by kernel_rfl) (fun S' h hb hc => aL.l3 h.1 (h.2 _ j0) (h.2 _ j1) (.int hb hc));obtain ⟨S5, dJ⟩ := au;subst ak;exact hK S5 T As ns cs sp k ta nm nn nA nc ks eo e (some nY) (some (.int (IntKind.i64.wrap (x * y)))) us _ (dJ.pick [1, 1, 0, 0, 0] (by kernel_rfl)) (by rw [hr, hv]) nW.1 ng
 · refine xf 2 H fun KN nX cW => ?_;refine xb 5 5 cW <| xp 5 (.bool ((k : Int) == (12 : Int))) (.bool false) (eF (by omega)) <| xp 6 (.bool ((k : Int) == (16 : Int))) (.bool false) (eF (by omega)) <| xp 6 (.bool ((k : Int) == (18 : Int))) (.bool true) (eT (by omega)) <| xb 7 5 cW <| xp 5 (.bool (nm.toList == (bY [43]).toList)) (.bool false) (eb h1) ?_;refine xp 6 (.bool (nm.toList == (bY [45]).toList)) (.bool false) (eb h2) <| xp 6 (.bool (nm.toList == (bY [42]).toList)) (.bool false) (eb h3) <| xp 6 (.bool (nm.toList == (bY [60]).toList)) (.bool true) (eb h4) <| xw 4 cW [2] [] (LJ := [mI S T sp [.env eo e, .aG (PN.mk k ta nm nn nA nc ks), .val ab av, .val bb bv]]) (by kernel_rfl) fun o4 cK => xm [(0, none), (1, none), (2, none)] (cK.sb [2]) <| ym 3 [] (⟨ab, 0, none⟩) 1 (cK.sb [2]) ?_;have m9 : aL o4 S T sp [.env eo e, .aG (PN.mk k ta nm nn nA nc ks), .val ab av, .val bb bv] := ay cK 2 (by kernel_rfl);refine yg (c := 1) (t := 3) 4 [] [.int .i64 x] (.int .i64 x) (fun w' hs => (aa (dm.pL ((Go.aS.cQ hs 0 (it := mI S T sp [.env eo e, .aG (PN.mk k ta nm nn nA nc ks), .val ab av, .val bb bv]) (by kernel_rfl)).1.2 (.val ab av) j2) hx) (by decide : 1 + 1 ≤ 14))) (cK.sb [2]) <| xm [(5, none), (6, none)] (cK.sb [2]) <| ym 7 [] (⟨bb, 0, none⟩) 1 (cK.sb [2]) <| yg (c := 1) (t := 3) 8 [] [.int .i64 y] (.int .i64 y) (fun w' hs => (aa (dm.pL ((Go.aS.cQ hs 0 (it := mI S T sp [.env eo e, .aG (PN.mk k ta nm nn nA nc ks), .val ab av, .val bb bv]) (by kernel_rfl)).1.2 (.val bb bv) j3) hy) (by decide : 1 + 1 ≤ 14))) (cK.sb [2]) <| xm [(9, none)] (cK.sb [2]) <| xg ?_;intro Cu;refine xi 10 ?_;refine x0 0 [] cK (fun Hp R hZ => Bb T (decide (x < y)) o4 R Hp  (fun b1 S6 kR G1 => hZ _ _ _ G1 fun ef => ?_));refine xe (x := Cu) 10 (ef.sb [3]) <| xm [(11, none), (12, none)] (ef.sb [3]) <| xg ?_;intro Dn;refine xi 13 <| xd 0 1 ef fun ry eL => xe (x := Dn) 13 (eL.sb [3]) <| xt <| xh 2 [] eL (.tuple #[]) ?_;have au := Mm (S := S) (S2 := S6) (T := T) (sp := sp) (l := [.env eo e, .aG (PN.mk k ta nm nn nA nc ks), .val ab av, .val bb bv]) (sp2 := []) (l2 := [.val b1 (.bool (decide (x < y)))]) (jr := sp) (l' := [.env eo e, .aG (PN.mk k ta nm nn nA nc ks), .vo (some b1) (some (.bool (decide (x < y))))]) eL [3, 0] (by kernel_rfl) (fun S' h h2 => aL.l3 h.1 (h.2 _ j0) (h.2 _ j1) h2.val);obtain ⟨S7, iU⟩ := au;subst ak;exact hK S7 T As ns cs sp k ta nm nn nA nc ks eo e (some b1) (some (.bool (decide (x < y)))) us _ (iU.pick [1, 1, 0, 0, 0] (by kernel_rfl)) (by rw [hr, hv]) nW.1 ng
 · refine xf 2 H fun MC tK eC => ?_;refine xb 5 5 eC <| xp 5 (.bool ((k : Int) == (12 : Int))) (.bool false) (eF (by omega)) <| xp 6 (.bool ((k : Int) == (16 : Int))) (.bool false) (eF (by omega)) <| xp 6 (.bool ((k : Int) == (18 : Int))) (.bool true) (eT (by omega)) <| xb 7 5 eC <| xp 5 (.bool (nm.toList == (bY [43]).toList)) (.bool false) (eb h1) ?_;refine xp 6 (.bool (nm.toList == (bY [45]).toList)) (.bool false) (eb h2) <| xp 6 (.bool (nm.toList == (bY [42]).toList)) (.bool false) (eb h3) <| xp 6 (.bool (nm.toList == (bY [60]).toList)) (.bool false) (eb h4) <| xw 4 eC [2] [] (LJ := [mI S T sp [.env eo e, .aG (PN.mk k ta nm nn nA nc ks), .val ab av, .val bb bv]]) (by kernel_rfl) fun qB dz => xm [(0, none), (1, none), (2, none)] (dz.sb [2]) <| ym 3 [] (⟨ab, 0, none⟩) 1 (dz.sb [2]) ?_;have Ct : aL qB S T sp [.env eo e, .aG (PN.mk k ta nm nn nA nc ks), .val ab av, .val bb bv] := ay dz 2 (by kernel_rfl);refine yg (c := 1) (t := 3) 4 [] [.int .i64 x] (.int .i64 x) (fun w' hs => (aa (dm.pL ((Go.aS.cQ hs 0 (it := mI S T sp [.env eo e, .aG (PN.mk k ta nm nn nA nc ks), .val ab av, .val bb bv]) (by kernel_rfl)).1.2 (.val ab av) j2) hx) (by decide : 1 + 1 ≤ 14))) (dz.sb [2]) <| xm [(5, none), (6, none)] (dz.sb [2]) <| ym 7 [] (⟨bb, 0, none⟩) 1 (dz.sb [2]) <| yg (c := 1) (t := 3) 8 [] [.int .i64 y] (.int .i64 y) (fun w' hs => (aa (dm.pL ((Go.aS.cQ hs 0 (it := mI S T sp [.env eo e, .aG (PN.mk k ta nm nn nA nc ks), .val ab av, .val bb bv]) (by kernel_rfl)).1.2 (.val bb bv) j3) hy) (by decide : 1 + 1 ≤ 14))) (dz.sb [2]) <| xm [(9, none)] (dz.sb [2]) <| xg ?_;intro Cv;refine xi 10 ?_;refine x0 0 [] dz (fun Hp R hZ => Bb T (x == y) qB R Hp  (fun b2 S8 um G2 => hZ _ _ _ G2 fun dS => ?_));refine xe (x := Cv) 10 (dS.sb [3]) <| xm [(11, none), (12, none)] (dS.sb [3]) <| xg ?_;intro rD;refine xi 13 <| xd 0 1 dS fun pK fy => xe (x := rD) 13 (fy.sb [3]) <| xt <| xh 2 [] fy (.tuple #[]) ?_;have au := Mm (S := S) (S2 := S8) (T := T) (sp := sp) (l := [.env eo e, .aG (PN.mk k ta nm nn nA nc ks), .val ab av, .val bb bv]) (sp2 := []) (l2 := [.val b2 (.bool (x == y))]) (jr := sp) (l' := [.env eo e, .aG (PN.mk k ta nm nn nA nc ks), .vo (some b2) (some (.bool (x == y)))]) fy [3, 0] (by kernel_rfl) (fun S' h h2 => aL.l3 h.1 (h.2 _ j0) (h.2 _ j1) h2.val);obtain ⟨S9, kv⟩ := au;subst ak;exact hK S9 T As ns cs sp k ta nm nn nA nc ks eo e (some b2) (some (.bool (x == y))) us _ (kv.pick [1, 1, 0, 0, 0] (by kernel_rfl)) (by rw [hr, hv]) nW.1 ng
 refine xf 2 H fun KP tL gi => xb 5 5 gi <| xp 5 (.bool ((k : Int) == (12 : Int))) (.bool false) (eF (by omega)) <| xp 6 (.bool ((k : Int) == (16 : Int))) (.bool false) (eF (by omega)) <| xp 6 (.bool ((k : Int) == (18 : Int))) (.bool false) (eF (by omega)) ?_;refine x0 8 [0, 0, 0, 0, 0] gi (fun Hp R hZ => RK S T us mp e r' br As ns cs sp k ta nm nn nA nc ks eo bo steps ab av bb bv tL R Hp nW ng fB Ul (fun MD RL ME MG MH wi MI MJ wj wm wq wu wv Bd RM Be MK Bf tM G3 wx wy Bg => hZ _ _ _ G3 fun fP => ?_));refine xh 2 [] fP (.tuple #[]) ?_;subst ak;exact hK MD RL ME MG MH wi MI MJ wj wm wq wu wv Bd RM Be MK Bf _ (fP.pick [0, 0, 0, 0, 0] (by kernel_rfl)) wx wy Bg
end Mr
end Go.Proofs.YtdmdecgoebnamaaGreat
namespace Go.Mn
open Go.RowKit Go.Sx Go.aS Go.Gx
inductive BK (once : Nm → Bool) (st : List Fr) (us : List Bool) (a : Nat) (nm : Nm) (n : Int) (A : Option Addr) (c : Nat) (ks : List PN) (at_ : Nat) (e : En) (v : Option Vl) (x : Vl) : Nat → Rn → Prop
 | Wf {k fd fe d} (hk : k = 2 ∨ k = 9) (hn : n = 1) (hx : x = .fn fd fe) (hd : ks[1]? = some d) : BK once st us a nm n A c ks at_ e v x k ⟨st, d, .put nm (.fn fd (.rc nm fd e)) e, none, us⟩
 | Wg {k d} (hk : k = 2 ∨ k = 9) (hn : ¬ n = 1) (hd : ks[1]? = some d) : BK once st us a nm n A c ks at_ e v x k ⟨st, d, .put nm x e, none, us⟩
 | seq {d} (hd : ks[1]? = some d) : BK once st us a nm n A c ks at_ e v x 10 ⟨st, d, e, none, us⟩
 | ifT {z d f} (hx : x = .bool true) (rB : ks = [z, d, f]) : BK once st us a nm n A c ks at_ e v x 11 ⟨st, d, e, none, us⟩
 | ifF {z d f} (hx : x = .bool false) (rB : ks = [z, d, f]) : BK once st us a nm n A c ks at_ e v x 11 ⟨st, f, e, none, us⟩
 | fst {y z} (hx : x = .pair y z) : BK once st us a nm n A c ks at_ e v x 13 ⟨st, .mk 13 a nm n A c ks, e, some y, us⟩
 | snd {y z} (hx : x = .pair y z) : BK once st us a nm n A c ks at_ e v x 14 ⟨st, .mk 14 a nm n A c ks, e, some z, us⟩
 | cons {y z p1 p2 p s d} (hx : x = .cons y z) (rB : ks = [p1, p2, p, s, d]) : BK once st us a nm n A c ks at_ e v x 17 ⟨st, d, .put s.nm z (.put p.nm y e), none, us⟩
 | nil {p1 d p s p2} (hx : x = .nil) (rB : ks = [p1, d, p, s, p2]) : BK once st us a nm n A c ks at_ e v x 17 ⟨st, d, e, none, us⟩
 | aao {r} (h : pE once ⟨st, .mk 19 a nm n A c ks, e, none, us⟩ nm x = some r) : BK once st us a nm n A c ks at_ e v x 19 r
 | hnd {cl d} (hd : ks[1]? = some cl) (hc : cl.ks = [d]) : BK once st us a nm n A c ks at_ e v x 20 ⟨st, d, .put cl.nm x e, none, us⟩
 | nB {k d} (hk : k = 8 ∨ k = 12 ∨ k = 16 ∨ k = 18) (Ug : at_ = 0) (hd : ks[1]? = some d) : BK once st us a nm n A c ks at_ e v x k ⟨st ++ [.mk (.mk k a nm n A c ks) 1 e (some x)], d, e, none, us⟩
 | both {k f r} (hk : k = 8 ∨ k = 12 ∨ k = 16 ∨ k = 18) (Ug : ¬ at_ = 0) (hv : v = some f) (h : zN ⟨st, .mk k a nm n A c ks, e, none, us⟩ f x = some r) : BK once st us a nm n A c ks at_ e v x k r
theorem RN {once : Nm → Bool} {sp : List FP} {gF : PN} {e0 : En} {us : List Bool} {x : Vl} {r' : Rn} {ns : Nat} (nW : ns = sp.length) (h : C0 once ⟨sp.map (·.f), gF, e0, none, us⟩ x = some r') :
   ∃ (qk qa : Nat) (bW : Nm) (qn : Int) (qA : Option Addr) (qc : Nat) (bH : List PN) (Bc : Nat) (qe : En) (qv : Option Vl) (qo gl : Option Nat), sp[ns - 1]? = some ⟨.mk (.mk qk qa bW qn qA qc bH) Bc qe qv, qo, gl⟩ ∧ 0 < ns ∧
     BK once ((sp.take (ns - 1)).map (·.f)) us qa bW qn qA qc bH Bc qe qv x qk r' := by
 subst nW;unfold C0 at h;simp only at h;have hd : (sp.map (·.f)).dropLast = (sp.take (sp.length - 1)).map (·.f) := by rw [List.dropLast_eq_take, List.length_map, List.map_take]
 rw [hd, List.getLast?_eq_getElem?, List.length_map] at h;generalize (sp.take (sp.length - 1)).map (·.f) = st at h ⊢;split at h
 · cases h
 · rename_i nd at_ e fv hq;obtain ⟨o, vo, hs⟩ := Mt hq;have QK : 0 < sp.length := by have := (List.getElem?_eq_some_iff.1 hs).1; omega
   obtain ⟨k, a, nm, n, A, c, ks⟩ := nd;refine ⟨k, a, nm, n, A, c, ks, at_, e, fv, o, vo, hs, QK, ?_⟩;clear hq hs hd;simp only [PN.k, PN.n, PN.ks, PN.nm] at h;split at h
   · simp only [beq_iff_eq] at h;split at h
     · rename_i q;split at h
       · rename_i d hd; cases h; exact .Wf (.inl rfl) q rfl hd
       · cases h
     · rename_i q;split at h
       · rename_i d hd; cases h; exact .Wg (.inl rfl) q hd
       · cases h
   · simp only [beq_iff_eq] at h;split at h
     · rename_i q;split at h
       · rename_i d hd; cases h; exact .Wf (.inr rfl) q rfl hd
       · cases h
     · rename_i q;split at h
       · rename_i d hd; cases h; exact .Wg (.inr rfl) q hd
       · cases h
   · split at h
     · rename_i d hd; cases h; exact .seq hd
     · cases h
   · split at h
     · rename_i b z d f;cases h;cases b with
       | true => exact .ifT rfl rfl
       | false => exact .ifF rfl rfl
     · cases h
   · split at h
     · cases h; exact .fst rfl
     · cases h
   · split at h
     · cases h; exact .snd rfl
     · cases h
   · split at h
     · cases h; exact .cons rfl rfl
     · cases h; exact .nil rfl rfl
     · cases h
   · exact .aao h
   · split at h
     · rename_i cl tD;obtain ⟨k1, a1, lq, n1, A1, c1, ks1⟩ := cl;simp only [PN.ks, PN.nm] at h;split at h
       · cases h; exact .hnd tD rfl
       · cases h
     · cases h
   · split at h
     · rename_i q;unfold E6 at h;simp only [PN.ks] at h;split at h
       · rename_i d hd; cases h; exact .nB (.inl rfl) q hd
       · cases h
     · rename_i q;split at h
       · exact .both (.inl rfl) q rfl h
       · cases h
   · split at h
     · rename_i q;unfold E6 at h;simp only [PN.ks] at h;split at h
       · rename_i d hd; cases h; exact .nB (.inr (.inl rfl)) q hd
       · cases h
     · rename_i q;split at h
       · exact .both (.inr (.inl rfl)) q rfl h
       · cases h
   · split at h
     · rename_i q;unfold E6 at h;simp only [PN.ks] at h;split at h
       · rename_i d hd; cases h; exact .nB (.inr (.inr (.inl rfl))) q hd
       · cases h
     · rename_i q;split at h
       · exact .both (.inr (.inr (.inl rfl))) q rfl h
       · cases h
   · split at h
     · rename_i q;unfold E6 at h;simp only [PN.ks] at h;split at h
       · rename_i d hd; cases h; exact .nB (.inr (.inr (.inr rfl))) q hd
       · cases h
     · rename_i q;split at h
       · exact .both (.inr (.inr (.inr rfl))) q rfl h
       · cases h
   · cases h
theorem BK.cs {once : Nm → Bool} {st : List Fr} {us : List Bool} {a : Nat} {nm : Nm} {n : Int} {A : Option Addr} {c : Nat} {ks : List PN} {at_ : Nat} {e : En} {v : Option Vl} {x : Vl} {k : Nat} {r : Rn} (h : BK once st us a nm n A c ks at_ e v x k r) :
   (∃ fd fe d, (k = 2 ∨ k = 9) ∧ n = 1 ∧ x = .fn fd fe ∧ ks[1]? = some d ∧ r = ⟨st, d, .put nm (.fn fd (.rc nm fd e)) e, none, us⟩) ∨
   (∃ d, (k = 2 ∨ k = 9) ∧ ¬ n = 1 ∧ ks[1]? = some d ∧ r = ⟨st, d, .put nm x e, none, us⟩) ∨
   (∃ d, k = 10 ∧ ks[1]? = some d ∧ r = ⟨st, d, e, none, us⟩) ∨
   (∃ z d f, k = 11 ∧ x = .bool true ∧ ks = [z, d, f] ∧ r = ⟨st, d, e, none, us⟩) ∨
   (∃ z f d, k = 11 ∧ x = .bool false ∧ ks = [z, f, d] ∧ r = ⟨st, d, e, none, us⟩) ∨
   (∃ y z, k = 13 ∧ x = .pair y z ∧ r = ⟨st, .mk k a nm n A c ks, e, some y, us⟩) ∨
   (∃ y z, k = 14 ∧ x = .pair y z ∧ r = ⟨st, .mk k a nm n A c ks, e, some z, us⟩) ∨
   (∃ y z p1 p2 p s d, k = 17 ∧ x = .cons y z ∧ ks = [p1, p2, p, s, d] ∧ r = ⟨st, d, .put s.nm z (.put p.nm y e), none, us⟩) ∨
   (∃ p1 d p s p2, k = 17 ∧ x = .nil ∧ ks = [p1, d, p, s, p2] ∧ r = ⟨st, d, e, none, us⟩) ∨
   (k = 19 ∧ pE once ⟨st, .mk k a nm n A c ks, e, none, us⟩ nm x = some r) ∨
   (∃ ck ca Dk cn cA cc d, k = 20 ∧ ks[1]? = some (.mk ck ca Dk cn cA cc [d]) ∧ r = ⟨st, d, .put Dk x e, none, us⟩) ∨
   (∃ d, (k = 8 ∨ k = 12 ∨ k = 16 ∨ k = 18) ∧ at_ = 0 ∧ ks[1]? = some d ∧ r = ⟨st ++ [.mk (.mk k a nm n A c ks) 1 e (some x)], d, e, none, us⟩) ∨
   (∃ f, (k = 8 ∨ k = 12 ∨ k = 16 ∨ k = 18) ∧ ¬ at_ = 0 ∧ v = some f ∧ zN ⟨st, .mk k a nm n A c ks, e, none, us⟩ f x = some r) := by
 cases h with
 | Wf hk hn hx hd => exact .inl ⟨_, _, _, hk, hn, hx, hd, rfl⟩
 | Wg hk hn hd => exact .inr (.inl ⟨_, hk, hn, hd, rfl⟩)
 | seq hd => exact .inr (.inr (.inl ⟨_, rfl, hd, rfl⟩))
 | ifT hx rB => exact .inr (.inr (.inr (.inl ⟨_, _, _, rfl, hx, rB, rfl⟩)))
 | ifF hx rB => exact .inr (.inr (.inr (.inr (.inl ⟨_, _, _, rfl, hx, rB, rfl⟩))))
 | fst hx => exact .inr (.inr (.inr (.inr (.inr (.inl ⟨_, _, rfl, hx, rfl⟩)))))
 | snd hx => exact .inr (.inr (.inr (.inr (.inr (.inr (.inl ⟨_, _, rfl, hx, rfl⟩))))))
 | cons hx rB => exact .inr (.inr (.inr (.inr (.inr (.inr (.inr (.inl ⟨_, _, _, _, _, _, _, rfl, hx, rB, rfl⟩)))))))
 | nil hx rB => exact .inr (.inr (.inr (.inr (.inr (.inr (.inr (.inr (.inl ⟨_, _, _, _, _, rfl, hx, rB, rfl⟩))))))))
 | aao h => exact .inr (.inr (.inr (.inr (.inr (.inr (.inr (.inr (.inr (.inl ⟨rfl, h⟩)))))))))
 | @hnd cl d hd hc =>
   obtain ⟨ck, ca, Dk, cn, cA, cc, cks⟩ := cl;have hc : cks = [d] := hc;subst hc;exact .inr (.inr (.inr (.inr (.inr (.inr (.inr (.inr (.inr (.inr (.inl ⟨_, _, _, _, _, _, _, rfl, hd, rfl⟩))))))))))
 | nB hk Ug hd => exact .inr (.inr (.inr (.inr (.inr (.inr (.inr (.inr (.inr (.inr (.inr (.inl ⟨_, hk, Ug, hd, rfl⟩)))))))))))
 | both hk Ug hv h => exact .inr (.inr (.inr (.inr (.inr (.inr (.inr (.inr (.inr (.inr (.inr (.inr ⟨_, hk, Ug, hv, h⟩)))))))))))
section
variable {w w0 : World} {S : Nat → Prop} {T : List RR} {sp : List FP} {b : Nat} {L0 L : List Sx.Item} {v : Vl}
theorem dm.Bh {z : Bool} (h : dm w S T b v) (hv : v = .bool z) : S b ∧ w.cells? 0 ⟨b, 0, none⟩ 14 = some (mZ 1 (if z then 1 else 0) none none pz none) := by
 subst hv;cases h with
 | bool hS h => exact ⟨hS, h⟩
theorem dm.HH (h : dm w S T b v) (hv : v = .nil) : S b ∧ w.cells? 0 ⟨b, 0, none⟩ 14 = some (mZ 3 0 none none pz none) := by
 subst hv;cases h with
 | nil hS h => exact ⟨hS, h⟩
theorem dm.sQ {y z : Vl} (h : dm w S T b v) (hv : v = .cons y z) : ∃ c d, (S b ∧ w.cells? 0 ⟨b, 0, none⟩ 14 = some (mZ 4 0 (some c) (some d) pz none)) ∧ dm w S T c y ∧ dm w S T d z := by
 subst hv;cases h with
 | cons hS h hx hy => exact ⟨_, _, ⟨hS, h⟩, hx, hy⟩
theorem dm.Fz {y z : Vl} (h : dm w S T b v) (hv : v = .pair y z) : ∃ c d, (S b ∧ w.cells? 0 ⟨b, 0, none⟩ 14 = some (mZ 5 0 (some c) (some d) pz none)) ∧ dm w S T c y ∧ dm w S T d z := by
 subst hv;cases h with
 | pair hS h hx hy => exact ⟨_, _, ⟨hS, h⟩, hx, hy⟩
theorem aap {l : List MF} {i at_ : Nat} {nd : PN} {e : En} {fv : Option Vl} {o vo : Option Nat} (h : aL w S T sp l) (hx : dm w S T b v) (hs : sp[i]? = some ⟨.mk nd at_ e fv, o, vo⟩) : aL w S T (sp.take i) [.env o e, .aG nd, .vo vo fv, .val b v] := by
 have hf := h.1 _ (List.mem_of_getElem? hs);obtain ⟨hk, he⟩ := tJ.nd hf;refine (aL.l3 (a := .env o e) (b := .aG nd) (c := .vo vo fv) (fun f hf => h.1 f (List.mem_of_mem_take hf)) he hk ?_).snoc hx;cases hf with
 | no _ _ => exact trivial
 | so _ hv _ => exact hv
theorem ML {o : Option Nat} (h : (MF.vo o (some v)).ok w S T) : ∃ b, o = some b ∧ dm w S T b v := by
 cases o with
 | none => exact h.elim
 | some b => exact ⟨b, rfl, h⟩
theorem FA (H : Hs w0 L0 w L) (I : List Nat) {jr : List FP} {l l' : List MF} {b1 b2 t1 t2 : Nat} {c1 c2 : Array Value} (hp : bp I L = some [mI S T sp l, .al b1 (.cells c1 t1), .al b2 (.cells c2 t2)])
   (h : ∀ S' : Nat → Prop, aL w S' T sp l → S' b1 → w.cells? 0 ⟨b1, 0, none⟩ c1.size = some c1.toList → S' b2 → w.cells? 0 ⟨b2, 0, none⟩ c2.size = some c2.toList → aL w S' T jr l') : ∃ S', Hs w0 L0 w (mI S' T jr l' :: rest I L) := by
 refine ⟨_, H.fz I hp (fun s => ?_) (qt _ _ _ _)⟩;have h0 : aL w S T sp l := (s.all _ (.head _)).1;have h2 : Has w b1 (.cells c1 t1) := s.all _ (.tail _ (.head _));have h3 : Has w b2 (.cells c2 t2) := s.all _ (.tail _ (.tail _ (.head _)));refine h _ (h0.up ⟨fun _ _ => rfl, fun c hc => ⟨_, .head _, hc⟩, fun _ _ h => h⟩) ⟨_, .tail _ (.head _), rfl⟩ ?_ ⟨_, .tail _ (.tail _ (.head _)), rfl⟩ ?_
 · refine ChangeShapes.cells?_of (Nat.zero_le _) (by simp) (fun j hj => ?_);rw [cell_of_row w b1 _ c1 t1 (0, 0) h2, Nat.zero_add]; simp
 · refine ChangeShapes.cells?_of (Nat.zero_le _) (by simp) (fun j hj => ?_);rw [cell_of_row w b2 _ c2 t2 (0, 0) h3, Nat.zero_add]; simp
end
end Go.Mn
