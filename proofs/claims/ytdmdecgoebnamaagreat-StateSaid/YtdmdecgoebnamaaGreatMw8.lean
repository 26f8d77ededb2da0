/- A part of the proof. -/
import Derived.Test.YtdmdecgoebnamaaGreatYb
import Derived.Test.YtdmdecgoebnamaaGreatInfSet
import Derived.Test.YtdmdecgoebnamaaGreatMd
import Derived.Test.YtdmdecgoebnamaaGreatSx7
import Derived.Test.YtdmdecgoebnamaaGreatProg
set_option linter.unusedVariables false
set_option linter.unusedSimpArgs false
namespace Go.Proofs.YtdmdecgoebnamaaGreat
open Go.RowKit Go.Sx Go.aR Go.Mn
attribute [local irreducible] Go.wpOps Go.Code.wp Go.wpOp Go.wpAnyH Go.Calls Go.Sx.Goal
set_option maxRecDepth 20000
namespace Mr
def zZ(k : Nat) : Prop := ∀(S : Φ)(T : List RR)(v : Vl)(t : Ξ)(b : Nat)(room : Int)(w : Ψ)(K : Ending -> Ψ -> Prop)(H0 : Sp w [mI S T ([]) [.val b v]])(hk : v.sz < k)(hrm : -2000000 <= room /\ room <= 1000)(hf : dK v room = some t)(hK : ∀ w', Hs w [mI S T ([]) [.val b v]] w' [mI S T [] [.val b v]] -> K (.returned (.string t)) w'),
   Calls Tryz.prog 107 #[.pointer (Χ b),.int .i64 room] w K
set_option maxHeartbeats 8000000 in
theorem MZ(k:Nat)(ih:zZ k):zZ (k+1):=by
 intro S T v t b room w K H0 hk hrm hf hK;obtain⟨L0,aq,H⟩:=Sx.cw H0;refine xu (vs:=[.pointer (Χ b),.int .i64 room]) 89 Tryz.func107 ?_;have ax:=Qp hf;rcases ax with⟨hz,ht⟩|⟨hz,⟨n,hv,hn,ht⟩|⟨hv,ht⟩|⟨hv,ht⟩|⟨hv,ht⟩|⟨a,b2,s,u,hv,xL,hu1,ht,Om⟩|⟨hv,ht⟩|⟨a,b2,s,hv,hl,ht,Om⟩|⟨nd,e,hv,ht⟩⟩
 . refine xq 9 (.bool (decide (room<=(0:Int)))) (.bool true) (dT (by omega)) ?_;refine xf 10 [] H (.string eB) ?_;subst ht;subst aq;exact hK _ (H.pick [0] (by kernel_rfl))
 . have m1:aO w S T ([]) [.val b v]:=aD H 0;have H1:=kZ m1 H 0 (by kernel_rfl) b 14 (Cw 0 (.int .i64 n) (.pointer none) (.pointer none) (.pointer none)) (d_.afr (aD (S:=S) (T:=T) (sp:=[]) (l:=[.val b v]) H 0).val hv);refine xq 9 (.bool (decide (room<=(0:Int)))) (.bool false) (dF (by omega))<|xz 10 (Υ b) 0 ?_;have m2:=H1.at 1 (it:=cI S b 14 (Cw 0 (.int .i64 n) (.pointer none) (.pointer none) (.pointer none))) (by kernel_rfl);refine xt (c:=1) (t:=3) 0 [.int .i64 0] (.int .i64 0) (aa m2.1.2 (by decide:0+1<=14))<|xz 14 (Υ b) 1<|xt (c:=1) (t:=3) 0 [.int .i64 n] (.int .i64 n) (aa m2.1.2 (by decide:1+1<=14)) ?_;refine xd 0 [] H1 (fun Hp R hZ=>aaC n w R Hp hn (fun w1 G1=>hZ _ _ _ G1 fun H2=>?_));refine xf 6 [] H2 (.string (DK n)) ?_;subst ht;subst aq;exact hK _ (H2.pick [0] (by kernel_rfl))
 . have m3:aO w S T ([]) [.val b v]:=aD H 0;have H3:=kZ m3 H 0 (by kernel_rfl) b 14 (Cw 1 (.int .i64 1) (.pointer none) (.pointer none) (.pointer none)) (d_.DF (aD (S:=S) (T:=T) (sp:=[]) (l:=[.val b v]) H 0).val hv);refine xq 9 (.bool (decide (room<=(0:Int)))) (.bool false) (dF (by omega))<|xz 10 (Υ b) 0 ?_;have m4:=H3.at 1 (it:=cI S b 14 (Cw 1 (.int .i64 1) (.pointer none) (.pointer none) (.pointer none))) (by kernel_rfl);refine xt (c:=1) (t:=3) 0 [.int .i64 1] (.int .i64 1) (aa m4.1.2 (by decide:0+1<=14))<|xz 22 (Υ b) 1<|xt (c:=1) (t:=3) 0 [.int .i64 1] (.int .i64 1) (aa m4.1.2 (by decide:1+1<=14))<|xf 13 [] H3 (.string (bY [116,114,117,101])) ?_;subst ht;subst aq;exact hK _ (H3.pick [0] (by kernel_rfl))
 . have m5:aO w S T ([]) [.val b v]:=aD H 0;have H4:=kZ m5 H 0 (by kernel_rfl) b 14 (Cw 1 (.int .i64 0) (.pointer none) (.pointer none) (.pointer none)) (d_.DF (aD (S:=S) (T:=T) (sp:=[]) (l:=[.val b v]) H 0).val hv);refine xq 9 (.bool (decide (room<=(0:Int)))) (.bool false) (dF (by omega))<|xz 10 (Υ b) 0 ?_;have m6:=H4.at 1 (it:=cI S b 14 (Cw 1 (.int .i64 0) (.pointer none) (.pointer none) (.pointer none))) (by kernel_rfl);refine xt (c:=1) (t:=3) 0 [.int .i64 1] (.int .i64 1) (aa m6.1.2 (by decide:0+1<=14))<|xz 22 (Υ b) 1<|xt (c:=1) (t:=3) 0 [.int .i64 0] (.int .i64 0) (aa m6.1.2 (by decide:1+1<=14))<|xf 14 [] H4 (.string (bY [102,97,108,115,101])) ?_;subst ht;subst aq;exact hK _ (H4.pick [0] (by kernel_rfl))
 . have m7:aO w S T ([]) [.val b v]:=aD H 0;have H5:=kZ m7 H 0 (by kernel_rfl) b 14 (Cw 2 (.int .i64 0) (.pointer none) (.pointer none) (.pointer none)) (d_.aaD (aD (S:=S) (T:=T) (sp:=[]) (l:=[.val b v]) H 0).val hv);refine xq 9 (.bool (decide (room<=(0:Int)))) (.bool false) (dF (by omega))<|xz 10 (Υ b) 0 ?_;have m8:=H5.at 1 (it:=cI S b 14 (Cw 2 (.int .i64 0) (.pointer none) (.pointer none) (.pointer none))) (by kernel_rfl);refine xt (c:=1) (t:=3) 0 [.int .i64 2] (.int .i64 2) (aa m8.1.2 (by decide:0+1<=14))<|xf 32 [] H5 (.string (bY [40,41])) ?_;subst ht;subst aq;exact hK _ (H5.pick [0] (by kernel_rfl))
 . have ax:=d_.ID (aD (S:=S) (T:=T) (sp:=[]) (l:=[.val b v]) H 0).val hv;obtain⟨yb,zb,V9,V_,Wa⟩:=ax;have m9:aO w S T ([]) [.val b v]:=aD H 0;have H6:=kZ m9 H 0 (by kernel_rfl) b 14 [.int .i64 5,.int .i64 0,.pointer (Χ yb),.pointer (Χ zb),.int .i64 0,.int .i64 0,.string eB,.int .i64 0,.slice none 0 0,.pointer none,.slice none 0 0,.string eB,.bool false,.bool false] V9;have E4:aO w S T ([]) [.val b v]:=aD H6 0;have H7:=eE E4 H6 0 (by kernel_rfl) ([]) [.val yb a] (⟨fun _ h=>(by cases h),fun _ h=>(by rw[List.mem_singleton.1 h];exact V_)⟩);have Kz:aO w S T ([]) [.val b v]:=aD H7 0;have H8:=eE Kz H7 0 (by kernel_rfl) ([]) [.val zb b2] (⟨fun _ h=>(by cases h),fun _ h=>(by rw[List.mem_singleton.1 h];exact Wa)⟩);have Ch:s.size+u.size<=1000000:=by rw[ht] at Om;simp only[ByteArray.size_append] at Om;omega
   refine xq 9 (.bool (decide (room<=(0:Int)))) (.bool false) (dF (by omega))<|xz 10 (Υ b) 0 ?_;have IA:=H8.at 1 (it:=cI S b 14 [.int .i64 5,.int .i64 0,.pointer (Χ yb),.pointer (Χ zb),.int .i64 0,.int .i64 0,.string eB,.int .i64 0,.slice none 0 0,.pointer none,.slice none 0 0,.string eB,.bool false,.bool false]) (by kernel_rfl);refine xt (c:=1) (t:=3) 0 [.int .i64 5] (.int .i64 5) (aa IA.1.2 (by decide:0+1<=14))<|xz 35 (Υ b) 2<|xt (c:=1) (t:=71) 0 [.pointer (Χ yb)] (.pointer (Χ yb)) (aa IA.1.2 (by decide:2+1<=14))<|Sx.vi 1 (room-(1:Int)) (room-(1:Int)) (IntWalk.i64_in _ (by omega)) ?_;refine xd 0 [2] H8 (fun Hp R hZ=>ih S T a s yb (room-(1:Int)) w R Hp (by rw[hv] at hk;simp only[Vl.sz] at hk;omega) (by omega) xL (fun w2 G2=>hZ _ _ _ G2 fun H9=>?_));refine Sx.dq 6 (bY [40]) s (by simp only[ByteArray.size_append,BI,MY,IJ];omega)<|Sx.dq 0 ((bY [40])++s) (bY [44,32]) (by simp only[ByteArray.size_append,BI,MY,IJ];omega)<|xz 2 (Υ b) 3 ?_;have Yx:=H9.at 2 (it:=cI S b 14 [.int .i64 5,.int .i64 0,.pointer (Χ yb),.pointer (Χ zb),.int .i64 0,.int .i64 0,.string eB,.int .i64 0,.slice none 0 0,.pointer none,.slice none 0 0,.string eB,.bool false,.bool false]) (by kernel_rfl);refine xt (c:=1) (t:=71) 0 [.pointer (Χ zb)] (.pointer (Χ zb)) (aa Yx.1.2 (by decide:3+1<=14))<|Sx.vi 1 (room-(3:Int)) (room-(3:Int)) (IntWalk.i64_in _ (by omega))<|Sx.vi 2 ((room-(3:Int))-(s.size:Int)) ((room-(3:Int))-(s.size:Int)) (IntWalk.i64_in _ (by omega)) ?_;refine xd 0 [3] H9 (fun Hp R hZ=>ih S T b2 u zb ((room-(3:Int))-(s.size:Int)) w2 R Hp (by rw[hv] at hk;simp only[Vl.sz] at hk;omega) (by omega) hu1 (fun w3 G3=>hZ _ _ _ G3 fun bh=>?_));refine Sx.dq 0 (((bY [40])++s)++(bY [44,32])) u (by simp only[ByteArray.size_append,BI,MY,IJ];omega)<|Sx.dq 0 ((((bY [40])++s)++(bY [44,32]))++u) (bY [41]) (by simp only[ByteArray.size_append,BI,MY,IJ];omega)<|xf 6 [] bh (.string (((((bY [40])++s)++(bY [44,32]))++u)++(bY [41]))) ?_;subst ht;subst aq;exact hK _ (bh.pick [2] (by kernel_rfl))
 . have m14:aO w S T ([]) [.val b v]:=aD H 0;have bp:=kZ m14 H 0 (by kernel_rfl) b 14 (Cw 3 (.int .i64 0) (.pointer none) (.pointer none) (.pointer none)) (d_.KA (aD (S:=S) (T:=T) (sp:=[]) (l:=[.val b v]) H 0).val hv);have ax:∃s,rX v ⟨#[91]⟩ room=some s/\t=s++(bY [93])/\t.size<=1000000:=⟨_,by rw[hv];rfl,ht,by rw[ht];simp only[ByteArray.size_append,BI];omega⟩;obtain⟨s,hl,ht,Om⟩:=ax;refine xq 9 (.bool (decide (room<=(0:Int)))) (.bool false) (dF (by omega))<|xz 10 (Υ b) 0 ?_;have m15:=bp.at 1 (it:=cI S b 14 (Cw 3 (.int .i64 0) (.pointer none) (.pointer none) (.pointer none))) (by kernel_rfl);refine xt (c:=1) (t:=3) 0 [.int .i64 3] (.int .i64 3) (aa m15.1.2 (by decide:0+1<=14)) ?_;have m16:aO w S T ([]) [.val b v]:=aD bp 0;have aV:=eE m16 bp 0 (by kernel_rfl) ([]) [.val b v] (m16);refine y0 49 (fun z l' w'=>∃(vi:Vl) (bi:Nat) (si:Ξ),l'=[(0,.pointer (Χ bi)),(1,.int .i64 room),(6,.string si)]/\z=vi.sz+1/\Hs w L0 w' [mI S T ([]) [.val b v],mI S T ([]) [.val bi vi]]/\(rX vi si room=some s)/\(vi.sz<=k)) _ _ ⟨v,b,(bY [91]),rfl,rfl,aV.pk [0,1],hl,(by omega)⟩ (fun b1 z1 l1 w4 cm K1 aU=>?_);obtain⟨vi,bi,si,rfl,rfl,bD,hli,F3⟩:=cm;have ax:=KF hli;rcases ax with⟨z6,Qq⟩|⟨la,lb,z6,zL,Qq⟩|⟨la,lb,lu,z6,zL,Wf,M0,Wg⟩
   . have m17:aO w4 S T ([]) [.val b v]:=aD bD 0;have bG:=kZ m17 bD 0 (by kernel_rfl) bi 14 (Cw 3 (.int .i64 0) (.pointer none) (.pointer none) (.pointer none)) (d_.KA (aD (S:=S) (T:=T) (sp:=[]) (l:=[.val bi vi]) bD 1).val z6);refine xz 5 (Υ bi) 0 ?_;have m18:=bG.at 2 (it:=cI S bi 14 (Cw 3 (.int .i64 0) (.pointer none) (.pointer none) (.pointer none))) (by kernel_rfl);refine xt (c:=1) (t:=3) 0 [.int .i64 3] (.int .i64 3) (aa m18.1.2 (by decide:0+1<=14))<|Sx.dq 18 si (bY [93]) (by rw[ht,Qq] at Om;simp only[ByteArray.size_append] at Om ⊢;omega)<|xf 6 [] bG (.string (si++(bY [93]))) ?_;rw[Qq] at ht;subst ht;subst aq;exact hK _ (bG.pick [0] (by kernel_rfl))
   . have ax:=d_.vu (aD (S:=S) (T:=T) (sp:=[]) (l:=[.val bi vi]) bD 1).val z6;obtain⟨um,uq,hlc,hly,Qr⟩:=ax;have m19:aO w4 S T ([]) [.val b v]:=aD bD 0;have cC:=kZ m19 bD 0 (by kernel_rfl) bi 14 [.int .i64 4,.int .i64 0,.pointer (Χ um),.pointer (Χ uq),.int .i64 0,.int .i64 0,.string eB,.int .i64 0,.slice none 0 0,.pointer none,.slice none 0 0,.string eB,.bool false,.bool false] hlc;refine xz 5 (Υ bi) 0 ?_;have m20:=cC.at 2 (it:=cI S bi 14 [.int .i64 4,.int .i64 0,.pointer (Χ um),.pointer (Χ uq),.int .i64 0,.int .i64 0,.string eB,.int .i64 0,.slice none 0 0,.pointer none,.slice none 0 0,.string eB,.bool false,.bool false]) (by kernel_rfl);refine xt (c:=1) (t:=3) 0 [.int .i64 4] (.int .i64 4) (aa m20.1.2 (by decide:0+1<=14))<|xq 5 (.bool (decide ((si.size:Int)<room))) (.bool false) (dF (by omega))<|Sx.dq 12 si (bY [93]) (by rw[ht,Qq] at Om;simp only[ByteArray.size_append] at Om ⊢;omega)<|xf 6 [] cC (.string (si++(bY [93]))) ?_;rw[Qq] at ht;subst ht;subst aq;exact hK _ (cC.pick [0] (by kernel_rfl))
   have ax:=d_.vu (aD (S:=S) (T:=T) (sp:=[]) (l:=[.val bi vi]) bD 1).val z6;obtain⟨um,uq,hlc,hly,Qr⟩:=ax;have m21:aO w4 S T ([]) [.val b v]:=aD bD 0;have bL:=kZ m21 bD 0 (by kernel_rfl) bi 14 [.int .i64 4,.int .i64 0,.pointer (Χ um),.pointer (Χ uq),.int .i64 0,.int .i64 0,.string eB,.int .i64 0,.slice none 0 0,.pointer none,.slice none 0 0,.string eB,.bool false,.bool false] hlc;have m22:aO w4 S T ([]) [.val bi vi]:=aD bL 1;have dG:=eE m22 bL 1 (by kernel_rfl) ([]) [.val um la] (⟨fun _ h=>(by cases h),fun _ h=>(by rw[List.mem_singleton.1 h];exact hly)⟩);have m23:aO w4 S T ([]) [.val bi vi]:=aD dG 1;have cx:=eE m23 dG 1 (by kernel_rfl) ([]) [.val uq lb] (⟨fun _ h=>(by cases h),fun _ h=>(by rw[List.mem_singleton.1 h];exact Qr)⟩);refine xz 5 (Υ bi) 0 ?_;have m24:=cx.at 2 (it:=cI S bi 14 [.int .i64 4,.int .i64 0,.pointer (Χ um),.pointer (Χ uq),.int .i64 0,.int .i64 0,.string eB,.int .i64 0,.slice none 0 0,.pointer none,.slice none 0 0,.string eB,.bool false,.bool false]) (by kernel_rfl);refine xt (c:=1) (t:=3) 0 [.int .i64 4] (.int .i64 4) (aa m24.1.2 (by decide:0+1<=14))<|xq 5 (.bool (decide ((si.size:Int)<room))) (.bool true) (dT (by omega)) ?_;refine xh 15 (decide ((si.size:Int)>(1:Int))) (fun z7=>?_) (fun z7=>?_)
   . have Qs:=of_decide_eq_true z7;rw[show IK si=(si++(bY [44,32])) from if_pos (by omega)] at Wf M0 Wg;have hsq:(si++(bY [44,32])).size<=1000000:=by simp only[ByteArray.size_append] at M0 ⊢;omega
     refine Sx.dq 2 si (bY [44,32]) (by simp only[ByteArray.size_append,BI,MY,IJ];omega)<|xz 8 (Υ bi) 2<|xt (c:=1) (t:=71) 0 [.pointer (Χ um)] (.pointer (Χ um)) (aa m24.1.2 (by decide:2+1<=14))<|Sx.vi 3 (room-(((si++(bY [44,32])).size:Nat):Int)) (room-(((si++(bY [44,32])).size:Nat):Int)) (IntWalk.i64_in _ (by omega)) ?_;refine xd 0 [3] cx (fun Hp R hZ=>ih S T la lu um (room-(((si++(bY [44,32])).size:Nat):Int)) w4 R Hp (by rw[z6] at F3;simp only[Vl.sz] at F3;omega) (by omega) Wf (fun w5 G4=>hZ _ _ _ G4 fun cM=>?_));refine Sx.dq 0 (si++(bY [44,32])) lu (by simp only[ByteArray.size_append] at M0 ⊢;omega)<|xz 6 (Υ bi) 3 ?_;have m25:=cM.at 3 (it:=cI S bi 14 [.int .i64 4,.int .i64 0,.pointer (Χ um),.pointer (Χ uq),.int .i64 0,.int .i64 0,.string eB,.int .i64 0,.slice none 0 0,.pointer none,.slice none 0 0,.string eB,.bool false,.bool false]) (by kernel_rfl);refine xt (c:=1) (t:=71) 0 [.pointer (Χ uq)] (.pointer (Χ uq)) (aa m25.1.2 (by decide:3+1<=14)) ?_;exact xi 3 _ (aU _ _ _ _ (by rw[z6];simp only[Vl.sz];omega) ⟨lb,uq,((si++(bY [44,32]))++lu),rfl,rfl,cM.pk [1,3],Wg,(by rw[z6] at F3;simp only[Vl.sz] at F3;omega)⟩)
   have Qs:=of_decide_eq_false z7;rw[show IK si=si from if_neg (by omega)] at Wf M0 Wg;have hsq:si.size<=1000000:=by simp only[ByteArray.size_append] at M0 ⊢;omega
   refine xz 7 (Υ bi) 2<|xt (c:=1) (t:=71) 0 [.pointer (Χ um)] (.pointer (Χ um)) (aa m24.1.2 (by decide:2+1<=14))<|Sx.vi 3 (room-(si.size:Int)) (room-(si.size:Int)) (IntWalk.i64_in _ (by omega)) ?_;refine xd 0 [3] cx (fun Hp R hZ=>ih S T la lu um (room-(si.size:Int)) w4 R Hp (by rw[z6] at F3;simp only[Vl.sz] at F3;omega) (by omega) Wf (fun w6 G5=>hZ _ _ _ G5 fun ep=>?_));refine Sx.dq 0 si lu (by simp only[ByteArray.size_append] at M0 ⊢;omega)<|xz 6 (Υ bi) 3 ?_;have m26:=ep.at 3 (it:=cI S bi 14 [.int .i64 4,.int .i64 0,.pointer (Χ um),.pointer (Χ uq),.int .i64 0,.int .i64 0,.string eB,.int .i64 0,.slice none 0 0,.pointer none,.slice none 0 0,.string eB,.bool false,.bool false]) (by kernel_rfl);refine xt (c:=1) (t:=71) 0 [.pointer (Χ uq)] (.pointer (Χ uq)) (aa m26.1.2 (by decide:3+1<=14)) ?_;exact xi 3 _ (aU _ _ _ _ (by rw[z6];simp only[Vl.sz];omega) ⟨lb,uq,(si++lu),rfl,rfl,ep.pk [1,3],Wg,(by rw[z6] at F3;simp only[Vl.sz] at F3;omega)⟩)
 . have ax:=d_.vu (aD (S:=S) (T:=T) (sp:=[]) (l:=[.val b v]) H 0).val hv;obtain⟨yb,zb,V9,V_,Wa⟩:=ax;have m27:aO w S T ([]) [.val b v]:=aD H 0;have dI:=kZ m27 H 0 (by kernel_rfl) b 14 [.int .i64 4,.int .i64 0,.pointer (Χ yb),.pointer (Χ zb),.int .i64 0,.int .i64 0,.string eB,.int .i64 0,.slice none 0 0,.pointer none,.slice none 0 0,.string eB,.bool false,.bool false] V9;have m28:aO w S T ([]) [.val b v]:=aD dI 0;have dp:=eE m28 dI 0 (by kernel_rfl) ([]) [.val yb a] (⟨fun _ h=>(by cases h),fun _ h=>(by rw[List.mem_singleton.1 h];exact V_)⟩);have m29:aO w S T ([]) [.val b v]:=aD dp 0;have fE:=eE m29 dp 0 (by kernel_rfl) ([]) [.val zb b2] (⟨fun _ h=>(by cases h),fun _ h=>(by rw[List.mem_singleton.1 h];exact Wa)⟩);rw[<- hv] at hl;refine xq 9 (.bool (decide (room<=(0:Int)))) (.bool false) (dF (by omega))<|xz 10 (Υ b) 0 ?_;have m30:=fE.at 1 (it:=cI S b 14 [.int .i64 4,.int .i64 0,.pointer (Χ yb),.pointer (Χ zb),.int .i64 0,.int .i64 0,.string eB,.int .i64 0,.slice none 0 0,.pointer none,.slice none 0 0,.string eB,.bool false,.bool false]) (by kernel_rfl);refine xt (c:=1) (t:=3) 0 [.int .i64 4] (.int .i64 4) (aa m30.1.2 (by decide:0+1<=14)) ?_;have m31:aO w S T ([]) [.val b v]:=aD fE 0;have fV:=eE m31 fE 0 (by kernel_rfl) ([]) [.val b v] (m31);refine y0 52 (fun z l' w'=>∃(vi:Vl) (bi:Nat) (si:Ξ),l'=[(0,.pointer (Χ bi)),(1,.int .i64 room),(6,.string si)]/\z=vi.sz+1/\Hs w L0 w' [mI S T ([]) [.val b v],mI S T ([]) [.val bi vi]]/\(rX vi si room=some s)/\(vi.sz<=k)) _ _ ⟨v,b,(bY [91]),rfl,rfl,fV.pk [0,3],hl,(by omega)⟩ (fun b2 z2 l2 w7 iw K2 eC=>?_);obtain⟨vi,bi,si,rfl,rfl,fG,hli,F3⟩:=iw;have ax:=KF hli;rcases ax with⟨z6,Qq⟩|⟨la,lb,z6,zL,Qq⟩|⟨la,lb,lu,z6,zL,Wf,M0,Wg⟩
   . have m32:aO w7 S T ([]) [.val b v]:=aD fG 0;have eU:=kZ m32 fG 0 (by kernel_rfl) bi 14 (Cw 3 (.int .i64 0) (.pointer none) (.pointer none) (.pointer none)) (d_.KA (aD (S:=S) (T:=T) (sp:=[]) (l:=[.val bi vi]) fG 1).val z6);refine xz 5 (Υ bi) 0 ?_;have m33:=eU.at 2 (it:=cI S bi 14 (Cw 3 (.int .i64 0) (.pointer none) (.pointer none) (.pointer none))) (by kernel_rfl);refine xt (c:=1) (t:=3) 0 [.int .i64 3] (.int .i64 3) (aa m33.1.2 (by decide:0+1<=14))<|Sx.dq 18 si (bY [93]) (by rw[ht,Qq] at Om;simp only[ByteArray.size_append] at Om ⊢;omega)<|xf 6 [] eU (.string (si++(bY [93]))) ?_;rw[Qq] at ht;subst ht;subst aq;exact hK _ (eU.pick [0] (by kernel_rfl))
   . have ax:=d_.vu (aD (S:=S) (T:=T) (sp:=[]) (l:=[.val bi vi]) fG 1).val z6;obtain⟨um,uq,hlc,hly,Qr⟩:=ax;have m34:aO w7 S T ([]) [.val b v]:=aD fG 0;have fj:=kZ m34 fG 0 (by kernel_rfl) bi 14 [.int .i64 4,.int .i64 0,.pointer (Χ um),.pointer (Χ uq),.int .i64 0,.int .i64 0,.string eB,.int .i64 0,.slice none 0 0,.pointer none,.slice none 0 0,.string eB,.bool false,.bool false] hlc;refine xz 5 (Υ bi) 0 ?_;have m35:=fj.at 2 (it:=cI S bi 14 [.int .i64 4,.int .i64 0,.pointer (Χ um),.pointer (Χ uq),.int .i64 0,.int .i64 0,.string eB,.int .i64 0,.slice none 0 0,.pointer none,.slice none 0 0,.string eB,.bool false,.bool false]) (by kernel_rfl);refine xt (c:=1) (t:=3) 0 [.int .i64 4] (.int .i64 4) (aa m35.1.2 (by decide:0+1<=14))<|xq 5 (.bool (decide ((si.size:Int)<room))) (.bool false) (dF (by omega))<|Sx.dq 12 si (bY [93]) (by rw[ht,Qq] at Om;simp only[ByteArray.size_append] at Om ⊢;omega)<|xf 6 [] fj (.string (si++(bY [93]))) ?_;rw[Qq] at ht;subst ht;subst aq;exact hK _ (fj.pick [0] (by kernel_rfl))
   have ax:=d_.vu (aD (S:=S) (T:=T) (sp:=[]) (l:=[.val bi vi]) fG 1).val z6;obtain⟨um,uq,hlc,hly,Qr⟩:=ax;have m36:aO w7 S T ([]) [.val b v]:=aD fG 0;have gM:=kZ m36 fG 0 (by kernel_rfl) bi 14 [.int .i64 4,.int .i64 0,.pointer (Χ um),.pointer (Χ uq),.int .i64 0,.int .i64 0,.string eB,.int .i64 0,.slice none 0 0,.pointer none,.slice none 0 0,.string eB,.bool false,.bool false] hlc;have m37:aO w7 S T ([]) [.val bi vi]:=aD gM 1;have lX:=eE m37 gM 1 (by kernel_rfl) ([]) [.val um la] (⟨fun _ h=>(by cases h),fun _ h=>(by rw[List.mem_singleton.1 h];exact hly)⟩);have m38:aO w7 S T ([]) [.val bi vi]:=aD lX 1;have iT:=eE m38 lX 1 (by kernel_rfl) ([]) [.val uq lb] (⟨fun _ h=>(by cases h),fun _ h=>(by rw[List.mem_singleton.1 h];exact Qr)⟩);refine xz 5 (Υ bi) 0 ?_;have Wb:=iT.at 2 (it:=cI S bi 14 [.int .i64 4,.int .i64 0,.pointer (Χ um),.pointer (Χ uq),.int .i64 0,.int .i64 0,.string eB,.int .i64 0,.slice none 0 0,.pointer none,.slice none 0 0,.string eB,.bool false,.bool false]) (by kernel_rfl);refine xt (c:=1) (t:=3) 0 [.int .i64 4] (.int .i64 4) (aa Wb.1.2 (by decide:0+1<=14))<|xq 5 (.bool (decide ((si.size:Int)<room))) (.bool true) (dT (by omega)) ?_;refine xh 15 (decide ((si.size:Int)>(1:Int))) (fun z7=>?_) (fun z7=>?_)
   . have Qs:=of_decide_eq_true z7;rw[show IK si=(si++(bY [44,32])) from if_pos (by omega)] at Wf M0 Wg;have hsq:(si++(bY [44,32])).size<=1000000:=by simp only[ByteArray.size_append] at M0 ⊢;omega
     refine Sx.dq 2 si (bY [44,32]) (by simp only[ByteArray.size_append,BI,MY,IJ];omega)<|xz 8 (Υ bi) 2<|xt (c:=1) (t:=71) 0 [.pointer (Χ um)] (.pointer (Χ um)) (aa Wb.1.2 (by decide:2+1<=14))<|Sx.vi 3 (room-(((si++(bY [44,32])).size:Nat):Int)) (room-(((si++(bY [44,32])).size:Nat):Int)) (IntWalk.i64_in _ (by omega)) ?_;refine xd 0 [3] iT (fun Hp R hZ=>ih S T la lu um (room-(((si++(bY [44,32])).size:Nat):Int)) w7 R Hp (by rw[z6] at F3;simp only[Vl.sz] at F3;omega) (by omega) Wf (fun w8 G6=>hZ _ _ _ G6 fun iv=>?_));refine Sx.dq 0 (si++(bY [44,32])) lu (by simp only[ByteArray.size_append] at M0 ⊢;omega)<|xz 6 (Υ bi) 3 ?_;have m40:=iv.at 3 (it:=cI S bi 14 [.int .i64 4,.int .i64 0,.pointer (Χ um),.pointer (Χ uq),.int .i64 0,.int .i64 0,.string eB,.int .i64 0,.slice none 0 0,.pointer none,.slice none 0 0,.string eB,.bool false,.bool false]) (by kernel_rfl);refine xt (c:=1) (t:=71) 0 [.pointer (Χ uq)] (.pointer (Χ uq)) (aa m40.1.2 (by decide:3+1<=14)) ?_;exact xi 3 _ (eC _ _ _ _ (by rw[z6];simp only[Vl.sz];omega) ⟨lb,uq,((si++(bY [44,32]))++lu),rfl,rfl,iv.pk [1,3],Wg,(by rw[z6] at F3;simp only[Vl.sz] at F3;omega)⟩)
   have Qs:=of_decide_eq_false z7;rw[show IK si=si from if_neg (by omega)] at Wf M0 Wg;have hsq:si.size<=1000000:=by simp only[ByteArray.size_append] at M0 ⊢;omega
   refine xz 7 (Υ bi) 2<|xt (c:=1) (t:=71) 0 [.pointer (Χ um)] (.pointer (Χ um)) (aa Wb.1.2 (by decide:2+1<=14))<|Sx.vi 3 (room-(si.size:Int)) (room-(si.size:Int)) (IntWalk.i64_in _ (by omega)) ?_;refine xd 0 [3] iT (fun Hp R hZ=>ih S T la lu um (room-(si.size:Int)) w7 R Hp (by rw[z6] at F3;simp only[Vl.sz] at F3;omega) (by omega) Wf (fun w9 G7=>hZ _ _ _ G7 fun mr=>?_));refine Sx.dq 0 si lu (by simp only[ByteArray.size_append] at M0 ⊢;omega)<|xz 6 (Υ bi) 3 ?_;have m41:=mr.at 3 (it:=cI S bi 14 [.int .i64 4,.int .i64 0,.pointer (Χ um),.pointer (Χ uq),.int .i64 0,.int .i64 0,.string eB,.int .i64 0,.slice none 0 0,.pointer none,.slice none 0 0,.string eB,.bool false,.bool false]) (by kernel_rfl);refine xt (c:=1) (t:=71) 0 [.pointer (Χ uq)] (.pointer (Χ uq)) (aa m41.1.2 (by decide:3+1<=14)) ?_;exact xi 3 _ (eC _ _ _ _ (by rw[z6];simp only[Vl.sz];omega) ⟨lb,uq,(si++lu),rfl,rfl,mr.pk [1,3],Wg,(by rw[z6] at F3;simp only[Vl.sz] at F3;omega)⟩)
 have ax:=d_.V1 (aD (S:=S) (T:=T) (sp:=[]) (l:=[.val b v]) H 0).val hv;obtain⟨fo,Yt,_,_⟩:=ax;obtain⟨fk,fa,eV,fn,fA,fc,gF⟩:=nd;have m42:aO w S T ([]) [.val b v]:=aD H 0;have mv:=kZ m42 H 0 (by kernel_rfl) b 14 [.int .i64 6,.int .i64 0,.pointer none,.pointer none,.n fk,.n fa,.string eV,.int .i64 fn,.slice fA gF.length fc,pO fo,.slice none 0 0,.string eB,.bool false,.bool false] Yt;refine xq 9 (.bool (decide (room<=(0:Int)))) (.bool false) (dF (by omega))<|xz 10 (Υ b) 0 ?_;have m43:=mv.at 1 (it:=cI S b 14 [.int .i64 6,.int .i64 0,.pointer none,.pointer none,.n fk,.n fa,.string eV,.int .i64 fn,.slice fA gF.length fc,pO fo,.slice none 0 0,.string eB,.bool false,.bool false]) (by kernel_rfl);refine xt (c:=1) (t:=3) 0 [.int .i64 6] (.int .i64 6) (aa m43.1.2 (by decide:0+1<=14))<|xf 54 [] mv (.string (bY [102,110])) ?_;subst ht;subst aq;exact hK _ (mv.pick [0] (by kernel_rfl))
theorem Wh(k:Nat):zZ k:=by
 induction k with
 |zero=>intro S T v t b room w K H0 hk;exact absurd hk (Nat.not_lt_zero _)
 |succ k ih=>exact MZ k ih
theorem Wi(S : Φ)(T : List RR)(v : Vl)(t : Ξ)(b : Nat)(w : Ψ)(K : Ending -> Ψ -> Prop)(H0 : Sp w [mI S T ([]) [.val b v]])(hf : wC v = some t)(hK : ∀ w', Hs w [mI S T ([]) [.val b v]] w' [mI S T [] [.val b v]] -> K (.returned (.string t)) w') :
   Calls Tryz.prog 66 #[.pointer (Χ b)] w K:=by
 obtain⟨L0,aq,H⟩:=Sx.cw H0;refine xu (vs:=[.pointer (Χ b)]) 13 Tryz.func66 ?_;have ax:=Qo hf;obtain⟨s,xL,ht⟩:=ax;refine xd 8 [0] H (fun Hp R hZ=>Wh (v.sz+1) S T v s b 410 w R Hp (Nat.lt_succ_self _) (by omega) xL (fun w1 G1=>hZ _ _ _ G1 fun H1=>?_));refine xh 11 (decide ((s.size:Int)>(400:Int))) (fun ld=>?_) (fun ld=>?_)
 . have Qt:=of_decide_eq_true ld;refine Sx.sls 3 400 s (by omega)<|Sx.dq 0 (s.extract 0 400) (bY [46,46,46]) (by simp only[ByteArray.size_extract,IJ];omega)<|xf 5 [] H1 (.string ((s.extract 0 400)++(bY [46,46,46]))) ?_;rw[if_pos (by omega)] at ht;subst ht;subst aq;exact hK _ (H1.pick [0] (by kernel_rfl))
 refine xf 9 [] H1 (.string s) ?_;have Qt:=of_decide_eq_false ld;rw[if_neg (by omega)] at ht;subst ht;subst aq;exact hK _ (H1.pick [0] (by kernel_rfl))
end Mr
end Go.Proofs.YtdmdecgoebnamaaGreat
namespace Go.Mn
open Go.RowKit Go.Sx Go.aR Go.Gx
theorem aft{once : Nm -> Bool}{kk s s' : Nat}{st : List Fr}{nd : PN}{e : En}{v : Option Vl}{us : List Bool}{x : Vl}(h : Cn once kk s ⟨st, nd, e, v, us⟩ = some (x, s')) :
   ∃k,kk=k+1/\st.length<100000000/\((v=some x/\st.length=0)∨
     (∃y r,v=some y/\0<st.length/\oM once ⟨st,nd,e,none,us⟩ y=some r/\Cn once k s r=some (x,s'))∨
     (∃d,v=none/\nd.k=2/\nd.ks[0]?=some d/\Cn once k s ⟨st++[.mk nd 0 e none],d,e,none,us⟩=some (x,s'))∨
     (∃r,v=none/\nd.k≠2/\s<1000000/\gU ⟨st,nd,e,none,us⟩=some r/\Cn once k (s+1) r=some (x,s'))):=by
 cases kk with
 |zero=>cases h
 |succ k=>
   unfold Cn at h;by_cases q:st.length<100000000
   . rw[if_neg (by simp[q])] at h;refine⟨k,rfl,q,?_⟩;cases v with
     |some y=>
       dsimp only at h;cases st with
       |nil=>rw[if_pos (by rfl)] at h;cases h;exact .inl ⟨rfl,rfl⟩
       |cons f l=>
         rw[if_neg (by simp)] at h;split at h
         . rename_i r hr;exact .inr (.inl ⟨y,r,rfl,Nat.succ_pos _,hr,h⟩)
         . cases h
     |none=>
       dsimp only at h;by_cases q2:nd.k=2
       . rw[if_pos q2] at h;split at h
         . rename_i d hd;exact .inr (.inr (.inl ⟨d,rfl,q2,hd,h⟩))
         . cases h
       . rw[if_neg q2] at h;by_cases q3:s<1000000
         . rw[if_pos q3] at h;split at h
           . rename_i r hr;exact .inr (.inr (.inr ⟨r,rfl,q2,q3,hr,h⟩))
           . cases h
         . rw[if_neg q3] at h;cases h
   . rw[if_pos (by simp[q])] at h;cases h
theorem YA{w:Ψ}{S:Nat->Prop}{T:List RR}{o:Option Nat}(h:(MF.vo o none).ok w S T):o=none:=by
 cases o with
 |none=>rfl
 |some b=>exact h.elim
end Go.Mn
namespace Go.Proofs.YtdmdecgoebnamaaGreat
open Go.RowKit Go.Sx Go.aR Go.Mn
attribute [local irreducible] Go.wpOps Go.Code.wp Go.wpOp Go.wpAnyH Go.Calls Go.Sx.Goal
set_option maxRecDepth 20000
namespace Mr
theorem aaF(S : Φ)(T : List RR)(x : Vl)(t : Ξ)(vb : Nat)(br : Nat)(As : Ω)(cs : Nat)(k ta : Nat)(nm : Nm)(nn : Int)(nA : Ω)(nc : Nat)(ks : List PN)(eo : Option Nat)(bo : Nat)(steps : Int)(w : Ψ)(K : Ending -> Ψ -> Prop)(H0 : Sp w [bR br As 0 cs (.n k) (.n ta) nm (.int .i64 nn) nA ks.length nc (pO eo) (.pointer (Χ vb)) bo (.int .i64 0) eB (.int .i64 steps), mI S T ([]) [.val vb x]])(M1 : wC x = some t)(hK : ∀ w', Hs w [bR br As 0 cs (.n k) (.n ta) nm (.int .i64 nn) nA ks.length nc (pO eo) (.pointer (Χ vb)) bo (.int .i64 0) eB (.int .i64 steps), mI S T ([]) [.val vb x]] w' [bR br As 0 cs (.n k) (.n ta) nm (.int .i64 nn) nA ks.length nc (pO eo) (.pointer (Χ vb)) bo (.int .i64 1) t (.int .i64 steps)] -> K (.returned (.tuple #[])) w') :
   Calls Tryz.prog 38 #[.p br] w K:=by
 obtain⟨L0,aq,H⟩:=Sx.cw H0;refine xu (vs:=[.p br]) 268 Tryz.func38<|xb 5 0 H<|xb 9 0 H<|xe 11 0 H fun w1 H1=>?_;refine xd 6 [1] H1 (fun Hp R hZ=>Wi S T x t vb w1 R Hp M1 (fun w2 G1=>hZ _ _ _ G1 fun H2=>?_));refine xe 3 1 H2 fun w3 H3=>xf 4 [] H3 (.tuple #[]) ?_;subst aq;exact hK _ (H3.pick [1] (by kernel_rfl))
set_option maxHeartbeats 8000000 in
theorem ak2(S : Φ)(T : List RR)(us : List Bool)(mp : List (Nm × Value))(e : En)(kk : Nat)(x : Vl)(s' : Nat)(t : Ξ)(br : Nat)(As : Ω)(ns cs : Nat)(sp : List FP)(k ta : Nat)(nm : Nm)(nn : Int)(nA : Ω)(nc : Nat)(ks : List PN)(eo : Option Nat)(bo : Nat)  (w : Ψ) (K : Ending -> Ψ -> Prop) (H0 : Sp w [bR br As ns cs (.n k) (.n ta) nm (.int .i64 nn) nA ks.length nc (pO eo) (pO none) bo (.int .i64 0) eB (.n 0), wI 135 8 As cs ns (bx sp), mI S T sp [.env eo e, .aJ (PN.mk k ta nm nn nA nc ks), .vo none none], wA T us, xF bo mp]) (pR : ns = sp.length /\ ns < 100000000) (o4 : us.length = T.length) (gv : xG mp) (hf : Cn (E1 mp) kk 0 ⟨sp.map (fun x : FP => x.f), (PN.mk k ta nm nn nA nc ks), e, none, us⟩ = some (x, s')) (M1 : wC x = some t) (hK : ∀(A' : Ω)(n' : Nat)(c' : Nat)(k' : Nat)(a' : Nat)(sW : Nm)(sY : Int)(sZ : Ω)(s5 : Nat)(pf : List PN)(MS : Option Nat)(HG : Option Nat)(aaG : Int) w', Hs w [bR br As ns cs (.n k) (.n ta) nm (.int .i64 nn) nA ks.length nc (pO eo) (pO none) bo (.int .i64 0) eB (.n 0), wI 135 8 As cs ns (bx sp), mI S T sp [.env eo e, .aJ (PN.mk k ta nm nn nA nc ks), .vo none none], wA T us, xF bo mp] w' [bR br A' n' c' (.n k') (.n a') sW (.int .i64 sY) sZ pf.length s5 (pO MS) (pO HG) bo (.int .i64 1) t (.int .i64 aaG)] -> K (.returned (.tuple #[])) w') :
   Calls Tryz.prog 28 #[.p br,.int .i64 1000000] w K:=by
 obtain⟨L0,aq,H⟩:=Sx.cw H0;refine xu (vs:=[.p br,.int .i64 1000000]) 64 Tryz.func28 ?_;refine y0 1 (fun z l' w'=>∃(S:Φ) (T:List RR) (us:List Bool) (As:Ω) (ns:Nat) (cs:Nat) (sp:List FP) (k:Nat) (ta:Nat) (nm:Nm) (nn:Int) (nA:Ω) (nc:Nat) (ks:List PN) (eo:Option Nat) (e:En) (vo:Option Nat) (v:Option Vl) (sn:Nat) (kk:Nat) (okd:Int) (ov:Ξ),l'=[(0,.p br),(1,.int .i64 1000000)]/\z=kk+1/\Hs w L0 w' [bR br As ns cs (.n k) (.n ta) nm (.int .i64 nn) nA ks.length nc (pO eo) (pO vo) bo (.int .i64 okd) ov (.n sn),wI 135 8 As cs ns (bx sp),mI S T sp [.env eo e,.aJ (PN.mk k ta nm nn nA nc ks),.vo vo v],wA T us,xF bo mp]/\((okd=0/\ov=eB/\Cn (E1 mp) kk sn ⟨sp.map (fun x:FP=>x.f),(PN.mk k ta nm nn nA nc ks),e,v,us⟩=some (x,s')/\ns=sp.length/\us.length=T.length)∨(okd=1/\ov=t))) _ _ ⟨S,T,us,As,ns,cs,sp,k,ta,nm,nn,nA,nc,ks,eo,e,none,none,0,kk,0,eB,rfl,rfl,H,(.inl ⟨rfl,rfl,hf,pR.1,o4⟩)⟩ (fun b1 z1 l1 w1 cm K1 aU=>?_);obtain⟨S,T,us,As,ns,cs,sp,k,ta,nm,nn,nA,nc,ks,eo,e,vo,v,sn,kk,okd,ov,rfl,rfl,H1,Im⟩:=cm;rcases Im with⟨rfl,rfl,hg,hn,o4⟩|⟨rfl,rfl⟩
 . have ax:=aft hg;obtain⟨k1,rfl,hl,hc⟩:=ax;rw[List.length_map] at hl hc;have pR:ns=sp.length/\ns<100000000:=⟨hn,by omega⟩;rcases hc with⟨rfl,F4⟩|⟨y,r',rfl,F4,hf,zI⟩|⟨⟨dk,da,bX,dn,dA,dc,db⟩,rfl,On,hd,zI⟩|⟨r',rfl,On,X0,hf,zI⟩
   . have m1:aO w1 S T sp [.env eo e,.aJ (PN.mk k ta nm nn nA nc ks),.vo vo (some x)]:=aD H1 2;have ax:=Qi (m1.2 _ j2);obtain⟨vb,rfl,hvb⟩:=ax;have ax:ns=0:=by omega
     obtain rfl:=ax;have m2:aO w1 S T sp [.env eo e,.aJ (PN.mk k ta nm nn nA nc ks),.vo (some vb) (some x)]:=aD H1 2;have H2:=eE m2 H1 2 (by kernel_rfl) ([]) [.val vb x] (⟨fun _ h=>(by cases h),fun _ h=>(by rw[List.mem_singleton.1 h];exact hvb)⟩);refine xb 7 0 H2<|xb 13 0 H2 ?_;refine xd 7 [0,4] H2 (fun Hp R hZ=>aaF S T x t vb br As cs k ta nm nn nA nc ks eo bo (sn:Int) w1 R Hp M1 (fun w2 G1=>hZ _ _ _ G1 fun H3=>?_));exact xi 5 _ (aU _ _ _ _ (by omega) ⟨S,T,us,As,0,cs,sp,k,ta,nm,nn,nA,nc,ks,eo,e,(some vb),(some x),sn,k1,1,t,rfl,rfl,H3.pk [0,0,0,0,0],(.inr ⟨rfl,rfl⟩)⟩)
   . have m3:aO w1 S T sp [.env eo e,.aJ (PN.mk k ta nm nn nA nc ks),.vo vo (some y)]:=aD H1 2;have ax:=Qi (m3.2 _ j2);obtain⟨vb,rfl,hvb⟩:=ax;refine xb 7 0 H1<|xb 13 0 H1 ?_;refine xd 7 [0,0,0,0,0] H1 (fun Hp R hZ=>aat S T us mp e r' br As ns cs sp k ta nm nn nA nc ks eo bo (sn:Int) vb y w1 R Hp pR o4 gv hf (fun Qb V6 Qc Qd Qe zP Qf Qg zQ zR zS zU zV DB V7 DC Qh DD w3 G2 zW zX DE=>hZ _ _ _ G2 fun H5=>?_));exact xi 5 _ (aU _ _ _ _ (by omega) ⟨Qb,V6,DD,Qc,Qd,Qe,zP,Qf,Qg,zQ,zR,zS,zU,zV,DB,V7,DC,Qh,sn,k1,0,eB,rfl,rfl,H5.pk [0,0,0,0,0],(.inl ⟨rfl,rfl,zW▸zI,zX,DE⟩)⟩)
   . have m4:aO w1 S T sp [.env eo e,.aJ (PN.mk k ta nm nn nA nc ks),.vo vo none]:=aD H1 2;have ax:=YA (m4.2 _ j2);obtain rfl:=ax;have On:k=2:=On;have m5:aO w1 S T sp [.env eo e,.aJ (PN.mk k ta nm nn nA nc ks),.vo none none]:=aD H1 2;have ax:=PK.at (m5.2 _ j1) hd;obtain⟨FU,⟨gk,BE,_,Yo⟩,_⟩:=ax;have ak3:0<ks.length:=(List.getElem?_eq_some_iff.1 hd).1;refine xb 7 0 H1<|xb 13 0 H1<|xb 13 0 H1<|xq 0 (.bool ((k:Int)==(2:Int))) (.bool true) (eT (by omega)) ?_;refine xd 6 [0,0] H1 (fun Hp R hZ=>PY br As ns cs sp k ta nm nn nA nc ks eo none bo (sn:Int) 0 none e none w1 R Hp (by omega) (fun A1 c1 w4 G3=>hZ _ _ _ G3 fun H7=>?_));refine xb 9 0 H7<|xv 0 gk 0 5 ks.length nc BE ak3 ?_;have m6:aO w4 S T sp [.env eo e,.aJ (PN.mk k ta nm nn nA nc ks),.vo none none]:=aD H7 2;refine xt (c:=5) (t:=62) 0 (Sx.nC dk da bX dn dA db dc) (Sx.nA dk da bX dn dA db dc) (PK.cell (m6.2 _ j1) BE (i:=0) hd)<|xe 2 0 H7 fun w5 H8=>?_;have m7:aO w5 S T sp [.env eo e,.aJ (PN.mk k ta nm nn nA nc ks),.vo none none]:=aD H8 2;have H9:=eE m7 H8 2 (by kernel_rfl) (sp++[FP.mk (.mk (PN.mk k ta nm nn nA nc ks) 0 e none) eo none]) [.env eo e,.aJ (PN.mk dk da bX dn dA dc db),.vo none none] (aO.l3 (sV m7.1 (.no (m7.2 _ j0) (m7.2 _ j1))) (m7.2 _ j0) (PK.pd (m7.2 _ j1) hd) trivial);exact xi 5 _ (aU _ _ _ _ (by omega) ⟨S,T,us,A1,(ns+1),c1,(sp++[FP.mk (.mk (PN.mk k ta nm nn nA nc ks) 0 e none) eo none]),dk,da,bX,dn,dA,dc,db,eo,e,none,none,sn,k1,0,eB,rfl,rfl,H9.pk [0,0,3,1,1],(.inl ⟨rfl,rfl,by rw[List.map_append];exact zI,by rw[List.length_append,hn];rfl,o4⟩)⟩)
   have m8:aO w1 S T sp [.env eo e,.aJ (PN.mk k ta nm nn nA nc ks),.vo vo none]:=aD H1 2;have ax:=YA (m8.2 _ j2);obtain rfl:=ax;have On:k≠2:=On;have m9:aO w1 S T sp [.env eo e,.aJ (PN.mk k ta nm nn nA nc ks),.vo none none]:=aD H1 2;have bp:=eE m9 H1 2 (by kernel_rfl) sp [.env eo e,.aJ (PN.mk k ta nm nn nA nc ks)] (⟨m9.1,fun q h=>m9.2 q (by rcases List.mem_cons.1 h with rfl|h;exact .head _;rw[List.mem_singleton.1 h];exact .tail _ (.head _))⟩);refine xb 7 0 bp<|xb 13 0 bp<|xb 13 0 bp<|xq 0 (.bool ((k:Int)==(2:Int))) (.bool false) (eF (by omega))<|xb 12 0 bp<|xq 1 (.bool (decide ((sn:Int)>=(1000000:Int)))) (.bool false) (dF (by omega)) ?_;refine xb 11 0 bp<|xb 12 0 bp<|Sx.vi 0 ((sn:Int)+(1:Int)) ((sn:Int)+(1:Int)) (IntWalk.i64_in _ (by omega))<|xe 3 0 bp fun w6 aV=>?_;refine xd 4 [0,0,3] aV (fun Hp R hZ=>aal S T e us r' br As ns cs sp k ta nm nn nA nc ks eo bo ((sn+1:Nat):Int) w6 R Hp pR hf (fun Qb Qc Qd Qe zP Qf Qg zQ zR zS zU zV DC Qh w7 G4 zW zX=>hZ _ _ _ G4 fun bS=>?_));exact xi 2 _ (aU _ _ _ _ (by omega) ⟨Qb,T,us,Qc,Qd,Qe,zP,Qf,Qg,zQ,zR,zS,zU,zV,eo,e,DC,Qh,(sn+1),k1,0,eB,rfl,rfl,bS.pk [0,0,0,1,1],(.inl ⟨rfl,rfl,zW▸zI,zX,o4⟩)⟩)
 refine xb 7 0 H1<|xf 8 [] H1 (.tuple #[]) ?_;subst aq;exact hK As ns cs k ta nm nn nA nc ks eo vo (sn:Int) _ (H1.pick [0] (by kernel_rfl))
end Mr
end Go.Proofs.YtdmdecgoebnamaaGreat
namespace Go.Mn
open Go.RowKit Go.Sx Go.aR Go.Gx
def pU(l:List PN):List (Nm×Value):=l.foldl (fun m d=>Sx.Dh d.nm (.bool (d.n==1)) m) []
theorem ur{l:List PN}{i:Nat}{d:PN}(h:l[i]?=some d):pU (l.take (i+1))=Sx.Dh d.nm (.bool (d.n==1)) (pU (l.take i)):=by
 obtain⟨hi,he⟩:=List.getElem?_eq_some_iff.1 h;rw[List.take_succ_eq_append_getElem hi,pU,List.foldl_append,he];rfl
theorem aaH{mp:List (Nm×Value)}(h:xG mp)(a:Nm)(b:Bool):xG (Sx.Dh a (.bool b) mp):=fun p hp=>by
 unfold Sx.Dh at hp;split at hp
 . rcases List.mem_or_eq_of_mem_set hp with q|q
   . exact h p q
   . exact⟨b,by rw[q]⟩
 . rcases List.mem_append.1 hp with q|q
   . exact h p q
   . exact⟨b,by rw[List.mem_singleton.1 q]⟩
inductive Lets:List PN->PN->Prop
 |one (m:PN):Lets [m] m
 |more {k a:Nat} {nm:Nm} {n:Int} {A B:Ω} {c c2:Nat} {x:PN} {ks l:List PN} {e:PN} (h:Lets l e):Lets (.mk k a nm n A c (x::ks)::l) (.mk 2 a nm n B c2 [x,e])
theorem M3{ks:List PN}{d:PN}(h:ks[ks.length-1]?=some d):Lets (ks.drop (((ks.length-1:Nat):Int)-1+1).toNat) d:=by
 obtain⟨hi,he⟩:=List.getElem?_eq_some_iff.1 h;rw[show(((ks.length-1:Nat):Int)-1+1).toNat=ks.length-1 by omega,List.drop_eq_getElem_cons hi,he,List.drop_of_length_le (by omega)];exact .one d
theorem M4{ks:List PN}{j k a:Nat}{nm:Nm}{n:Int}{A B:Ω}{c c2:Nat}{x:PN}{l:List PN}{e:PN}(h:ks[j]?=some (.mk k a nm n A c (x::l)))(he:Lets (ks.drop ((j:Int)+1).toNat) e):Lets (ks.drop ((j:Int)-1+1).toNat) (.mk 2 a nm n B c2 [x,e]):=by
 obtain⟨hi,hx⟩:=List.getElem?_eq_some_iff.1 h;rw[show((j:Int)+1).toNat=j+1 by omega] at he;rw[show((j:Int)-1+1).toNat=j by omega,List.drop_eq_getElem_cons hi,hx];exact .more he
theorem PK.two{w:Ψ}{S:Nat->Prop}{x e:PN}{k a b c2:Nat}{nm:Nm}{n:Int}(hx:PK w S x)(he:PK w S e)(hb:S b)(hc:w.cells? 0 ⟨b,0,none⟩ 10=some (x.cells++e.cells))(h2:2<=c2):PK w S (.mk k a nm n (some ⟨b,0,none⟩) c2 [x,e]):=by
 have hx5:x.cells.length=5:=by cases x;rfl
 have he5:e.cells.length=5:=by cases e;rfl
 refine .mk ⟨h2,by simp⟩ (fun i d hi=>⟨_,rfl,hb,?_⟩) (fun i d hi=>?_)
 . match i,hi with
   |0,hi=>cases hi;have:=aa hc (by decide:0+5<=10);rw[List.drop_zero,List.take_left' hx5] at this;exact this
   |1,hi=>cases hi;have:=aa hc (by decide:5+5<=10);rw[List.drop_left' hx5,List.take_of_length_le (by omega)] at this;exact this
   |i+2,hi=>cases hi
 . match i,hi with
   |0,hi=>cases hi;exact hx
   |1,hi=>cases hi;exact he
   |i+2,hi=>cases hi
theorem afu(a:Nm):Instr.sameBits 10000 (Value.string a) (Value.string a)=true:=(MapKept.bytes_beq a a).2 rfl
theorem aaI{w:Ψ}{e sz:Nat}:(wI e sz none 0 0 []).holds w:=uh ⟨by simp,.inl ⟨rfl,rfl,rfl⟩⟩
theorem Wj{w:Ψ}:(wA [] []).holds w:=om (fun i _ h _=>by cases i<;>cases h) (fun i _ _ h=>by cases i<;>cases h)
section
variable {w0 w:Ψ} {L0 L:List Sx.Item}
theorem aaJ(H:Hs w0 L0 w L)(i:Nat){bt:Nat}(hi:L[i]?=some (.ar bt (.map #[] 0))):Hs w0 L0 w (L.set i (xF bt [])):=iI _ _ H hi
theorem aaK(H:Hs w0 L0 w L)(e sz:Nat):Hs w0 L0 w (L++[wI e sz none 0 0 []]):=H.add (Gx.Ext.refl _) aaI (fun _ h=>by cases h)
theorem aaL(H:Hs w0 L0 w L):Hs w0 L0 w (L++[wA [] []]):=H.add (Gx.Ext.refl _) Wj (fun _ h=>by obtain⟨i,h,_⟩:=h;cases i<;>cases h)
variable [Rd] {P:Program} {B:Exit->Act->Ψ->Prop} {b:Nat->Value} {n:Nat} {d:List Deferred} {x:Sx.St}
theorem muO{t kt et : Nat}(m i : Nat)(H : Hs w0 L0 w L){bt : Nat}{mp : List (Nm × Value)}(a : Nm)(v : Bool)(hi : L[i]? = some (xF bt mp))
   (k:∀w',Hs w0 L0 w' (L.set i (xF bt (Sx.Dh a (.bool v) mp)))->Goal P B b n d (Sx.nx (vX (via P b n m w x (Sx.ask (rQ b n)))).y (vX (via P b n m w x (Sx.ask (rQ b n)))).q undef) w')
   (h:vA (via P b n m w x (Sx.ask (rQ b n)))=vB w (via P b n m w x (Sx.ask (rQ b n))):=by kernel_rfl)
   (h2:((vX (via P b n m w x (Sx.ask (rQ b n)))).u,(vX (via P b n m w x (Sx.ask (rQ b n)))).t)=([.map (some bt),.string a,.bool v],[t]):=by kernel_rfl)
   (ht:lS P t=some (kt,et):=by kernel_rfl) (nv:P.underlying kt=some .string:=by kernel_rfl):Goal P B b n d x w:=mu m i H (enc:=Value.string) a (.bool v) hi ae_ str_inj afu k h h2 ht nv
end
end Go.Mn
namespace Go.Proofs.YtdmdecgoebnamaaGreat
open Go.RowKit Go.Sx Go.aR Go.Mn
attribute [local irreducible] Go.wpOps Go.Code.wp Go.wpOp Go.wpAnyH Go.Calls Go.Sx.Goal
set_option maxRecDepth 20000
namespace Mr
set_option maxHeartbeats 8000000 in
theorem M5(S : Φ)(k ta : Nat)(nm : Nm)(N : Nat)(nA : Ω)(nc : Nat)(ks : List PN)(w : Ψ)(K : Ending -> Ψ -> Prop)(H0 : Sp w [mI S ([]) ([]) [.aJ (PN.mk k ta nm (N : Int) nA nc ks)]])(hN : N < ks.length)(hds : ∀(j : Nat)(d : PN), N <= j -> j + 1 < ks.length -> ks[j]? = some d -> ∃ x l, d.ks = x :: l)(hK : ∀(br : Nat)(bo : Nat)(S' : Φ)(k' : Nat)(a' : Nat)(sW : Nm)(sY : Int)(sZ : Ω)(s5 : Nat)(pf : List PN) w', Hs w [mI S ([]) ([]) [.aJ (PN.mk k ta nm (N : Int) nA nc ks)]] w' [bR br none 0 0 (.n k') (.n a') sW (.int .i64 sY) sZ pf.length s5 (.pointer none) (.pointer none) bo (.int .i64 0) eB (.int .i64 0), wI 135 8 none 0 0 (bx ([])), mI S' ([]) ([]) [.env none .nil, .aJ (PN.mk k' a' sW sY sZ s5 pf), .vo none none], wA ([]) ([]), xF bo (pU (ks.take N))] -> (Lets (ks.drop N) (PN.mk k' a' sW sY sZ s5 pf)) -> (xG (pU (ks.take N))) -> K (.returned (.p br)) w') :
   Calls Tryz.prog 27 #[.agg #[.n k,.n ta,.string nm,.n N,.slice nA ks.length nc]] w K:=by
 obtain⟨L0,aq,H⟩:=Sx.cw H0;refine xu (vs:=[.agg #[.n k,.n ta,.string nm,.n N,.slice nA ks.length nc]]) 76 Tryz.func27 ?_;have m1:aO w S ([]) ([]) [.aJ (PN.mk k ta nm (N:Int) nA nc ks)]:=aD H 0;have Yj:ks.length<1000000000:=by obtain⟨⟨_,h⟩,_⟩:=PK.at (m1.2 _ j0) (List.getElem?_eq_getElem hN);exact h
 refine xg 2 H fun k1 w1 H1=>xg 5 H1 fun k2 w2 H2=>?_;have H3:=aaJ (bt:=k2) H2 2 (by kernel_rfl);refine xb 0 1 H3<|xg 1 H3 fun k3 w3 H4=>?_;refine y0 10 (fun z l' w'=>∃(i:Nat) (mp:List (Nm×Value)),l'=[(1,.p k1),(3,.p k3),(4,.n i)]/\z=N-i/\Hs w L0 w' [.ar k1 (.cells #[.n k,.n ta,.string nm,.n N,.slice nA ks.length nc] 62),bR k3 none 0 0 (.n k) (.n ta) nm (.n N) nA ks.length nc (.pointer none) (.pointer none) k2 (.int .i64 0) eB (.int .i64 0),mI S ([]) ([]) [.aJ (PN.mk k ta nm (N:Int) nA nc ks)],xF k2 mp]/\(i<=N)/\(mp=pU (ks.take i))/\(xG mp)) _ _ ⟨0,[],rfl,rfl,H4.pk [1,2,0,0],(Nat.zero_le _),rfl,(fun _ h=>by cases h)⟩ (fun b1 z1 l1 w4 cm K1 aU=>?_);obtain⟨i,mp,rfl,rfl,H6,hi,hmp,gv⟩:=cm;refine xb 5 0 H6 ?_;refine xh 3 (decide ((i:Int)<(N:Int))) (fun bW=>?_) (fun bW=>?_)
 . have jE:=of_decide_eq_true bW;have ax:∃d,ks[i]?=some d:=⟨_,List.getElem?_eq_getElem (by omega)⟩;obtain⟨⟨dk,da,bX,dn,dA,dc,db⟩,hd⟩:=ax;have m2:aO w4 S ([]) ([]) [.aJ (PN.mk k ta nm (N:Int) nA nc ks)]:=aD H6 2;have ax:=PK.at (m2.2 _ j0) hd;obtain⟨FU,⟨gk,BE,_,_⟩,_⟩:=ax;refine xy 4 H6 [1,0,2] [] (LJ:=[bR k3 none 0 0 (.n k) (.n ta) nm (.n N) nA ks.length nc (.pointer none) (.pointer none) k2 (.int .i64 0) eB (.int .i64 0),.ar k1 (.cells #[.n k,.n ta,.string nm,.n N,.slice nA ks.length nc] 62),mI S ([]) ([]) [.aJ (PN.mk k ta nm (N:Int) nA nc ks)]]) (by kernel_rfl) fun w5 H7=>xm [(0,none),(1,none),(2,none),(3,some (0,[])),(4,none),(5,some (1,[])),(6,none)] (H7.sb [1,0,0])<|yj 7 [] gk i 5 ks.length nc BE (by omega) (H7.sb [1,0,0])<|yp 8 [] (Addr.add gk (i*5)) 2 (H7.sb [1,0,0]) ?_;have m3:aO w5 S ([]) ([]) [.aJ (PN.mk k ta nm (N:Int) nA nc ks)]:=aD H7 2;refine yh (c:=1) (t:=9) 9 [] [.string bX] (.string bX) (fun w' hs=>(aa (PK.cell ((Go.aR.dJ hs 2 (it:=mI S ([]) ([]) [.aJ (PN.mk k ta nm (N:Int) nA nc ks)])).1.2 _ j0) BE (i:=i) hd) (by decide:2+1<=5))) (H7.sb [1,0,0])<|xm [(10,none),(11,some (1,[])),(12,none)] (H7.sb [1,0,0])<|yj 13 [] gk i 5 ks.length nc BE (by omega) (H7.sb [1,0,0])<|yp 14 [] (Addr.add gk (i*5)) 3 (H7.sb [1,0,0])<|yh (c:=1) (t:=3) 15 [] [.int .i64 dn] (.int .i64 dn) (fun w' hs=>(aa (PK.cell ((Go.aR.dJ hs 2 (it:=mI S ([]) ([]) [.aJ (PN.mk k ta nm (N:Int) nA nc ks)])).1.2 _ j0) BE (i:=i) hd) (by decide:3+1<=5))) (H7.sb [1,0,0])<|Sx.Pt 16 [] (.bool (dn==(1:Int))) (.bool (dn==1)) (rfl) (H7.sb [1,0,0]) ?_;refine xl ?_;intro iU;refine xp 17<|muO (bt:=k2) (mp:=mp) (t:=72) (kt:=9) (et:=4) 0 3 H7 bX (dn==1) (by kernel_rfl) fun w6 H8=>xj (x:=iU) 17 (H8.sb [1,0,0])<|xw<|Sx.vi 4 ((i:Int)+(1:Int)) ((i+1:Nat):Int) (Gx.bq (by omega) (by omega)) ?_;exact xi 2 _ (aU _ _ _ _ (by omega) ⟨(i+1),(Sx.Dh bX (.bool (dn==1)) mp),rfl,rfl,H8.pk [0,0,0,0],(by omega),(by rw[ur hd,<-hmp];rfl),(aaH gv _ _)⟩)
 have jE:=of_decide_eq_false bW;have hiN:i=N:=by omega
 rw[hiN] at hmp;subst hmp;have ax:∃d,ks[(ks.length-1)]?=some d:=⟨_,List.getElem?_eq_getElem (by omega)⟩;obtain⟨⟨dk,da,bX,dn,dA,dc,db⟩,hd⟩:=ax;have m4:aO w4 S ([]) ([]) [.aJ (PN.mk k ta nm (N:Int) nA nc ks)]:=aD H6 2;have ax:=PK.at (m4.2 _ j0) hd;obtain⟨FU,⟨gk,BE,_,_⟩,_⟩:=ax;refine xb 8 0 H6<|xb 1 0 H6<|Sx.vi 1 ((ks.length:Int)-(1:Int)) ((ks.length-1:Nat):Int) ((by rw[show((ks.length:Int)-(1:Int))=((ks.length-1:Nat):Int) by omega];exact IntWalk.i64_in _ (by omega)))<|xv 0 gk (ks.length-1) 5 ks.length nc BE (by omega)<|xt (c:=5) (t:=62) 0 (Sx.nC dk da bX dn dA db dc) (Sx.nA dk da bX dn dA db dc) (PK.cell (m4.2 _ j0) BE (i:=(ks.length-1)) hd)<|xg 0 H6 fun k4 w7 bh=>?_;refine xe 0 4 bh fun w8 bp=>xb 6 0 bp<|Sx.vi 1 ((ks.length:Int)-(2:Int)) (((ks.length-1:Nat):Int)-1) ((by rw[show((ks.length:Int)-(2:Int))=((ks.length-1:Nat):Int)-1 by omega];exact IntWalk.i64_in _ (by omega))) ?_;have m5:aO w8 S ([]) ([]) [.aJ (PN.mk k ta nm (N:Int) nA nc ks)]:=aD bp 2;have aV:=eE m5 bp 2 (by kernel_rfl) ([]) [.aJ (PN.mk k ta nm (N:Int) nA nc ks),.aJ (PN.mk dk da bX dn dA dc db)] (⟨m5.1,fun q h=>(by rcases List.mem_cons.1 h with rfl|h;exact m5.2 _ (.head _);rw[List.mem_singleton.1 h];exact PK.pd (m5.2 _ j0) hd)⟩);refine y0 4 (fun z l' w'=>∃(S:Φ) (i:Int) (ek:Nat) (ea:Nat) (DM:Nm) (en:Int) (eA:Ω) (ec:Nat) (DN:List PN),l'=[(1,.p k1),(3,.p k3),(5,.p k4),(6,.int .i64 i)]/\z=(i+1).toNat/\Hs w L0 w' [.ar k1 (.cells #[.n k,.n ta,.string nm,.n N,.slice nA ks.length nc] 62),bR k3 none 0 0 (.n k) (.n ta) nm (.n N) nA ks.length nc (.pointer none) (.pointer none) k2 (.int .i64 0) eB (.int .i64 0),mI S ([]) ([]) [.aJ (PN.mk k ta nm (N:Int) nA nc ks),.aJ (PN.mk ek ea DM en eA ec DN)],.ar k4 (.cells #[.n ek,.n ea,.string DM,.int .i64 en,.slice eA DN.length ec] 62),xF k2 (pU (ks.take N))]/\((N:Int)-1<=i/\i+2<=ks.length)/\(Lets (ks.drop (i+1).toNat) (PN.mk ek ea DM en eA ec DN))) _ _ ⟨S,(((ks.length-1:Nat):Int)-1),dk,da,bX,dn,dA,dc,db,rfl,rfl,aV.pk [0,0,3,2,1],(by omega),(M3 hd)⟩ (fun b2 z2 l2 w9 iw K2 eC=>?_);obtain⟨S,i,ek,ea,DM,en,eA,ec,DN,rfl,rfl,bD,hi,eK⟩:=iw;refine xb 5 0 bD ?_;refine xh 3 (decide (i>=(N:Int))) (fun Qu=>?_) (fun Qu=>?_)
 . have afw:=of_decide_eq_true Qu;have ax:∃j:Nat,i=(j:Int):=⟨i.toNat,by omega⟩;obtain⟨j,rfl⟩:=ax;have ax:∃d,ks[j]?=some d:=⟨_,List.getElem?_eq_getElem (by omega)⟩;obtain⟨⟨dk,da,bX,dn,dA,dc,db⟩,hd⟩:=ax;have m6:aO w9 S ([]) ([]) [.aJ (PN.mk k ta nm (N:Int) nA nc ks),.aJ (PN.mk ek ea DM en eA ec DN)]:=aD bD 2;have ax:=PK.at (m6.2 _ j0) hd;obtain⟨FU,⟨gk,BE,_,_⟩,_⟩:=ax;have ax:=hds j _ (by omega) (by omega) hd;obtain⟨⟨xk,xa,vt,xn,xA,xc,Bn⟩,dl,rfl⟩:=ax;have bG:=eE m6 bD 2 (by kernel_rfl) ([]) [.aJ (PN.mk k ta nm (N:Int) nA nc ks),.aJ (PN.mk ek ea DM en eA ec DN),.aJ (PN.mk dk da bX dn dA dc ((PN.mk xk xa vt xn xA xc Bn)::dl))] (aO.l3 m6.1 (m6.2 _ j0) (m6.2 _ j1) (PK.pd (m6.2 _ j0) hd));have m7:aO w9 S ([]) ([]) [.aJ (PN.mk k ta nm (N:Int) nA nc ks),.aJ (PN.mk ek ea DM en eA ec DN),.aJ (PN.mk dk da bX dn dA dc ((PN.mk xk xa vt xn xA xc Bn)::dl))]:=aD bG 5;have ax:=PK.at (m7.2 _ j2) (i:=0) rfl;obtain⟨_,⟨gz,hgz,_,_⟩,_⟩:=ax;refine xb 7 0 bG<|xv 1 gk j 5 ks.length nc BE (by omega) ?_;have m8:aO w9 S ([]) ([]) [.aJ (PN.mk k ta nm (N:Int) nA nc ks),.aJ (PN.mk ek ea DM en eA ec DN)]:=aD bG 2;refine xt (c:=5) (t:=62) 0 [.n dk,.n da,.string bX,.int .i64 dn,.slice dA (((PN.mk xk xa vt xn xA xc Bn)::dl).length) dc] (.agg #[.n dk,.n da,.string bX,.int .i64 dn,.slice dA (((PN.mk xk xa vt xn xA xc Bn)::dl).length) dc]) (PK.cell (m8.2 _ j0) BE (i:=j) hd)<|xg 0 bG fun k5 df cC=>xe 0 6 cC fun gV bL=>xy 2 bL [6,5,3] [13] (LJ:=[.ar k5 (.cells #[.n dk,.n da,.string bX,.int .i64 dn,.slice dA (((PN.mk xk xa vt xn xA xc Bn)::dl).length) dc] 62),mI S ([]) ([]) [.aJ (PN.mk k ta nm (N:Int) nA nc ks),.aJ (PN.mk ek ea DM en eA ec DN),.aJ (PN.mk dk da bX dn dA dc ((PN.mk xk xa vt xn xA xc Bn)::dl))],.ar k4 (.cells #[.n ek,.n ea,.string DM,.int .i64 en,.slice eA DN.length ec] 62)]) (by kernel_rfl) fun jk dG=>xm [(0,none),(1,some (0,[12,13])),(2,none),(3,some (0,[12,13])),(4,none),(5,some (0,[12,13])),(6,none),(7,some (0,[8,9,11,12,13]))] (dG.sb [6,5,3])<|yj 8 [9,11,12,13] gz 0 5 (((PN.mk xk xa vt xn xA xc Bn)::dl).length) dc hgz (by simp) (dG.sb [6,5,3]) ?_;have m9:aO jk S ([]) ([]) [.aJ (PN.mk k ta nm (N:Int) nA nc ks),.aJ (PN.mk ek ea DM en eA ec DN),.aJ (PN.mk dk da bX dn dA dc ((PN.mk xk xa vt xn xA xc Bn)::dl))]:=aD dG 5;refine yh (c:=5) (t:=62) 9 [11,12,13] (Sx.nC xk xa vt xn xA Bn xc) (Sx.nA xk xa vt xn xA Bn xc) (fun w' hs=>(PK.cell ((Go.aR.dJ hs 1 (it:=mI S ([]) ([]) [.aJ (PN.mk k ta nm (N:Int) nA nc ks),.aJ (PN.mk ek ea DM en eA ec DN),.aJ (PN.mk dk da bX dn dA dc ((PN.mk xk xa vt xn xA xc Bn)::dl))])).1.2 _ j2) hgz (i:=0) rfl)) (dG.sb [6,5,3])<|xm [(10,some (2,[11,12,13]))] (dG.sb [6,5,3])<|xl ?_;intro ky;refine xp 11<|xg 0 dG fun k6 jT cx=>xj (x:=ky) 11 (cx.sb [6,5,3])<|xm [(12,none)] (cx.sb [6,5,3])<|xl ?_;intro mJ;refine xp 13<|xe 0 3 cx fun jZ cM=>xj (x:=mJ) 13 Sx.np<|xw<|Sx.vi 4 ((j:Int)-(1:Int)) ((j:Int)-(1:Int)) (IntWalk.i64_in _ (by omega)) ?_;have E4:aO jZ S ([]) ([]) [.aJ (PN.mk k ta nm (N:Int) nA nc ks),.aJ (PN.mk ek ea DM en eA ec DN),.aJ (PN.mk dk da bX dn dA dc ((PN.mk xk xa vt xn xA xc Bn)::dl))]:=aD cM 5;have ax:=o0 E4 cM [5,6] ([]) [.aJ (PN.mk k ta nm (N:Int) nA nc ks),.aJ (PN.mk 2 da bX dn (Χ k6) 2 [(PN.mk xk xa vt xn xA xc Bn),(PN.mk ek ea DM en eA ec DN)])] k6 62 #[.n xk,.n xa,.string vt,.int .i64 xn,.slice xA Bn.length xc,.n ek,.n ea,.string DM,.int .i64 en,.slice eA DN.length ec] (by kernel_rfl) (fun S' h hb hc=>⟨h.1,fun q hq=>(by rcases List.mem_cons.1 hq with rfl|hq;exact h.2 _ j0;rw[List.mem_singleton.1 hq];exact PK.two (PK.pd (h.2 _ j2) (i:=0) rfl) (h.2 _ j1) hb hc (Nat.le_refl _))⟩);obtain⟨S1,dt⟩:=ax;exact xi 2 _ (eC _ _ _ _ (by omega) ⟨S1,((j:Int)-1),2,da,bX,dn,(Χ k6),2,[(PN.mk xk xa vt xn xA xc Bn),(PN.mk ek ea DM en eA ec DN)],rfl,rfl,dt.pk [1,1,0,1,1],(by omega),(M4 hd eK)⟩)
 refine xb 8 3 bD<|xe 2 1 bD fun mn fi=>xf 9 [] fi (.p k3) ?_;have afw:=of_decide_eq_false Qu;have dI:=aaK fi 135 8;have dp:=aaL dI;have Kz:aO mn S ([]) ([]) [.aJ (PN.mk k ta nm (N:Int) nA nc ks),.aJ (PN.mk ek ea DM en eA ec DN)]:=aD dp 2;have fE:=eE Kz dp 2 (by kernel_rfl) ([]) [.env none .nil,.aJ (PN.mk ek ea DM en eA ec DN),.vo none none] (aO.l3 Kz.1 .nil (Kz.2 _ j1) trivial);subst aq;exact hK k3 k2 S ek ea DM en eA ec DN _ (fE.pick [1,4,5,4,3] (by kernel_rfl)) (by rw[show i=(N:Int)-1 by omega,show((N:Int)-1+1).toNat=N by omega] at eK;exact eK) gv
end Mr
end Go.Proofs.YtdmdecgoebnamaaGreat
namespace Go.aR
open Go.RowKit Go.Sx Go.Gx Go.dy
abbrev Nr:=Nd×Ω×Nat
def CE(Q:Φ)(l:List Nr):Sx.Item:=.ro Q (fun w=>∀p∈l,KV Q w p.1.ks p.2.1 p.2.2)
theorem DO(Q:Φ)(l:List Nr):Sx.Loc Q (fun w=>∀p∈l,KV Q w p.1.ks p.2.1 p.2.2):=fun _ _ _ hk h p hp=>(h p hp).frame (fun j hj _=>hk j hj)
inductive Kd where
 |lf (k a:Nat) (x:Ξ) (n:Int)
 |nd (Q:Φ) (t:Nd) (A:Ω) (c:Nat)
def Kd.r:Kd->Nr
 |.lf k a x n=>(.mk k a x n [],none,0)
 |.nd _ t A c=>(t,A,c)
def Kd.i:Kd->Option Sx.Item
 |.lf _ _ _ _=>none
 |.nd Q t A c=>some (fK Q t.ks A c)
section
variable {w0 w:Ψ} {L0 L:List Sx.Item}
theorem _root_.Go.Sx.Hs.pe{L1:List Sx.Item}(H:Hs w0 L0 w L)(e:L0=L1)(I:List Nat){a:List Sx.Item}(h:bB I L=some a:=by kernel_rfl):Hs w0 L1 w a:=e▸H.pick I h
theorem z8(H:Hs w0 L0 w L):Hs w0 L0 w (L++[CE (fun _=>False) []]):=H.add (Gx.Ext.refl _) (it:=CE (fun _=>False) []) ⟨fun _ h=>(by cases h),fun _ h=>h.elim,DO _ _⟩ (fun _ h=>h.elim)
theorem dL(H:Hs w0 L0 w L):Hs w0 L0 w (L++[fK (fun _=>False) [] none 0]):=H.add (Gx.Ext.refl _) (it:=fK (fun _=>False) [] none 0) ⟨.nil,fun _ h=>h.elim,yD _ _ _ _⟩ (fun _ h=>h.elim)
theorem Qv{S:List Sx.Item}{m:List Kd}(s:∀it∈S,it.holds w)(h:∀x∈m.filterMap Kd.i,x∈S):∀p∈m.map Kd.r,KV (Ig S) w p.1.ks p.2.1 p.2.2:=fun p hp=>by
 obtain⟨k,hk,rfl⟩:=List.mem_map.1 hp;cases k with
 |lf=>exact .nil
 |nd Q t A c=>
   have hm:=h (fK Q t.ks A c) (List.mem_filterMap.2 ⟨_,hk,rfl⟩);exact(s _ hm).1.mono fun c hc _=>⟨_,hm,hc⟩
theorem Qw(H:Hs w0 L0 w L)(I:List Nat)(Q:Φ)(l:List Nr)(m:List Kd)(hp:bB I L=some (CE Q l::m.filterMap Kd.i):=by kernel_rfl):∃Q',Hs w0 L0 w (CE Q' (l++m.map Kd.r)::rest I L):=by
 refine⟨_,H.fz I hp (fun s p hp=>?_) (DO _ _)⟩;rcases List.mem_append.1 hp with h|h
 . exact((s.all _ (.head _)).1 p h).mono fun c hc _=>⟨_,.head _,hc⟩
 . exact Qv s.all (fun x hx=>.tail _ hx) p h
theorem Wk(H:Hs w0 L0 w L)(I:List Nat)(Q Q2:Φ)(l m:List Nr)(hp:bB I L=some [CE Q l,CE Q2 m]:=by kernel_rfl):∃Q',Hs w0 L0 w (CE Q' (l++m)::rest I L):=by
 refine⟨_,H.fz I hp (fun s p hp=>?_) (DO _ _)⟩;rcases List.mem_append.1 hp with h|h
 . exact((s.all _ (.head _)).1 p h).mono fun c hc _=>⟨_,.head _,hc⟩
 . exact((s.all _ (.tail _ (.head _))).1 p h).mono fun c hc _=>⟨_,.tail _ (.head _),hc⟩
theorem Wl(H:Hs w0 L0 w L)(I:List Nat)(e:Nat)(A:Ω)(cap n:Nat)(Q:Φ)(l:List Nr)(hp:bB I L=some [.own e 5 A cap n (flat l),CE Q l])(hn:n=l.length):∃Q',Hs w0 L0 w (fK Q' (jR l) A cap::rest I L):=by
 refine⟨_,H.fz I hp (fun s=>?_) (yD _ _ _ _)⟩;obtain⟨A',c',e1,h⟩:=KV.ZT (Q:=Ig [.own e 5 A cap n (flat l),CE Q l]) l (s.all _ (.head _)) (fun j hj=>⟨_,.head _,hj⟩) (fun p hp=>((s.all _ (.tail _ (.head _))).1 p hp).mono fun c hc _=>⟨_,.tail _ (.head _),hc⟩);cases e1;exact h
theorem Qx(H:Hs w0 L0 w L)(I:List Nat)(k e:Nat)(m:List Kd)(hp:bB I L=some (.ar k (.cells (flat (m.map Kd.r)).toArray e)::m.filterMap Kd.i):=by kernel_rfl)(hl:Nat.ble m.length 9=true:=by kernel_rfl):∃Q,Hs w0 L0 w (fK Q (jR (m.map Kd.r)) (some ⟨k,0,none⟩) m.length::rest I L):=
 ⟨_,H.fz I hp (fun s=>KV.O3 (n:=(flat (m.map Kd.r)).length) (m.map Kd.r) (s.all _ (.head _)) (List.take_length) ⟨_,.head _,rfl⟩ (Qv s.all (fun x hx=>.tail _ hx)) (by simp) (by have:=Nat.le_of_ble_eq_true hl;unfold maxLen;simp;omega)) (yD _ _ _ _)⟩
theorem Qy(H:Hs w0 L0 w L)(i k e:Nat)(m:List Kd)(hi:L[i]?=some (.ar k (.cells (flat (m.map Kd.r)).toArray e)):=by kernel_rfl)(hl:Nat.ble m.length 9=true:=by kernel_rfl):Hs w0 L0 w (L.set i (.own e 5 (some ⟨k,0,none⟩) m.length m.length (flat (m.map Kd.r)))):=
 H.wy i 5 m.length hi ((pH (m.map Kd.r)).trans (by rw[List.length_map])) (by have:=Nat.le_of_ble_eq_true hl;omega)
variable {P:Prop}
theorem iL(H:Hs w0 L0 w L)(I:List Nat)(Q:Φ)(l:List Nr)(m:List Kd)(k:∀Q',Hs w0 L0 w (CE Q' (l++m.map Kd.r)::rest I L)->P)(hp:bB I L=some (CE Q l::m.filterMap Kd.i):=by kernel_rfl):P:=(Qw H I Q l m hp).elim k
theorem aaM(H:Hs w0 L0 w L)(I:List Nat)(Q Q2:Φ)(l m:List Nr)(k:∀Q',Hs w0 L0 w (CE Q' (l++m)::rest I L)->P)(hp:bB I L=some [CE Q l,CE Q2 m]:=by kernel_rfl):P:=(Wk H I Q Q2 l m hp).elim k
theorem DP(H:Hs w0 L0 w L)(I:List Nat)(e:Nat)(A:Ω)(cap n:Nat)(Q:Φ)(l:List Nr)(hn:n=l.length)(k:∀Q',Hs w0 L0 w (fK Q' (jR l) A cap::rest I L)->P)(hp:bB I L=some [.own e 5 A cap n (flat l),CE Q l]:=by kernel_rfl):P:=(Wl H I e A cap n Q l hp hn).elim k
theorem cj(H:Hs w0 L0 w L)(I:List Nat)(k e:Nat)(m:List Kd)(c:∀Q',Hs w0 L0 w (fK Q' (jR (m.map Kd.r)) (some ⟨k,0,none⟩) m.length::rest I L)->P)(hp:bB I L=some (.ar k (.cells (flat (m.map Kd.r)).toArray e)::m.filterMap Kd.i):=by kernel_rfl)(hl:Nat.ble m.length 9=true:=by kernel_rfl):P:=(Qx H I k e m hp hl).elim c
end
structure Up (S:Ξ) (q q':Rs):Prop where
 ok:Ok S q'
 m:M S q'<=M S q
 x:q'.x=q.x
 y:q'.y=q.y
theorem Up.of{S:Ξ}{q q':Rs}(h:Tr S q q'):Up S q q':=⟨h.ok,h.m,h.x,h.y⟩
theorem YB{S:Ξ}{q:Rs}(h:Ok S q)(x y:Nat)(hx:x<=200)(hy:y<=200):Ok S ⟨q.k,q.a,q.t,q.n,q.e,q.fk,q.fa,x,y⟩:=⟨h.size,h.e,hx,hy,h.a,h.n,h.t,h.k,h.end_,h.nm,h.sg⟩
theorem Wm{S:Ξ}{q q':Rs}(h:Ok S q)(e:cr S q=q'):Up S q q'/\∀s,bH q s=true->M S q'<M S q:=by subst e;exact⟨.of (tQ h),fun s hs=>is_lt h hs⟩
theorem YC{S:Ξ}{q q':Rs}(h:Ok S q)(e:sH q=q'):Up S q q':=by subst e;exact .of (Fy h)
theorem QA{S s:Ξ}{q q':Rs}(h:Ok S q)(e:aH S q s=q'):Up S q q'/\(bH q s=true->M S q'<M S q):=by subst e;exact⟨.of (zw h),fun hs=>vj h hs⟩
theorem KG{S s:Ξ}{q q':Rs}(h:Ok S q)(e:aN S q s=q'):Up S q q':=by subst e;exact .of (J5 h)
theorem KH{S x:Ξ}{a:Nat}{q q':Rs}(h:Ok S q)(e:bZ S q=((x,a),q')):Up S q q'/\(okB q'=true->M S q'<M S q):=by
 have t:=J6 h;have l:=Vi (S:=S) (q:=q) h;rw[e] at t l;exact⟨.of t,l⟩
theorem nt{b:Bool}(h:(!b)=true):b=false:=by simpa using h
theorem nf{b:Bool}(h:(!b)=false):b=true:=by simpa using h
theorem s0:((true=true)=True)/\((false=true)=False)/\((!true)=false)/\((!false)=true)/\(∀b,(true&&b)=b)/\(∀b,(false&&b)=false)/\(∀b,(true||b)=true)/\(∀b,(false||b)=b)/\(∀b,(b&&true)=b)/\(∀b,(b||false)=b)/\(∀b,(b&&false)=false)/\(∀b,(b||true)=true):=by simp
theorem ak6{q:Rs}(h:((!(okB q))||((q.k:Int) != (2:Int)))=true):fy q=false:=by unfold fy;revert h;cases okB q<;>simp[bne]
theorem ak7{q:Rs}(h:((!(okB q))||((q.k:Int) != (2:Int)))=false):fy q=true:=by unfold fy;revert h;cases okB q<;>simp[bne]
theorem hJ{α:Type}(a b:Bool)(x y:α):(if a=true then if b=true then x else y else y)=if(a&&b)=true then x else y:=by cases a<;>cases b<;>rfl
theorem mK{α:Type}(a b:Bool)(x y:α):(if a=true then x else if b=true then x else y)=if(a||b)=true then x else y:=by cases a<;>cases b<;>rfl
theorem QB(l m:List Nr):flat l++flat m=flat (l++m):=List.flatMap_append.symm
theorem M6{l:List Nd}{i:Nat}{d z:Nd}(h:l[i]?=some d):(l.drop i).foldr Cl z=Cl d ((l.drop (i+1)).foldr Cl z):=by
 obtain⟨hi,e⟩:=List.getElem?_eq_some_iff.1 h;rw[List.drop_eq_getElem_cons hi,List.foldr_cons,e]
theorem M7{w:Ψ}{e sz cap n:Nat}{A:Ω}{xs:Θ}(h:(Sx.Item.own e sz A cap n xs).holds w):(A=none->n=0)/\∀a,A=some a->∀j u,xs[j]?=some u->w.cell? (a.add j)=some u:=by
 rcases h.2 with⟨hv,hn⟩|⟨g,dj,cur,hv,_,hg,Bl,_,_,X4⟩
 . injection hv with e1;subst e1;exact⟨fun _=>hn,fun a ha=>by cases ha⟩
 . injection hv with e1 e2 e3;subst e1;refine⟨fun q=>(by cases q),fun a ha j u hu=>?_⟩;cases ha;have ea:(⟨g,0,none⟩:Addr).add j=⟨g,j,none⟩:=by unfold Addr.add;split<;>simp_all
   rw[ea,cell_of_row w g j cur e (0,0) hg];rw[<- X4,List.getElem?_take] at hu;split at hu
   . simpa using hu
   . cases hu
end Go.aR
namespace Go.Sx
open Go.RowKit Go.Gx
section
variable {P:Program} {fn:Func} {R:Ending->Ψ->Prop} {b:Nat->Value} {n:Nat} {d:List Deferred} {w:Ψ} {x:St}
theorem on3(i j m:Nat)(k1:Goal P (bodyPost P fn R) b n d (onX i P (bodyPost P fn R) x) w)(k2:Goal P (bodyPost P fn R) b n d (onX j P (bodyPost P fn R) x) w)(k3:Goal P (bodyPost P fn R) b n d (onX m P (bodyPost P fn R) x) w)(h:Vv x=[i,j,m]:=by kernel_rfl):Goal P (bodyPost P fn R) b n d x w:=by
 obtain⟨f,kk,l⟩:=x;cases f with
 |any ops LJ D fuel al=>
   cases fuel with
   |zero=>simp[Vv] at h
   |succ fuel=>
     have h':Region.ready .any ops al=[i,j,m]:=h;refine⟨fun h0=>absurd (h'▸h0) (by simp),fun q hq=>?_⟩;rw[h'] at hq;simp only[List.mem_cons,List.not_mem_nil,or_false] at hq;rcases hq with rfl|rfl|rfl
     . exact k1
     . exact k2
     . exact k3
 |_=>simp[Vv] at h
end
end Go.Sx
namespace Go.Sx
open Go.RowKit Go.Gx
section
variable [Rd] {P:Program} {B:Exit->Act->Ψ->Prop} {b:Nat->Value} {n:Nat} {d:List Deferred} {w:Ψ} {x:St}
def ixA(P:Program)(b:Nat->Value)(n:Nat)(x:St):Option Ask:=
 match hd b n x with
 |some q=>match q.2.2.op with
   |.index t s i=>match P.underlying t with
     |some .string=>some ⟨[ev b n x.l s,ev b n x.l i],[],x,q⟩
     |_=>none
   |_=>none
 |none=>none
theorem UH(m : Nat)(s : Ξ)(i : Nat)(hi : i < s.size)(g : Goal P B b n d (nx (vX (via P b n m w x (ask (ixA P b n)))).y (vX (via P b n m w x (ask (ixA P b n)))).q (.int .u8 ((ag s i).toNat : Int))) w)
   (h:vA (via P b n m w x (ask (ixA P b n)))=vB w (via P b n m w x (ask (ixA P b n))):=by kernel_rfl)
   (h2:(vX (via P b n m w x (ask (ixA P b n)))).u=[.string s,.int .i64 (i:Int)]:=by kernel_rfl):Goal P B b n d x w:=by
 obtain⟨y,hr,hf⟩:=cP h;refine aE hr ?_;generalize vX (via P b n m w x (ask (ixA P b n)))=z at *;unfold ixA at hf;split at hf<;>try contradiction
 rename_i q hq;split at hf<;>try contradiction
 rename_i t s' i' hop;split at hf<;>try contradiction
 rename_i hu;simp only[Option.some.injEq] at hf;subst hf;simp only[List.cons.injEq,and_true] at h2;obtain⟨h3,h4⟩:=h2;refine cO hq (v:=.int .u8 ((ag s i).toNat:Int)) ?_ g;unfold execOp;have hb:=L_ hi;simp[hop,h3,h4,Instr.index,asIntOf,underlying,hu,Sem.run_bind,go_sem,hb]
def s2A(P:Program)(b:Nat->Value)(n:Nat)(x:St):Option Ask:=
 match hd b n x with
 |some q=>match q.2.2.op with
   |.slice t s lo hi mx=>match lo,hi,mx with
     |some j,some k,none=>match P.underlying t with
       |some .string=>some ⟨[ev b n x.l s,ev b n x.l j,ev b n x.l k],[],x,q⟩
       |_=>none
     |_,_,_=>none
   |_=>none
 |none=>none
theorem sl2(m : Nat)(s : Ξ)(j k : Nat)(hj : j <= k)(hk : k <= s.size)(g : Goal P B b n d (nx (vX (via P b n m w x (ask (s2A P b n)))).y (vX (via P b n m w x (ask (s2A P b n)))).q (.string (s.extract j k))) w)
   (h:vA (via P b n m w x (ask (s2A P b n)))=vB w (via P b n m w x (ask (s2A P b n))):=by kernel_rfl)
   (h2:(vX (via P b n m w x (ask (s2A P b n)))).u=[.string s,.int .i64 (j:Int),.int .i64 (k:Int)]:=by kernel_rfl):Goal P B b n d x w:=by
 obtain⟨y,hr,hf⟩:=cP h;refine aE hr ?_;generalize vX (via P b n m w x (ask (s2A P b n)))=z at *;unfold s2A at hf;split at hf<;>try contradiction
 rename_i q hq;split at hf<;>try contradiction
 rename_i t s' lo pG mx hop;split at hf<;>try contradiction
 rename_i jo ko;split at hf<;>try contradiction
 rename_i hu;simp only[Option.some.injEq] at hf;subst hf;simp only[List.cons.injEq,and_true] at h2;obtain⟨h3,h4,h5⟩:=h2;refine cO hq (v:=.string (s.extract j k)) ?_ g;exact po hop hu s j k h3 (.inr ⟨.i64,by rw[Option.map_some,h4]⟩) (.inr ⟨.i64,by rw[Option.map_some,h5]⟩) hj hk
end
section
variable [Rd] {P:Program} {B:Exit->Act->Ψ->Prop} [Pn B] {b:Nat->Value} {n:Nat} {d:List Deferred} {w:Ψ} {x:St}
def s2O(P:Program)(b:Nat->Value)(n:Nat)(z:Tz):Option (Θ):=match z.o.op with
 |.slice t s lo hi mx=>match lo,hi,mx with
   |some j,some k,none=>match P.underlying t with
     |some .string=>some [ev b n z.l s,ev b n z.l j,ev b n z.l k]
     |_=>none
   |_,_,_=>none
 |_=>none
theorem tvz(i : Nat)(C : List Nat)(s : Ξ)(j k : Nat)(hj : j <= k)(hk : k <= s.size)(hS : pL x = true -> Sp w (kU x))
   (g:Goal P B b n d ((vX (via P b n 0 w x (iX b n i C))).k (.string (s.extract j k))) w)
   (h:vA (via P b n 0 w x (iX b n i C))=vB w (via P b n 0 w x (iX b n i C)):=by kernel_rfl)
   (h2:s2O P b n (vX (via P b n 0 w x (iX b n i C)))=some [.string s,.int .i64 (j:Int),.int .i64 (k:Int)]:=by kernel_rfl):Goal P B b n d x w:=by
 refine tv i C _ hS (fun w' _=>?_) g h;generalize vX (via P b n 0 w x (iX b n i C))=z at *;unfold s2O at h2;split at h2<;>try contradiction
 rename_i t s' lo pG mx hop;split at h2<;>try contradiction
 rename_i jo ko;split at h2<;>try contradiction
 rename_i hu;simp only[Option.some.injEq,List.cons.injEq,and_true] at h2;obtain⟨h3,h4,h5⟩:=h2;exact po hop hu s j k h3 (.inr ⟨.i64,by rw[Option.map_some,h4]⟩) (.inr ⟨.i64,by rw[Option.map_some,h5]⟩) hj hk
end
end Go.Sx
namespace Go.Lex
open Go.RowKit Go.Gx
theorem mw{w:Ψ}{b t i:Nat}{l:List Ξ}(h:Has w b (.cells (wX l) t))(hi:i<l.length):w.cells? 0 ((⟨b,0,none⟩:Addr).add (i*1)) 1=some [.string (gs l i)]:=by
 rw[Addr.add_lit];refine ChangeShapes.cells?_of (Nat.zero_le _) rfl (fun j hj=>?_);obtain rfl:j=0:=by omega
 rw[cell_of_row w b _ _ t (0,0) h];simp[wX,gs,hi]
theorem lT{p:Prop}[Decidable p] (h:p):Value.bool (decide p)=.bool true:=by rw[decide_eq_true h]
theorem lF{p:Prop}[Decidable p] (h:¬p):Value.bool (decide p)=.bool false:=by rw[decide_eq_false h]
end Go.Lex
namespace Go.Proofs.YtdmdecgoebnamaaGreat
open Go.RowKit Go.Sx Go.aR Go.Lex
attribute [local irreducible] Go.wpOps Go.Code.wp Go.wpOp Go.wpAnyH Go.Calls Go.Sx.Goal
set_option maxRecDepth 20000
namespace Lx
theorem DQ(c : UInt8)(w : Ψ)(K : Ending -> Ψ -> Prop)(H0 : Sp w [])(hK : ∀ w', Hs w [] w' [] -> K (.returned (.bool (aj c))) w') :
   Calls Tryz.prog 75 #[.int .u8 ((c).toNat:Int)] w K:=by
 obtain⟨L0,aq,H⟩:=Sx.cw H0;refine xu (vs:=[.int .u8 ((c).toNat:Int)]) 9 Tryz.func75 ?_;refine yg 5 (fun l' w'=>l'=[(2,.bool ((decide (((c).toNat:Int)>=(48:Int)))&&(decide (((c).toNat:Int)<=(57:Int)))))]/\w=w') (fun K1 aU=>?_) (fun b1 l1 w1 cm=>?_)
 . refine ye 4 5 (decide (((c).toNat:Int)>=(48:Int))) (fun gW=>?_) (fun gW=>?_)
   . exact xi 5 _ (aU _ _ _ ⟨rfl,rfl⟩) (h2:=(by rw[gW];try kernel_rfl))
   exact xi 5 _ (aU _ _ _ ⟨rfl,rfl⟩) (h2:=(by rw[gW];try kernel_rfl))
 obtain⟨rfl,rfl⟩:=cm;refine xf 1 [] H (.bool ((decide (((c).toNat:Int)>=(48:Int)))&&(decide (((c).toNat:Int)<=(57:Int))))) ?_;subst aq;exact Gx.ah (v':=.bool (aj c)) (by rfl) (hK _ (H.pk []))
theorem F5(c : UInt8)(w : Ψ)(K : Ending -> Ψ -> Prop)(H0 : Sp w [])(hK : ∀ w', Hs w [] w' [] -> K (.returned (.bool (az c))) w') :
   Calls Tryz.prog 77 #[.int .u8 ((c).toNat:Int)] w K:=by
 obtain⟨L0,aq,H⟩:=Sx.cw H0;refine xu (vs:=[.int .u8 ((c).toNat:Int)]) 21 Tryz.func77 ?_;refine yg 5 (fun l' w'=>l'=[(2,.bool ((((decide (((c).toNat:Int)>=(97:Int)))&&(decide (((c).toNat:Int)<=(122:Int))))||((decide (((c).toNat:Int)>=(65:Int)))&&(decide (((c).toNat:Int)<=(90:Int)))))||(((c).toNat:Int)==(95:Int))))]/\w=w') (fun K1 aU=>?_) (fun b1 l1 w1 cm=>?_)
 . refine ye 4 5 (decide (((c).toNat:Int)>=(97:Int))) (fun gW=>?_) (fun gW=>?_)
   . refine ye 4 9 (decide (((c).toNat:Int)<=(122:Int))) (fun BJ=>?_) (fun BJ=>?_)
     . exact xi 13 _ (aU _ _ _ ⟨rfl,rfl⟩) (h2:=(by rw[gW,BJ];try kernel_rfl))
     refine ye 3 12 (decide (((c).toNat:Int)>=(65:Int))) (fun gG=>?_) (fun gG=>?_)
     . refine ye 5 17 (decide (((c).toNat:Int)<=(90:Int))) (fun z_=>?_) (fun z_=>?_)
       . exact xi 5 _ (aU _ _ _ ⟨rfl,rfl⟩) (h2:=(by rw[gW,BJ,gG,z_];try kernel_rfl))
       exact xi 5 _ (aU _ _ _ ⟨rfl,rfl⟩) (h2:=(by rw[gW,BJ,gG,z_];try kernel_rfl))
     exact xi 10 _ (aU _ _ _ ⟨rfl,rfl⟩) (h2:=(by rw[gW,BJ,gG];try kernel_rfl))
   refine ye 7 12 (decide (((c).toNat:Int)>=(65:Int))) (fun gG=>?_) (fun gG=>?_)
   . refine ye 5 17 (decide (((c).toNat:Int)<=(90:Int))) (fun z_=>?_) (fun z_=>?_)
     . exact xi 5 _ (aU _ _ _ ⟨rfl,rfl⟩) (h2:=(by rw[gW,gG,z_];try kernel_rfl))
     exact xi 5 _ (aU _ _ _ ⟨rfl,rfl⟩) (h2:=(by rw[gW,gG,z_];try kernel_rfl))
   exact xi 10 _ (aU _ _ _ ⟨rfl,rfl⟩) (h2:=(by rw[gW,gG];try kernel_rfl))
 obtain⟨rfl,rfl⟩:=cm;refine xf 1 [] H (.bool ((((decide (((c).toNat:Int)>=(97:Int)))&&(decide (((c).toNat:Int)<=(122:Int))))||((decide (((c).toNat:Int)>=(65:Int)))&&(decide (((c).toNat:Int)<=(90:Int)))))||(((c).toNat:Int)==(95:Int)))) ?_;subst aq;exact Gx.ah (v':=.bool (az c)) (by rfl) (hK _ (H.pk []))
theorem Wn(c : UInt8)(w : Ψ)(K : Ending -> Ψ -> Prop)(H0 : Sp w [])(hK : ∀ w', Hs w [] w' [] -> K (.returned (.bool (dx c))) w') :
   Calls Tryz.prog 110 #[.int .u8 ((c).toNat:Int)] w K:=by
 obtain⟨L0,aq,H⟩:=Sx.cw H0;refine xu (vs:=[.int .u8 ((c).toNat:Int)]) 17 Tryz.func110 ?_;refine yg 5 (fun l' w'=>l'=[(2,.bool ((((((c).toNat:Int)==(9:Int))||(((c).toNat:Int)==(10:Int)))||(((c).toNat:Int)==(13:Int)))||(((c).toNat:Int)==(32:Int))))]/\w=w') (fun K1 aU=>?_) (fun b1 l1 w1 cm=>?_)
 . refine ye 4 5 (((c).toNat:Int)==(9:Int)) (fun gW=>?_) (fun gW=>?_)
   . exact xi 13 _ (aU _ _ _ ⟨rfl,rfl⟩) (h2:=(by rw[gW];try kernel_rfl))
   refine ye 4 9 (((c).toNat:Int)==(10:Int)) (fun BJ=>?_) (fun BJ=>?_)
   . exact xi 9 _ (aU _ _ _ ⟨rfl,rfl⟩) (h2:=(by rw[gW,BJ];try kernel_rfl))
   refine ye 4 13 (((c).toNat:Int)==(13:Int)) (fun QC=>?_) (fun QC=>?_)
   . exact xi 5 _ (aU _ _ _ ⟨rfl,rfl⟩) (h2:=(by rw[gW,BJ,QC];try kernel_rfl))
   exact xi 5 _ (aU _ _ _ ⟨rfl,rfl⟩) (h2:=(by rw[gW,BJ,QC];try kernel_rfl))
 obtain⟨rfl,rfl⟩:=cm;refine xf 1 [] H (.bool ((((((c).toNat:Int)==(9:Int))||(((c).toNat:Int)==(10:Int)))||(((c).toNat:Int)==(13:Int)))||(((c).toNat:Int)==(32:Int)))) ?_;subst aq;exact Gx.ah (v':=.bool (dx c)) (by rfl) (hK _ (H.pk []))
theorem Wp  (w : Ψ) (K : Ending -> Ψ -> Prop) (H0 : Sp w []) (hK : ∀(b : Nat) w', Hs w [] w' [.ar b (.cells (Gx.wX fI) 9)] -> K (.returned (.slice (Χ b) 28 28)) w') :
   Calls Tryz.prog 111 #[] w K:=by
 obtain⟨L0,aq,H⟩:=Sx.cw H0;refine xu (vs:=[]) 2 Tryz.func111<|xg 7 H fun k1 w1 H1=>xf 4 [] H1 (.slice (Χ k1) 28 28) ?_;subst aq;exact hK k1 _ (H1.pk [0])
theorem Wq  (w : Ψ) (K : Ending -> Ψ -> Prop) (H0 : Sp w []) (hK : ∀(b : Nat) w', Hs w [] w' [.ar b (.cells (Gx.wX bj) 9)] -> K (.returned (.slice (Χ b) 20 20)) w') :
   Calls Tryz.prog 79 #[] w K:=by
 obtain⟨L0,aq,H⟩:=Sx.cw H0;refine xu (vs:=[]) 2 Tryz.func79<|xg 7 H fun k1 w1 H1=>xf 4 [] H1 (.slice (Χ k1) 20 20) ?_;subst aq;exact hK k1 _ (H1.pk [0])
theorem QD(s : Ξ)(w : Ψ)(K : Ending -> Ψ -> Prop)(H0 : Sp w [])(hK : ∀ w', Hs w [] w' [] -> K (.returned (.bool (pt s))) w') :
   Calls Tryz.prog 78 #[.string s] w K:=by
 obtain⟨L0,aq,H⟩:=Sx.cw H0;refine xu (vs:=[.string s]) 18 Tryz.func78 ?_;refine xd 7 [] H (fun Hp R hZ=>Wp w R Hp  (fun oO w1 G1=>hZ _ _ _ G1 fun H1=>?_));refine y0 10 (fun z l' w'=>∃(k:Nat),l'=[(0,.string s),(3,.slice (Χ oO) 28 28),(4,.n k)]/\z=28-k/\Hs w L0 w' [.ar oO (.cells (Gx.wX fI) 9)]/\(k<=28)/\(∀j,j<k->((Gx.gs fI j).toList==s.toList)=false)) _ _ ⟨0,rfl,rfl,H1.pk [0],(by omega),(by intro j hj;omega)⟩ (fun b1 z1 l1 w2 cm K1 aU=>?_);obtain⟨k,rfl,rfl,H3,hk,hn⟩:=cm;refine xh 9 (decide ((k:Int)<(28:Int))) (fun jl=>?_) (fun jl=>?_)
 . have vz:=of_decide_eq_true jl;refine xv 8 (Υ oO) k 1 28 28 rfl (by omega)<|xt (c:=1) (t:=9) 0 [.string (Gx.gs fI k)] (.string (Gx.gs fI k)) (mw (H3.at 0 (it:=.ar oO (.cells (Gx.wX fI) 9)) (by kernel_rfl)) (by show _<28;omega)) ?_;refine xh 4 ((Gx.gs fI k).toList==s.toList) (fun cK=>?_) (fun cK=>?_)
   . refine xf 11 [] H3 (.bool true) ?_;subst aq;exact Gx.ah (v':=.bool (pt s)) (by rw[OO (by omega) cK]) (hK _ (H3.pk []))
   refine Sx.vi 5 ((k:Int)+(1:Int)) ((k+1:Nat):Int) (Gx.bq (by omega) (by omega)) ?_;exact xi 2 _ (aU _ _ _ _ (by omega) ⟨(k+1),rfl,rfl,H3.pk [0],(by omega),(fun j hj=>by rcases Nat.lt_or_ge j k with h|h;exact hn j h;(obtain rfl:j=k:=by omega);exact cK)⟩)
 refine xf 11 [] H3 (.bool false) ?_;have vz:=of_decide_eq_false jl;subst aq;exact Gx.ah (v':=.bool (pt s)) (by rw[HZ (fun j hj=>hn j (by omega))]) (hK _ (H3.pk []))
theorem aaP(s : Ξ)(i : Nat)(w : Ψ)(K : Ending -> Ψ -> Prop)(H0 : Sp w [])(hs : s.size <= 3000)(hi : i <= s.size)(hK : ∀ w', Hs w [] w' [] -> K (.returned (.int .i64 ((pass s i : Nat) : Int))) w') :
   Calls Tryz.prog 74 #[.string s,.n i] w K:=by
 obtain⟨L0,aq,H⟩:=Sx.cw H0;refine xu (vs:=[.string s,.n i]) 33 Tryz.func74 ?_;refine y0 7 (fun z l' w'=>∃(k:Nat),l'=[(0,.string s),(1,.n k)]/\z=s.size-k/\Hs w L0 w' []/\(k<=s.size)/\(pass s k=pass s i)) _ _ ⟨i,rfl,rfl,H,hi,rfl⟩ (fun b1 z1 l1 w1 cm K1 aU=>?_);obtain⟨k,rfl,rfl,H1,hk,hp⟩:=cm;refine xh 9 (decide ((k:Int)<(s.size:Int))) (fun ld=>?_) (fun ld=>?_)
 . have Qt:=of_decide_eq_true ld;refine Sx.UH 8 s k (by omega) ?_;refine xd 0 [] H1 (fun Hp R hZ=>Wn (Gx.ag s k) w1 R Hp  (fun w2 G1=>hZ _ _ _ G1 fun H2=>?_));refine xh 2 (dx (Gx.ag s k)) (fun gg=>?_) (fun gg=>?_)
   . have uu:=gg;try simp[-List.getD_eq_getElem?_getD] at uu
     refine Sx.vi 3 ((k:Int)+(1:Int)) ((k+1:Nat):Int) (Gx.bq (by omega) (by omega)) ?_;exact xi 6 _ (aU _ _ _ _ (by omega) ⟨(k+1),rfl,rfl,H2,(by omega),(by rw[<- hp,jb (s:=s) (k:=k) (by omega) gg])⟩)
   have uu:=gg;try simp[-List.getD_eq_getElem?_getD] at uu
   refine Sx.UH 7 s k (by omega) ?_;refine xh 3 (((Gx.ag s k).toNat:Int) != (35:Int)) (fun iY=>?_) (fun iY=>?_)
   . refine xf 12 [] H2 (.n k) ?_;have F6:=iY;try simp[-List.getD_eq_getElem?_getD] at F6
     subst aq;exact Gx.ah (v':=.int .i64 ((pass s i:Nat):Int)) (by rw[<- hp,kK (s:=s) (k:=k) (by omega) (by rw[gg];simp) (by omega)]) (hK _ (H2.pk []))
   have F6:=iY;try simp[-List.getD_eq_getElem?_getD] at F6
   refine y0 3 (fun z l' w'=>∃(j:Nat),l'=[(0,.string s),(1,.n j)]/\z=s.size-j/\Hs w L0 w' []/\(k<=j/\j<=s.size)/\(stop cZ s j=stop cZ s k)) _ _ ⟨k,rfl,rfl,H2,(by omega),rfl⟩ (fun b2 z2 l2 w3 iw K2 eC=>?_);obtain⟨j,rfl,rfl,H3,hj,cT⟩:=iw;refine yg 1 (fun l' w'=>l'=[(0,.string s),(1,.n j),(29,.bool ((decide ((j:Int)<(s.size:Int)))&&(((Gx.ag s j).toNat:Int) != (10:Int))))]/\w3=w') (fun K3 nj=>?_) (fun b3 l3 w4 xM=>?_)
   . refine ye 6 24 (decide ((j:Int)<(s.size:Int))) (fun pV=>?_) (fun pV=>?_)
     . have apr:=of_decide_eq_true pV;refine Sx.UH 2 s j (by omega) ?_;exact xi 3 _ (nj _ _ _ ⟨rfl,rfl⟩) (h2:=(by rw[pV];try kernel_rfl))
     exact xi 6 _ (nj _ _ _ ⟨rfl,rfl⟩) (h2:=(by rw[pV];try kernel_rfl))
   obtain⟨rfl,rfl⟩:=xM;refine xh 0 ((decide ((j:Int)<(s.size:Int)))&&(((Gx.ag s j).toNat:Int) != (10:Int))) (fun iM=>?_) (fun iM=>?_)
   . have F7:=iM;try simp[-List.getD_eq_getElem?_getD] at F7
     refine Sx.vi 5 ((j:Int)+(1:Int)) ((j+1:Nat):Int) (Gx.bq (by omega) (by omega)) ?_;exact xi 3 _ (eC _ _ _ _ (by omega) ⟨(j+1),rfl,rfl,H3,(by omega),(by rw[<- cT,fN (p:=cZ) (s:=s) (k:=j) (by omega) (by unfold cZ;simp;omega)])⟩)
   have F7:=iM;try simp[-List.getD_eq_getElem?_getD] at F7
   exact xi 5 _ (aU _ _ _ _ (by have h1:=cV cZ s (k+1);rw[<- fN (p:=cZ) (s:=s) (k:=k) (by omega) (by unfold cZ;simp;omega),<-cT,ft (p:=cZ) (s:=s) (k:=j) (by simpa[cZ] using iM)] at h1;omega) ⟨j,rfl,rfl,H3,(by omega),(by rw[<- hp,jA (s:=s) (k:=k) (by omega) (by omega),<-fN (p:=cZ) (s:=s) (k:=k) (by omega) (by unfold cZ;simp;omega),<-cT,ft (p:=cZ) (s:=s) (k:=j) (by simpa[cZ] using iM)])⟩)
 refine xf 12 [] H1 (.n k) ?_;have Qt:=of_decide_eq_false ld;subst aq;exact Gx.ah (v':=.int .i64 ((pass s i:Nat):Int)) (by rw[<- hp,pq (s:=s) (k:=k) (by omega)]) (hK _ (H1.pk []))
theorem QE(s : Ξ)(w : Ψ)(K : Ending -> Ψ -> Prop)(H0 : Sp w [])(hs : s.size <= 3000)(hd : ∀ m, m < s.size -> aj (Gx.ag s m) = true)(hK : ∀ w', Hs w [] w' [] -> K (.returned (.tuple #[.n (bif eg s 0 s.size then e_ s 0 s.size else 0), .bool (eg s 0 s.size)])) w') :
   Calls Tryz.prog 76 #[.string s] w K:=by
 obtain⟨L0,aq,H⟩:=Sx.cw H0;refine xu (vs:=[.string s]) 36 Tryz.func76 ?_;refine yg 7 (fun l' w'=>l'=[(0,.string s),(14,.bool ((decide ((s.size:Int)>(1:Int)))&&(((Gx.ag s 0).toNat:Int)==(48:Int))))]/\w=w') (fun K1 aU=>?_) (fun b1 l1 w1 cm=>?_)
 . refine ye 5 10 (decide ((s.size:Int)>(1:Int))) (fun KI=>?_) (fun KI=>?_)
   . have apt:=of_decide_eq_true KI;refine Sx.UH 1 s 0 (by omega) ?_;exact xi 3 _ (aU _ _ _ ⟨rfl,rfl⟩) (h2:=(by rw[KI];try kernel_rfl))
   exact xi 5 _ (aU _ _ _ ⟨rfl,rfl⟩) (h2:=(by rw[KI];try kernel_rfl))
 obtain⟨rfl,rfl⟩:=cm;refine xh 0 ((decide ((s.size:Int)>(1:Int)))&&(((Gx.ag s 0).toNat:Int)==(48:Int))) (fun oP=>?_) (fun oP=>?_)
 . refine xf 8 [] H (.tuple #[.int .i64 0,.bool false]) ?_;have QF:=oP;try simp[-List.getD_eq_getElem?_getD] at QF
   subst aq;exact Gx.ah (v':=.tuple #[.n (bif eg s 0 s.size then e_ s 0 s.size else 0),.bool (eg s 0 s.size)]) (by rw[HY (s:=s) (j:=0) (e:=s.size) (by omega) (by omega)];rfl) (hK _ (H.pk []))
 have QF:=oP;try simp[-List.getD_eq_getElem?_getD] at QF
 refine y0 14 (fun z l' w'=>∃(k:Nat) (v:Nat),l'=[(0,.string s),(4,.n v),(5,.n k)]/\z=s.size-k/\Hs w L0 w' []/\(k<=s.size)/\(v=e_ s 0 k)/\(v<=9223372036854775807)) _ _ ⟨0,0,rfl,rfl,H,(by omega),rfl,(by omega)⟩ (fun b2 z1 l2 w2 iw K2 eC=>?_);obtain⟨k,v,rfl,rfl,H1,hk,hv,hm⟩:=iw;refine xh 9 (decide ((k:Int)<(s.size:Int))) (fun iY=>?_) (fun iY=>?_)
 . have F6:=of_decide_eq_true iY;have Yz:=(qK _).1 (hd k (by omega));refine Sx.UH 8 s k (by omega)<|xq 0 (.int .u8 (IntKind.u8.wrap (((Gx.ag s k).toNat:Int)-(48:Int)))) (.int .u8 (((Gx.ag s k).toNat-48:Nat):Int)) (congrArg (Value.int .u8) ((by rw[IntWalk.u8_in _ (by omega)];omega)))<|Sx.vi 0 (((Gx.ag s k).toNat-48:Nat):Int) (((Gx.ag s k).toNat-48:Nat):Int) (IntWalk.i64_in _ (by omega))<|Sx.vi 8 ((9223372036854775807:Int)-(((Gx.ag s k).toNat-48:Nat):Int)) ((9223372036854775807-((Gx.ag s k).toNat-48):Nat):Int) ((by rw[IntWalk.i64_in _ (by omega)];omega))<|Sx.vi 0 (Int.tdiv ((9223372036854775807-((Gx.ag s k).toNat-48):Nat):Int) (10:Int)) (((9223372036854775807-((Gx.ag s k).toNat-48))/10:Nat):Int) (by rw[IntWalk.i64_quo _ _ (by omega)];omega) ?_;refine xh 3 (decide ((v:Int)>(((9223372036854775807-((Gx.ag s k).toNat-48))/10:Nat):Int))) (fun jF=>?_) (fun jF=>?_)
   . refine xf 13 [] H1 (.tuple #[.int .i64 0,.bool false]) ?_;have Ac:=of_decide_eq_true jF;subst aq;exact Gx.ah (v':=.tuple #[.n (bif eg s 0 s.size then e_ s 0 s.size else 0),.bool (eg s 0 s.size)]) (by rw[HX (s:=s) (j:=0) (e:=s.size) (k:=k) (d:=(Gx.ag s k).toNat-48) (by omega) (by rw[Nat.zero_add]) (by rw[<- hv];unfold fu;omega) (by omega)];rfl) (hK _ (H1.pk []))
   have Ac:=of_decide_eq_false jF;refine Sx.vi 4 ((10:Int)*(v:Int)) ((10*v:Nat):Int) (Gx.bq (by omega) (by omega))<|Sx.vi 1 (((10*v:Nat):Int)+(((Gx.ag s k).toNat-48:Nat):Int)) (((10*v)+((Gx.ag s k).toNat-48):Nat):Int) (Gx.bq (by omega) (by omega))<|Sx.vi 6 ((k:Int)+(1:Int)) ((k+1:Nat):Int) (Gx.bq (by omega) (by omega)) ?_;exact xi 2 _ (eC _ _ _ _ (by omega) ⟨(k+1),(10*v+((Gx.ag s k).toNat-48)),rfl,rfl,H1,(by omega),(by simp only[e_,Nat.zero_add];omega),(by omega)⟩)
 refine xf 13 [] H1 (.tuple #[.n v,.bool true]) ?_;have F6:=of_decide_eq_false iY;subst aq;exact Gx.ah (v':=.tuple #[.n (bif eg s 0 s.size then e_ s 0 s.size else 0),.bool (eg s 0 s.size)]) (by have e:k=s.size:=(by omega);subst e;rw[Cg (s:=s) (j:=0) (e:=s.size) (by omega) (by show e_ s 0 s.size<=fu;unfold fu;omega),hv];rfl) (hK _ (H1.pk []))
set_option maxHeartbeats 4000000 in
theorem aaQ(s : Ξ)(i : Nat)(w : Ψ)(K : Ending -> Ψ -> Prop)(H0 : Sp w [])(hs : s.size <= 3000)(hi : i <= s.size)(hK : ∀ w', Hs w [] w' [] -> K (.returned (Nx.V (next s i))) w') :
   Calls Tryz.prog 43 #[.string s,.n i] w K:=by
 obtain⟨L0,aq,H⟩:=Sx.cw H0;refine xu (vs:=[.string s,.n i]) 144 Tryz.func43 ?_;have hi1:=yy s i;have HM:=tJ s i hi;refine xg 2 H fun k1 w1 H1=>xg 1 H1 fun k2 w2 H2=>?_;refine xd 6 [] H2 (fun Hp R hZ=>aaP s i w2 R Hp hs hi (fun w3 G1=>hZ _ _ _ G1 fun H3=>?_));refine xh 12 (decide (((pass s i:Nat):Int)>=(s.size:Int))) (fun Ad=>?_) (fun Ad=>?_)
 . refine xe 8 0 H3 fun w4 H4=>?_;refine xe 1 1 H4 fun w5 H5=>xf 4 [0,1] H5 (.tuple #[.agg #[.int .i64 0,.n s.size,.string (bY []),.int .i64 0],.n s.size,.agg #[.int .i64 0,.int .i64 0]]) ?_;have QG:=of_decide_eq_true Ad;subst aq;exact Gx.ah (v':=Nx.V (next s i)) (by unfold next;rw[if_neg (show ¬pass s i<s.size by omega)];rfl) (hK _ (H5.pk []))
 have QG:=of_decide_eq_false Ad;refine Sx.UH 13 s (pass s i) (by omega) ?_;refine xd 0 [] H3 (fun Hp R hZ=>DQ (Gx.ag s (pass s i)) w3 R Hp  (fun w6 G2=>hZ _ _ _ G2 fun H6=>?_));refine xh 2 (aj (Gx.ag s (pass s i))) (fun jF=>?_) (fun jF=>?_)
 . refine yg 0 (fun l' w'=>∃(e:Nat),l'=[(0,.string s),(1,.int .i64 ((pass s i:Nat):Int)),(4,.p k1),(6,.p k2),(7,.n e)]/\Hs w L0 w' [.ar k1 (.cells #[.int .i64 0,.int .i64 0,.string (bY []),.int .i64 0] 89),.ar k2 (.cells #[.int .i64 0,.int .i64 0] 35)]/\(e=stop aj s (pass s i))) (fun K1 aU=>?_) (fun b1 l1 w7 cm=>?_)
   . have H7:=H6.pick (a:=[.ar k1 (.cells #[.int .i64 0,.int .i64 0,.string (bY []),.int .i64 0] 89),.ar k2 (.cells #[.int .i64 0,.int .i64 0] 35)]) [0,0] (by kernel_rfl);have Ac:=jF;try simp[-List.getD_eq_getElem?_getD] at Ac
     refine y0 1 (fun z l' w'=>∃(e:Nat),l'=[(0,.string s),(1,.int .i64 ((pass s i:Nat):Int)),(4,.p k1),(6,.p k2),(7,.n e)]/\z=s.size-e/\Hs w L0 w' [.ar k1 (.cells #[.int .i64 0,.int .i64 0,.string (bY []),.int .i64 0] 89),.ar k2 (.cells #[.int .i64 0,.int .i64 0] 35)]/\(pass s i<=e/\e<=s.size)/\(stop aj s e=stop aj s (pass s i))) _ _ ⟨(pass s i),rfl,rfl,H7,(by omega),rfl⟩ (fun b2 z1 l2 w8 iw K2 eC=>?_);obtain⟨e,rfl,rfl,H8,he,cT⟩:=iw;refine ye 8 35 (decide ((e:Int)<(s.size:Int))) (fun QH=>?_) (fun QH=>?_)
     . have afx:=of_decide_eq_true QH;refine Sx.UH 2 s e (by omega) ?_;refine xd 0 [] H8 (fun Hp R hZ=>DQ (Gx.ag s e) w8 R Hp  (fun w9 G3=>hZ _ _ _ G3 fun H9=>?_));refine xh 3 (aj (Gx.ag s e)) (fun cy=>?_) (fun cy=>?_)
       . have gX:=cy;try simp[-List.getD_eq_getElem?_getD] at gX
         refine Sx.vi 5 ((e:Int)+(1:Int)) ((e+1:Nat):Int) (Gx.bq (by omega) (by omega)) ?_;exact xi 3 _ (eC _ _ _ _ (by omega) ⟨(e+1),rfl,rfl,H9.pk [0,0],(by omega),(by rw[<- cT,fN (p:=aj) (s:=s) (k:=e) (by omega) (by simp[cy])])⟩)
       have gX:=cy;try simp[-List.getD_eq_getElem?_getD] at gX
       exact xi 4 _ (aU _ _ _ ⟨e,rfl,H9.pk [0,0],(by rw[<- cT,ft (p:=aj) (s:=s) (k:=e) (fun q=>by simp[cy] at q)])⟩)
     have afx:=of_decide_eq_false QH;exact xi 12 _ (aU _ _ _ ⟨e,rfl,H8.pk [0,0],(by rw[<- cT,ft (p:=aj) (s:=s) (k:=e) (fun q=>by omega)])⟩)
   obtain⟨e,rfl,bS,hee⟩:=cm;have nX:=cV aj s (pass s i);have xH:=dU aj s (pass s i) HM;subst hee;have Ac:=jF;try simp[-List.getD_eq_getElem?_getD] at Ac
   refine Sx.sl2 5 s (pass s i) (stop aj s (pass s i)) (by omega) (by omega) ?_;refine xd 0 [] bS (fun Hp R hZ=>QE (s.extract (pass s i) (stop aj s (pass s i))) w7 R Hp (by rw[pv (dU aj s (pass s i) HM)];omega) (H_ s (pass s i) HM) (fun df G4=>hZ _ _ _ G4 fun bD=>?_));refine xh 14 (!(eg (s.extract (pass s i) (stop aj s (pass s i))) 0 (s.extract (pass s i) (stop aj s (pass s i))).size)) (fun di=>?_) (fun di=>?_)
   . refine xe 5 0 bD fun gV bG=>?_;refine xe 1 1 bG fun jk cC=>xf 5 [0,1] cC (.tuple #[.agg #[.int .i64 0,.int .i64 0,.string (bY []),.int .i64 0],.int .i64 0,.agg #[.int .i64 3,.int .i64 ((pass s i:Nat):Int)]]) ?_;have gH:=di;try simp[-List.getD_eq_getElem?_getD] at gH
     subst aq;exact Gx.ah (v':=Nx.V (next s i)) (by unfold next;rw[if_pos (show pass s i<s.size by omega)];unfold cU;rw[if_pos jF];unfold tK;rw[if_neg (by rw[<- rL (cV _ _ _) (dU aj s (pass s i) HM)];simpa using di)];rfl) (hK _ (cC.pk []))
   refine xe 9 0 bD fun jT bL=>xe 1 1 bL fun jZ dG=>xf 4 [0,1] dG (.tuple #[.agg #[.int .i64 1,.int .i64 ((pass s i:Nat):Int),.string (bY []),.int .i64 ((bif eg (s.extract (pass s i) (stop aj s (pass s i))) 0 (s.extract (pass s i) (stop aj s (pass s i))).size then e_ (s.extract (pass s i) (stop aj s (pass s i))) 0 (s.extract (pass s i) (stop aj s (pass s i))).size else 0:Nat):Int)],.int .i64 ((stop aj s (pass s i):Nat):Int),.agg #[.int .i64 0,.int .i64 0]]) ?_;have gH:=di;try simp[-List.getD_eq_getElem?_getD] at gH
   subst aq;exact Gx.ah (v':=Nx.V (next s i)) (by unfold next;rw[if_pos (show pass s i<s.size by omega)];unfold cU;rw[if_pos jF];unfold tK;rw[if_pos (by rw[<- rL (cV _ _ _) (dU aj s (pass s i) HM)];simpa using di)];rw[Dk (cV _ _ _) (dU aj s (pass s i) HM) (by simpa using di)];rfl) (hK _ (dG.pk []))
 have Ac:=jF;try simp[-List.getD_eq_getElem?_getD] at Ac
 refine Sx.UH 7 s (pass s i) (by omega) ?_;refine xd 0 [] H6 (fun Hp R hZ=>F5 (Gx.ag s (pass s i)) w6 R Hp  (fun mn G5=>hZ _ _ _ G5 fun cx=>?_));refine xh 2 (az (Gx.ag s (pass s i))) (fun nH=>?_) (fun nH=>?_)
 . refine yg 0 (fun l' w'=>∃(e:Nat),l'=[(0,.string s),(1,.int .i64 ((pass s i:Nat):Int)),(4,.p k1),(6,.p k2),(7,.n e)]/\Hs w L0 w' [.ar k1 (.cells #[.int .i64 0,.int .i64 0,.string (bY []),.int .i64 0] 89),.ar k2 (.cells #[.int .i64 0,.int .i64 0] 35)]/\(e=stop (fun c=>az c||aj c) s (pass s i))) (fun K3 nj=>?_) (fun b3 l3 mq xM=>?_)
   . have cM:=cx.pick (a:=[.ar k1 (.cells #[.int .i64 0,.int .i64 0,.string (bY []),.int .i64 0] 89),.ar k2 (.cells #[.int .i64 0,.int .i64 0] 35)]) [0,0] (by kernel_rfl);have F8:=nH;try simp[-List.getD_eq_getElem?_getD] at F8
     refine y0 1 (fun z l' w'=>∃(e:Nat),l'=[(0,.string s),(1,.int .i64 ((pass s i:Nat):Int)),(4,.p k1),(6,.p k2),(7,.n e)]/\z=s.size-e/\Hs w L0 w' [.ar k1 (.cells #[.int .i64 0,.int .i64 0,.string (bY []),.int .i64 0] 89),.ar k2 (.cells #[.int .i64 0,.int .i64 0] 35)]/\(pass s i<=e/\e<=s.size)/\(stop (fun c=>az c||aj c) s e=stop (fun c=>az c||aj c) s (pass s i))) _ _ ⟨(pass s i),rfl,rfl,cM,(by omega),rfl⟩ (fun b4 z2 l4 lW IL K4 yJ=>?_);obtain⟨e,rfl,rfl,dt,he,cT⟩:=IL;refine ye 8 69 (decide ((e:Int)<(s.size:Int))) (fun QI=>?_) (fun QI=>?_)
     . have afy:=of_decide_eq_true QI;refine Sx.UH 2 s e (by omega) ?_;refine xd 0 [] dt (fun Hp R hZ=>F5 (Gx.ag s e) lW R Hp  (fun oN G6=>hZ _ _ _ G6 fun ep=>?_));refine ye 1 74 (az (Gx.ag s e)) (fun CF=>?_) (fun CF=>?_)
       . have QJ:=CF;try simp[-List.getD_eq_getElem?_getD] at QJ
         refine Sx.vi 14 ((e:Int)+(1:Int)) ((e+1:Nat):Int) (Gx.bq (by omega) (by omega)) ?_;exact xi 3 _ (yJ _ _ _ _ (by omega) ⟨(e+1),rfl,rfl,ep.pk [0,0],(by omega),(by rw[<- cT,fN (p:=(fun c=>az c||aj c)) (s:=s) (k:=e) (by omega) (by simp[CF])])⟩)
       have QJ:=CF;try simp[-List.getD_eq_getElem?_getD] at QJ
       refine Sx.UH 2 s e (by omega) ?_;refine xd 0 [] ep (fun Hp R hZ=>DQ (Gx.ag s e) oN R Hp  (fun rB G7=>hZ _ _ _ G7 fun dI=>?_));refine xh 4 (aj (Gx.ag s e)) (fun F9=>?_) (fun F9=>?_)
       . have QK:=F9;try simp[-List.getD_eq_getElem?_getD] at QK
         refine Sx.vi 5 ((e:Int)+(1:Int)) ((e+1:Nat):Int) (Gx.bq (by omega) (by omega)) ?_;exact xi 3 _ (yJ _ _ _ _ (by omega) ⟨(e+1),rfl,rfl,dI.pk [0,0],(by omega),(by rw[<- cT,fN (p:=(fun c=>az c||aj c)) (s:=s) (k:=e) (by omega) (by simp[CF,F9])])⟩)
       have QK:=F9;try simp[-List.getD_eq_getElem?_getD] at QK
       exact xi 4 _ (nj _ _ _ ⟨e,rfl,dI.pk [0,0],(by rw[<- cT,ft (p:=(fun c=>az c||aj c)) (s:=s) (k:=e) (fun q=>by simp[CF,F9] at q)])⟩)
     have afy:=of_decide_eq_false QI;exact xi 18 _ (nj _ _ _ ⟨e,rfl,dt.pk [0,0],(by rw[<- cT,ft (p:=(fun c=>az c||aj c)) (s:=s) (k:=e) (fun q=>by omega)])⟩)
   obtain⟨e,rfl,jU,hee⟩:=xM;have nX:=cV (fun c=>az c||aj c) s (pass s i);have xH:=dU (fun c=>az c||aj c) s (pass s i) HM;subst hee;have F8:=nH;try simp[-List.getD_eq_getElem?_getD] at F8
   refine Sx.vi 5 (((stop (fun c=>az c||aj c) s (pass s i):Nat):Int)-((pass s i:Nat):Int)) (((stop (fun c=>az c||aj c) s (pass s i):Nat):Int)-((pass s i:Nat):Int)) (IntWalk.i64_in _ (by omega)) ?_;refine xh 3 (decide ((((stop (fun c=>az c||aj c) s (pass s i):Nat):Int)-((pass s i:Nat):Int))>(20:Int))) (fun QL=>?_) (fun QL=>?_)
   . refine xe 5 0 jU fun s6 fG=>?_;refine xe 1 1 fG fun m_ eU=>xf 5 [0,1] eU (.tuple #[.agg #[.int .i64 0,.int .i64 0,.string (bY []),.int .i64 0],.int .i64 0,.agg #[.int .i64 3,.int .i64 ((pass s i:Nat):Int)]]) ?_;have afz:=of_decide_eq_true QL;subst aq;exact Gx.ah (v':=Nx.V (next s i)) (by unfold next;rw[if_pos (show pass s i<s.size by omega)];unfold cU;rw[if_neg (by rw[jF];simp)];rw[if_pos nH];unfold nameAt;rw[if_pos (by omega)];rfl) (hK _ (eU.pk []))
   have afz:=of_decide_eq_false QL;refine Sx.sl2 13 s (pass s i) (stop (fun c=>az c||aj c) s (pass s i)) (by omega) (by omega) ?_;refine xd 0 [] jU (fun Hp R hZ=>QD (s.extract (pass s i) (stop (fun c=>az c||aj c) s (pass s i))) mq R Hp  (fun u5 G8=>hZ _ _ _ G8 fun fj=>?_));refine xh 2 (pt (s.extract (pass s i) (stop (fun c=>az c||aj c) s (pass s i)))) (fun F_=>?_) (fun F_=>?_)
   . have QM:=F_;try simp[-List.getD_eq_getElem?_getD] at QM
     refine Sx.sl2 11 s (pass s i) (stop (fun c=>az c||aj c) s (pass s i)) (by omega) (by omega)<|xe 3 0 fj fun xC gM=>xe 1 1 gM fun tz lX=>xf 4 [0,1] lX (.tuple #[.agg #[.int .i64 3,.int .i64 ((pass s i:Nat):Int),.string (s.extract (pass s i) (stop (fun c=>az c||aj c) s (pass s i))),.int .i64 0],.int .i64 ((stop (fun c=>az c||aj c) s (pass s i):Nat):Int),.agg #[.int .i64 0,.int .i64 0]]) ?_;subst aq;exact Gx.ah (v':=Nx.V (next s i)) (by unfold next;rw[if_pos (show pass s i<s.size by omega)];unfold cU;rw[if_neg (by rw[jF];simp)];rw[if_pos nH];unfold nameAt;rw[if_neg (by omega)];rw[if_pos F_];rfl) (hK _ (lX.pk []))
   have QM:=F_;try simp[-List.getD_eq_getElem?_getD] at QM
   refine Sx.sl2 9 s (pass s i) (stop (fun c=>az c||aj c) s (pass s i)) (by omega) (by omega)<|xe 3 0 fj fun yF iT=>xe 1 1 iT fun s8 iv=>xf 4 [0,1] iv (.tuple #[.agg #[.int .i64 2,.int .i64 ((pass s i:Nat):Int),.string (s.extract (pass s i) (stop (fun c=>az c||aj c) s (pass s i))),.int .i64 0],.int .i64 ((stop (fun c=>az c||aj c) s (pass s i):Nat):Int),.agg #[.int .i64 0,.int .i64 0]]) ?_;subst aq;exact Gx.ah (v':=Nx.V (next s i)) (by unfold next;rw[if_pos (show pass s i<s.size by omega)];unfold cU;rw[if_neg (by rw[jF];simp)];rw[if_pos nH];unfold nameAt;rw[if_neg (by omega)];rw[if_neg (by rw[F_];simp)];rfl) (hK _ (iv.pk []))
 have F8:=nH;try simp[-List.getD_eq_getElem?_getD] at F8
 refine xd 4 [] cx (fun Hp R hZ=>Wq mn R Hp  (fun oO xD G9=>hZ _ _ _ G9 fun jV=>?_));refine y0 10 (fun z l' w'=>∃(q:Nat),l'=[(0,.string s),(1,.int .i64 ((pass s i:Nat):Int)),(4,.p k1),(6,.p k2),(11,.slice (Χ oO) 20 20),(12,.n q)]/\z=20-q/\Hs w L0 w' [.ar oO (.cells (Gx.wX bj) 9),.ar k1 (.cells #[.int .i64 0,.int .i64 0,.string (bY []),.int .i64 0] 89),.ar k2 (.cells #[.int .i64 0,.int .i64 0] 35)]/\(q<=20)/\(∀r,r<q->mF s (pass s i) r=false)) _ _ ⟨0,rfl,rfl,jV.pk [0,0,0],(by omega),(by intro r hr;omega)⟩ (fun b5 z3 l5 xE hI5 K5 UI=>?_);obtain⟨q,rfl,rfl,kF,hq,hn⟩:=hI5;refine Or.elim (Nat.lt_or_ge q 20) (fun Bq=>?_) (fun Bq=>?_)
 . have Ch:(Gx.gs bj q).size<=2:=by rw[qN q (by omega)];split<;>omega
   refine Or.elim (Nat.lt_or_ge s.size (pass s i+(Gx.gs bj q).size)) (fun IM=>?_) (fun IM=>?_)
   . refine xq 6 (.bool (decide ((q:Int)<(20:Int)))) (.bool true) (lT (by omega)) ?_;refine xv 12 (Υ oO) q 1 20 20 rfl (by omega)<|xt (c:=1) (t:=9) 0 [.string (Gx.gs bj q)] (.string (Gx.gs bj q)) (mw (kF.at 0 (it:=.ar oO (.cells (Gx.wX bj) 9)) (by kernel_rfl)) (by show _<20;omega))<|Sx.vi 1 (((pass s i:Nat):Int)+(((Gx.gs bj q).size:Nat):Int)) (((pass s i)+((Gx.gs bj q).size):Nat):Int) (Gx.bq (by omega) (by omega))<|xy 4 kF [] [] (LJ:=[]) (by kernel_rfl) fun Cx mv=>xm [(0,none),(1,none),(2,none)] Sx.sn<|Sx.Pt 3 [] (.bool (decide ((((pass s i)+((Gx.gs bj q).size):Nat):Int)<=(s.size:Int)))) (.bool false) (lF (by omega)) Sx.sn ?_;refine xm [(4,none),(5,none),(6,none),(7,none),(8,none),(9,none),(10,none),(11,none),(12,none),(13,none),(14,none)] Sx.sn<|xw<|Sx.vi 7 ((q:Int)+(1:Int)) ((q+1:Nat):Int) (Gx.bq (by omega) (by omega)) ?_;exact xi 2 _ (UI _ _ _ _ (by omega) ⟨(q+1),rfl,rfl,mv.pk [0,0,0],(by omega),(fun r hr=>by rcases Nat.lt_or_ge r q with h|h;exact hn r h;(have e:r=q:=by omega);subst e;unfold mF;rw[decide_eq_false (by omega)];rfl)⟩)
   refine xq 6 (.bool (decide ((q:Int)<(20:Int)))) (.bool true) (lT (by omega))<|xv 12 (Υ oO) q 1 20 20 rfl (by omega)<|xt (c:=1) (t:=9) 0 [.string (Gx.gs bj q)] (.string (Gx.gs bj q)) (mw (kF.at 0 (it:=.ar oO (.cells (Gx.wX bj) 9)) (by kernel_rfl)) (by show _<20;omega))<|Sx.vi 1 (((pass s i:Nat):Int)+(((Gx.gs bj q).size:Nat):Int)) (((pass s i)+((Gx.gs bj q).size):Nat):Int) (Gx.bq (by omega) (by omega))<|xy 4 kF [0] [] (LJ:=[.ar oO (.cells (Gx.wX bj) 9)]) (by kernel_rfl) fun E5 j4=>xm [(0,none),(1,none),(2,none)] (j4.sb [0]) ?_;refine Sx.Pt 3 [] (.bool (decide ((((pass s i)+((Gx.gs bj q).size):Nat):Int)<=(s.size:Int)))) (.bool true) (lT (by omega)) (j4.sb [0])<|xm [(4,none),(5,none),(6,none),(7,none)] (j4.sb [0])<|Sx.tvz 8 [] s (pass s i) ((pass s i)+((Gx.gs bj q).size)) (by omega) (by omega) (j4.sb [0])<|xm [(9,none),(10,none)] (j4.sb [0])<|yj 11 [] (Υ oO) q 1 20 20 rfl (by omega) (j4.sb [0])<|yh (c:=1) (t:=9) 12 [] [.string (Gx.gs bj q)] (.string (Gx.gs bj q)) (fun w' hs=>(mw (Go.aR.dJ hs 0 (it:=.ar oO (.cells (Gx.wX bj) 9))) (by show _<20;omega))) (j4.sb [0]) ?_;refine xm [(13,none),(14,none)] (j4.sb [0])<|xw ?_;refine xh 1 ((s.extract (pass s i) ((pass s i)+((Gx.gs bj q).size))).toList==(Gx.gs bj q).toList) (fun IN=>?_) (fun IN=>?_)
   . refine xv 5 (Υ oO) q 1 20 20 rfl (by omega) ?_;refine xt (c:=1) (t:=9) 0 [.string (Gx.gs bj q)] (.string (Gx.gs bj q)) (mw (j4.at 0 (it:=.ar oO (.cells (Gx.wX bj) 9)) (by kernel_rfl)) (by show _<20;omega))<|xe 3 1 j4 fun DG ni=>xe 1 2 ni fun Cz rD=>xf 8 [1,2] rD (.tuple #[.agg #[.int .i64 4,.int .i64 ((pass s i:Nat):Int),.string (Gx.gs bj q),.int .i64 0],.int .i64 (((pass s i)+((Gx.gs bj q).size):Nat):Int),.agg #[.int .i64 0,.int .i64 0]]) ?_;subst aq;exact Gx.ah (v':=Nx.V (next s i)) (by have hy:=OQ (s:=s) (j:=pass s i) (q:=q) (by omega) hn (by unfold mF;rw[decide_eq_true (by omega),IN];rfl);unfold next;rw[if_pos (show pass s i<s.size by omega)];unfold cU;rw[if_neg (by rw[jF];simp)];rw[if_neg (by rw[nH];simp)];rw[if_pos hy.1,hy.2.1,hy.2.2];rfl) (hK _ (rD.pk []))
   refine Sx.vi 5 ((q:Int)+(1:Int)) ((q+1:Nat):Int) (Gx.bq (by omega) (by omega)) ?_;exact xi 2 _ (UI _ _ _ _ (by omega) ⟨(q+1),rfl,rfl,j4.pk [0,0,0],(by omega),(fun r hr=>by rcases Nat.lt_or_ge r q with h|h;exact hn r h;(have e:r=q:=by omega);subst e;unfold mF;rw[decide_eq_true (by omega),IN];rfl)⟩)
 refine xq 6 (.bool (decide ((q:Int)<(20:Int)))) (.bool false) (lF (by omega))<|xe 13 1 kF fun HJ pg=>xe 1 2 pg fun FZ uj=>xf 3 [1,2] uj (.tuple #[.agg #[.int .i64 0,.int .i64 0,.string (bY []),.int .i64 0],.int .i64 0,.agg #[.int .i64 2,.int .i64 ((pass s i:Nat):Int)]]) ?_;subst aq;exact Gx.ah (v':=Nx.V (next s i)) (by have hy:=Vd (s:=s) (j:=pass s i) (by omega) (fun r hr=>hn r (by omega));unfold next;rw[if_pos (show pass s i<s.size by omega)];unfold cU;rw[if_neg (by rw[jF];simp)];rw[if_neg (by rw[nH];simp)];rw[if_neg (by rw[hy];simp)];rfl) (hK _ (uj.pk []))
end Lx
end Go.Proofs.YtdmdecgoebnamaaGreat
