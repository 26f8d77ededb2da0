/- A part of the proof. -/
import Derived.Test.YtdmdecgoebnamaaGreatYb
import Derived.Test.YtdmdecgoebnamaaGreatInfSet
import Derived.Test.YtdmdecgoebnamaaGreatMd
import Derived.Test.YtdmdecgoebnamaaGreatSx7
import Derived.Test.YtdmdecgoebnamaaGreatProg
set_option linter.unusedVariables false
set_option linter.unusedSimpArgs false
namespace Go.Proofs.YtdmdecgoebnamaaGreat
open Go.RowKit Go.Sx Go.aS Go.Mn
attribute [local irreducible] Go.wpOps Go.Code.wp Go.wpOp Go.wpAnyH Go.Calls Go.Sx.Goal
set_option maxRecDepth 20000
namespace Mr
def wA(k : Nat) : Prop := ∀(S : Nat → Prop)(T : List RR)(v : Vl)(t : ByteArray)(b : Nat)(room : Int)(w : World)(K : Ending → World → Prop)(H0 : Sp w [mI S T ([]) [.val b v]])(hk : v.sz < k)(hrm : -2000000 ≤ room ∧ room ≤ 1000)(hf : cP v room = some t)(hK : ∀ w', Hs w [mI S T ([]) [.val b v]] w' [mI S T [] [.val b v]] → K (.returned (.string t)) w'),
   Calls Tryz.prog 107 #[.pointer (some (⟨b,0,none⟩)),.int .i64 room] w K
set_option maxHeartbeats 8000000 in
theorem JG(k:Nat)(ih:wA k):wA (k+1):=by
 intro S T v t b room w K H0 hk hrm hf hK;obtain ⟨L0,ak,H⟩:=Sx.bX H0;refine xu (vs:=[.pointer (some (⟨b,0,none⟩)),.int .i64 room]) 89 Tryz.func107 ?_;have au:=MQ hf;rcases au with⟨hz,ht⟩|⟨hz,⟨n,hv,hn,ht⟩|⟨hv,ht⟩|⟨hv,ht⟩|⟨hv,ht⟩|⟨a,b2,s,u,hv,uy,hu1,ht,KS⟩|⟨hv,ht⟩|⟨a,b2,s,hv,hl,ht,KS⟩|⟨nd,e,hv,ht⟩⟩
 · refine xp 9 (.bool (decide (room≤(0:Int)))) (.bool true) (dT (by omega)) ?_;refine xh 10 [] H (.string eB) ?_;subst ht;subst ak;exact hK _ (H.pick [0] (by kernel_rfl))
 · have m1:aL w S T ([]) [.val b v]:=ay H 0 (by kernel_rfl);have H1:=jS m1 H 0 (by kernel_rfl) b 14 (zV 0 (.int .i64 n) (.pointer none) (.pointer none) (.pointer none)) (dm.aaw (ay (S:=S) (T:=T) (sp:=[]) (l:=[.val b v]) H 0 (by kernel_rfl)).val hv);refine xp 9 (.bool (decide (room≤(0:Int)))) (.bool false) (dF (by omega))<|xy 10 (⟨b,0,none⟩) 0 ?_;have m2:=H1.at 1 (it:=cI S b 14 (zV 0 (.int .i64 n) (.pointer none) (.pointer none) (.pointer none))) (by kernel_rfl);refine xr (c:=1) (t:=3) 0 [.int .i64 0] (.int .i64 0) (aa m2.1.2 (by decide:0+1≤14))<|xy 14 (⟨b,0,none⟩) 1<|xr (c:=1) (t:=3) 0 [.int .i64 n] (.int .i64 n) (aa m2.1.2 (by decide:1+1≤14)) ?_;refine x0 0 [] H1 (fun Hp R hZ=>Wv n w R Hp hn (fun w1 G1=>hZ _ _ _ G1 fun H2=>?_));refine xh 6 [] H2 (.string (sS n)) ?_;subst ht;subst ak;exact hK _ (H2.pick [0] (by kernel_rfl))
 · have m3:aL w S T ([]) [.val b v]:=ay H 0 (by kernel_rfl);have H3:=jS m3 H 0 (by kernel_rfl) b 14 (zV 1 (.int .i64 1) (.pointer none) (.pointer none) (.pointer none)) (dm.Bh (ay (S:=S) (T:=T) (sp:=[]) (l:=[.val b v]) H 0 (by kernel_rfl)).val hv);refine xp 9 (.bool (decide (room≤(0:Int)))) (.bool false) (dF (by omega))<|xy 10 (⟨b,0,none⟩) 0 ?_;have m4:=H3.at 1 (it:=cI S b 14 (zV 1 (.int .i64 1) (.pointer none) (.pointer none) (.pointer none))) (by kernel_rfl);refine xr (c:=1) (t:=3) 0 [.int .i64 1] (.int .i64 1) (aa m4.1.2 (by decide:0+1≤14))<|xy 22 (⟨b,0,none⟩) 1<|xr (c:=1) (t:=3) 0 [.int .i64 1] (.int .i64 1) (aa m4.1.2 (by decide:1+1≤14))<|xh 13 [] H3 (.string (bY [116,114,117,101])) ?_;subst ht;subst ak;exact hK _ (H3.pick [0] (by kernel_rfl))
 · have m5:aL w S T ([]) [.val b v]:=ay H 0 (by kernel_rfl);have H4:=jS m5 H 0 (by kernel_rfl) b 14 (zV 1 (.int .i64 0) (.pointer none) (.pointer none) (.pointer none)) (dm.Bh (ay (S:=S) (T:=T) (sp:=[]) (l:=[.val b v]) H 0 (by kernel_rfl)).val hv);refine xp 9 (.bool (decide (room≤(0:Int)))) (.bool false) (dF (by omega))<|xy 10 (⟨b,0,none⟩) 0 ?_;have m6:=H4.at 1 (it:=cI S b 14 (zV 1 (.int .i64 0) (.pointer none) (.pointer none) (.pointer none))) (by kernel_rfl);refine xr (c:=1) (t:=3) 0 [.int .i64 1] (.int .i64 1) (aa m6.1.2 (by decide:0+1≤14))<|xy 22 (⟨b,0,none⟩) 1<|xr (c:=1) (t:=3) 0 [.int .i64 0] (.int .i64 0) (aa m6.1.2 (by decide:1+1≤14))<|xh 14 [] H4 (.string (bY [102,97,108,115,101])) ?_;subst ht;subst ak;exact hK _ (H4.pick [0] (by kernel_rfl))
 · have m7:aL w S T ([]) [.val b v]:=ay H 0 (by kernel_rfl);have H5:=jS m7 H 0 (by kernel_rfl) b 14 (zV 2 (.int .i64 0) (.pointer none) (.pointer none) (.pointer none)) (dm.Ww (ay (S:=S) (T:=T) (sp:=[]) (l:=[.val b v]) H 0 (by kernel_rfl)).val hv);refine xp 9 (.bool (decide (room≤(0:Int)))) (.bool false) (dF (by omega))<|xy 10 (⟨b,0,none⟩) 0 ?_;have m8:=H5.at 1 (it:=cI S b 14 (zV 2 (.int .i64 0) (.pointer none) (.pointer none) (.pointer none))) (by kernel_rfl);refine xr (c:=1) (t:=3) 0 [.int .i64 2] (.int .i64 2) (aa m8.1.2 (by decide:0+1≤14))<|xh 32 [] H5 (.string (bY [40,41])) ?_;subst ht;subst ak;exact hK _ (H5.pick [0] (by kernel_rfl))
 · have au:=dm.Fz (ay (S:=S) (T:=T) (sp:=[]) (l:=[.val b v]) H 0 (by kernel_rfl)).val hv;obtain ⟨yb,zb,RO,RP,RQ⟩:=au;have m9:aL w S T ([]) [.val b v]:=ay H 0 (by kernel_rfl);have H6:=jS m9 H 0 (by kernel_rfl) b 14 [.int .i64 5,.int .i64 0,.pointer (some (⟨yb,0,none⟩)),.pointer (some (⟨zb,0,none⟩)),.int .i64 0,.int .i64 0,.string eB,.int .i64 0,.slice none 0 0,.pointer none,.slice none 0 0,.string eB,.bool false,.bool false] RO;have Ct:aL w S T ([]) [.val b v]:=ay H6 0 (by kernel_rfl);have H7:=dy Ct H6 0 (by kernel_rfl) ([]) [.val yb a] (⟨fun _ h=>(by cases h),fun _ h=>(by rw[List.mem_singleton.1 h];exact RP)⟩);have HG:aL w S T ([]) [.val b v]:=ay H7 0 (by kernel_rfl);have H8:=dy HG H7 0 (by kernel_rfl) ([]) [.val zb b2] (⟨fun _ h=>(by cases h),fun _ h=>(by rw[List.mem_singleton.1 h];exact RQ)⟩);have zG:s.size+u.size≤1000000:=by rw[ht] at KS;simp only[ByteArray.size_append] at KS;omega
   refine xp 9 (.bool (decide (room≤(0:Int)))) (.bool false) (dF (by omega))<|xy 10 (⟨b,0,none⟩) 0 ?_;have Fx:=H8.at 1 (it:=cI S b 14 [.int .i64 5,.int .i64 0,.pointer (some (⟨yb,0,none⟩)),.pointer (some (⟨zb,0,none⟩)),.int .i64 0,.int .i64 0,.string eB,.int .i64 0,.slice none 0 0,.pointer none,.slice none 0 0,.string eB,.bool false,.bool false]) (by kernel_rfl);refine xr (c:=1) (t:=3) 0 [.int .i64 5] (.int .i64 5) (aa Fx.1.2 (by decide:0+1≤14))<|xy 35 (⟨b,0,none⟩) 2<|xr (c:=1) (t:=71) 0 [.pointer (some (⟨yb,0,none⟩))] (.pointer (some (⟨yb,0,none⟩))) (aa Fx.1.2 (by decide:2+1≤14))<|Sx.vi 1 (room-(1:Int)) (room-(1:Int)) (IntWalk.i64_in _ (by omega)) ?_;refine x0 0 [2] H8 (fun Hp R hZ=>ih S T a s yb (room-(1:Int)) w R Hp (by rw[hv] at hk;simp only[Vl.sz] at hk;omega) (by omega) uy (fun w2 G2=>hZ _ _ _ G2 fun H9=>?_));refine Sx.cg 6 (bY [40]) s (by simp only[ByteArray.size_append,o8,FE,FF];omega)<|Sx.cg 0 ((bY [40])++s) (bY [44,32]) (by simp only[ByteArray.size_append,o8,FE,FF];omega)<|xy 2 (⟨b,0,none⟩) 3 ?_;have Un:=H9.at 2 (it:=cI S b 14 [.int .i64 5,.int .i64 0,.pointer (some (⟨yb,0,none⟩)),.pointer (some (⟨zb,0,none⟩)),.int .i64 0,.int .i64 0,.string eB,.int .i64 0,.slice none 0 0,.pointer none,.slice none 0 0,.string eB,.bool false,.bool false]) (by kernel_rfl);refine xr (c:=1) (t:=71) 0 [.pointer (some (⟨zb,0,none⟩))] (.pointer (some (⟨zb,0,none⟩))) (aa Un.1.2 (by decide:3+1≤14))<|Sx.vi 1 (room-(3:Int)) (room-(3:Int)) (IntWalk.i64_in _ (by omega))<|Sx.vi 2 ((room-(3:Int))-(s.size:Int)) ((room-(3:Int))-(s.size:Int)) (IntWalk.i64_in _ (by omega)) ?_;refine x0 0 [3] H9 (fun Hp R hZ=>ih S T b2 u zb ((room-(3:Int))-(s.size:Int)) w2 R Hp (by rw[hv] at hk;simp only[Vl.sz] at hk;omega) (by omega) hu1 (fun w3 G3=>hZ _ _ _ G3 fun aY=>?_));refine Sx.cg 0 (((bY [40])++s)++(bY [44,32])) u (by simp only[ByteArray.size_append,o8,FE,FF];omega)<|Sx.cg 0 ((((bY [40])++s)++(bY [44,32]))++u) (bY [41]) (by simp only[ByteArray.size_append,o8,FE,FF];omega)<|xh 6 [] aY (.string (((((bY [40])++s)++(bY [44,32]))++u)++(bY [41]))) ?_;subst ht;subst ak;exact hK _ (aY.pick [2] (by kernel_rfl))
 · have YT:aL w S T ([]) [.val b v]:=ay H 0 (by kernel_rfl);have aZ:=jS YT H 0 (by kernel_rfl) b 14 (zV 3 (.int .i64 0) (.pointer none) (.pointer none) (.pointer none)) (dm.HH (ay (S:=S) (T:=T) (sp:=[]) (l:=[.val b v]) H 0 (by kernel_rfl)).val hv);have au:∃s,pN v ⟨#[91]⟩ room=some s∧t=s++(bY [93])∧t.size≤1000000:=⟨_,by rw[hv];rfl,ht,by rw[ht];simp only[ByteArray.size_append,o8];omega⟩;obtain ⟨s,hl,ht,KS⟩:=au;refine xp 9 (.bool (decide (room≤(0:Int)))) (.bool false) (dF (by omega))<|xy 10 (⟨b,0,none⟩) 0 ?_;have YU:=aZ.at 1 (it:=cI S b 14 (zV 3 (.int .i64 0) (.pointer none) (.pointer none) (.pointer none))) (by kernel_rfl);refine xr (c:=1) (t:=3) 0 [.int .i64 3] (.int .i64 3) (aa YU.1.2 (by decide:0+1≤14)) ?_;have Wj:aL w S T ([]) [.val b v]:=ay aZ 0 (by kernel_rfl);have aP:=dy Wj aZ 0 (by kernel_rfl) ([]) [.val b v] (Wj);refine xz 49 (fun z l' w'=>∃(vi:Vl) (bi:Nat) (si:ByteArray),l'=[(0,.pointer (some (⟨bi,0,none⟩))),(1,.int .i64 room),(6,.string si)]∧z=vi.sz+1∧Hs w L0 w' [mI S T ([]) [.val b v],mI S T ([]) [.val bi vi]]∧(pN vi si room=some s)∧(vi.sz≤k)) _ _ ⟨v,b,(bY [91]),rfl,rfl,aP.pk [0,1],hl,(by omega)⟩ (fun b1 z1 l1 w4 bQ K1 aN=>?_);obtain ⟨vi,bi,si,rfl,rfl,bq,hli,Ds⟩:=bQ;have au:=HJ hli;rcases au with⟨wB,MR⟩|⟨la,lb,wB,v7,MR⟩|⟨la,lb,lu,wB,v7,RU,JH,RV⟩
   · have m17:aL w4 S T ([]) [.val b v]:=ay bq 0 (by kernel_rfl);have bu:=jS m17 bq 0 (by kernel_rfl) bi 14 (zV 3 (.int .i64 0) (.pointer none) (.pointer none) (.pointer none)) (dm.HH (ay (S:=S) (T:=T) (sp:=[]) (l:=[.val bi vi]) bq 1 (by kernel_rfl)).val wB);refine xy 5 (⟨bi,0,none⟩) 0 ?_;have m18:=bu.at 2 (it:=cI S bi 14 (zV 3 (.int .i64 0) (.pointer none) (.pointer none) (.pointer none))) (by kernel_rfl);refine xr (c:=1) (t:=3) 0 [.int .i64 3] (.int .i64 3) (aa m18.1.2 (by decide:0+1≤14))<|Sx.cg 18 si (bY [93]) (by rw[ht,MR] at KS;simp only[ByteArray.size_append] at KS ⊢;omega)<|xh 6 [] bu (.string (si++(bY [93]))) ?_;rw [MR] at ht;subst ht;subst ak;exact hK _ (bu.pick [0] (by kernel_rfl))
   · have au:=dm.sQ (ay (S:=S) (T:=T) (sp:=[]) (l:=[.val bi vi]) bq 1 (by kernel_rfl)).val wB;obtain ⟨rE,rG,Wy,hly,MS⟩:=au;have m19:aL w4 S T ([]) [.val b v]:=ay bq 0 (by kernel_rfl);have bS:=jS m19 bq 0 (by kernel_rfl) bi 14 [.int .i64 4,.int .i64 0,.pointer (some (⟨rE,0,none⟩)),.pointer (some (⟨rG,0,none⟩)),.int .i64 0,.int .i64 0,.string eB,.int .i64 0,.slice none 0 0,.pointer none,.slice none 0 0,.string eB,.bool false,.bool false] Wy;refine xy 5 (⟨bi,0,none⟩) 0 ?_;have m20:=bS.at 2 (it:=cI S bi 14 [.int .i64 4,.int .i64 0,.pointer (some (⟨rE,0,none⟩)),.pointer (some (⟨rG,0,none⟩)),.int .i64 0,.int .i64 0,.string eB,.int .i64 0,.slice none 0 0,.pointer none,.slice none 0 0,.string eB,.bool false,.bool false]) (by kernel_rfl);refine xr (c:=1) (t:=3) 0 [.int .i64 4] (.int .i64 4) (aa m20.1.2 (by decide:0+1≤14))<|xp 5 (.bool (decide ((si.size:Int)<room))) (.bool false) (dF (by omega))<|Sx.cg 12 si (bY [93]) (by rw[ht,MR] at KS;simp only[ByteArray.size_append] at KS ⊢;omega)<|xh 6 [] bS (.string (si++(bY [93]))) ?_;rw [MR] at ht;subst ht;subst ak;exact hK _ (bS.pick [0] (by kernel_rfl))
   have au:=dm.sQ (ay (S:=S) (T:=T) (sp:=[]) (l:=[.val bi vi]) bq 1 (by kernel_rfl)).val wB;obtain ⟨rE,rG,Wy,hly,MS⟩:=au;have m21:aL w4 S T ([]) [.val b v]:=ay bq 0 (by kernel_rfl);have bx:=jS m21 bq 0 (by kernel_rfl) bi 14 [.int .i64 4,.int .i64 0,.pointer (some (⟨rE,0,none⟩)),.pointer (some (⟨rG,0,none⟩)),.int .i64 0,.int .i64 0,.string eB,.int .i64 0,.slice none 0 0,.pointer none,.slice none 0 0,.string eB,.bool false,.bool false] Wy;have m22:aL w4 S T ([]) [.val bi vi]:=ay bx 1 (by kernel_rfl);have cV:=dy m22 bx 1 (by kernel_rfl) ([]) [.val rE la] (⟨fun _ h=>(by cases h),fun _ h=>(by rw[List.mem_singleton.1 h];exact hly)⟩);have Wk:aL w4 S T ([]) [.val bi vi]:=ay cV 1 (by kernel_rfl);have bZ:=dy Wk cV 1 (by kernel_rfl) ([]) [.val rG lb] (⟨fun _ h=>(by cases h),fun _ h=>(by rw[List.mem_singleton.1 h];exact MS)⟩);refine xy 5 (⟨bi,0,none⟩) 0 ?_;have Wl:=bZ.at 2 (it:=cI S bi 14 [.int .i64 4,.int .i64 0,.pointer (some (⟨rE,0,none⟩)),.pointer (some (⟨rG,0,none⟩)),.int .i64 0,.int .i64 0,.string eB,.int .i64 0,.slice none 0 0,.pointer none,.slice none 0 0,.string eB,.bool false,.bool false]) (by kernel_rfl);refine xr (c:=1) (t:=3) 0 [.int .i64 4] (.int .i64 4) (aa Wl.1.2 (by decide:0+1≤14))<|xp 5 (.bool (decide ((si.size:Int)<room))) (.bool true) (dT (by omega)) ?_;refine xl 15 (decide ((si.size:Int)>(1:Int))) (fun wC=>?_) (fun wC=>?_)
   · have MT:=of_decide_eq_true wC;rw [show FG si=(si++(bY [44,32])) from if_pos (by omega)] at RU JH RV;have hsq:(si++(bY [44,32])).size≤1000000:=by simp only[ByteArray.size_append] at JH ⊢;omega
     refine Sx.cg 2 si (bY [44,32]) (by simp only[ByteArray.size_append,o8,FE,FF];omega)<|xy 8 (⟨bi,0,none⟩) 2<|xr (c:=1) (t:=71) 0 [.pointer (some (⟨rE,0,none⟩))] (.pointer (some (⟨rE,0,none⟩))) (aa Wl.1.2 (by decide:2+1≤14))<|Sx.vi 3 (room-(((si++(bY [44,32])).size:Nat):Int)) (room-(((si++(bY [44,32])).size:Nat):Int)) (IntWalk.i64_in _ (by omega)) ?_;refine x0 0 [3] bZ (fun Hp R hZ=>ih S T la lu rE (room-(((si++(bY [44,32])).size:Nat):Int)) w4 R Hp (by rw[wB] at Ds;simp only[Vl.sz] at Ds;omega) (by omega) RU (fun w5 G4=>hZ _ _ _ G4 fun cj=>?_));refine Sx.cg 0 (si++(bY [44,32])) lu (by simp only[ByteArray.size_append] at JH ⊢;omega)<|xy 6 (⟨bi,0,none⟩) 3 ?_;have m25:=cj.at 3 (it:=cI S bi 14 [.int .i64 4,.int .i64 0,.pointer (some (⟨rE,0,none⟩)),.pointer (some (⟨rG,0,none⟩)),.int .i64 0,.int .i64 0,.string eB,.int .i64 0,.slice none 0 0,.pointer none,.slice none 0 0,.string eB,.bool false,.bool false]) (by kernel_rfl);refine xr (c:=1) (t:=71) 0 [.pointer (some (⟨rG,0,none⟩))] (.pointer (some (⟨rG,0,none⟩))) (aa m25.1.2 (by decide:3+1≤14)) ?_;exact xj 3 _ (aN _ _ _ _ (by rw[wB];simp only[Vl.sz];omega) ⟨lb,rG,((si++(bY [44,32]))++lu),rfl,rfl,cj.pk [1,3],RV,(by rw[wB] at Ds;simp only[Vl.sz] at Ds;omega)⟩)
   have MT:=of_decide_eq_false wC;rw [show FG si=si from if_neg (by omega)] at RU JH RV;have hsq:si.size≤1000000:=by simp only[ByteArray.size_append] at JH ⊢;omega
   refine xy 7 (⟨bi,0,none⟩) 2<|xr (c:=1) (t:=71) 0 [.pointer (some (⟨rE,0,none⟩))] (.pointer (some (⟨rE,0,none⟩))) (aa Wl.1.2 (by decide:2+1≤14))<|Sx.vi 3 (room-(si.size:Int)) (room-(si.size:Int)) (IntWalk.i64_in _ (by omega)) ?_;refine x0 0 [3] bZ (fun Hp R hZ=>ih S T la lu rE (room-(si.size:Int)) w4 R Hp (by rw[wB] at Ds;simp only[Vl.sz] at Ds;omega) (by omega) RU (fun w6 G5=>hZ _ _ _ G5 fun c_=>?_));refine Sx.cg 0 si lu (by simp only[ByteArray.size_append] at JH ⊢;omega)<|xy 6 (⟨bi,0,none⟩) 3 ?_;have m26:=c_.at 3 (it:=cI S bi 14 [.int .i64 4,.int .i64 0,.pointer (some (⟨rE,0,none⟩)),.pointer (some (⟨rG,0,none⟩)),.int .i64 0,.int .i64 0,.string eB,.int .i64 0,.slice none 0 0,.pointer none,.slice none 0 0,.string eB,.bool false,.bool false]) (by kernel_rfl);refine xr (c:=1) (t:=71) 0 [.pointer (some (⟨rG,0,none⟩))] (.pointer (some (⟨rG,0,none⟩))) (aa m26.1.2 (by decide:3+1≤14)) ?_;exact xj 3 _ (aN _ _ _ _ (by rw[wB];simp only[Vl.sz];omega) ⟨lb,rG,(si++lu),rfl,rfl,c_.pk [1,3],RV,(by rw[wB] at Ds;simp only[Vl.sz] at Ds;omega)⟩)
 · have au:=dm.sQ (ay (S:=S) (T:=T) (sp:=[]) (l:=[.val b v]) H 0 (by kernel_rfl)).val hv;obtain ⟨yb,zb,RO,RP,RQ⟩:=au;have m27:aL w S T ([]) [.val b v]:=ay H 0 (by kernel_rfl);have cW:=jS m27 H 0 (by kernel_rfl) b 14 [.int .i64 4,.int .i64 0,.pointer (some (⟨yb,0,none⟩)),.pointer (some (⟨zb,0,none⟩)),.int .i64 0,.int .i64 0,.string eB,.int .i64 0,.slice none 0 0,.pointer none,.slice none 0 0,.string eB,.bool false,.bool false] RO;have m28:aL w S T ([]) [.val b v]:=ay cW 0 (by kernel_rfl);have cK:=dy m28 cW 0 (by kernel_rfl) ([]) [.val yb a] (⟨fun _ h=>(by cases h),fun _ h=>(by rw[List.mem_singleton.1 h];exact RP)⟩);have YV:aL w S T ([]) [.val b v]:=ay cK 0 (by kernel_rfl);have ef:=dy YV cK 0 (by kernel_rfl) ([]) [.val zb b2] (⟨fun _ h=>(by cases h),fun _ h=>(by rw[List.mem_singleton.1 h];exact RQ)⟩);rw [← hv] at hl;refine xp 9 (.bool (decide (room≤(0:Int)))) (.bool false) (dF (by omega))<|xy 10 (⟨b,0,none⟩) 0 ?_;have m30:=ef.at 1 (it:=cI S b 14 [.int .i64 4,.int .i64 0,.pointer (some (⟨yb,0,none⟩)),.pointer (some (⟨zb,0,none⟩)),.int .i64 0,.int .i64 0,.string eB,.int .i64 0,.slice none 0 0,.pointer none,.slice none 0 0,.string eB,.bool false,.bool false]) (by kernel_rfl);refine xr (c:=1) (t:=3) 0 [.int .i64 4] (.int .i64 4) (aa m30.1.2 (by decide:0+1≤14)) ?_;have m31:aL w S T ([]) [.val b v]:=ay ef 0 (by kernel_rfl);have eL:=dy m31 ef 0 (by kernel_rfl) ([]) [.val b v] (m31);refine xz 52 (fun z l' w'=>∃(vi:Vl) (bi:Nat) (si:ByteArray),l'=[(0,.pointer (some (⟨bi,0,none⟩))),(1,.int .i64 room),(6,.string si)]∧z=vi.sz+1∧Hs w L0 w' [mI S T ([]) [.val b v],mI S T ([]) [.val bi vi]]∧(pN vi si room=some s)∧(vi.sz≤k)) _ _ ⟨v,b,(bY [91]),rfl,rfl,eL.pk [0,3],hl,(by omega)⟩ (fun b2 z2 l2 w7 gA K2 dH=>?_);obtain ⟨vi,bi,si,rfl,rfl,eC,hli,Ds⟩:=gA;have au:=HJ hli;rcases au with⟨wB,MR⟩|⟨la,lb,wB,v7,MR⟩|⟨la,lb,lu,wB,v7,RU,JH,RV⟩
   · have m32:aL w7 S T ([]) [.val b v]:=ay eC 0 (by kernel_rfl);have dz:=jS m32 eC 0 (by kernel_rfl) bi 14 (zV 3 (.int .i64 0) (.pointer none) (.pointer none) (.pointer none)) (dm.HH (ay (S:=S) (T:=T) (sp:=[]) (l:=[.val bi vi]) eC 1 (by kernel_rfl)).val wB);refine xy 5 (⟨bi,0,none⟩) 0 ?_;have m33:=dz.at 2 (it:=cI S bi 14 (zV 3 (.int .i64 0) (.pointer none) (.pointer none) (.pointer none))) (by kernel_rfl);refine xr (c:=1) (t:=3) 0 [.int .i64 3] (.int .i64 3) (aa m33.1.2 (by decide:0+1≤14))<|Sx.cg 18 si (bY [93]) (by rw[ht,MR] at KS;simp only[ByteArray.size_append] at KS ⊢;omega)<|xh 6 [] dz (.string (si++(bY [93]))) ?_;rw [MR] at ht;subst ht;subst ak;exact hK _ (dz.pick [0] (by kernel_rfl))
   · have au:=dm.sQ (ay (S:=S) (T:=T) (sp:=[]) (l:=[.val bi vi]) eC 1 (by kernel_rfl)).val wB;obtain ⟨rE,rG,Wy,hly,MS⟩:=au;have YW:aL w7 S T ([]) [.val b v]:=ay eC 0 (by kernel_rfl);have dS:=jS YW eC 0 (by kernel_rfl) bi 14 [.int .i64 4,.int .i64 0,.pointer (some (⟨rE,0,none⟩)),.pointer (some (⟨rG,0,none⟩)),.int .i64 0,.int .i64 0,.string eB,.int .i64 0,.slice none 0 0,.pointer none,.slice none 0 0,.string eB,.bool false,.bool false] Wy;refine xy 5 (⟨bi,0,none⟩) 0 ?_;have m35:=dS.at 2 (it:=cI S bi 14 [.int .i64 4,.int .i64 0,.pointer (some (⟨rE,0,none⟩)),.pointer (some (⟨rG,0,none⟩)),.int .i64 0,.int .i64 0,.string eB,.int .i64 0,.slice none 0 0,.pointer none,.slice none 0 0,.string eB,.bool false,.bool false]) (by kernel_rfl);refine xr (c:=1) (t:=3) 0 [.int .i64 4] (.int .i64 4) (aa m35.1.2 (by decide:0+1≤14))<|xp 5 (.bool (decide ((si.size:Int)<room))) (.bool false) (dF (by omega))<|Sx.cg 12 si (bY [93]) (by rw[ht,MR] at KS;simp only[ByteArray.size_append] at KS ⊢;omega)<|xh 6 [] dS (.string (si++(bY [93]))) ?_;rw [MR] at ht;subst ht;subst ak;exact hK _ (dS.pick [0] (by kernel_rfl))
   have au:=dm.sQ (ay (S:=S) (T:=T) (sp:=[]) (l:=[.val bi vi]) eC 1 (by kernel_rfl)).val wB;obtain ⟨rE,rG,Wy,hly,MS⟩:=au;have m36:aL w7 S T ([]) [.val b v]:=ay eC 0 (by kernel_rfl);have fy:=jS m36 eC 0 (by kernel_rfl) bi 14 [.int .i64 4,.int .i64 0,.pointer (some (⟨rE,0,none⟩)),.pointer (some (⟨rG,0,none⟩)),.int .i64 0,.int .i64 0,.string eB,.int .i64 0,.slice none 0 0,.pointer none,.slice none 0 0,.string eB,.bool false,.bool false] Wy;have YX:aL w7 S T ([]) [.val bi vi]:=ay fy 1 (by kernel_rfl);have kv:=dy YX fy 1 (by kernel_rfl) ([]) [.val rE la] (⟨fun _ h=>(by cases h),fun _ h=>(by rw[List.mem_singleton.1 h];exact hly)⟩);have m38:aL w7 S T ([]) [.val bi vi]:=ay kv 1 (by kernel_rfl);have gi:=dy m38 kv 1 (by kernel_rfl) ([]) [.val rG lb] (⟨fun _ h=>(by cases h),fun _ h=>(by rw[List.mem_singleton.1 h];exact MS)⟩);refine xy 5 (⟨bi,0,none⟩) 0 ?_;have RS:=gi.at 2 (it:=cI S bi 14 [.int .i64 4,.int .i64 0,.pointer (some (⟨rE,0,none⟩)),.pointer (some (⟨rG,0,none⟩)),.int .i64 0,.int .i64 0,.string eB,.int .i64 0,.slice none 0 0,.pointer none,.slice none 0 0,.string eB,.bool false,.bool false]) (by kernel_rfl);refine xr (c:=1) (t:=3) 0 [.int .i64 4] (.int .i64 4) (aa RS.1.2 (by decide:0+1≤14))<|xp 5 (.bool (decide ((si.size:Int)<room))) (.bool true) (dT (by omega)) ?_;refine xl 15 (decide ((si.size:Int)>(1:Int))) (fun wC=>?_) (fun wC=>?_)
   · have MT:=of_decide_eq_true wC;rw [show FG si=(si++(bY [44,32])) from if_pos (by omega)] at RU JH RV;have hsq:(si++(bY [44,32])).size≤1000000:=by simp only[ByteArray.size_append] at JH ⊢;omega
     refine Sx.cg 2 si (bY [44,32]) (by simp only[ByteArray.size_append,o8,FE,FF];omega)<|xy 8 (⟨bi,0,none⟩) 2<|xr (c:=1) (t:=71) 0 [.pointer (some (⟨rE,0,none⟩))] (.pointer (some (⟨rE,0,none⟩))) (aa RS.1.2 (by decide:2+1≤14))<|Sx.vi 3 (room-(((si++(bY [44,32])).size:Nat):Int)) (room-(((si++(bY [44,32])).size:Nat):Int)) (IntWalk.i64_in _ (by omega)) ?_;refine x0 0 [3] gi (fun Hp R hZ=>ih S T la lu rE (room-(((si++(bY [44,32])).size:Nat):Int)) w7 R Hp (by rw[wB] at Ds;simp only[Vl.sz] at Ds;omega) (by omega) RU (fun w8 G6=>hZ _ _ _ G6 fun fP=>?_));refine Sx.cg 0 (si++(bY [44,32])) lu (by simp only[ByteArray.size_append] at JH ⊢;omega)<|xy 6 (⟨bi,0,none⟩) 3 ?_;have m40:=fP.at 3 (it:=cI S bi 14 [.int .i64 4,.int .i64 0,.pointer (some (⟨rE,0,none⟩)),.pointer (some (⟨rG,0,none⟩)),.int .i64 0,.int .i64 0,.string eB,.int .i64 0,.slice none 0 0,.pointer none,.slice none 0 0,.string eB,.bool false,.bool false]) (by kernel_rfl);refine xr (c:=1) (t:=71) 0 [.pointer (some (⟨rG,0,none⟩))] (.pointer (some (⟨rG,0,none⟩))) (aa m40.1.2 (by decide:3+1≤14)) ?_;exact xj 3 _ (dH _ _ _ _ (by rw[wB];simp only[Vl.sz];omega) ⟨lb,rG,((si++(bY [44,32]))++lu),rfl,rfl,fP.pk [1,3],RV,(by rw[wB] at Ds;simp only[Vl.sz] at Ds;omega)⟩)
   have MT:=of_decide_eq_false wC;rw [show FG si=si from if_neg (by omega)] at RU JH RV;have hsq:si.size≤1000000:=by simp only[ByteArray.size_append] at JH ⊢;omega
   refine xy 7 (⟨bi,0,none⟩) 2<|xr (c:=1) (t:=71) 0 [.pointer (some (⟨rE,0,none⟩))] (.pointer (some (⟨rE,0,none⟩))) (aa RS.1.2 (by decide:2+1≤14))<|Sx.vi 3 (room-(si.size:Int)) (room-(si.size:Int)) (IntWalk.i64_in _ (by omega)) ?_;refine x0 0 [3] gi (fun Hp R hZ=>ih S T la lu rE (room-(si.size:Int)) w7 R Hp (by rw[wB] at Ds;simp only[Vl.sz] at Ds;omega) (by omega) RU (fun w9 G7=>hZ _ _ _ G7 fun jQ=>?_));refine Sx.cg 0 si lu (by simp only[ByteArray.size_append] at JH ⊢;omega)<|xy 6 (⟨bi,0,none⟩) 3 ?_;have m41:=jQ.at 3 (it:=cI S bi 14 [.int .i64 4,.int .i64 0,.pointer (some (⟨rE,0,none⟩)),.pointer (some (⟨rG,0,none⟩)),.int .i64 0,.int .i64 0,.string eB,.int .i64 0,.slice none 0 0,.pointer none,.slice none 0 0,.string eB,.bool false,.bool false]) (by kernel_rfl);refine xr (c:=1) (t:=71) 0 [.pointer (some (⟨rG,0,none⟩))] (.pointer (some (⟨rG,0,none⟩))) (aa m41.1.2 (by decide:3+1≤14)) ?_;exact xj 3 _ (dH _ _ _ _ (by rw[wB];simp only[Vl.sz];omega) ⟨lb,rG,(si++lu),rfl,rfl,jQ.pk [1,3],RV,(by rw[wB] at Ds;simp only[Vl.sz] at Ds;omega)⟩)
 have au:=dm.RI (ay (S:=S) (T:=T) (sp:=[]) (l:=[.val b v]) H 0 (by kernel_rfl)).val hv;obtain ⟨fo,Uk,_,_⟩:=au;obtain ⟨fk,fa,dL,fn,fA,fc,fF⟩:=nd;have YY:aL w S T ([]) [.val b v]:=ay H 0 (by kernel_rfl);have kK:=jS YY H 0 (by kernel_rfl) b 14 [.int .i64 6,.int .i64 0,.pointer none,.pointer none,.n fk,.n fa,.string dL,.int .i64 fn,.slice fA fF.length fc,pO fo,.slice none 0 0,.string eB,.bool false,.bool false] Uk;refine xp 9 (.bool (decide (room≤(0:Int)))) (.bool false) (dF (by omega))<|xy 10 (⟨b,0,none⟩) 0 ?_;have m43:=kK.at 1 (it:=cI S b 14 [.int .i64 6,.int .i64 0,.pointer none,.pointer none,.n fk,.n fa,.string dL,.int .i64 fn,.slice fA fF.length fc,pO fo,.slice none 0 0,.string eB,.bool false,.bool false]) (by kernel_rfl);refine xr (c:=1) (t:=3) 0 [.int .i64 6] (.int .i64 6) (aa m43.1.2 (by decide:0+1≤14))<|xh 54 [] kK (.string (bY [102,110])) ?_;subst ht;subst ak;exact hK _ (kK.pick [0] (by kernel_rfl))
theorem RW(k:Nat):wA k:=by
 induction k with
 |zero=>intro S T v t b room w K H0 hk;exact absurd hk (Nat.not_lt_zero _)
 |succ k ih=>exact JG k ih
theorem RX(S : Nat → Prop)(T : List RR)(v : Vl)(t : ByteArray)(b : Nat)(w : World)(K : Ending → World → Prop)(H0 : Sp w [mI S T ([]) [.val b v]])(hf : pP v = some t)(hK : ∀ w', Hs w [mI S T ([]) [.val b v]] w' [mI S T [] [.val b v]] → K (.returned (.string t)) w') :
   Calls Tryz.prog 66 #[.pointer (some (⟨b,0,none⟩))] w K:=by
 obtain⟨L0,ak,H⟩:=Sx.bX H0;refine xu (vs:=[.pointer (some (⟨b,0,none⟩))]) 13 Tryz.func66 ?_;have au:=MP hf;obtain ⟨s,uy,ht⟩:=au;refine x0 8 [0] H (fun Hp R hZ=>RW (v.sz+1) S T v s b 410 w R Hp (Nat.lt_succ_self _) (by omega) uy (fun w1 G1=>hZ _ _ _ G1 fun H1=>?_));refine xl 11 (decide ((s.size:Int)>(400:Int))) (fun jT=>?_) (fun jT=>?_)
 · have MU:=of_decide_eq_true jT;refine Sx.sls 3 400 s (by omega)<|Sx.cg 0 (s.extract 0 400) (bY [46,46,46]) (by simp only[ByteArray.size_extract,FF];omega)<|xh 5 [] H1 (.string ((s.extract 0 400)++(bY [46,46,46]))) ?_;rw [if_pos (by omega)] at ht;subst ht;subst ak;exact hK _ (H1.pick [0] (by kernel_rfl))
 refine xh 9 [] H1 (.string s) ?_;have MU:=of_decide_eq_false jT;rw [if_neg (by omega)] at ht;subst ht;subst ak;exact hK _ (H1.pick [0] (by kernel_rfl))
end Mr
end Go.Proofs.YtdmdecgoebnamaaGreat
namespace Go.Mn
open Go.RowKit Go.Sx Go.aS Go.Gx
theorem aaz{once : Nm → Bool}{kk s s' : Nat}{st : List Fr}{nd : PN}{e : En}{v : Option Vl}{us : List Bool}{x : Vl}(h : KH once kk s ⟨st, nd, e, v, us⟩ = some (x, s')) :
   ∃k,kk=k+1∧st.length<100000000∧((v=some x∧st.length=0)∨
     (∃y r,v=some y∧0<st.length∧C0 once ⟨st,nd,e,none,us⟩ y=some r∧KH once k s r=some (x,s'))∨
     (∃d,v=none∧nd.k=2∧nd.ks[0]?=some d∧KH once k s ⟨st++[.mk nd 0 e none],d,e,none,us⟩=some (x,s'))∨
     (∃r,v=none∧nd.k≠2∧s<1000000∧CZ ⟨st,nd,e,none,us⟩=some r∧KH once k (s+1) r=some (x,s'))):=by
 cases kk with
 |zero=>cases h
 |succ k=>
   unfold KH at h;by_cases q:st.length<100000000
   · rw[if_neg (by simp[q])] at h;refine ⟨k,rfl,q,?_⟩;cases v with
     |some y=>
       dsimp only at h;cases st with
       |nil=>rw[if_pos (by rfl)] at h;cases h;exact .inl ⟨rfl,rfl⟩
       |cons f l=>
         rw[if_neg (by simp)] at h;split at h
         · rename_i r hr;exact .inr (.inl ⟨y,r,rfl,Nat.succ_pos _,hr,h⟩)
         · cases h
     |none=>
       dsimp only at h;by_cases q2:nd.k=2
       · rw[if_pos q2] at h;split at h
         · rename_i d hd;exact .inr (.inr (.inl ⟨d,rfl,q2,hd,h⟩))
         · cases h
       · rw[if_neg q2] at h;by_cases q3:s<1000000
         · rw[if_pos q3] at h;split at h
           · rename_i r hr;exact .inr (.inr (.inr ⟨r,rfl,q2,q3,hr,h⟩))
           · cases h
         · rw[if_neg q3] at h;cases h
   · rw[if_pos (by simp[q])] at h;cases h
theorem Ur{w:World}{S:Nat→Prop}{T:List RR}{o:Option Nat}(h:(MF.vo o none).ok w S T):o=none:=by
 cases o with
 |none=>rfl
 |some b=>exact h.elim
end Go.Mn
namespace Go.Proofs.YtdmdecgoebnamaaGreat
open Go.RowKit Go.Sx Go.aS Go.Mn
attribute [local irreducible] Go.wpOps Go.Code.wp Go.wpOp Go.wpAnyH Go.Calls Go.Sx.Goal
set_option maxRecDepth 20000
namespace Mr
theorem Wz(S : Nat → Prop)(T : List RR)(x : Vl)(t : ByteArray)(vb : Nat)(br : Nat)(As : Option Addr)(cs : Nat)(k ta : Nat)(nm : Nm)(nn : Int)(nA : Option Addr)(nc : Nat)(ks : List PN)(eo : Option Nat)(bo : Nat)(steps : Int)(w : World)(K : Ending → World → Prop)(H0 : Sp w [bR br As 0 cs (.n k) (.n ta) nm (.int .i64 nn) nA ks.length nc (pO eo) (.pointer (some (⟨vb, 0, none⟩))) bo (.int .i64 0) eB (.int .i64 steps), mI S T ([]) [.val vb x]])(JI : pP x = some t)(hK : ∀ w', Hs w [bR br As 0 cs (.n k) (.n ta) nm (.int .i64 nn) nA ks.length nc (pO eo) (.pointer (some (⟨vb, 0, none⟩))) bo (.int .i64 0) eB (.int .i64 steps), mI S T ([]) [.val vb x]] w' [bR br As 0 cs (.n k) (.n ta) nm (.int .i64 nn) nA ks.length nc (pO eo) (.pointer (some (⟨vb, 0, none⟩))) bo (.int .i64 1) t (.int .i64 steps)] → K (.returned (.tuple #[])) w') :
   Calls Tryz.prog 38 #[.p br] w K:=by
 obtain⟨L0,ak,H⟩:=Sx.bX H0;refine xu (vs:=[.p br]) 268 Tryz.func38<|xb 5 0 H<|xb 9 0 H<|xd 11 0 H fun w1 H1=>?_;refine x0 6 [1] H1 (fun Hp R hZ=>RX S T x t vb w1 R Hp JI (fun w2 G1=>hZ _ _ _ G1 fun H2=>?_));refine xd 3 1 H2 fun w3 H3=>xh 4 [] H3 (.tuple #[]) ?_;subst ak;exact hK _ (H3.pick [1] (by kernel_rfl))
set_option maxHeartbeats 8000000 in
theorem agl(S : Nat → Prop)(T : List RR)(us : List Bool)(mp : List (Nm × Value))(e : En)(kk : Nat)(x : Vl)(s' : Nat)(t : ByteArray)(br : Nat)(As : Option Addr)(ns cs : Nat)(sp : List FP)(k ta : Nat)(nm : Nm)(nn : Int)(nA : Option Addr)(nc : Nat)(ks : List PN)(eo : Option Nat)(bo : Nat)  (w : World) (K : Ending → World → Prop) (H0 : Sp w [bR br As ns cs (.n k) (.n ta) nm (.int .i64 nn) nA ks.length nc (pO eo) (pO none) bo (.int .i64 0) eB (.n 0), wI 135 8 As cs ns (bh sp), mI S T sp [.env eo e, .aG (PN.mk k ta nm nn nA nc ks), .vo none none], tN T us, uq bo mp]) (nW : ns = sp.length ∧ ns < 100000000) (ng : us.length = T.length) (fB : ur mp) (hf : KH (EE mp) kk 0 ⟨sp.map (fun x : FP => x.f), (PN.mk k ta nm nn nA nc ks), e, none, us⟩ = some (x, s')) (JI : pP x = some t) (hK : ∀(A' : Option Addr)(n' : Nat)(c' : Nat)(k' : Nat)(a' : Nat)(qw : Nm)(qx : Int)(qy : Option Addr)(qz : Nat)(o3 : List PN)(JA : Option Nat)(ED : Option Nat)(WA : Int) w', Hs w [bR br As ns cs (.n k) (.n ta) nm (.int .i64 nn) nA ks.length nc (pO eo) (pO none) bo (.int .i64 0) eB (.n 0), wI 135 8 As cs ns (bh sp), mI S T sp [.env eo e, .aG (PN.mk k ta nm nn nA nc ks), .vo none none], tN T us, uq bo mp] w' [bR br A' n' c' (.n k') (.n a') qw (.int .i64 qx) qy o3.length qz (pO JA) (pO ED) bo (.int .i64 1) t (.int .i64 WA)] → K (.returned (.tuple #[])) w') :
   Calls Tryz.prog 28 #[.p br,.int .i64 1000000] w K:=by
 obtain⟨L0,ak,H⟩:=Sx.bX H0;refine xu (vs:=[.p br,.int .i64 1000000]) 64 Tryz.func28 ?_;refine xz 1 (fun z l' w'=>∃(S:Nat→Prop) (T:List RR) (us:List Bool) (As:Option Addr) (ns:Nat) (cs:Nat) (sp:List FP) (k:Nat) (ta:Nat) (nm:Nm) (nn:Int) (nA:Option Addr) (nc:Nat) (ks:List PN) (eo:Option Nat) (e:En) (vo:Option Nat) (v:Option Vl) (sn:Nat) (kk:Nat) (okd:Int) (ov:ByteArray),l'=[(0,.p br),(1,.int .i64 1000000)]∧z=kk+1∧Hs w L0 w' [bR br As ns cs (.n k) (.n ta) nm (.int .i64 nn) nA ks.length nc (pO eo) (pO vo) bo (.int .i64 okd) ov (.n sn),wI 135 8 As cs ns (bh sp),mI S T sp [.env eo e,.aG (PN.mk k ta nm nn nA nc ks),.vo vo v],tN T us,uq bo mp]∧((okd=0∧ov=eB∧KH (EE mp) kk sn ⟨sp.map (fun x:FP=>x.f),(PN.mk k ta nm nn nA nc ks),e,v,us⟩=some (x,s')∧ns=sp.length∧us.length=T.length)∨(okd=1∧ov=t))) _ _ ⟨S,T,us,As,ns,cs,sp,k,ta,nm,nn,nA,nc,ks,eo,e,none,none,0,kk,0,eB,rfl,rfl,H,(.inl ⟨rfl,rfl,hf,nW.1,ng⟩)⟩ (fun b1 z1 l1 w1 bQ K1 aN=>?_);obtain ⟨S,T,us,As,ns,cs,sp,k,ta,nm,nn,nA,nc,ks,eo,e,vo,v,sn,kk,okd,ov,rfl,rfl,H1,Fe⟩:=bQ;rcases Fe with⟨rfl,rfl,hg,hn,ng⟩|⟨rfl,rfl⟩
 · have au:=aaz hg;obtain ⟨k1,rfl,hl,hc⟩:=au;rw [List.length_map] at hl hc;have nW:ns=sp.length∧ns<100000000:=⟨hn,by omega⟩;rcases hc with⟨rfl,Dt⟩|⟨y,r',rfl,Dt,hf,vW⟩|⟨⟨dk,da,bJ,dn,dA,dc,cH⟩,rfl,KT,hd,vW⟩|⟨r',rfl,KT,TR,hf,vW⟩
   · have m1:aL w1 S T sp [.env eo e,.aG (PN.mk k ta nm nn nA nc ks),.vo vo (some x)]:=ay H1 2 (by kernel_rfl);have au:=ML (m1.2 _ j2);obtain ⟨vb,rfl,hvb⟩:=au;have au:ns=0:=by omega
     obtain rfl:=au;have m2:aL w1 S T sp [.env eo e,.aG (PN.mk k ta nm nn nA nc ks),.vo (some vb) (some x)]:=ay H1 2 (by kernel_rfl);have H2:=dy m2 H1 2 (by kernel_rfl) ([]) [.val vb x] (⟨fun _ h=>(by cases h),fun _ h=>(by rw[List.mem_singleton.1 h];exact hvb)⟩);refine xb 7 0 H2<|xb 13 0 H2 ?_;refine x0 7 [0,4] H2 (fun Hp R hZ=>Wz S T x t vb br As cs k ta nm nn nA nc ks eo bo (sn:Int) w1 R Hp JI (fun w2 G1=>hZ _ _ _ G1 fun H3=>?_));exact xj 5 _ (aN _ _ _ _ (by omega) ⟨S,T,us,As,0,cs,sp,k,ta,nm,nn,nA,nc,ks,eo,e,(some vb),(some x),sn,k1,1,t,rfl,rfl,H3.pk [0,0,0,0,0],(.inr ⟨rfl,rfl⟩)⟩)
   · have m3:aL w1 S T sp [.env eo e,.aG (PN.mk k ta nm nn nA nc ks),.vo vo (some y)]:=ay H1 2 (by kernel_rfl);have au:=ML (m3.2 _ j2);obtain ⟨vb,rfl,hvb⟩:=au;refine xb 7 0 H1<|xb 13 0 H1 ?_;refine x0 7 [0,0,0,0,0] H1 (fun Hp R hZ=>Wi S T us mp e r' br As ns cs sp k ta nm nn nA nc ks eo bo (sn:Int) vb y w1 R Hp nW ng fB hf (fun MD RL ME MG MH wh MI MJ wi wj wm wq wu Bd RM Be MK Bf w3 G2 wv wx Bg=>hZ _ _ _ G2 fun H5=>?_));exact xj 5 _ (aN _ _ _ _ (by omega) ⟨MD,RL,Bf,ME,MG,MH,wh,MI,MJ,wi,wj,wm,wq,wu,Bd,RM,Be,MK,sn,k1,0,eB,rfl,rfl,H5.pk [0,0,0,0,0],(.inl ⟨rfl,rfl,wv▸vW,wx,Bg⟩)⟩)
   · have m4:aL w1 S T sp [.env eo e,.aG (PN.mk k ta nm nn nA nc ks),.vo vo none]:=ay H1 2 (by kernel_rfl);have au:=Ur (m4.2 _ j2);obtain rfl:=au;have KT:k=2:=KT;have m5:aL w1 S T sp [.env eo e,.aG (PN.mk k ta nm nn nA nc ks),.vo none none]:=ay H1 2 (by kernel_rfl);have au:=PK.at (m5.2 _ j1) hd;obtain ⟨Dj,⟨gk,zc,_,Ug⟩,_⟩:=au;have agm:0<ks.length:=(List.getElem?_eq_some_iff.1 hd).1;refine xb 7 0 H1<|xb 13 0 H1<|xb 13 0 H1<|xp 0 (.bool ((k:Int)==(2:Int))) (.bool true) (eT (by omega)) ?_;refine x0 6 [0,0] H1 (fun Hp R hZ=>Mp br As ns cs sp k ta nm nn nA nc ks eo none bo (sn:Int) 0 none e none w1 R Hp (by omega) (fun A1 c1 w4 G3=>hZ _ _ _ G3 fun H7=>?_));refine xb 9 0 H7<|xv 0 gk 0 5 ks.length nc zc agm ?_;have m6:aL w4 S T sp [.env eo e,.aG (PN.mk k ta nm nn nA nc ks),.vo none none]:=ay H7 2 (by kernel_rfl);refine xr (c:=5) (t:=62) 0 (Sx.nC dk da bJ dn dA cH dc) (Sx.nA dk da bJ dn dA cH dc) (PK.cell (m6.2 _ j1) zc (i:=0) hd)<|xd 2 0 H7 fun w5 H8=>?_;have m7:aL w5 S T sp [.env eo e,.aG (PN.mk k ta nm nn nA nc ks),.vo none none]:=ay H8 2 (by kernel_rfl);have H9:=dy m7 H8 2 (by kernel_rfl) (sp++[FP.mk (.mk (PN.mk k ta nm nn nA nc ks) 0 e none) eo none]) [.env eo e,.aG (PN.mk dk da bJ dn dA dc cH),.vo none none] (aL.l3 (qu m7.1 (.no (m7.2 _ j0) (m7.2 _ j1))) (m7.2 _ j0) (PK.nB (m7.2 _ j1) hd) trivial);exact xj 5 _ (aN _ _ _ _ (by omega) ⟨S,T,us,A1,(ns+1),c1,(sp++[FP.mk (.mk (PN.mk k ta nm nn nA nc ks) 0 e none) eo none]),dk,da,bJ,dn,dA,dc,cH,eo,e,none,none,sn,k1,0,eB,rfl,rfl,H9.pk [0,0,3,1,1],(.inl ⟨rfl,rfl,by rw[List.map_append];exact vW,by rw[List.length_append,hn];rfl,ng⟩)⟩)
   have m8:aL w1 S T sp [.env eo e,.aG (PN.mk k ta nm nn nA nc ks),.vo vo none]:=ay H1 2 (by kernel_rfl);have au:=Ur (m8.2 _ j2);obtain rfl:=au;have KT:k≠2:=KT;have m9:aL w1 S T sp [.env eo e,.aG (PN.mk k ta nm nn nA nc ks),.vo none none]:=ay H1 2 (by kernel_rfl);have aZ:=dy m9 H1 2 (by kernel_rfl) sp [.env eo e,.aG (PN.mk k ta nm nn nA nc ks)] (⟨m9.1,fun q h=>m9.2 q (by rcases List.mem_cons.1 h with rfl|h;exact .head _;rw[List.mem_singleton.1 h];exact .tail _ (.head _))⟩);refine xb 7 0 aZ<|xb 13 0 aZ<|xb 13 0 aZ<|xp 0 (.bool ((k:Int)==(2:Int))) (.bool false) (eF (by omega))<|xb 12 0 aZ<|xp 1 (.bool (decide ((sn:Int)≥(1000000:Int)))) (.bool false) (dF (by omega)) ?_;refine xb 11 0 aZ<|xb 12 0 aZ<|Sx.vi 0 ((sn:Int)+(1:Int)) ((sn:Int)+(1:Int)) (IntWalk.i64_in _ (by omega))<|xd 3 0 aZ fun w6 aP=>?_;refine x0 4 [0,0,3] aP (fun Hp R hZ=>V_ S T e us r' br As ns cs sp k ta nm nn nA nc ks eo bo ((sn+1:Nat):Int) w6 R Hp nW hf (fun MD ME MG MH wh MI MJ wi wj wm wq wu Be MK w7 G4 wv wx=>hZ _ _ _ G4 fun bF=>?_));exact xj 2 _ (aN _ _ _ _ (by omega) ⟨MD,T,us,ME,MG,MH,wh,MI,MJ,wi,wj,wm,wq,wu,eo,e,Be,MK,(sn+1),k1,0,eB,rfl,rfl,bF.pk [0,0,0,1,1],(.inl ⟨rfl,rfl,wv▸vW,wx,ng⟩)⟩)
 refine xb 7 0 H1<|xh 8 [] H1 (.tuple #[]) ?_;subst ak;exact hK As ns cs k ta nm nn nA nc ks eo vo (sn:Int) _ (H1.pick [0] (by kernel_rfl))
end Mr
end Go.Proofs.YtdmdecgoebnamaaGreat
namespace Go.Mn
open Go.RowKit Go.Sx Go.aS Go.Gx
def uz(l:List PN):List (Nm×Value):=l.foldl (fun m d=>Sx.AM d.nm (.bool (d.n==1)) m) []
theorem rH{l:List PN}{i:Nat}{d:PN}(h:l[i]?=some d):uz (l.take (i+1))=Sx.AM d.nm (.bool (d.n==1)) (uz (l.take i)):=by
 obtain⟨hi,he⟩:=List.getElem?_eq_some_iff.1 h;rw [List.take_succ_eq_append_getElem hi,uz,List.foldl_append,he];rfl
theorem WB{mp:List (Nm×Value)}(h:ur mp)(a:Nm)(b:Bool):ur (Sx.AM a (.bool b) mp):=fun p hp=>by
 unfold Sx.AM at hp;split at hp
 · rcases List.mem_or_eq_of_mem_set hp with q|q
   · exact h p q
   · exact⟨b,by rw[q]⟩
 · rcases List.mem_append.1 hp with q|q
   · exact h p q
   · exact⟨b,by rw[List.mem_singleton.1 q]⟩
inductive Lets:List PN→PN→Prop
 |one (m:PN):Lets [m] m
 |more {k a:Nat} {nm:Nm} {n:Int} {A B:Option Addr} {c c2:Nat} {x:PN} {ks l:List PN} {e:PN} (h:Lets l e):Lets (.mk k a nm n A c (x::ks)::l) (.mk 2 a nm n B c2 [x,e])
theorem JJ{ks:List PN}{d:PN}(h:ks[ks.length-1]?=some d):Lets (ks.drop (((ks.length-1:Nat):Int)-1+1).toNat) d:=by
 obtain⟨hi,he⟩:=List.getElem?_eq_some_iff.1 h;rw [show (((ks.length-1:Nat):Int)-1+1).toNat=ks.length-1 by omega,List.drop_eq_getElem_cons hi,he,List.drop_of_length_le (by omega)];exact .one d
theorem JK{ks:List PN}{j k a:Nat}{nm:Nm}{n:Int}{A B:Option Addr}{c c2:Nat}{x:PN}{l:List PN}{e:PN}(h:ks[j]?=some (.mk k a nm n A c (x::l)))(he:Lets (ks.drop ((j:Int)+1).toNat) e):Lets (ks.drop ((j:Int)-1+1).toNat) (.mk 2 a nm n B c2 [x,e]):=by
 obtain⟨hi,hx⟩:=List.getElem?_eq_some_iff.1 h;rw [show ((j:Int)+1).toNat=j+1 by omega] at he;rw [show ((j:Int)-1+1).toNat=j by omega,List.drop_eq_getElem_cons hi,hx];exact .more he
theorem PK.two{w:World}{S:Nat→Prop}{x e:PN}{k a b c2:Nat}{nm:Nm}{n:Int}(hx:PK w S x)(he:PK w S e)(hb:S b)(hc:w.cells? 0 ⟨b,0,none⟩ 10=some (x.cells++e.cells))(h2:2≤c2):PK w S (.mk k a nm n (some ⟨b,0,none⟩) c2 [x,e]):=by
 have hx5:x.cells.length=5:=by cases x;rfl
 have he5:e.cells.length=5:=by cases e;rfl
 refine .mk ⟨h2,by simp⟩ (fun i d hi=>⟨_,rfl,hb,?_⟩) (fun i d hi=>?_)
 · match i,hi with
   |0,hi=>cases hi;have:=aa hc (by decide:0+5≤10);rw[List.drop_zero,List.take_left' hx5] at this;exact this
   |1,hi=>cases hi;have:=aa hc (by decide:5+5≤10);rw[List.drop_left' hx5,List.take_of_length_le (by omega)] at this;exact this
   |i+2,hi=>cases hi
 · match i,hi with
   |0,hi=>cases hi;exact hx
   |1,hi=>cases hi;exact he
   |i+2,hi=>cases hi
theorem aaA(a:Nm):Instr.sameBits 10000 (Value.string a) (Value.string a)=true:=(MapKept.bytes_beq a a).2 rfl
theorem WC{w:World}{e sz:Nat}:(wI e sz none 0 0 []).holds w:=ru ⟨by simp,.inl ⟨rfl,rfl,rfl⟩⟩
theorem RY{w:World}:(tN [] []).holds w:=mn (fun i _ h _=>by cases i<;>cases h) (fun i _ _ h=>by cases i<;>cases h)
section
variable {w0 w:World} {L0 L:List Sx.Item}
theorem WD(H:Hs w0 L0 w L)(i:Nat){bt:Nat}(hi:L[i]?=some (.al bt (.map #[] 0))):Hs w0 L0 w (L.set i (uq bt [])):=gH _ _ H hi
theorem WE(H:Hs w0 L0 w L)(e sz:Nat):Hs w0 L0 w (L++[wI e sz none 0 0 []]):=H.add (Gx.Ext.refl _) WC (fun _ h=>by cases h)
theorem WG(H:Hs w0 L0 w L):Hs w0 L0 w (L++[tN [] []]):=H.add (Gx.Ext.refl _) RY (fun _ h=>by obtain⟨i,h,_⟩:=h;cases i<;>cases h)
variable [Rd] {P:Program} {B:Exit→Act→World→Prop} {b:Nat→Value} {n:Nat} {d:List Deferred} {x:Sx.St}
theorem muO{t kt et : Nat}(m i : Nat)(H : Hs w0 L0 w L){bt : Nat}{mp : List (Nm × Value)}(a : Nm)(v : Bool)(hi : L[i]? = some (uq bt mp))
   (k:∀w',Hs w0 L0 w' (L.set i (uq bt (Sx.AM a (.bool v) mp)))→Goal P B b n d (Sx.nx (vX (via P b n m w x (Sx.ask (pH b n)))).y (vX (via P b n m w x (Sx.ask (pH b n)))).q undef) w')
   (h:vA (via P b n m w x (Sx.ask (pH b n)))=vB w (via P b n m w x (Sx.ask (pH b n))):=by kernel_rfl)
   (h2:((vX (via P b n m w x (Sx.ask (pH b n)))).u,(vX (via P b n m w x (Sx.ask (pH b n)))).t)=([.map (some bt),.string a,.bool v],[t]):=by kernel_rfl)
   (ht:ki P t=some (kt,et):=by kernel_rfl) (lE:P.underlying kt=some .string:=by kernel_rfl):Goal P B b n d x w:=mu m i H (enc:=Value.string) a (.bool v) hi aag str_inj aaA k h h2 ht lE
end
end Go.Mn
namespace Go.Proofs.YtdmdecgoebnamaaGreat
open Go.RowKit Go.Sx Go.aS Go.Mn
attribute [local irreducible] Go.wpOps Go.Code.wp Go.wpOp Go.wpAnyH Go.Calls Go.Sx.Goal
set_option maxRecDepth 20000
namespace Mr
set_option maxHeartbeats 8000000 in
theorem JL(S : Nat → Prop)(k ta : Nat)(nm : Nm)(N : Nat)(nA : Option Addr)(nc : Nat)(ks : List PN)(w : World)(K : Ending → World → Prop)(H0 : Sp w [mI S ([]) ([]) [.aG (PN.mk k ta nm (N : Int) nA nc ks)]])(hN : N < ks.length)(hds : ∀(j : Nat)(d : PN), N ≤ j → j + 1 < ks.length → ks[j]? = some d → ∃ x l, d.ks = x :: l)(hK : ∀(br : Nat)(bo : Nat)(S' : Nat → Prop)(k' : Nat)(a' : Nat)(qw : Nm)(qx : Int)(qy : Option Addr)(qz : Nat)(o3 : List PN) w', Hs w [mI S ([]) ([]) [.aG (PN.mk k ta nm (N : Int) nA nc ks)]] w' [bR br none 0 0 (.n k') (.n a') qw (.int .i64 qx) qy o3.length qz (.pointer none) (.pointer none) bo (.int .i64 0) eB (.int .i64 0), wI 135 8 none 0 0 (bh ([])), mI S' ([]) ([]) [.env none .nil, .aG (PN.mk k' a' qw qx qy qz o3), .vo none none], tN ([]) ([]), uq bo (uz (ks.take N))] → (Lets (ks.drop N) (PN.mk k' a' qw qx qy qz o3)) → (ur (uz (ks.take N))) → K (.returned (.p br)) w') :
   Calls Tryz.prog 27 #[.agg #[.n k,.n ta,.string nm,.n N,.slice nA ks.length nc]] w K:=by
 obtain⟨L0,ak,H⟩:=Sx.bX H0;refine xu (vs:=[.agg #[.n k,.n ta,.string nm,.n N,.slice nA ks.length nc]]) 76 Tryz.func27 ?_;have m1:aL w S ([]) ([]) [.aG (PN.mk k ta nm (N:Int) nA nc ks)]:=ay H 0 (by kernel_rfl);have Ub:ks.length<1000000000:=by obtain⟨⟨_,h⟩,_⟩:=PK.at (m1.2 _ j0) (List.getElem?_eq_getElem hN);exact h
 refine xf 2 H fun k1 w1 H1=>xf 5 H1 fun k2 w2 H2=>?_;have H3:=WD (bt:=k2) H2 2 (by kernel_rfl);refine xb 0 1 H3<|xf 1 H3 fun k3 w3 H4=>?_;refine xz 10 (fun z l' w'=>∃(i:Nat) (mp:List (Nm×Value)),l'=[(1,.p k1),(3,.p k3),(4,.n i)]∧z=N-i∧Hs w L0 w' [.al k1 (.cells #[.n k,.n ta,.string nm,.n N,.slice nA ks.length nc] 62),bR k3 none 0 0 (.n k) (.n ta) nm (.n N) nA ks.length nc (.pointer none) (.pointer none) k2 (.int .i64 0) eB (.int .i64 0),mI S ([]) ([]) [.aG (PN.mk k ta nm (N:Int) nA nc ks)],uq k2 mp]∧(i≤N)∧(mp=uz (ks.take i))∧(ur mp)) _ _ ⟨0,[],rfl,rfl,H4.pk [1,2,0,0],(Nat.zero_le _),rfl,(fun _ h=>by cases h)⟩ (fun b1 z1 l1 w4 bQ K1 aN=>?_);obtain ⟨i,mp,rfl,rfl,H6,hi,hmp,fB⟩:=bQ;refine xb 5 0 H6 ?_;refine xl 3 (decide ((i:Int)<(N:Int))) (fun bI=>?_) (fun bI=>?_)
 · have iG:=of_decide_eq_true bI;have au:∃d,ks[i]?=some d:=⟨_,List.getElem?_eq_getElem (by omega)⟩;obtain ⟨⟨dk,da,bJ,dn,dA,dc,cH⟩,hd⟩:=au;have m2:aL w4 S ([]) ([]) [.aG (PN.mk k ta nm (N:Int) nA nc ks)]:=ay H6 2 (by kernel_rfl);have au:=PK.at (m2.2 _ j0) hd;obtain ⟨Dj,⟨gk,zc,_,_⟩,_⟩:=au;refine xw 4 H6 [1,0,2] [] (LJ:=[bR k3 none 0 0 (.n k) (.n ta) nm (.n N) nA ks.length nc (.pointer none) (.pointer none) k2 (.int .i64 0) eB (.int .i64 0),.al k1 (.cells #[.n k,.n ta,.string nm,.n N,.slice nA ks.length nc] 62),mI S ([]) ([]) [.aG (PN.mk k ta nm (N:Int) nA nc ks)]]) (by kernel_rfl) fun w5 H7=>xm [(0,none),(1,none),(2,none),(3,some (0,[])),(4,none),(5,some (1,[])),(6,none)] (H7.sb [1,0,0])<|yi 7 [] gk i 5 ks.length nc zc (by omega) (H7.sb [1,0,0])<|ym 8 [] (Addr.add gk (i*5)) 2 (H7.sb [1,0,0]) ?_;have m3:aL w5 S ([]) ([]) [.aG (PN.mk k ta nm (N:Int) nA nc ks)]:=ay H7 2 (by kernel_rfl);refine yg (c:=1) (t:=9) 9 [] [.string bJ] (.string bJ) (fun w' hs=>(aa (PK.cell ((Go.aS.cQ hs 2 (it:=mI S ([]) ([]) [.aG (PN.mk k ta nm (N:Int) nA nc ks)]) (by kernel_rfl)).1.2 _ j0) zc (i:=i) hd) (by decide:2+1≤5))) (H7.sb [1,0,0])<|xm [(10,none),(11,some (1,[])),(12,none)] (H7.sb [1,0,0])<|yi 13 [] gk i 5 ks.length nc zc (by omega) (H7.sb [1,0,0])<|ym 14 [] (Addr.add gk (i*5)) 3 (H7.sb [1,0,0])<|yg (c:=1) (t:=3) 15 [] [.int .i64 dn] (.int .i64 dn) (fun w' hs=>(aa (PK.cell ((Go.aS.cQ hs 2 (it:=mI S ([]) ([]) [.aG (PN.mk k ta nm (N:Int) nA nc ks)]) (by kernel_rfl)).1.2 _ j0) zc (i:=i) hd) (by decide:3+1≤5))) (H7.sb [1,0,0])<|Sx.L2 16 [] (.bool (dn==(1:Int))) (.bool (dn==1)) (rfl) (H7.sb [1,0,0]) ?_;refine xg ?_;intro gy;refine xi 17<|muO (bt:=k2) (mp:=mp) (t:=72) (kt:=9) (et:=4) 0 3 H7 bJ (dn==1) (by kernel_rfl) fun w6 H8=>xe (x:=gy) 17 (H8.sb [1,0,0])<|xt<|Sx.vi 4 ((i:Int)+(1:Int)) ((i+1:Nat):Int) (Gx.bj (by omega) (by omega)) ?_;exact xj 2 _ (aN _ _ _ _ (by omega) ⟨(i+1),(Sx.AM bJ (.bool (dn==1)) mp),rfl,rfl,H8.pk [0,0,0,0],(by omega),(by rw[rH hd,←hmp];rfl),(WB fB _ _)⟩)
 have iG:=of_decide_eq_false bI;have hiN:i=N:=by omega
 rw[hiN] at hmp;subst hmp;have au:∃d,ks[(ks.length-1)]?=some d:=⟨_,List.getElem?_eq_getElem (by omega)⟩;obtain ⟨⟨dk,da,bJ,dn,dA,dc,cH⟩,hd⟩:=au;have m4:aL w4 S ([]) ([]) [.aG (PN.mk k ta nm (N:Int) nA nc ks)]:=ay H6 2 (by kernel_rfl);have au:=PK.at (m4.2 _ j0) hd;obtain ⟨Dj,⟨gk,zc,_,_⟩,_⟩:=au;refine xb 8 0 H6<|xb 1 0 H6<|Sx.vi 1 ((ks.length:Int)-(1:Int)) ((ks.length-1:Nat):Int) ((by rw[show ((ks.length:Int)-(1:Int))=((ks.length-1:Nat):Int) by omega];exact IntWalk.i64_in _ (by omega)))<|xv 0 gk (ks.length-1) 5 ks.length nc zc (by omega)<|xr (c:=5) (t:=62) 0 (Sx.nC dk da bJ dn dA cH dc) (Sx.nA dk da bJ dn dA cH dc) (PK.cell (m4.2 _ j0) zc (i:=(ks.length-1)) hd)<|xf 0 H6 fun k4 w7 aY=>?_;refine xd 0 4 aY fun w8 aZ=>xb 6 0 aZ<|Sx.vi 1 ((ks.length:Int)-(2:Int)) (((ks.length-1:Nat):Int)-1) ((by rw[show ((ks.length:Int)-(2:Int))=((ks.length-1:Nat):Int)-1 by omega];exact IntWalk.i64_in _ (by omega))) ?_;have m5:aL w8 S ([]) ([]) [.aG (PN.mk k ta nm (N:Int) nA nc ks)]:=ay aZ 2 (by kernel_rfl);have aP:=dy m5 aZ 2 (by kernel_rfl) ([]) [.aG (PN.mk k ta nm (N:Int) nA nc ks),.aG (PN.mk dk da bJ dn dA dc cH)] (⟨m5.1,fun q h=>(by rcases List.mem_cons.1 h with rfl|h;exact m5.2 _ (.head _);rw[List.mem_singleton.1 h];exact PK.nB (m5.2 _ j0) hd)⟩);refine xz 4 (fun z l' w'=>∃(S:Nat→Prop) (i:Int) (ek:Nat) (ea:Nat) (Bm:Nm) (en:Int) (eA:Option Addr) (ec:Nat) (Bn:List PN),l'=[(1,.p k1),(3,.p k3),(5,.p k4),(6,.int .i64 i)]∧z=(i+1).toNat∧Hs w L0 w' [.al k1 (.cells #[.n k,.n ta,.string nm,.n N,.slice nA ks.length nc] 62),bR k3 none 0 0 (.n k) (.n ta) nm (.n N) nA ks.length nc (.pointer none) (.pointer none) k2 (.int .i64 0) eB (.int .i64 0),mI S ([]) ([]) [.aG (PN.mk k ta nm (N:Int) nA nc ks),.aG (PN.mk ek ea Bm en eA ec Bn)],.al k4 (.cells #[.n ek,.n ea,.string Bm,.int .i64 en,.slice eA Bn.length ec] 62),uq k2 (uz (ks.take N))]∧((N:Int)-1≤i∧i+2≤ks.length)∧(Lets (ks.drop (i+1).toNat) (PN.mk ek ea Bm en eA ec Bn))) _ _ ⟨S,(((ks.length-1:Nat):Int)-1),dk,da,bJ,dn,dA,dc,cH,rfl,rfl,aP.pk [0,0,3,2,1],(by omega),(JJ hd)⟩ (fun b2 z2 l2 w9 gA K2 dH=>?_);obtain ⟨S,i,ek,ea,Bm,en,eA,ec,Bn,rfl,rfl,bq,hi,dO⟩:=gA;refine xb 5 0 bq ?_;refine xl 3 (decide (i≥(N:Int))) (fun MV=>?_) (fun MV=>?_)
 · have aaC:=of_decide_eq_true MV;have au:∃j:Nat,i=(j:Int):=⟨i.toNat,by omega⟩;obtain ⟨j,rfl⟩:=au;have au:∃d,ks[j]?=some d:=⟨_,List.getElem?_eq_getElem (by omega)⟩;obtain ⟨⟨dk,da,bJ,dn,dA,dc,cH⟩,hd⟩:=au;have m6:aL w9 S ([]) ([]) [.aG (PN.mk k ta nm (N:Int) nA nc ks),.aG (PN.mk ek ea Bm en eA ec Bn)]:=ay bq 2 (by kernel_rfl);have au:=PK.at (m6.2 _ j0) hd;obtain ⟨Dj,⟨gk,zc,_,_⟩,_⟩:=au;have au:=hds j _ (by omega) (by omega) hd;obtain ⟨⟨xk,xa,sP,xn,xA,xc,yO⟩,dl,rfl⟩:=au;have bu:=dy m6 bq 2 (by kernel_rfl) ([]) [.aG (PN.mk k ta nm (N:Int) nA nc ks),.aG (PN.mk ek ea Bm en eA ec Bn),.aG (PN.mk dk da bJ dn dA dc ((PN.mk xk xa sP xn xA xc yO)::dl))] (aL.l3 m6.1 (m6.2 _ j0) (m6.2 _ j1) (PK.nB (m6.2 _ j0) hd));have m7:aL w9 S ([]) ([]) [.aG (PN.mk k ta nm (N:Int) nA nc ks),.aG (PN.mk ek ea Bm en eA ec Bn),.aG (PN.mk dk da bJ dn dA dc ((PN.mk xk xa sP xn xA xc yO)::dl))]:=ay bu 5 (by kernel_rfl);have au:=PK.at (m7.2 _ j2) (i:=0) rfl;obtain ⟨_,⟨gz,hgz,_,_⟩,_⟩:=au;refine xb 7 0 bu<|xv 1 gk j 5 ks.length nc zc (by omega) ?_;have m8:aL w9 S ([]) ([]) [.aG (PN.mk k ta nm (N:Int) nA nc ks),.aG (PN.mk ek ea Bm en eA ec Bn)]:=ay bu 2 (by kernel_rfl);refine xr (c:=5) (t:=62) 0 [.n dk,.n da,.string bJ,.int .i64 dn,.slice dA (((PN.mk xk xa sP xn xA xc yO)::dl).length) dc] (.agg #[.n dk,.n da,.string bJ,.int .i64 dn,.slice dA (((PN.mk xk xa sP xn xA xc yO)::dl).length) dc]) (PK.cell (m8.2 _ j0) zc (i:=j) hd)<|xf 0 bu fun k5 cJ bS=>xd 0 6 bS fun fU bx=>xw 2 bx [6,5,3] [13] (LJ:=[.al k5 (.cells #[.n dk,.n da,.string bJ,.int .i64 dn,.slice dA (((PN.mk xk xa sP xn xA xc yO)::dl).length) dc] 62),mI S ([]) ([]) [.aG (PN.mk k ta nm (N:Int) nA nc ks),.aG (PN.mk ek ea Bm en eA ec Bn),.aG (PN.mk dk da bJ dn dA dc ((PN.mk xk xa sP xn xA xc yO)::dl))],.al k4 (.cells #[.n ek,.n ea,.string Bm,.int .i64 en,.slice eA Bn.length ec] 62)]) (by kernel_rfl) fun gV cV=>xm [(0,none),(1,some (0,[12,13])),(2,none),(3,some (0,[12,13])),(4,none),(5,some (0,[12,13])),(6,none),(7,some (0,[8,9,11,12,13]))] (cV.sb [6,5,3])<|yi 8 [9,11,12,13] gz 0 5 (((PN.mk xk xa sP xn xA xc yO)::dl).length) dc hgz (by simp) (cV.sb [6,5,3]) ?_;have m9:aL gV S ([]) ([]) [.aG (PN.mk k ta nm (N:Int) nA nc ks),.aG (PN.mk ek ea Bm en eA ec Bn),.aG (PN.mk dk da bJ dn dA dc ((PN.mk xk xa sP xn xA xc yO)::dl))]:=ay cV 5 (by kernel_rfl);refine yg (c:=5) (t:=62) 9 [11,12,13] (Sx.nC xk xa sP xn xA yO xc) (Sx.nA xk xa sP xn xA yO xc) (fun w' hs=>(PK.cell ((Go.aS.cQ hs 1 (it:=mI S ([]) ([]) [.aG (PN.mk k ta nm (N:Int) nA nc ks),.aG (PN.mk ek ea Bm en eA ec Bn),.aG (PN.mk dk da bJ dn dA dc ((PN.mk xk xa sP xn xA xc yO)::dl))]) (by kernel_rfl)).1.2 _ j2) hgz (i:=0) rfl)) (cV.sb [6,5,3])<|xm [(10,some (2,[11,12,13]))] (cV.sb [6,5,3])<|xg ?_;intro im;refine xi 11<|xf 0 cV fun k6 iq bZ=>xe (x:=im) 11 (bZ.sb [6,5,3])<|xm [(12,none)] (bZ.sb [6,5,3])<|xg ?_;intro kc;refine xi 13<|xd 0 3 bZ fun iF cj=>xe (x:=kc) 13 Sx.np<|xt<|Sx.vi 4 ((j:Int)-(1:Int)) ((j:Int)-(1:Int)) (IntWalk.i64_in _ (by omega)) ?_;have Ct:aL iF S ([]) ([]) [.aG (PN.mk k ta nm (N:Int) nA nc ks),.aG (PN.mk ek ea Bm en eA ec Bn),.aG (PN.mk dk da bJ dn dA dc ((PN.mk xk xa sP xn xA xc yO)::dl))]:=ay cj 5 (by kernel_rfl);have au:=m0 Ct cj [5,6] ([]) [.aG (PN.mk k ta nm (N:Int) nA nc ks),.aG (PN.mk 2 da bJ dn (some ⟨k6,0,none⟩) 2 [(PN.mk xk xa sP xn xA xc yO),(PN.mk ek ea Bm en eA ec Bn)])] k6 62 #[.n xk,.n xa,.string sP,.int .i64 xn,.slice xA yO.length xc,.n ek,.n ea,.string Bm,.int .i64 en,.slice eA Bn.length ec] (by kernel_rfl) (fun S' h hb hc=>⟨h.1,fun q hq=>(by rcases List.mem_cons.1 hq with rfl|hq;exact h.2 _ j0;rw[List.mem_singleton.1 hq];exact PK.two (PK.nB (h.2 _ j2) (i:=0) rfl) (h.2 _ j1) hb hc (Nat.le_refl _))⟩);obtain ⟨S1,cC⟩:=au;exact xj 2 _ (dH _ _ _ _ (by omega) ⟨S1,((j:Int)-1),2,da,bJ,dn,(some ⟨k6,0,none⟩),2,[(PN.mk xk xa sP xn xA xc yO),(PN.mk ek ea Bm en eA ec Bn)],rfl,rfl,cC.pk [1,1,0,1,1],(by omega),(JK hd dO)⟩)
 refine xb 8 3 bq<|xd 2 1 bq fun kr dJ=>xh 9 [] dJ (.p k3) ?_;have aaC:=of_decide_eq_false MV;have cW:=WE dJ 135 8;have cK:=WG cW;have HG:aL kr S ([]) ([]) [.aG (PN.mk k ta nm (N:Int) nA nc ks),.aG (PN.mk ek ea Bm en eA ec Bn)]:=ay cK 2 (by kernel_rfl);have ef:=dy HG cK 2 (by kernel_rfl) ([]) [.env none .nil,.aG (PN.mk ek ea Bm en eA ec Bn),.vo none none] (aL.l3 HG.1 .nil (HG.2 _ j1) trivial);subst ak;exact hK k3 k2 S ek ea Bm en eA ec Bn _ (ef.pick [1,4,5,4,3] (by kernel_rfl)) (by rw[show i=(N:Int)-1 by omega,show((N:Int)-1+1).toNat=N by omega] at dO;exact dO) fB
end Mr
end Go.Proofs.YtdmdecgoebnamaaGreat
namespace Go.aS
open Go.RowKit Go.Sx Go.Gx Go.fO
abbrev Nr:=Nd×Option Addr×Nat
def z7(Q:Nat→Prop)(l:List Nr):Sx.Item:=.ro Q (fun w=>∀p∈l,KV Q w p.1.ks p.2.1 p.2.2)
theorem Bo(Q:Nat→Prop)(l:List Nr):Sx.Loc Q (fun w=>∀p∈l,KV Q w p.1.ks p.2.1 p.2.2):=fun _ _ _ hk h p hp=>(h p hp).frame (fun j hj _=>hk j hj)
inductive Kd where
 |lf (k a:Nat) (x:ByteArray) (n:Int)
 |nd (Q:Nat→Prop) (t:Nd) (A:Option Addr) (c:Nat)
def Kd.r:Kd→Nr
 |.lf k a x n=>(.mk k a x n [],none,0)
 |.nd _ t A c=>(t,A,c)
def Kd.i:Kd→Option Sx.Item
 |.lf _ _ _ _=>none
 |.nd Q t A c=>some (eK Q t.ks A c)
section
variable {w0 w:World} {L0 L:List Sx.Item}
theorem _root_.Go.Sx.Hs.pe{L1:List Sx.Item}(H:Hs w0 L0 w L)(e:L0=L1)(I:List Nat){a:List Sx.Item}(h:bp I L=some a:=by kernel_rfl):Hs w0 L1 w a:=e▸H.pick I h
theorem wD(H:Hs w0 L0 w L):Hs w0 L0 w (L++[z7 (fun _=>False) []]):=H.add (Gx.Ext.refl _) (it:=z7 (fun _=>False) []) ⟨fun _ h=>(by cases h),fun _ h=>h.elim,Bo _ _⟩ (fun _ h=>h.elim)
theorem db(H:Hs w0 L0 w L):Hs w0 L0 w (L++[eK (fun _=>False) [] none 0]):=H.add (Gx.Ext.refl _) (it:=eK (fun _=>False) [] none 0) ⟨.nil,fun _ h=>h.elim,uX _ _ _ _⟩ (fun _ h=>h.elim)
theorem MW{S:List Sx.Item}{m:List Kd}(s:∀it∈S,it.holds w)(h:∀x∈m.filterMap Kd.i,x∈S):∀p∈m.map Kd.r,KV (E8 S) w p.1.ks p.2.1 p.2.2:=fun p hp=>by
 obtain⟨k,hk,rfl⟩:=List.mem_map.1 hp;cases k with
 |lf=>exact .nil
 |nd Q t A c=>
   have hm:=h (eK Q t.ks A c) (List.mem_filterMap.2 ⟨_,hk,rfl⟩);exact (s _ hm).1.mono fun c hc _=>⟨_,hm,hc⟩
theorem MX(H:Hs w0 L0 w L)(I:List Nat)(Q:Nat→Prop)(l:List Nr)(m:List Kd)(hp:bp I L=some (z7 Q l::m.filterMap Kd.i):=by kernel_rfl):∃Q',Hs w0 L0 w (z7 Q' (l++m.map Kd.r)::rest I L):=by
 refine⟨_,H.fz I hp (fun s p hp=>?_) (Bo _ _)⟩;rcases List.mem_append.1 hp with h|h
 · exact((s.all _ (.head _)).1 p h).mono fun c hc _=>⟨_,.head _,hc⟩
 · exact MW s.all (fun x hx=>.tail _ hx) p h
theorem RZ(H:Hs w0 L0 w L)(I:List Nat)(Q Q2:Nat→Prop)(l m:List Nr)(hp:bp I L=some [z7 Q l,z7 Q2 m]:=by kernel_rfl):∃Q',Hs w0 L0 w (z7 Q' (l++m)::rest I L):=by
 refine⟨_,H.fz I hp (fun s p hp=>?_) (Bo _ _)⟩;rcases List.mem_append.1 hp with h|h
 · exact((s.all _ (.head _)).1 p h).mono fun c hc _=>⟨_,.head _,hc⟩
 · exact((s.all _ (.tail _ (.head _))).1 p h).mono fun c hc _=>⟨_,.tail _ (.head _),hc⟩
theorem R0(H:Hs w0 L0 w L)(I:List Nat)(e:Nat)(A:Option Addr)(cap n:Nat)(Q:Nat→Prop)(l:List Nr)(hp:bp I L=some [.own e 5 A cap n (flat l),z7 Q l])(hn:n=l.length):∃Q',Hs w0 L0 w (eK Q' (iT l) A cap::rest I L):=by
 refine⟨_,H.fz I hp (fun s=>?_) (uX _ _ _ _)⟩;obtain ⟨A',c',e1,h⟩:=KV.VG (Q:=E8 [.own e 5 A cap n (flat l),z7 Q l]) l (s.all _ (.head _)) (fun j hj=>⟨_,.head _,hj⟩) (fun p hp=>((s.all _ (.tail _ (.head _))).1 p hp).mono fun c hc _=>⟨_,.tail _ (.head _),hc⟩);cases e1;exact h
theorem MY(H:Hs w0 L0 w L)(I:List Nat)(k e:Nat)(m:List Kd)(hp:bp I L=some (.al k (.cells (flat (m.map Kd.r)).toArray e)::m.filterMap Kd.i):=by kernel_rfl)(hl:Nat.ble m.length 9=true:=by kernel_rfl):∃Q,Hs w0 L0 w (eK Q (iT (m.map Kd.r)) (some ⟨k,0,none⟩) m.length::rest I L):=
 ⟨_,H.fz I hp (fun s=>KV.Ly (n:=(flat (m.map Kd.r)).length) (m.map Kd.r) (s.all _ (.head _)) (List.take_length) ⟨_,.head _,rfl⟩ (MW s.all (fun x hx=>.tail _ hx)) (by simp) (by have:=Nat.le_of_ble_eq_true hl;unfold maxLen;simp;omega)) (uX _ _ _ _)⟩
theorem MZ(H:Hs w0 L0 w L)(i k e:Nat)(m:List Kd)(hi:L[i]?=some (.al k (.cells (flat (m.map Kd.r)).toArray e)):=by kernel_rfl)(hl:Nat.ble m.length 9=true:=by kernel_rfl):Hs w0 L0 w (L.set i (.own e 5 (some ⟨k,0,none⟩) m.length m.length (flat (m.map Kd.r)))):=
 H.tI i 5 m.length hi ((nO (m.map Kd.r)).trans (by rw[List.length_map])) (by have:=Nat.le_of_ble_eq_true hl;omega)
variable {P:Prop}
theorem gM(H:Hs w0 L0 w L)(I:List Nat)(Q:Nat→Prop)(l:List Nr)(m:List Kd)(k:∀Q',Hs w0 L0 w (z7 Q' (l++m.map Kd.r)::rest I L)→P)(hp:bp I L=some (z7 Q l::m.filterMap Kd.i):=by kernel_rfl):P:=(MX H I Q l m hp).elim k
theorem WH(H:Hs w0 L0 w L)(I:List Nat)(Q Q2:Nat→Prop)(l m:List Nr)(k:∀Q',Hs w0 L0 w (z7 Q' (l++m)::rest I L)→P)(hp:bp I L=some [z7 Q l,z7 Q2 m]:=by kernel_rfl):P:=(RZ H I Q Q2 l m hp).elim k
theorem Bp(H:Hs w0 L0 w L)(I:List Nat)(e:Nat)(A:Option Addr)(cap n:Nat)(Q:Nat→Prop)(l:List Nr)(hn:n=l.length)(k:∀Q',Hs w0 L0 w (eK Q' (iT l) A cap::rest I L)→P)(hp:bp I L=some [.own e 5 A cap n (flat l),z7 Q l]:=by kernel_rfl):P:=(R0 H I e A cap n Q l hp hn).elim k
theorem bP(H:Hs w0 L0 w L)(I:List Nat)(k e:Nat)(m:List Kd)(c:∀Q',Hs w0 L0 w (eK Q' (iT (m.map Kd.r)) (some ⟨k,0,none⟩) m.length::rest I L)→P)(hp:bp I L=some (.al k (.cells (flat (m.map Kd.r)).toArray e)::m.filterMap Kd.i):=by kernel_rfl)(hl:Nat.ble m.length 9=true:=by kernel_rfl):P:=(MY H I k e m hp hl).elim c
end
structure Up (S:ByteArray) (q q':Rs):Prop where
 ok:Ok S q'
 m:M S q'≤M S q
 x:q'.x=q.x
 y:q'.y=q.y
theorem Up.of{S:ByteArray}{q q':Rs}(h:Tr S q q'):Up S q q':=⟨h.ok,h.m,h.x,h.y⟩
theorem Ut{S:ByteArray}{q:Rs}(h:Ok S q)(x y:Nat)(hx:x≤200)(hy:y≤200):Ok S ⟨q.k,q.a,q.t,q.n,q.e,q.fk,q.fa,x,y⟩:=⟨h.size,h.e,hx,hy,h.a,h.n,h.t,h.k,h.end_,h.nm,h.sg⟩
theorem R1{S:ByteArray}{q q':Rs}(h:Ok S q)(e:bU S q=q'):Up S q q'∧∀s,bw q s=true→M S q'<M S q:=by subst e;exact⟨.of (qV h),fun s hs=>is_lt h hs⟩
theorem Uu{S:ByteArray}{q q':Rs}(h:Ok S q)(e:qh q=q'):Up S q q':=by subst e;exact .of (CW h)
theorem M0{S s:ByteArray}{q q':Rs}(h:Ok S q)(e:aO S q s=q'):Up S q q'∧(bw q s=true→M S q'<M S q):=by subst e;exact⟨.of (vL h),fun hs=>sH h hs⟩
theorem HK{S s:ByteArray}{q q':Rs}(h:Ok S q)(e:aK S q s=q'):Up S q q':=by subst e;exact .of (Ha h)
theorem HL{S x:ByteArray}{a:Nat}{q q':Rs}(h:Ok S q)(e:bK S q=((x,a),q')):Up S q q'∧(okB q'=true→M S q'<M S q):=by
 have t:=Hb h;have l:=QQ (S:=S) (q:=q) h;rw [e] at t l;exact ⟨.of t,l⟩
theorem nt{b:Bool}(h:(!b)=true):b=false:=by simpa using h
theorem nf{b:Bool}(h:(!b)=false):b=true:=by simpa using h
theorem s0:((true=true)=True)∧((false=true)=False)∧((!true)=false)∧((!false)=true)∧(∀b,(true&&b)=b)∧(∀b,(false&&b)=false)∧(∀b,(true||b)=true)∧(∀b,(false||b)=b)∧(∀b,(b&&true)=b)∧(∀b,(b||false)=b)∧(∀b,(b&&false)=false)∧(∀b,(b||true)=true):=by simp
theorem agp{q:Rs}(h:((!(okB q))||((q.k:Int) != (2:Int)))=true):eu q=false:=by unfold eu;revert h;cases okB q<;>simp[bne]
theorem agq{q:Rs}(h:((!(okB q))||((q.k:Int) != (2:Int)))=false):eu q=true:=by unfold eu;revert h;cases okB q<;>simp[bne]
theorem fV{α:Type}(a b:Bool)(x y:α):(if a=true then if b=true then x else y else y)=if(a&&b)=true then x else y:=by cases a<;>cases b<;>rfl
theorem kU{α:Type}(a b:Bool)(x y:α):(if a=true then x else if b=true then x else y)=if(a||b)=true then x else y:=by cases a<;>cases b<;>rfl
theorem M1(l m:List Nr):flat l++flat m=flat (l++m):=List.flatMap_append.symm
theorem JM{l:List Nd}{i:Nat}{d z:Nd}(h:l[i]?=some d):(l.drop i).foldr zK z=zK d ((l.drop (i+1)).foldr zK z):=by
 obtain⟨hi,e⟩:=List.getElem?_eq_some_iff.1 h;rw [List.drop_eq_getElem_cons hi,List.foldr_cons,e]
theorem JN{w:World}{e sz cap n:Nat}{A:Option Addr}{xs:List Value}(h:(Sx.Item.own e sz A cap n xs).holds w):(A=none→n=0)∧∀a,A=some a→∀j u,xs[j]?=some u→w.cell? (a.add j)=some u:=by
 rcases h.2 with⟨hv,hn⟩|⟨g,cM,cur,hv,_,hg,zH,_,_,ZW⟩
 · injection hv with e1;subst e1;exact⟨fun _=>hn,fun a ha=>by cases ha⟩
 · injection hv with e1 e2 e3;subst e1;refine ⟨fun q=>(by cases q),fun a ha j u hu=>?_⟩;cases ha;have ea:(⟨g,0,none⟩:Addr).add j=⟨g,j,none⟩:=by unfold Addr.add;split<;>simp_all
   rw[ea,cell_of_row w g j cur e (0,0) hg];rw [← ZW,List.getElem?_take] at hu;split at hu
   · simpa using hu
   · cases hu
end Go.aS
namespace Go.Sx
open Go.RowKit Go.Gx
section
variable {P:Program} {fn:Func} {R:Ending→World→Prop} {b:Nat→Value} {n:Nat} {d:List Deferred} {w:World} {x:St}
theorem on3(i j m:Nat)(k1:Goal P (bodyPost P fn R) b n d (YL i P (bodyPost P fn R) x) w)(k2:Goal P (bodyPost P fn R) b n d (YL j P (bodyPost P fn R) x) w)(k3:Goal P (bodyPost P fn R) b n d (YL m P (bodyPost P fn R) x) w)(h:Re x=[i,j,m]:=by kernel_rfl):Goal P (bodyPost P fn R) b n d x w:=by
 obtain⟨f,kk,l⟩:=x;cases f with
 |any ops LJ D fuel aj=>
   cases fuel with
   |zero=>simp[Re] at h
   |succ fuel=>
     have h':Region.ready .any ops aj=[i,j,m]:=h;refine ⟨fun h0=>absurd (h'▸h0) (by simp),fun q hq=>?_⟩;rw [h'] at hq;simp only[List.mem_cons,List.not_mem_nil,or_false] at hq;rcases hq with rfl|rfl|rfl
     · exact k1
     · exact k2
     · exact k3
 |_=>simp[Re] at h
end
end Go.Sx
namespace Go.Sx
open Go.RowKit Go.Gx
section
variable [Rd] {P:Program} {B:Exit→Act→World→Prop} {b:Nat→Value} {n:Nat} {d:List Deferred} {w:World} {x:St}
def WI(P:Program)(b:Nat→Value)(n:Nat)(x:St):Option Ask:=
 match hd b n x with
 |some q=>match q.2.2.op with
   |.index t s i=>match P.underlying t with
     |some .string=>some ⟨[ev b n x.l s,ev b n x.l i],[],x,q⟩
     |_=>none
   |_=>none
 |none=>none
theorem Qe(m : Nat)(s : ByteArray)(i : Nat)(hi : i < s.size)(g : Goal P B b n d (nx (vX (via P b n m w x (ask (WI P b n)))).y (vX (via P b n m w x (ask (WI P b n)))).q (.int .u8 ((ae s i).toNat : Int))) w)
   (h:vA (via P b n m w x (ask (WI P b n)))=vB w (via P b n m w x (ask (WI P b n))):=by kernel_rfl)
   (h2:(vX (via P b n m w x (ask (WI P b n)))).u=[.string s,.int .i64 (i:Int)]:=by kernel_rfl):Goal P B b n d x w:=by
 obtain⟨y,hr,hf⟩:=cG h;refine az hr ?_;generalize vX (via P b n m w x (ask (WI P b n)))=z at *;unfold WI at hf;split at hf<;>try contradiction
 rename_i q hq;split at hf<;>try contradiction
 rename_i t s' i' hop;split at hf<;>try contradiction
 rename_i hu;simp only[Option.some.injEq] at hf;subst hf;simp only[List.cons.injEq,and_true] at h2;obtain ⟨h3,h4⟩:=h2;refine cF hq (v:=.int .u8 ((ae s i).toNat:Int)) ?_ g;unfold execOp;have hb:=IW hi;simp [hop,h3,h4,Instr.index,asIntOf,underlying,hu,Sem.run_bind,go_sem,hb]
def WJ(P:Program)(b:Nat→Value)(n:Nat)(x:St):Option Ask:=
 match hd b n x with
 |some q=>match q.2.2.op with
   |.slice t s lo hi mx=>match lo,hi,mx with
     |some j,some k,none=>match P.underlying t with
       |some .string=>some ⟨[ev b n x.l s,ev b n x.l j,ev b n x.l k],[],x,q⟩
       |_=>none
     |_,_,_=>none
   |_=>none
 |none=>none
theorem sl2(m : Nat)(s : ByteArray)(j k : Nat)(hj : j ≤ k)(hk : k ≤ s.size)(g : Goal P B b n d (nx (vX (via P b n m w x (ask (WJ P b n)))).y (vX (via P b n m w x (ask (WJ P b n)))).q (.string (s.extract j k))) w)
   (h:vA (via P b n m w x (ask (WJ P b n)))=vB w (via P b n m w x (ask (WJ P b n))):=by kernel_rfl)
   (h2:(vX (via P b n m w x (ask (WJ P b n)))).u=[.string s,.int .i64 (j:Int),.int .i64 (k:Int)]:=by kernel_rfl):Goal P B b n d x w:=by
 obtain⟨y,hr,hf⟩:=cG h;refine az hr ?_;generalize vX (via P b n m w x (ask (WJ P b n)))=z at *;unfold WJ at hf;split at hf<;>try contradiction
 rename_i q hq;split at hf<;>try contradiction
 rename_i t s' lo oN mx hop;split at hf<;>try contradiction
 rename_i jo ko;split at hf<;>try contradiction
 rename_i hu;simp only[Option.some.injEq] at hf;subst hf;simp only[List.cons.injEq,and_true] at h2;obtain ⟨h3,h4,h5⟩:=h2;refine cF hq (v:=.string (s.extract j k)) ?_ g;exact nE hop hu s j k h3 (.inr ⟨.i64,by rw[Option.map_some,h4]⟩) (.inr ⟨.i64,by rw[Option.map_some,h5]⟩) hj hk
end
section
variable [Rd] {P:Program} {B:Exit→Act→World→Prop} [Pn B] {b:Nat→Value} {n:Nat} {d:List Deferred} {w:World} {x:St}
def s2O(P:Program)(b:Nat→Value)(n:Nat)(z:Tz):Option (List Value):=match z.o.op with
 |.slice t s lo hi mx=>match lo,hi,mx with
   |some j,some k,none=>match P.underlying t with
     |some .string=>some [ev b n z.l s,ev b n z.l j,ev b n z.l k]
     |_=>none
   |_,_,_=>none
 |_=>none
theorem tvz(i : Nat)(C : List Nat)(s : ByteArray)(j k : Nat)(hj : j ≤ k)(hk : k ≤ s.size)(hS : mW x = true → Sp w (jy x))
   (g:Goal P B b n d ((vX (via P b n 0 w x (gC b n i C))).k (.string (s.extract j k))) w)
   (h:vA (via P b n 0 w x (gC b n i C))=vB w (via P b n 0 w x (gC b n i C)):=by kernel_rfl)
   (h2:s2O P b n (vX (via P b n 0 w x (gC b n i C)))=some [.string s,.int .i64 (j:Int),.int .i64 (k:Int)]:=by kernel_rfl):Goal P B b n d x w:=by
 refine tv i C _ hS (fun w' _=>?_) g h;generalize vX (via P b n 0 w x (gC b n i C))=z at *;unfold s2O at h2;split at h2<;>try contradiction
 rename_i t s' lo oN mx hop;split at h2<;>try contradiction
 rename_i jo ko;split at h2<;>try contradiction
 rename_i hu;simp only[Option.some.injEq,List.cons.injEq,and_true] at h2;obtain ⟨h3,h4,h5⟩:=h2;exact nE hop hu s j k h3 (.inr ⟨.i64,by rw[Option.map_some,h4]⟩) (.inr ⟨.i64,by rw[Option.map_some,h5]⟩) hj hk
end
end Go.Sx
namespace Go.Lex
open Go.RowKit Go.Gx
theorem kL{w:World}{b t i:Nat}{l:List ByteArray}(h:Has w b (.cells (uf l) t))(hi:i<l.length):w.cells? 0 ((⟨b,0,none⟩:Addr).add (i*1)) 1=some [.string (gs l i)]:=by
 rw[Addr.add_lit];refine ChangeShapes.cells?_of (Nat.zero_le _) rfl (fun j hj=>?_);obtain rfl:j=0:=by omega
 rw[cell_of_row w b _ _ t (0,0) h];simp [uf,gs,hi]
theorem lT{p:Prop}[Decidable p] (h:p):Value.bool (decide p)=.bool true:=by rw[decide_eq_true h]
theorem lF{p:Prop}[Decidable p] (h:¬p):Value.bool (decide p)=.bool false:=by rw[decide_eq_false h]
end Go.Lex
namespace Go.Proofs.YtdmdecgoebnamaaGreat
open Go.RowKit Go.Sx Go.aS Go.Lex
attribute [local irreducible] Go.wpOps Go.Code.wp Go.wpOp Go.wpAnyH Go.Calls Go.Sx.Goal
set_option maxRecDepth 20000
namespace Lx
theorem Bq(c : UInt8)(w : World)(K : Ending → World → Prop)(H0 : Sp w [])(hK : ∀ w', Hs w [] w' [] → K (.returned (.bool (ah c))) w') :
   Calls Tryz.prog 75 #[.int .u8 ((c).toNat:Int)] w K:=by
 obtain⟨L0,ak,H⟩:=Sx.bX H0;refine xu (vs:=[.int .u8 ((c).toNat:Int)]) 9 Tryz.func75 ?_;refine yd 5 (fun l' w'=>l'=[(2,.bool ((decide (((c).toNat:Int)≥(48:Int)))&&(decide (((c).toNat:Int)≤(57:Int)))))]∧w=w') (fun K1 aN=>?_) (fun b1 l1 w1 bQ=>?_)
 · refine ye 4 5 (decide (((c).toNat:Int)≥(48:Int))) (fun fQ=>?_) (fun fQ=>?_)
   · exact xj 5 _ (aN _ _ _ ⟨rfl,rfl⟩) (h2:=(by rw[fQ];try kernel_rfl))
   exact xj 5 _ (aN _ _ _ ⟨rfl,rfl⟩) (h2:=(by rw[fQ];try kernel_rfl))
 obtain⟨rfl,rfl⟩:=bQ;refine xh 1 [] H (.bool ((decide (((c).toNat:Int)≥(48:Int)))&&(decide (((c).toNat:Int)≤(57:Int))))) ?_;subst ak;exact Gx.af (v':=.bool (ah c)) (by rfl) (hK _ (H.pk []))
theorem Du(c : UInt8)(w : World)(K : Ending → World → Prop)(H0 : Sp w [])(hK : ∀ w', Hs w [] w' [] → K (.returned (.bool (ax c))) w') :
   Calls Tryz.prog 77 #[.int .u8 ((c).toNat:Int)] w K:=by
 obtain⟨L0,ak,H⟩:=Sx.bX H0;refine xu (vs:=[.int .u8 ((c).toNat:Int)]) 21 Tryz.func77 ?_;refine yd 5 (fun l' w'=>l'=[(2,.bool ((((decide (((c).toNat:Int)≥(97:Int)))&&(decide (((c).toNat:Int)≤(122:Int))))||((decide (((c).toNat:Int)≥(65:Int)))&&(decide (((c).toNat:Int)≤(90:Int)))))||(((c).toNat:Int)==(95:Int))))]∧w=w') (fun K1 aN=>?_) (fun b1 l1 w1 bQ=>?_)
 · refine ye 4 5 (decide (((c).toNat:Int)≥(97:Int))) (fun fQ=>?_) (fun fQ=>?_)
   · refine ye 4 9 (decide (((c).toNat:Int)≤(122:Int))) (fun zh=>?_) (fun zh=>?_)
     · exact xj 13 _ (aN _ _ _ ⟨rfl,rfl⟩) (h2:=(by rw[fQ,zh];try kernel_rfl))
     refine ye 3 12 (decide (((c).toNat:Int)≥(65:Int))) (fun fG=>?_) (fun fG=>?_)
     · refine ye 5 17 (decide (((c).toNat:Int)≤(90:Int))) (fun wE=>?_) (fun wE=>?_)
       · exact xj 5 _ (aN _ _ _ ⟨rfl,rfl⟩) (h2:=(by rw[fQ,zh,fG,wE];try kernel_rfl))
       exact xj 5 _ (aN _ _ _ ⟨rfl,rfl⟩) (h2:=(by rw[fQ,zh,fG,wE];try kernel_rfl))
     exact xj 10 _ (aN _ _ _ ⟨rfl,rfl⟩) (h2:=(by rw[fQ,zh,fG];try kernel_rfl))
   refine ye 7 12 (decide (((c).toNat:Int)≥(65:Int))) (fun fG=>?_) (fun fG=>?_)
   · refine ye 5 17 (decide (((c).toNat:Int)≤(90:Int))) (fun wE=>?_) (fun wE=>?_)
     · exact xj 5 _ (aN _ _ _ ⟨rfl,rfl⟩) (h2:=(by rw[fQ,fG,wE];try kernel_rfl))
     exact xj 5 _ (aN _ _ _ ⟨rfl,rfl⟩) (h2:=(by rw[fQ,fG,wE];try kernel_rfl))
   exact xj 10 _ (aN _ _ _ ⟨rfl,rfl⟩) (h2:=(by rw[fQ,fG];try kernel_rfl))
 obtain⟨rfl,rfl⟩:=bQ;refine xh 1 [] H (.bool ((((decide (((c).toNat:Int)≥(97:Int)))&&(decide (((c).toNat:Int)≤(122:Int))))||((decide (((c).toNat:Int)≥(65:Int)))&&(decide (((c).toNat:Int)≤(90:Int)))))||(((c).toNat:Int)==(95:Int)))) ?_;subst ak;exact Gx.af (v':=.bool (ax c)) (by rfl) (hK _ (H.pk []))
theorem R2(c : UInt8)(w : World)(K : Ending → World → Prop)(H0 : Sp w [])(hK : ∀ w', Hs w [] w' [] → K (.returned (.bool (cY c))) w') :
   Calls Tryz.prog 110 #[.int .u8 ((c).toNat:Int)] w K:=by
 obtain⟨L0,ak,H⟩:=Sx.bX H0;refine xu (vs:=[.int .u8 ((c).toNat:Int)]) 17 Tryz.func110 ?_;refine yd 5 (fun l' w'=>l'=[(2,.bool ((((((c).toNat:Int)==(9:Int))||(((c).toNat:Int)==(10:Int)))||(((c).toNat:Int)==(13:Int)))||(((c).toNat:Int)==(32:Int))))]∧w=w') (fun K1 aN=>?_) (fun b1 l1 w1 bQ=>?_)
 · refine ye 4 5 (((c).toNat:Int)==(9:Int)) (fun fQ=>?_) (fun fQ=>?_)
   · exact xj 13 _ (aN _ _ _ ⟨rfl,rfl⟩) (h2:=(by rw[fQ];try kernel_rfl))
   refine ye 4 9 (((c).toNat:Int)==(10:Int)) (fun zh=>?_) (fun zh=>?_)
   · exact xj 9 _ (aN _ _ _ ⟨rfl,rfl⟩) (h2:=(by rw[fQ,zh];try kernel_rfl))
   refine ye 4 13 (((c).toNat:Int)==(13:Int)) (fun M3=>?_) (fun M3=>?_)
   · exact xj 5 _ (aN _ _ _ ⟨rfl,rfl⟩) (h2:=(by rw[fQ,zh,M3];try kernel_rfl))
   exact xj 5 _ (aN _ _ _ ⟨rfl,rfl⟩) (h2:=(by rw[fQ,zh,M3];try kernel_rfl))
 obtain⟨rfl,rfl⟩:=bQ;refine xh 1 [] H (.bool ((((((c).toNat:Int)==(9:Int))||(((c).toNat:Int)==(10:Int)))||(((c).toNat:Int)==(13:Int)))||(((c).toNat:Int)==(32:Int)))) ?_;subst ak;exact Gx.af (v':=.bool (cY c)) (by rfl) (hK _ (H.pk []))
theorem R3  (w : World) (K : Ending → World → Prop) (H0 : Sp w []) (hK : ∀(b : Nat) w', Hs w [] w' [.al b (.cells (Gx.uf eJ) 9)] → K (.returned (.slice (some ⟨b, 0, none⟩) 28 28)) w') :
   Calls Tryz.prog 111 #[] w K:=by
 obtain⟨L0,ak,H⟩:=Sx.bX H0;refine xu (vs:=[]) 2 Tryz.func111<|xf 7 H fun k1 w1 H1=>xh 4 [] H1 (.slice (some ⟨k1,0,none⟩) 28 28) ?_;subst ak;exact hK k1 _ (H1.pk [0])
theorem R4  (w : World) (K : Ending → World → Prop) (H0 : Sp w []) (hK : ∀(b : Nat) w', Hs w [] w' [.al b (.cells (Gx.uf a_) 9)] → K (.returned (.slice (some ⟨b, 0, none⟩) 20 20)) w') :
   Calls Tryz.prog 79 #[] w K:=by
 obtain⟨L0,ak,H⟩:=Sx.bX H0;refine xu (vs:=[]) 2 Tryz.func79<|xf 7 H fun k1 w1 H1=>xh 4 [] H1 (.slice (some ⟨k1,0,none⟩) 20 20) ?_;subst ak;exact hK k1 _ (H1.pk [0])
theorem M4(s : ByteArray)(w : World)(K : Ending → World → Prop)(H0 : Sp w [])(hK : ∀ w', Hs w [] w' [] → K (.returned (.bool (nH s))) w') :
   Calls Tryz.prog 78 #[.string s] w K:=by
 obtain⟨L0,ak,H⟩:=Sx.bX H0;refine xu (vs:=[.string s]) 18 Tryz.func78 ?_;refine x0 7 [] H (fun Hp R hZ=>R3 w R Hp  (fun mJ w1 G1=>hZ _ _ _ G1 fun H1=>?_));refine xz 10 (fun z l' w'=>∃(k:Nat),l'=[(0,.string s),(3,.slice (some ⟨mJ,0,none⟩) 28 28),(4,.n k)]∧z=28-k∧Hs w L0 w' [.al mJ (.cells (Gx.uf eJ) 9)]∧(k≤28)∧(∀j,j<k→((Gx.gs eJ j).toList==s.toList)=false)) _ _ ⟨0,rfl,rfl,H1.pk [0],(by omega),(by intro j hj;omega)⟩ (fun b1 z1 l1 w2 bQ K1 aN=>?_);obtain ⟨k,rfl,rfl,H3,hk,hn⟩:=bQ;refine xl 9 (decide ((k:Int)<(28:Int))) (fun hY=>?_) (fun hY=>?_)
 · have sU:=of_decide_eq_true hY;refine xv 8 ⟨mJ,0,none⟩ k 1 28 28 rfl (by omega)<|xr (c:=1) (t:=9) 0 [.string (Gx.gs eJ k)] (.string (Gx.gs eJ k)) (kL (H3.at 0 (it:=.al mJ (.cells (Gx.uf eJ) 9)) (by kernel_rfl)) (by show _<28;omega)) ?_;refine xl 4 ((Gx.gs eJ k).toList==s.toList) (fun cT=>?_) (fun cT=>?_)
   · refine xh 11 [] H3 (.bool true) ?_;subst ak;exact Gx.af (v':=.bool (nH s)) (by rw[Lj (by omega) cT]) (hK _ (H3.pk []))
   refine Sx.vi 5 ((k:Int)+(1:Int)) ((k+1:Nat):Int) (Gx.bj (by omega) (by omega)) ?_;exact xj 2 _ (aN _ _ _ _ (by omega) ⟨(k+1),rfl,rfl,H3.pk [0],(by omega),(fun j hj=>by rcases Nat.lt_or_ge j k with h|h;exact hn j h;(obtain rfl:j=k:=by omega);exact cT)⟩)
 refine xh 11 [] H3 (.bool false) ?_;have sU:=of_decide_eq_false hY;subst ak;exact Gx.af (v':=.bool (nH s)) (by rw[E0 (fun j hj=>hn j (by omega))]) (hK _ (H3.pk []))
theorem WK(s : ByteArray)(i : Nat)(w : World)(K : Ending → World → Prop)(H0 : Sp w [])(hs : s.size ≤ 3000)(hi : i ≤ s.size)(hK : ∀ w', Hs w [] w' [] → K (.returned (.int .i64 ((pass s i : Nat) : Int))) w') :
   Calls Tryz.prog 74 #[.string s,.n i] w K:=by
 obtain⟨L0,ak,H⟩:=Sx.bX H0;refine xu (vs:=[.string s,.n i]) 33 Tryz.func74 ?_;refine xz 7 (fun z l' w'=>∃(k:Nat),l'=[(0,.string s),(1,.n k)]∧z=s.size-k∧Hs w L0 w' []∧(k≤s.size)∧(pass s k=pass s i)) _ _ ⟨i,rfl,rfl,H,hi,rfl⟩ (fun b1 z1 l1 w1 bQ K1 aN=>?_);obtain ⟨k,rfl,rfl,H1,hk,hp⟩:=bQ;refine xl 9 (decide ((k:Int)<(s.size:Int))) (fun jT=>?_) (fun jT=>?_)
 · have MU:=of_decide_eq_true jT;refine Sx.Qe 8 s k (by omega) ?_;refine x0 0 [] H1 (fun Hp R hZ=>R2 (Gx.ae s k) w1 R Hp  (fun w2 G1=>hZ _ _ _ G1 fun H2=>?_));refine xl 2 (cY (Gx.ae s k)) (fun fh=>?_) (fun fh=>?_)
   · have rI:=fh;try simp[-List.getD_eq_getElem?_getD] at rI
     refine Sx.vi 3 ((k:Int)+(1:Int)) ((k+1:Nat):Int) (Gx.bj (by omega) (by omega)) ?_;exact xj 6 _ (aN _ _ _ _ (by omega) ⟨(k+1),rfl,rfl,H2,(by omega),(by rw[← hp,gZ (s:=s) (k:=k) (by omega) fh])⟩)
   have rI:=fh;try simp[-List.getD_eq_getElem?_getD] at rI
   refine Sx.Qe 7 s k (by omega) ?_;refine xl 3 (((Gx.ae s k).toNat:Int) != (35:Int)) (fun gW=>?_) (fun gW=>?_)
   · refine xh 12 [] H2 (.n k) ?_;have Dv:=gW;try simp[-List.getD_eq_getElem?_getD] at Dv
     subst ak;exact Gx.af (v':=.int .i64 ((pass s i:Nat):Int)) (by rw[← hp,jF (s:=s) (k:=k) (by omega) (by rw[fh];simp) (by omega)]) (hK _ (H2.pk []))
   have Dv:=gW;try simp[-List.getD_eq_getElem?_getD] at Dv
   refine xz 3 (fun z l' w'=>∃(j:Nat),l'=[(0,.string s),(1,.n j)]∧z=s.size-j∧Hs w L0 w' []∧(k≤j∧j≤s.size)∧(stop cE s j=stop cE s k)) _ _ ⟨k,rfl,rfl,H2,(by omega),rfl⟩ (fun b2 z2 l2 w3 gA K2 dH=>?_);obtain ⟨j,rfl,rfl,H3,hj,cw⟩:=gA;refine yd 1 (fun l' w'=>l'=[(0,.string s),(1,.n j),(29,.bool ((decide ((j:Int)<(s.size:Int)))&&(((Gx.ae s j).toNat:Int) != (10:Int))))]∧w3=w') (fun K3 lX=>?_) (fun b3 l3 w4 uB=>?_)
   · refine ye 6 24 (decide ((j:Int)<(s.size:Int))) (fun n_=>?_) (fun n_=>?_)
     · have alr:=of_decide_eq_true n_;refine Sx.Qe 2 s j (by omega) ?_;exact xj 3 _ (lX _ _ _ ⟨rfl,rfl⟩) (h2:=(by rw[n_];try kernel_rfl))
     exact xj 6 _ (lX _ _ _ ⟨rfl,rfl⟩) (h2:=(by rw[n_];try kernel_rfl))
   obtain⟨rfl,rfl⟩:=uB;refine xl 0 ((decide ((j:Int)<(s.size:Int)))&&(((Gx.ae s j).toNat:Int) != (10:Int))) (fun gN=>?_) (fun gN=>?_)
   · have Dw:=gN;try simp[-List.getD_eq_getElem?_getD] at Dw
     refine Sx.vi 5 ((j:Int)+(1:Int)) ((j+1:Nat):Int) (Gx.bj (by omega) (by omega)) ?_;exact xj 3 _ (dH _ _ _ _ (by omega) ⟨(j+1),rfl,rfl,H3,(by omega),(by rw[← cw,eO (p:=cE) (s:=s) (k:=j) (by omega) (by unfold cE;simp;omega)])⟩)
   have Dw:=gN;try simp[-List.getD_eq_getElem?_getD] at Dw
   exact xj 5 _ (aN _ _ _ _ (by have h1:=cy cE s (k+1);rw[← eO (p:=cE) (s:=s) (k:=k) (by omega) (by unfold cE;simp;omega),←cw,er (p:=cE) (s:=s) (k:=j) (by simpa [cE] using gN)] at h1;omega) ⟨j,rfl,rfl,H3,(by omega),(by rw[← hp,iw (s:=s) (k:=k) (by omega) (by omega),←eO (p:=cE) (s:=s) (k:=k) (by omega) (by unfold cE;simp;omega),←cw,er (p:=cE) (s:=s) (k:=j) (by simpa [cE] using gN)])⟩)
 refine xh 12 [] H1 (.n k) ?_;have MU:=of_decide_eq_false jT;subst ak;exact Gx.af (v':=.int .i64 ((pass s i:Nat):Int)) (by rw[← hp,nG (s:=s) (k:=k) (by omega)]) (hK _ (H1.pk []))
theorem M5(s : ByteArray)(w : World)(K : Ending → World → Prop)(H0 : Sp w [])(hs : s.size ≤ 3000)(hd : ∀ m, m < s.size → ah (Gx.ae s m) = true)(hK : ∀ w', Hs w [] w' [] → K (.returned (.tuple #[.n (bif dq s 0 s.size then ed s 0 s.size else 0), .bool (dq s 0 s.size)])) w') :
   Calls Tryz.prog 76 #[.string s] w K:=by
 obtain⟨L0,ak,H⟩:=Sx.bX H0;refine xu (vs:=[.string s]) 36 Tryz.func76 ?_;refine yd 7 (fun l' w'=>l'=[(0,.string s),(14,.bool ((decide ((s.size:Int)>(1:Int)))&&(((Gx.ae s 0).toNat:Int)==(48:Int))))]∧w=w') (fun K1 aN=>?_) (fun b1 l1 w1 bQ=>?_)
 · refine ye 5 10 (decide ((s.size:Int)>(1:Int))) (fun HM=>?_) (fun HM=>?_)
   · have als:=of_decide_eq_true HM;refine Sx.Qe 1 s 0 (by omega) ?_;exact xj 3 _ (aN _ _ _ ⟨rfl,rfl⟩) (h2:=(by rw[HM];try kernel_rfl))
   exact xj 5 _ (aN _ _ _ ⟨rfl,rfl⟩) (h2:=(by rw[HM];try kernel_rfl))
 obtain⟨rfl,rfl⟩:=bQ;refine xl 0 ((decide ((s.size:Int)>(1:Int)))&&(((Gx.ae s 0).toNat:Int)==(48:Int))) (fun mK=>?_) (fun mK=>?_)
 · refine xh 8 [] H (.tuple #[.int .i64 0,.bool false]) ?_;have M6:=mK;try simp[-List.getD_eq_getElem?_getD] at M6
   subst ak;exact Gx.af (v':=.tuple #[.n (bif dq s 0 s.size then ed s 0 s.size else 0),.bool (dq s 0 s.size)]) (by rw[EZ (s:=s) (j:=0) (e:=s.size) (by omega) (by omega)];rfl) (hK _ (H.pk []))
 have M6:=mK;try simp[-List.getD_eq_getElem?_getD] at M6
 refine xz 14 (fun z l' w'=>∃(k:Nat) (v:Nat),l'=[(0,.string s),(4,.n v),(5,.n k)]∧z=s.size-k∧Hs w L0 w' []∧(k≤s.size)∧(v=ed s 0 k)∧(v≤9223372036854775807)) _ _ ⟨0,0,rfl,rfl,H,(by omega),rfl,(by omega)⟩ (fun b2 z1 l2 w2 gA K2 dH=>?_);obtain ⟨k,v,rfl,rfl,H1,hk,hv,hm⟩:=gA;refine xl 9 (decide ((k:Int)<(s.size:Int))) (fun gW=>?_) (fun gW=>?_)
 · have Dv:=of_decide_eq_true gW;have Uq:=(oJ _).1 (hd k (by omega));refine Sx.Qe 8 s k (by omega)<|xp 0 (.int .u8 (IntKind.u8.wrap (((Gx.ae s k).toNat:Int)-(48:Int)))) (.int .u8 (((Gx.ae s k).toNat-48:Nat):Int)) (congrArg (Value.int .u8) ((by rw[IntWalk.u8_in _ (by omega)];omega)))<|Sx.vi 0 (((Gx.ae s k).toNat-48:Nat):Int) (((Gx.ae s k).toNat-48:Nat):Int) (IntWalk.i64_in _ (by omega))<|Sx.vi 8 ((9223372036854775807:Int)-(((Gx.ae s k).toNat-48:Nat):Int)) ((9223372036854775807-((Gx.ae s k).toNat-48):Nat):Int) ((by rw[IntWalk.i64_in _ (by omega)];omega))<|Sx.vi 0 (Int.tdiv ((9223372036854775807-((Gx.ae s k).toNat-48):Nat):Int) (10:Int)) (((9223372036854775807-((Gx.ae s k).toNat-48))/10:Nat):Int) (by rw[IntWalk.i64_quo _ _ (by omega)];omega) ?_;refine xl 3 (decide ((v:Int)>(((9223372036854775807-((Gx.ae s k).toNat-48))/10:Nat):Int))) (fun iH=>?_) (fun iH=>?_)
   · refine xh 13 [] H1 (.tuple #[.int .i64 0,.bool false]) ?_;have wF:=of_decide_eq_true iH;subst ak;exact Gx.af (v':=.tuple #[.n (bif dq s 0 s.size then ed s 0 s.size else 0),.bool (dq s 0 s.size)]) (by rw[EY (s:=s) (j:=0) (e:=s.size) (k:=k) (d:=(Gx.ae s k).toNat-48) (by omega) (by rw[Nat.zero_add]) (by rw[← hv];unfold fW;omega) (by omega)];rfl) (hK _ (H1.pk []))
   have wF:=of_decide_eq_false iH;refine Sx.vi 4 ((10:Int)*(v:Int)) ((10*v:Nat):Int) (Gx.bj (by omega) (by omega))<|Sx.vi 1 (((10*v:Nat):Int)+(((Gx.ae s k).toNat-48:Nat):Int)) (((10*v)+((Gx.ae s k).toNat-48):Nat):Int) (Gx.bj (by omega) (by omega))<|Sx.vi 6 ((k:Int)+(1:Int)) ((k+1:Nat):Int) (Gx.bj (by omega) (by omega)) ?_;exact xj 2 _ (dH _ _ _ _ (by omega) ⟨(k+1),(10*v+((Gx.ae s k).toNat-48)),rfl,rfl,H1,(by omega),(by simp only[ed,Nat.zero_add];omega),(by omega)⟩)
 refine xh 13 [] H1 (.tuple #[.n v,.bool true]) ?_;have Dv:=of_decide_eq_false gW;subst ak;exact Gx.af (v':=.tuple #[.n (bif dq s 0 s.size then ed s 0 s.size else 0),.bool (dq s 0 s.size)]) (by have e:k=s.size:=(by omega);subst e;rw[zF (s:=s) (j:=0) (e:=s.size) (by omega) (by show ed s 0 s.size≤fW;unfold fW;omega),hv];rfl) (hK _ (H1.pk []))
set_option maxHeartbeats 4000000 in
theorem WL(s : ByteArray)(i : Nat)(w : World)(K : Ending → World → Prop)(H0 : Sp w [])(hs : s.size ≤ 3000)(hi : i ≤ s.size)(hK : ∀ w', Hs w [] w' [] → K (.returned (Nx.V (next s i))) w') :
   Calls Tryz.prog 43 #[.string s,.n i] w K:=by
 obtain⟨L0,ak,H⟩:=Sx.bX H0;refine xu (vs:=[.string s,.n i]) 144 Tryz.func43 ?_;have hi1:=uU s i;have EK:=qO s i hi;refine xf 2 H fun k1 w1 H1=>xf 1 H1 fun k2 w2 H2=>?_;refine x0 6 [] H2 (fun Hp R hZ=>WK s i w2 R Hp hs hi (fun w3 G1=>hZ _ _ _ G1 fun H3=>?_));refine xl 12 (decide (((pass s i:Nat):Int)≥(s.size:Int))) (fun wG=>?_) (fun wG=>?_)
 · refine xd 8 0 H3 fun w4 H4=>?_;refine xd 1 1 H4 fun w5 H5=>xh 4 [0,1] H5 (.tuple #[.agg #[.int .i64 0,.n s.size,.string (bY []),.int .i64 0],.n s.size,.agg #[.int .i64 0,.int .i64 0]]) ?_;have M7:=of_decide_eq_true wG;subst ak;exact Gx.af (v':=Nx.V (next s i)) (by unfold next;rw[if_neg (show ¬pass s i<s.size by omega)];rfl) (hK _ (H5.pk []))
 have M7:=of_decide_eq_false wG;refine Sx.Qe 13 s (pass s i) (by omega) ?_;refine x0 0 [] H3 (fun Hp R hZ=>Bq (Gx.ae s (pass s i)) w3 R Hp  (fun w6 G2=>hZ _ _ _ G2 fun H6=>?_));refine xl 2 (ah (Gx.ae s (pass s i))) (fun iH=>?_) (fun iH=>?_)
 · refine yd 0 (fun l' w'=>∃(e:Nat),l'=[(0,.string s),(1,.int .i64 ((pass s i:Nat):Int)),(4,.p k1),(6,.p k2),(7,.n e)]∧Hs w L0 w' [.al k1 (.cells #[.int .i64 0,.int .i64 0,.string (bY []),.int .i64 0] 89),.al k2 (.cells #[.int .i64 0,.int .i64 0] 35)]∧(e=stop ah s (pass s i))) (fun K1 aN=>?_) (fun b1 l1 w7 bQ=>?_)
   · have H7:=H6.pick (a:=[.al k1 (.cells #[.int .i64 0,.int .i64 0,.string (bY []),.int .i64 0] 89),.al k2 (.cells #[.int .i64 0,.int .i64 0] 35)]) [0,0] (by kernel_rfl);have wF:=iH;try simp[-List.getD_eq_getElem?_getD] at wF
     refine xz 1 (fun z l' w'=>∃(e:Nat),l'=[(0,.string s),(1,.int .i64 ((pass s i:Nat):Int)),(4,.p k1),(6,.p k2),(7,.n e)]∧z=s.size-e∧Hs w L0 w' [.al k1 (.cells #[.int .i64 0,.int .i64 0,.string (bY []),.int .i64 0] 89),.al k2 (.cells #[.int .i64 0,.int .i64 0] 35)]∧(pass s i≤e∧e≤s.size)∧(stop ah s e=stop ah s (pass s i))) _ _ ⟨(pass s i),rfl,rfl,H7,(by omega),rfl⟩ (fun b2 z1 l2 w8 gA K2 dH=>?_);obtain ⟨e,rfl,rfl,H8,he,cw⟩:=gA;refine ye 8 35 (decide ((e:Int)<(s.size:Int))) (fun M8=>?_) (fun M8=>?_)
     · have aaE:=of_decide_eq_true M8;refine Sx.Qe 2 s e (by omega) ?_;refine x0 0 [] H8 (fun Hp R hZ=>Bq (Gx.ae s e) w8 R Hp  (fun w9 G3=>hZ _ _ _ G3 fun H9=>?_));refine xl 3 (ah (Gx.ae s e)) (fun bV=>?_) (fun bV=>?_)
       · have fR:=bV;try simp[-List.getD_eq_getElem?_getD] at fR
         refine Sx.vi 5 ((e:Int)+(1:Int)) ((e+1:Nat):Int) (Gx.bj (by omega) (by omega)) ?_;exact xj 3 _ (dH _ _ _ _ (by omega) ⟨(e+1),rfl,rfl,H9.pk [0,0],(by omega),(by rw[← cw,eO (p:=ah) (s:=s) (k:=e) (by omega) (by simp[bV])])⟩)
       have fR:=bV;try simp[-List.getD_eq_getElem?_getD] at fR
       exact xj 4 _ (aN _ _ _ ⟨e,rfl,H9.pk [0,0],(by rw[← cw,er (p:=ah) (s:=s) (k:=e) (fun q=>by simp[bV] at q)])⟩)
     have aaE:=of_decide_eq_false M8;exact xj 12 _ (aN _ _ _ ⟨e,rfl,H8.pk [0,0],(by rw[← cw,er (p:=ah) (s:=s) (k:=e) (fun q=>by omega)])⟩)
   obtain⟨e,rfl,bF,hee⟩:=bQ;have m_:=cy ah s (pass s i);have uZ:=di ah s (pass s i) EK;subst hee;have wF:=iH;try simp[-List.getD_eq_getElem?_getD] at wF
   refine Sx.sl2 5 s (pass s i) (stop ah s (pass s i)) (by omega) (by omega) ?_;refine x0 0 [] bF (fun Hp R hZ=>M5 (s.extract (pass s i) (stop ah s (pass s i))) w7 R Hp (by rw[nI (di ah s (pass s i) EK)];omega) (E1 s (pass s i) EK) (fun cJ G4=>hZ _ _ _ G4 fun bq=>?_));refine xl 14 (!(dq (s.extract (pass s i) (stop ah s (pass s i))) 0 (s.extract (pass s i) (stop ah s (pass s i))).size)) (fun cL=>?_) (fun cL=>?_)
   · refine xd 5 0 bq fun fU bu=>?_;refine xd 1 1 bu fun gV bS=>xh 5 [0,1] bS (.tuple #[.agg #[.int .i64 0,.int .i64 0,.string (bY []),.int .i64 0],.int .i64 0,.agg #[.int .i64 3,.int .i64 ((pass s i:Nat):Int)]]) ?_;have fH:=cL;try simp[-List.getD_eq_getElem?_getD] at fH
     subst ak;exact Gx.af (v':=Nx.V (next s i)) (by unfold next;rw[if_pos (show pass s i<s.size by omega)];unfold cx;rw[if_pos iH];unfold qP;rw[if_neg (by rw[← pv (cy _ _ _) (di ah s (pass s i) EK)];simpa using cL)];rfl) (hK _ (bS.pk []))
   refine xd 9 0 bq fun iq bx=>xd 1 1 bx fun iF cV=>xh 4 [0,1] cV (.tuple #[.agg #[.int .i64 1,.int .i64 ((pass s i:Nat):Int),.string (bY []),.int .i64 ((bif dq (s.extract (pass s i) (stop ah s (pass s i))) 0 (s.extract (pass s i) (stop ah s (pass s i))).size then ed (s.extract (pass s i) (stop ah s (pass s i))) 0 (s.extract (pass s i) (stop ah s (pass s i))).size else 0:Nat):Int)],.int .i64 ((stop ah s (pass s i):Nat):Int),.agg #[.int .i64 0,.int .i64 0]]) ?_;have fH:=cL;try simp[-List.getD_eq_getElem?_getD] at fH
   subst ak;exact Gx.af (v':=Nx.V (next s i)) (by unfold next;rw[if_pos (show pass s i<s.size by omega)];unfold cx;rw[if_pos iH];unfold qP;rw[if_pos (by rw[← pv (cy _ _ _) (di ah s (pass s i) EK)];simpa using cL)];rw[AP (cy _ _ _) (di ah s (pass s i) EK) (by simpa using cL)];rfl) (hK _ (cV.pk []))
 have wF:=iH;try simp[-List.getD_eq_getElem?_getD] at wF
 refine Sx.Qe 7 s (pass s i) (by omega) ?_;refine x0 0 [] H6 (fun Hp R hZ=>Du (Gx.ae s (pass s i)) w6 R Hp  (fun kr G5=>hZ _ _ _ G5 fun bZ=>?_));refine xl 2 (ax (Gx.ae s (pass s i))) (fun lK=>?_) (fun lK=>?_)
 · refine yd 0 (fun l' w'=>∃(e:Nat),l'=[(0,.string s),(1,.int .i64 ((pass s i:Nat):Int)),(4,.p k1),(6,.p k2),(7,.n e)]∧Hs w L0 w' [.al k1 (.cells #[.int .i64 0,.int .i64 0,.string (bY []),.int .i64 0] 89),.al k2 (.cells #[.int .i64 0,.int .i64 0] 35)]∧(e=stop (fun c=>ax c||ah c) s (pass s i))) (fun K3 lX=>?_) (fun b3 l3 ku uB=>?_)
   · have cj:=bZ.pick (a:=[.al k1 (.cells #[.int .i64 0,.int .i64 0,.string (bY []),.int .i64 0] 89),.al k2 (.cells #[.int .i64 0,.int .i64 0] 35)]) [0,0] (by kernel_rfl);have Dx:=lK;try simp[-List.getD_eq_getElem?_getD] at Dx
     refine xz 1 (fun z l' w'=>∃(e:Nat),l'=[(0,.string s),(1,.int .i64 ((pass s i:Nat):Int)),(4,.p k1),(6,.p k2),(7,.n e)]∧z=s.size-e∧Hs w L0 w' [.al k1 (.cells #[.int .i64 0,.int .i64 0,.string (bY []),.int .i64 0] 89),.al k2 (.cells #[.int .i64 0,.int .i64 0] 35)]∧(pass s i≤e∧e≤s.size)∧(stop (fun c=>ax c||ah c) s e=stop (fun c=>ax c||ah c) s (pass s i))) _ _ ⟨(pass s i),rfl,rfl,cj,(by omega),rfl⟩ (fun b4 z2 l4 ke Dy K4 nh=>?_);obtain ⟨e,rfl,rfl,cC,he,cw⟩:=Dy;refine ye 8 69 (decide ((e:Int)<(s.size:Int))) (fun M9=>?_) (fun M9=>?_)
     · have aaF:=of_decide_eq_true M9;refine Sx.Qe 2 s e (by omega) ?_;refine x0 0 [] cC (fun Hp R hZ=>Du (Gx.ae s e) ke R Hp  (fun mm G6=>hZ _ _ _ G6 fun c_=>?_));refine ye 1 74 (ax (Gx.ae s e)) (fun z8=>?_) (fun z8=>?_)
       · have M_:=z8;try simp[-List.getD_eq_getElem?_getD] at M_
         refine Sx.vi 14 ((e:Int)+(1:Int)) ((e+1:Nat):Int) (Gx.bj (by omega) (by omega)) ?_;exact xj 3 _ (nh _ _ _ _ (by omega) ⟨(e+1),rfl,rfl,c_.pk [0,0],(by omega),(by rw[← cw,eO (p:=(fun c=>ax c||ah c)) (s:=s) (k:=e) (by omega) (by simp[z8])])⟩)
       have M_:=z8;try simp[-List.getD_eq_getElem?_getD] at M_
       refine Sx.Qe 2 s e (by omega) ?_;refine x0 0 [] c_ (fun Hp R hZ=>Bq (Gx.ae s e) mm R Hp  (fun nX G7=>hZ _ _ _ G7 fun cW=>?_));refine xl 4 (ah (Gx.ae s e)) (fun Dz=>?_) (fun Dz=>?_)
       · have Na:=Dz;try simp[-List.getD_eq_getElem?_getD] at Na
         refine Sx.vi 5 ((e:Int)+(1:Int)) ((e+1:Nat):Int) (Gx.bj (by omega) (by omega)) ?_;exact xj 3 _ (nh _ _ _ _ (by omega) ⟨(e+1),rfl,rfl,cW.pk [0,0],(by omega),(by rw[← cw,eO (p:=(fun c=>ax c||ah c)) (s:=s) (k:=e) (by omega) (by simp[z8,Dz])])⟩)
       have Na:=Dz;try simp[-List.getD_eq_getElem?_getD] at Na
       exact xj 4 _ (lX _ _ _ ⟨e,rfl,cW.pk [0,0],(by rw[← cw,er (p:=(fun c=>ax c||ah c)) (s:=s) (k:=e) (fun q=>by simp[z8,Dz] at q)])⟩)
     have aaF:=of_decide_eq_false M9;exact xj 18 _ (lX _ _ _ ⟨e,rfl,cC.pk [0,0],(by rw[← cw,er (p:=(fun c=>ax c||ah c)) (s:=s) (k:=e) (fun q=>by omega)])⟩)
   obtain⟨e,rfl,iU,hee⟩:=uB;have m_:=cy (fun c=>ax c||ah c) s (pass s i);have uZ:=di (fun c=>ax c||ah c) s (pass s i) EK;subst hee;have Dx:=lK;try simp[-List.getD_eq_getElem?_getD] at Dx
   refine Sx.vi 5 (((stop (fun c=>ax c||ah c) s (pass s i):Nat):Int)-((pass s i:Nat):Int)) (((stop (fun c=>ax c||ah c) s (pass s i):Nat):Int)-((pass s i:Nat):Int)) (IntWalk.i64_in _ (by omega)) ?_;refine xl 3 (decide ((((stop (fun c=>ax c||ah c) s (pass s i):Nat):Int)-((pass s i:Nat):Int))>(20:Int))) (fun Nb=>?_) (fun Nb=>?_)
   · refine xd 5 0 iU fun o4 eC=>?_;refine xd 1 1 eC fun kR dz=>xh 5 [0,1] dz (.tuple #[.agg #[.int .i64 0,.int .i64 0,.string (bY []),.int .i64 0],.int .i64 0,.agg #[.int .i64 3,.int .i64 ((pass s i:Nat):Int)]]) ?_;have aaG:=of_decide_eq_true Nb;subst ak;exact Gx.af (v':=Nx.V (next s i)) (by unfold next;rw[if_pos (show pass s i<s.size by omega)];unfold cx;rw[if_neg (by rw[iH];simp)];rw[if_pos lK];unfold nameAt;rw[if_pos (by omega)];rfl) (hK _ (dz.pk []))
   have aaG:=of_decide_eq_false Nb;refine Sx.sl2 13 s (pass s i) (stop (fun c=>ax c||ah c) s (pass s i)) (by omega) (by omega) ?_;refine x0 0 [] iU (fun Hp R hZ=>M4 (s.extract (pass s i) (stop (fun c=>ax c||ah c) s (pass s i))) ku R Hp  (fun ry G8=>hZ _ _ _ G8 fun dS=>?_));refine xl 2 (nH (s.extract (pass s i) (stop (fun c=>ax c||ah c) s (pass s i)))) (fun DA=>?_) (fun DA=>?_)
   · have Nc:=DA;try simp[-List.getD_eq_getElem?_getD] at Nc
     refine Sx.sl2 11 s (pass s i) (stop (fun c=>ax c||ah c) s (pass s i)) (by omega) (by omega)<|xd 3 0 dS fun tK fy=>xd 1 1 fy fun qB kv=>xh 4 [0,1] kv (.tuple #[.agg #[.int .i64 3,.int .i64 ((pass s i:Nat):Int),.string (s.extract (pass s i) (stop (fun c=>ax c||ah c) s (pass s i))),.int .i64 0],.int .i64 ((stop (fun c=>ax c||ah c) s (pass s i):Nat):Int),.agg #[.int .i64 0,.int .i64 0]]) ?_;subst ak;exact Gx.af (v':=Nx.V (next s i)) (by unfold next;rw[if_pos (show pass s i<s.size by omega)];unfold cx;rw[if_neg (by rw[iH];simp)];rw[if_pos lK];unfold nameAt;rw[if_neg (by omega)];rw[if_pos DA];rfl) (hK _ (kv.pk []))
   have Nc:=DA;try simp[-List.getD_eq_getElem?_getD] at Nc
   refine Sx.sl2 9 s (pass s i) (stop (fun c=>ax c||ah c) s (pass s i)) (by omega) (by omega)<|xd 3 0 dS fun um gi=>xd 1 1 gi fun pK fP=>xh 4 [0,1] fP (.tuple #[.agg #[.int .i64 2,.int .i64 ((pass s i:Nat):Int),.string (s.extract (pass s i) (stop (fun c=>ax c||ah c) s (pass s i))),.int .i64 0],.int .i64 ((stop (fun c=>ax c||ah c) s (pass s i):Nat):Int),.agg #[.int .i64 0,.int .i64 0]]) ?_;subst ak;exact Gx.af (v':=Nx.V (next s i)) (by unfold next;rw[if_pos (show pass s i<s.size by omega)];unfold cx;rw[if_neg (by rw[iH];simp)];rw[if_pos lK];unfold nameAt;rw[if_neg (by omega)];rw[if_neg (by rw[DA];simp)];rfl) (hK _ (fP.pk []))
 have Dx:=lK;try simp[-List.getD_eq_getElem?_getD] at Dx
 refine x0 4 [] bZ (fun Hp R hZ=>R4 kr R Hp  (fun mJ tL G9=>hZ _ _ _ G9 fun hP=>?_));refine xz 10 (fun z l' w'=>∃(q:Nat),l'=[(0,.string s),(1,.int .i64 ((pass s i:Nat):Int)),(4,.p k1),(6,.p k2),(11,.slice (some ⟨mJ,0,none⟩) 20 20),(12,.n q)]∧z=20-q∧Hs w L0 w' [.al mJ (.cells (Gx.uf a_) 9),.al k1 (.cells #[.int .i64 0,.int .i64 0,.string (bY []),.int .i64 0] 89),.al k2 (.cells #[.int .i64 0,.int .i64 0] 35)]∧(q≤20)∧(∀r,r<q→kP s (pass s i) r=false)) _ _ ⟨0,rfl,rfl,hP.pk [0,0,0],(by omega),(by intro r hr;omega)⟩ (fun b5 z3 l5 tM WM K5 wH=>?_);obtain ⟨q,rfl,rfl,iV,hq,hn⟩:=WM;refine Or.elim (Nat.lt_or_ge q 20) (fun yP=>?_) (fun yP=>?_)
 · have zG:(Gx.gs a_ q).size≤2:=by rw[oL q (by omega)];split<;>omega
   refine Or.elim (Nat.lt_or_ge s.size (pass s i+(Gx.gs a_ q).size)) (fun FH=>?_) (fun FH=>?_)
   · refine xp 6 (.bool (decide ((q:Int)<(20:Int)))) (.bool true) (lT (by omega)) ?_;refine xv 12 ⟨mJ,0,none⟩ q 1 20 20 rfl (by omega)<|xr (c:=1) (t:=9) 0 [.string (Gx.gs a_ q)] (.string (Gx.gs a_ q)) (kL (iV.at 0 (it:=.al mJ (.cells (Gx.uf a_) 9)) (by kernel_rfl)) (by show _<20;omega))<|Sx.vi 1 (((pass s i:Nat):Int)+(((Gx.gs a_ q).size:Nat):Int)) (((pass s i)+((Gx.gs a_ q).size):Nat):Int) (Gx.bj (by omega) (by omega))<|xw 4 iV [] [] (LJ:=[]) (by kernel_rfl) fun zd kK=>xm [(0,none),(1,none),(2,none)] Sx.sn<|Sx.L2 3 [] (.bool (decide ((((pass s i)+((Gx.gs a_ q).size):Nat):Int)≤(s.size:Int)))) (.bool false) (lF (by omega)) Sx.sn ?_;refine xm [(4,none),(5,none),(6,none),(7,none),(8,none),(9,none),(10,none),(11,none),(12,none),(13,none),(14,none)] Sx.sn<|xt<|Sx.vi 7 ((q:Int)+(1:Int)) ((q+1:Nat):Int) (Gx.bj (by omega) (by omega)) ?_;exact xj 2 _ (wH _ _ _ _ (by omega) ⟨(q+1),rfl,rfl,kK.pk [0,0,0],(by omega),(fun r hr=>by rcases Nat.lt_or_ge r q with h|h;exact hn r h;(have e:r=q:=by omega);subst e;unfold kP;rw[decide_eq_false (by omega)];rfl)⟩)
   refine xp 6 (.bool (decide ((q:Int)<(20:Int)))) (.bool true) (lT (by omega))<|xv 12 ⟨mJ,0,none⟩ q 1 20 20 rfl (by omega)<|xr (c:=1) (t:=9) 0 [.string (Gx.gs a_ q)] (.string (Gx.gs a_ q)) (kL (iV.at 0 (it:=.al mJ (.cells (Gx.uf a_) 9)) (by kernel_rfl)) (by show _<20;omega))<|Sx.vi 1 (((pass s i:Nat):Int)+(((Gx.gs a_ q).size:Nat):Int)) (((pass s i)+((Gx.gs a_ q).size):Nat):Int) (Gx.bj (by omega) (by omega))<|xw 4 iV [0] [] (LJ:=[.al mJ (.cells (Gx.uf a_) 9)]) (by kernel_rfl) fun zY hU=>xm [(0,none),(1,none),(2,none)] (hU.sb [0]) ?_;refine Sx.L2 3 [] (.bool (decide ((((pass s i)+((Gx.gs a_ q).size):Nat):Int)≤(s.size:Int)))) (.bool true) (lT (by omega)) (hU.sb [0])<|xm [(4,none),(5,none),(6,none),(7,none)] (hU.sb [0])<|Sx.tvz 8 [] s (pass s i) ((pass s i)+((Gx.gs a_ q).size)) (by omega) (by omega) (hU.sb [0])<|xm [(9,none),(10,none)] (hU.sb [0])<|yi 11 [] ⟨mJ,0,none⟩ q 1 20 20 rfl (by omega) (hU.sb [0])<|yg (c:=1) (t:=9) 12 [] [.string (Gx.gs a_ q)] (.string (Gx.gs a_ q)) (fun w' hs=>(kL (Go.aS.cQ hs 0 (it:=.al mJ (.cells (Gx.uf a_) 9)) (by kernel_rfl)) (by show _<20;omega))) (hU.sb [0]) ?_;refine xm [(13,none),(14,none)] (hU.sb [0])<|xt ?_;refine xl 1 ((s.extract (pass s i) ((pass s i)+((Gx.gs a_ q).size))).toList==(Gx.gs a_ q).toList) (fun FI=>?_) (fun FI=>?_)
   · refine xv 5 ⟨mJ,0,none⟩ q 1 20 20 rfl (by omega) ?_;refine xr (c:=1) (t:=9) 0 [.string (Gx.gs a_ q)] (.string (Gx.gs a_ q)) (kL (hU.at 0 (it:=.al mJ (.cells (Gx.uf a_) 9)) (by kernel_rfl)) (by show _<20;omega))<|xd 3 1 hU fun zZ ky=>xd 1 2 ky fun ze nD=>xh 8 [1,2] nD (.tuple #[.agg #[.int .i64 4,.int .i64 ((pass s i:Nat):Int),.string (Gx.gs a_ q),.int .i64 0],.int .i64 (((pass s i)+((Gx.gs a_ q).size):Nat):Int),.agg #[.int .i64 0,.int .i64 0]]) ?_;subst ak;exact Gx.af (v':=Nx.V (next s i)) (by have hy:=Ll (s:=s) (j:=pass s i) (q:=q) (by omega) hn (by unfold kP;rw[decide_eq_true (by omega),FI];rfl);unfold next;rw[if_pos (show pass s i<s.size by omega)];unfold cx;rw[if_neg (by rw[iH];simp)];rw[if_neg (by rw[lK];simp)];rw[if_pos hy.1,hy.2.1,hy.2.2];rfl) (hK _ (nD.pk []))
   refine Sx.vi 5 ((q:Int)+(1:Int)) ((q+1:Nat):Int) (Gx.bj (by omega) (by omega)) ?_;exact xj 2 _ (wH _ _ _ _ (by omega) ⟨(q+1),rfl,rfl,hU.pk [0,0,0],(by omega),(fun r hr=>by rcases Nat.lt_or_ge r q with h|h;exact hn r h;(have e:r=q:=by omega);subst e;unfold kP;rw[decide_eq_true (by omega),FI];rfl)⟩)
 refine xp 6 (.bool (decide ((q:Int)<(20:Int)))) (.bool false) (lF (by omega))<|xd 13 1 iV fun Dp lW=>xd 1 2 lW fun Cx o6=>xh 3 [1,2] o6 (.tuple #[.agg #[.int .i64 0,.int .i64 0,.string (bY []),.int .i64 0],.int .i64 0,.agg #[.int .i64 2,.int .i64 ((pass s i:Nat):Int)]]) ?_;subst ak;exact Gx.af (v':=Nx.V (next s i)) (by have hy:=QL (s:=s) (j:=pass s i) (by omega) (fun r hr=>hn r (by omega));unfold next;rw[if_pos (show pass s i<s.size by omega)];unfold cx;rw[if_neg (by rw[iH];simp)];rw[if_neg (by rw[lK];simp)];rw[if_neg (by rw[hy];simp)];rfl) (hK _ (o6.pk []))
end Lx
end Go.Proofs.YtdmdecgoebnamaaGreat
