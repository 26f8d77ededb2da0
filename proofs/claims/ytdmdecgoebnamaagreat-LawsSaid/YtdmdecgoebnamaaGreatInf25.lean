/- A part of the proof. -/
import Derived.Test.YtdmdecgoebnamaaGreatYb
import Derived.Test.YtdmdecgoebnamaaGreatInfSet
import Derived.Test.YtdmdecgoebnamaaGreatInf23
import Derived.Test.YtdmdecgoebnamaaGreatRe6
import Derived.Test.YtdmdecgoebnamaaGreatMw8
import Derived.Test.YtdmdecgoebnamaaGreatSx7
import Derived.Test.YtdmdecgoebnamaaGreatMd
import Derived.Shelf.Strings.Builder1
import Derived.Shelf.Strings.Builder2
import Derived.Shelf.Strings.OnBuilder
import Derived.Shelf.Strings.BuilderF
import Derived.Shelf.Strings.BuilderK
import Derived.Shelf.Strings.Builder2Cap
import Derived.Test.YtdmdecgoebnamaaGreatProg
import Derived.KernelRfl
set_option linter.unusedVariables false
set_option linter.unusedSimpArgs false
namespace Go.Proofs.YtdmdecgoebnamaaGreat
open Go.RowKit Go.Sx Go.aS Go.fO
attribute [local irreducible] Go.wpOps Go.Code.wp Go.wpOp Go.wpAnyH Go.Calls Go.Sx.Goal
set_option maxRecDepth 20000
set_option maxHeartbeats 8000000 in
theorem Tj(Q : Nat → Prop)(kd na : Nat)(nm : Nm)(nb : Nat)(ks : List Nd)(nA : Option Addr)(nc : Nat)(w : World)(K : Ending → World → Prop)(H0 : Sp w [eK Q ks nA nc])(k : Nat)(r : List (Nm × Ty) × Ty × Nat × Int)(hf : tr k nb ks = some r)(HV : kd = 0)(hK : ∀(A' : Option Addr)(n' : Nat)(c' : Nat)(Sy : Nat → Prop)(p : Tv)(xo' : List Value) w', Hs w [eK Q ks nA nc] w' [.own 59 2 A' c' n' xo', lV Sy p r.2.1, eK Q ks nA nc] → K (.returned (.tuple #[.slice A' n' c', .agg (Fk r.2.1 p).toArray, .agg #[.int .i64 (r.2.2.1 : Int), .int .i64 r.2.2.2]])) w') :
   Calls Tryz.prog 37 #[.agg #[.n kd,.n na,.string nm,.n nb,.slice nA ks.length nc]] w K:=by
 obtain⟨L0,ak,H⟩:=Sx.bX H0;refine xu (vs:=[.agg #[.n kd,.n na,.string nm,.n nb,.slice nA ks.length nc]]) 160 Tryz.func37 ?_;obtain ⟨⟨SO,X1,hkk⟩,c1,c2,out,ajt,ac5,Jn,iE⟩:=Ei hf;have aju:((ks.length:Int)==(0:Int))=false:=beq_eq_false_iff_ne.2 (by omega);refine xf 2 H fun k1 w1 H1=>xf 1 H1 fun k2 w2 H2=>xf 0 H2 fun k3 w3 H3=>?_;refine x0 4 [] H3 (fun Hp R hZ=>aa6 w3 R Hp  (fun S0 bg w4 G1=>hZ _ _ _ G1 fun H4=>?_));refine xf 1 H4 fun bc w5 H5=>?_;refine yd 4 (fun l' w'=>l'=[(1,.p k1),(3,.p k2),(4,.p k3),(5,.p bc),(28,.bool (((kd:Int) != (0:Int))||((ks.length:Int)==(0:Int))))]∧w5=w') (fun K1 aN=>?_) (fun b1 l1 w6 bQ=>?_)
 · refine xb 2 2 H5 ?_;refine ye 2 23 ((kd:Int) != (0:Int)) (fun jU=>?_) (fun jU=>?_)
   · exact xj 6 _ (aN _ _ _ ⟨rfl,rfl⟩) (h2:=(by rw[jU];try kernel_rfl))
   refine xb 1 2 H5 ?_;exact xj 4 _ (aN _ _ _ ⟨rfl,rfl⟩) (h2:=(by rw[jU];try kernel_rfl))
 obtain⟨rfl,rfl⟩:=bQ;refine xl 0 (((kd:Int) != (0:Int))||((ks.length:Int)==(0:Int))) (fun wV=>?_) (fun wV=>?_)
 · have ac6:=wV;try simp[-List.getD_eq_getElem?_getD] at ac6
   first|(rw [aju,HV] at wV;exact absurd wV (by decide))|omega|simp_all
 refine xq 2 (.code (Sx.ct 15 Tryz.f37)) [] [(1,.p k1),(3,.p k2),(4,.p k3),(5,.p bc)] fun b2=>xb 3 2 H5 ?_;refine x0 0 [5,1] H5 (fun Hp R hZ=>acR bc bg none 0 0 G.new [] Q kd na nm nb ks nA nc w5 R Hp k c1 ajt X1 (by omega) (fun oA on oc ol So w7 G2 fL fB ES=>hZ _ _ _ G2 fun H6=>?_));rw [← ES.1] at H6;have H7:=H6.add (Gx.Ext.refl _) (it:=.own 122 6 none 0 0 []) (World.ownsRow_nil _ _ _ _) (fun _ h=>by cases h);have H8:=H7.add (Gx.Ext.refl _) (it:=aX (fun _=>False) []) Pj (fun _ h=>h.elim);refine yd 7 (fun l' w'=>∃(S:Nat→Prop) (eA:Option Addr) (en:Nat) (ec:Nat) (el:List Nv) (Sm:Nat→Prop) (tA:Option Addr) (tn:Nat) (tc:Nat) (xo:List Value),l'=[(1,.p k1),(3,.p k2),(4,.p k3),(5,.p bc),(6,.slice tA tn tc)]∧Hs w L0 w' (Sx.cX bc bg eA en ec oA on oc c2.fk c2.fa S c2.g el Sm ol So Q ks nA nc++[.al k1 (.cells #[.n kd,.n na,.string nm,.n nb,.slice nA ks.length nc] 62),.al k2 (.cells #[.int .i64 0,.int .i64 0,.int .i64 0,.slice none 0 0,.slice none 0 0] 96),.al k3 (.cells #[.int .i64 0,.int .i64 0] 35),.own 59 2 tA tc tn xo])∧(el.map (·.1)=c2.env)∧(ol.map (·.1)=c2.ops)∧(en<100000000)∧(tn<100000000)) (fun K2 dH=>?_) (fun b3 l2 w8 gA=>?_)
 · refine xb 3 5 H8 ?_;have H9:=H8.add (Gx.Ext.refl _) (it:=.own 59 2 none 0 0 []) (World.ownsRow_nil _ _ _ _) (fun _ h=>by cases h);refine xz 4 (fun z l' w'=>∃(i:Nat) (cc:Ck) (S:Nat→Prop) (eA:Option Addr) (en:Nat) (ec:Nat) (el:List Nv) (Sm:Nat→Prop) (tA:Option Addr) (tn:Nat) (tc:Nat) (ou:List (Nm×Ty)) (xo:List Value),l'=[(1,.p k1),(3,.p k2),(4,.p k3),(5,.p bc),(6,.slice tA tn tc),(7,.n i)]∧z=ks.length-i∧Hs w L0 w' (Sx.cX bc bg eA en ec oA on oc cc.fk cc.fa S cc.g el Sm ol So Q ks nA nc++[.al k1 (.cells #[.n kd,.n na,.string nm,.n nb,.slice nA ks.length nc] 62),.al k2 (.cells #[.int .i64 0,.int .i64 0,.int .i64 0,.slice none 0 0,.slice none 0 0] 96),.al k3 (.cells #[.int .i64 0,.int .i64 0] 35),.own 59 2 tA tc tn xo])∧(nb≤i)∧(i≤ks.length-1)∧(en≤i)∧(tn≤i)∧(pV k ks nb i ((ks.take (ks.length-1)).drop i) cc ou=some (c2,out))∧(el.map (·.1)=cc.env)∧(ol.map (·.1)=cc.ops)) _ _ ⟨nb,c1,S0,none,0,0,[],(fun _=>False),none,0,0,[],[],rfl,rfl,H9.pk [0,3,6,6,0,0,0,0,0,0,0],(Nat.le_refl _),(by omega),(Nat.zero_le _),(Nat.zero_le _),ac5,ES.2.symm,fL⟩ (fun b4 z1 l3 w9 uB K3 lX=>?_);obtain ⟨i,cc,S,eA,en,ec,el,Sm,tA,tn,tc,ou,xo,rfl,rfl,aZ,hbi,him,hen,htn,hop,iZ,fL⟩:=uB;have hlen:=iu (e:=122) (n:=en) (cap:=ec) (A:=eA) (l:=el) aZ 2 (by kernel_rfl);refine xb 5 7 aZ<|Sx.vi 1 ((ks.length:Int)-(1:Int)) ((ks.length:Int)-(1:Int)) (IntWalk.i64_in _ (by omega)) ?_;refine ye 2 42 (decide ((i:Int)<((ks.length:Int)-(1:Int)))) (fun Pp=>?_) (fun Pp=>?_)
   · have ac7:=of_decide_eq_true Pp;refine x0 1 [0] aZ (fun Hp R hZ=>h_ bc bg eA en ec oA on oc cc.fk cc.fa w9 R Hp  (fun cJ G3=>hZ _ _ _ G3 fun aP=>?_));refine xq 3 (.code (Sx.ct 4049 Tryz.f37)) [.code (Sx.ct 2025 Tryz.f37),.to K3,.al 0,.to K2] [(1,.p k1),(3,.p k2),(4,.p k3),(5,.p bc),(6,.slice tA tn tc),(7,.n i),(45,.bool (cc.fk==0))] fun b5=>?_;refine xl 0 (cc.fk==0) (fun pW=>?_) (fun pW=>?_)
     · have AG:=pW;try simp[-List.getD_eq_getElem?_getD] at AG
       obtain⟨dZ,mQ⟩:=dj (l:=ks) (i:=i) (by omega);obtain ⟨hz1,hz2⟩:=AF hop mQ (by omega);have h0:cc.fk=0:=by simpa using pW
       obtain⟨d2,t2,c3,hbd,X7,hx1,hx2⟩:=hz2 h0;have hkp:=Ej dZ ((ks.take i).drop nb) cc;obtain ⟨cz,ac8⟩:∃z,((ks.take i).drop nb).foldl (vj dZ) cc=z:=⟨_,rfl⟩;rw [ac8] at hkp hbd;obtain ⟨bD,aI,aE,bE,bl⟩:=dZ;obtain ⟨B1,d_,a1,fY,bF⟩:=aJ (Q:=Q) (ks:=ks) (A:=nA) (c:=nc) (i:=i) aP 6 (by kernel_rfl) mQ;refine xb 7 7 bF<|xv 1 a1 i 5 ks.length nc fY (ar mQ)<|xr (c:=5) (t:=62) 0 (Sx.nC bD aI aE bE B1 bl d_) (Sx.nA bD aI aE bE B1 bl d_) (aD (Q:=Q) (a:=a1.add (i*5)) (n:=5) (cs:=(Sx.nC bD aI aE bE B1 bl d_)) bF 11 (by kernel_rfl))<|xf 0 bF fun k4 fU bq=>xd 0 13 bq fun gV bu=>xq 2 (.code (Sx.ct 16201 Tryz.f37)) [.al 1,.code (Sx.ct 4051 Tryz.f37),.to K3,.al 0,.to K2] [(1,.p k1),(3,.p k2),(4,.p k3),(5,.p bc),(6,.slice tA tn tc),(7,.n i),(8,.p k4)] fun b6=>?_;refine xb 4 7 bu ?_;refine xz 4 (fun z l' w'=>∃(j:Nat) (cd:Ck),l'=[(1,.p k1),(3,.p k2),(4,.p k3),(5,.p bc),(6,.slice tA tn tc),(7,.n i),(8,.p k4),(9,.n j)]∧z=i-j∧Hs w L0 w' (Sx.cX bc bg eA en ec oA on oc cd.fk cd.fa S cc.g el Sm ol So Q ks nA nc++[.al k1 (.cells #[.n kd,.n na,.string nm,.n nb,.slice nA ks.length nc] 62),.al k2 (.cells #[.int .i64 0,.int .i64 0,.int .i64 0,.slice none 0 0,.slice none 0 0] 96),.al k3 (.cells #[.int .i64 0,.int .i64 0] 35),.own 59 2 tA tc tn xo,dI Q (a1.add (i*5)) 5 (Sx.nC bD aI aE bE B1 bl d_),eK Q bl B1 d_,.al k4 (.cells #[.n bD,.n aI,.string aE,.int .i64 bE,.slice B1 bl.length d_] 62)])∧(nb≤j)∧(j≤i)∧(((ks.take i).drop j).foldl (vj (Nd.mk bD aI aE bE bl)) cd=cz)) _ _ ⟨nb,cc,rfl,rfl,bu.pk [0,0,0,0,0,0,0,0,0,0,0,0,0,0],(Nat.le_refl _),hbi,ac8⟩ (fun b7 z2 l4 iq Dy K4 nh=>?_);obtain ⟨j,cd,rfl,rfl,bx,hjb,KF,J_⟩:=Dy;refine xl 8 (decide ((j:Int)<(i:Int))) (fun DH=>?_) (fun DH=>?_)
       · have ac9:=of_decide_eq_true DH;obtain ⟨dV,N_⟩:=dj (l:=ks) (i:=j) (by omega);obtain ⟨DZ,D0,jC,D1,D2⟩:=dV;obtain ⟨B2,fM,a2,jM,cV⟩:=aJ (Q:=Q) (ks:=ks) (A:=nA) (c:=nc) (i:=j) bx 6 (by kernel_rfl) N_;have rU:=BR J_ (by omega) N_;refine xw 5 cV [7,14,13] [] (LJ:=[.al k1 (.cells #[.n kd,.n na,.string nm,.n nb,.slice nA ks.length nc] 62),dI Q (a2.add (j*5)) 5 (Sx.nC DZ D0 jC D1 B2 D2 fM),.al k4 (.cells #[.n bD,.n aI,.string aE,.int .i64 bE,.slice B1 bl.length d_] 62)]) (by kernel_rfl) fun iF bZ=>xm [(0,none),(1,some (0,[])),(2,none)] (bZ.sb [7,13,12])<|yi 3 [] a2 j 5 ks.length nc jM (ar N_) (bZ.sb [7,13,12])<|ym 4 [] (a2.add (j*5)) 2 (bZ.sb [7,13,12])<|yg (c:=1) (t:=9) 5 [] [.string jC] (.string jC) (fun w' hs=>(aa (i:=2) (m:=1) (fZ (Q:=Q) (a:=a2.add (j*5)) (n:=5) (cs:=(Sx.nC DZ D0 jC D1 B2 D2 fM)) hs 1 (by kernel_rfl)) (by decide))) (bZ.sb [7,13,12])<|xm [(6,none),(7,some (2,[])),(8,none)] (bZ.sb [7,13,12]) ?_;refine xt<|xq 1 (.code (Sx.ct 4147529 Tryz.f37)) [.al 3,.code (Sx.ct 1036883 Tryz.f37),.to K4,.al 2,.code (Sx.ct 32403 Tryz.f37),.al 1,.code (Sx.ct 4051 Tryz.f37),.to K3,.al 0,.to K2] [(1,.p k1),(3,.p k2),(4,.p k3),(5,.p bc),(6,.slice tA tn tc),(7,.n i),(8,.p k4),(9,.n j),(68,.bool (jC.toList==aE.toList))] fun b8=>?_;refine xl 0 (jC.toList==aE.toList) (fun yu=>?_) (fun yu=>?_)
         · have he:ee jC (Nd.mk bD aI aE bE bl).nm=true:=by rw[dx];exact yu
           rw[if_pos he] at rU;refine xb 3 13 bZ ?_;refine x0 0 [0] bZ (fun Hp R hZ=>jd bc bg eA en ec oA on oc cd.fk cd.fa 7 (aI:Int) iF R Hp  (fun kr G4=>hZ _ _ _ G4 fun cj=>?_));rw [← (dW (c:=cd) (kd:=7) (a:=(aI:Int))).1,←(dW (c:=cd) (kd:=7) (a:=(aI:Int))).2.1] at cj;refine Sx.vi 5 ((j:Int)+(1:Int)) ((j+1:Nat):Int) (Gx.bj (by omega) (by omega)) ?_;exact xj 2 _ (nh _ _ _ _ (by omega) ⟨(j+1),(Ck.no cd 7 (aI:Int)),rfl,rfl,cj.pk [0,0,0,0,0,0,0,0,0,0,0,0,0,0],(by omega),(by omega),rU⟩)
         have he:ee jC (Nd.mk bD aI aE bE bl).nm=false:=by rw[dx];exact yu
         rw[if_neg (by rw[he];decide)] at rU;refine Sx.vi 5 ((j:Int)+(1:Int)) ((j+1:Nat):Int) (Gx.bj (by omega) (by omega)) ?_;exact xj 2 _ (nh _ _ _ _ (by omega) ⟨(j+1),cd,rfl,rfl,bZ.pk [0,0,0,0,0,0,0,0,0,0,0,0,0,0],(by omega),(by omega),rU⟩)
       have ac9:=of_decide_eq_false DH;obtain rfl:=BS J_ (by omega);rw [← hkp.1] at bx;refine xq 5 (.code (Sx.ct 32403 Tryz.f37)) [.al 1,.code (Sx.ct 4051 Tryz.f37),.to K3,.al 0,.to K2] [(1,.p k1),(3,.p k2),(4,.p k3),(5,.p bc),(6,.slice tA tn tc),(7,.n i),(8,.p k4)] fun b9=>xb 3 13 bx ?_;refine x0 0 [0,0,0,0,0,0,6] bx (fun Hp R hZ=>Is k (Bw k) bc bg eA en ec oA on oc S (⟨cd.g,cd.env,cd.ops,cd.fk,cd.fa⟩:Ck) el Sm ol So Q bD aI aE bE bl B1 d_ iq R Hp d2 t2 hbd (iZ.trans hkp.2.1.symm) (fL.trans hkp.2.2.symm) (by omega) fB (fun S1 vm vn ku G5 tS CL=>hZ _ _ _ G5 fun dJ=>?_));refine xb 8 13 dJ ?_;refine x0 0 [0,0] dJ (fun Hp R hZ=>Ii bc bg vm en vn oA on oc t2 (aI:Int) S1 (⟨d2.g,d2.env,d2.ops,d2.fk,d2.fa⟩:Ck) ku R Hp _ c3 X7 (fun S2 ke G6=>hZ _ _ _ G6 fun cW=>?_));refine x0 6 [0] cW (fun Hp R hZ=>h_ bc bg vm en vn oA on oc c3.fk c3.fa ke R Hp  (fun mm G7=>hZ _ _ _ G7 fun cK=>?_));refine xl 3 (!(c3.fk==0)) (fun Pq=>?_) (fun Pq=>?_)
       · obtain⟨rfl,rfl⟩:=hx1 (by simpa using Pq);exact xj 6 _ (dH _ _ _ ⟨S2,vm,en,vn,el,Sm,tA,tn,tc,xo,rfl,cK.pk [0,0,0,0,0,0,1,1,1,1,1],(tS.trans (dv X7).2.1.symm),(CL.trans (dv X7).2.2.symm),(by omega),(by omega)⟩)
       have h3:c3.fk=0:=by simpa using Pq
       obtain⟨xx,sT,lT,ajv,X8,GM,pf⟩:=hx2 h3;have Tl:=(tS.trans (dv X7).2.1.symm);have X9:=(CL.trans (dv X7).2.2.symm);refine xq 2 (.code (Sx.ct 259231 Tryz.f37)) [.al 1,.code (Sx.ct 4051 Tryz.f37),.to K3,.al 0,.to K2] [(1,.p k1),(3,.p k2),(4,.p k3),(5,.p bc),(6,.slice tA tn tc),(7,.n i),(8,.p k4),(10,.n t2)] fun Ta=>xb 4 13 cK ?_;refine x0 1 [0,0,0,0] cK (fun Hp R hZ=>td bc bg vm en vn oA on oc S2 (⟨c3.g,c3.env,c3.ops,c3.fk,c3.fa⟩:Ck) el Sm aE t2 mm R Hp k xx ajv Tl (by omega) (fun S3 S4 Gs Lb nX G8=>hZ _ _ _ G8 fun eL=>?_));refine xf 0 eL fun k5 o4 iU=>xd 0 15 iU fun kR eC=>xb 5 15 eC ?_;refine x0 0 [0,1,1,1] eC (fun Hp R hZ=>ie bc bg vm en vn oA on oc c3.fk c3.fa el Sm S4 (xx,some Gs,some Lb) kR R Hp (by omega) (fun AD AE ry G9=>hZ _ _ _ G9 fun dz=>?_));refine xw 3 dz [0] [] (LJ:=[.al bc (.cells #[.p bg,.slice AD (en+1) AE,.slice oA on oc,.n c3.fk,.int .i64 c3.fa] 115)]) (by kernel_rfl) fun tK dS=>xm [(0,none),(1,none),(2,none),(3,some (0,[])),(4,none)] (dS.sb [0])<|xg ?_;intro gy;refine yp 5 7 ?_ ?_
       · refine x0 0 [] dS (fun Hp R hZ=>vd tK R Hp  (fun bt1 br1 qB nj=>hZ _ _ _ nj fun fy=>?_));refine xe (x:=gy) 5 (fy.sb [2])<|xg ?_;intro im;refine yp 6 7 ?_ ?_
         · obtain⟨yC,yD,yE,IB,IC⟩:=sT;refine x0 0 [6,0,0] fy (fun Hp R hZ=>(tl _) S3 bg c3.g t2 bt1 br1 (⟨[],[]⟩:gG) qB R Hp _ lT X8 (fun S5 S6 p1 um o9=>hZ _ _ _ o9 fun kv=>?_));refine xe (x:=im) 6 (kv.sb [4])<|xg ?_;intro kc;refine xi 7<|xf 0 kv fun k6 pK gi=>xe (x:=kc) 7 (gi.sb [4])<|xg ?_;intro o5;refine xi 8<|xd 0 19 gi fun tL fP=>xe (x:=o5) 8 (fP.sb [4])<|xt<|xq 1 (.code (Sx.ct 2073855 Tryz.f37)) [.al 1,.code (Sx.ct 4051 Tryz.f37),.to K3,.al 0,.to K2] [(1,.p k1),(3,.p k2),(4,.p k3),(5,.p bc),(6,.slice tA tn tc),(7,.n i),(8,.p k4),(12,.p k6)] fun b13=>xw 0 fP [17,19] [] (LJ:=[.al k4 (.cells #[.n bD,.n aI,.string aE,.int .i64 bE,.slice B1 bl.length d_] 62),.al k6 (.cells #[.n yC,.n yD,.n yE,.slice p1.A p1.na p1.ca,.slice p1.B p1.nb p1.cb] 96)]) (by kernel_rfl) fun tM hP=>?_;refine xm [(0,none),(1,none),(2,some (0,[])),(3,some (1,[]))] (hP.sb [17,18])<|xg ?_;intro tO;refine xi 4 ?_;obtain ⟨mT,Pr,Ps⟩:=tq GM;refine x0 0 [3] hP (fun Hp R hZ=>Sh.tx k S6 yC yD yE IB IC p1 tM R Hp mT Ps Pr (fun x1 zd rJ hx1=>hZ _ _ _ rJ fun jQ=>?_));refine xe (x:=tO) 4 (jQ.sb [17,18])<|xm [(5,none)] (jQ.sb [17,18])<|xg ?_;intro zX;refine xi 6<|xf 0 jQ fun k7 zY iV=>xe (x:=zX) 6 (iV.sb [17,18])<|xg ?_;intro Cu;refine xi 7<|yh 0 15 20 32 1 0 59 2 55 1 k7 tA tc tn xo [.string aE,.string x1] iV (by omega) (by omega) rfl fun A1 bG zZ kK=>xe (x:=Cu) 7 (kK.sb [17,18])<|xm [(8,none)] (kK.sb [17,18])<|xt<|xq 2 (.code (Sx.ct 4051 Tryz.f37)) [.to K3,.al 0,.to K2] [(1,.p k1),(3,.p k2),(4,.p k3),(5,.p bc),(6,.slice A1 (tn+1) bG),(7,.n i)] fun b14=>?_;refine Sx.vi 2 ((i:Int)+(1:Int)) ((i+1:Nat):Int) (Gx.bj (by omega) (by omega)) ?_;exact xj 2 _ (lX _ _ _ _ (by omega) ⟨(i+1),(⟨c3.g,(c3.env++[(xx,some Gs,some Lb).1]),c3.ops,c3.fk,c3.fa⟩:Ck),S5,AD,en+1,AE,(el++[(xx,some Gs,some Lb)]),(fun c=>Sm c∨S4 c),A1,tn+1,bG,(ou++[(aE,Ty.mk yC yD yE IB IC)]),(xo++[.string aE,.string x1]),rfl,rfl,kK.pk [4,1,3,4,4,4,5,5,5,5,5],(by omega),(by omega),(by omega),(by omega),pf,(dh Tl),X9⟩)
         refine xf 0 fy fun k8 ze hU=>xe (x:=im) 7 (hU.sb [2])<|xg ?_;intro Dn;refine xi 6 ?_;obtain ⟨yC,yD,yE,IB,IC⟩:=sT;refine x0 0 [6,0,0] hU (fun Hp R hZ=>(tl _) S3 bg c3.g t2 bt1 br1 (⟨[],[]⟩:gG) ze R Hp _ lT X8 (fun S7 S8 p2 Dp sX=>hZ _ _ _ sX fun ky=>?_));refine xe (x:=Dn) 6 (ky.sb [4])<|xg ?_;intro Cv;refine xi 8<|xd 0 19 ky fun Cx nD=>xe (x:=Cv) 8 (nD.sb [4])<|xt<|xq 1 (.code (Sx.ct 2073855 Tryz.f37)) [.al 1,.code (Sx.ct 4051 Tryz.f37),.to K3,.al 0,.to K2] [(1,.p k1),(3,.p k2),(4,.p k3),(5,.p bc),(6,.slice tA tn tc),(7,.n i),(8,.p k4),(12,.p k8)] fun b15=>xw 0 nD [17,19] [] (LJ:=[.al k4 (.cells #[.n bD,.n aI,.string aE,.int .i64 bE,.slice B1 bl.length d_] 62),.al k8 (.cells #[.n yC,.n yD,.n yE,.slice p2.A p2.na p2.ca,.slice p2.B p2.nb p2.cb] 96)]) (by kernel_rfl) fun EF qL=>?_;refine xm [(0,none),(1,none),(2,some (0,[])),(3,some (1,[]))] (qL.sb [17,18])<|xg ?_;intro rD;refine xi 4 ?_;obtain ⟨mT,Pr,Ps⟩:=tq GM;refine x0 0 [3] qL (fun Hp R hZ=>Sh.tx k S8 yC yD yE IB IC p2 EF R Hp mT Ps Pr (fun x2 EG zi hx2=>hZ _ _ _ zi fun lW=>?_));refine xe (x:=rD) 4 (lW.sb [17,18])<|xm [(5,none)] (lW.sb [17,18])<|xg ?_;intro wK;refine xi 6<|xf 0 lW fun k9 MM o6=>xe (x:=wK) 6 (o6.sb [17,18])<|xg ?_;intro wM;refine xi 7<|yh 0 15 20 32 1 0 59 2 55 1 k9 tA tc tn xo [.string aE,.string x2] o6 (by omega) (by omega) rfl fun A2 gB KQ qC=>xe (x:=wM) 7 (qC.sb [17,18])<|xm [(8,none)] (qC.sb [17,18])<|xt<|xq 2 (.code (Sx.ct 4051 Tryz.f37)) [.to K3,.al 0,.to K2] [(1,.p k1),(3,.p k2),(4,.p k3),(5,.p bc),(6,.slice A2 (tn+1) gB),(7,.n i)] fun b16=>?_;refine Sx.vi 2 ((i:Int)+(1:Int)) ((i+1:Nat):Int) (Gx.bj (by omega) (by omega)) ?_;exact xj 2 _ (lX _ _ _ _ (by omega) ⟨(i+1),(⟨c3.g,(c3.env++[(xx,some Gs,some Lb).1]),c3.ops,c3.fk,c3.fa⟩:Ck),S7,AD,en+1,AE,(el++[(xx,some Gs,some Lb)]),(fun c=>Sm c∨S4 c),A2,tn+1,gB,(ou++[(aE,Ty.mk yC yD yE IB IC)]),(xo++[.string aE,.string x2]),rfl,rfl,qC.pk [4,1,3,4,4,4,5,5,5,5,5],(by omega),(by omega),(by omega),(by omega),pf,(dh Tl),X9⟩)
       refine xf 0 dS fun nY EH uu=>xe (x:=gy) 7 (uu.sb [0])<|xg ?_;intro wP;refine xi 5 ?_;refine x0 0 [] uu (fun Hp R hZ=>vd EH R Hp  (fun bt2 br2 JE Bz=>hZ _ _ _ Bz fun tP=>?_));refine xe (x:=wP) 5 (tP.sb [2])<|xg ?_;intro wQ;refine xi 6 ?_;obtain ⟨yC,yD,yE,IB,IC⟩:=sT;refine x0 0 [6,0,0] tP (fun Hp R hZ=>(tl _) S3 bg c3.g t2 bt2 br2 (⟨[],[]⟩:gG) JE R Hp _ lT X8 (fun S9 rO p3 KR BA=>hZ _ _ _ BA fun nZ=>?_));refine xe (x:=wQ) 6 (nZ.sb [4])<|xg ?_;intro wR;refine xi 8<|xd 0 19 nZ fun Qa pM=>xe (x:=wR) 8 (pM.sb [4])<|xt<|xq 1 (.code (Sx.ct 2073855 Tryz.f37)) [.al 1,.code (Sx.ct 4051 Tryz.f37),.to K3,.al 0,.to K2] [(1,.p k1),(3,.p k2),(4,.p k3),(5,.p bc),(6,.slice tA tn tc),(7,.n i),(8,.p k4),(12,.p nY)] fun b17=>xw 0 pM [17,19] [] (LJ:=[.al k4 (.cells #[.n bD,.n aI,.string aE,.int .i64 bE,.slice B1 bl.length d_] 62),.al nY (.cells #[.n yC,.n yD,.n yE,.slice p3.A p3.na p3.ca,.slice p3.B p3.nb p3.cb] 96)]) (by kernel_rfl) fun Qb sR=>?_;refine xm [(0,none),(1,none),(2,some (0,[])),(3,some (1,[]))] (sR.sb [17,18])<|xg ?_;intro uD;refine xi 4 ?_;obtain ⟨mT,Pr,Ps⟩:=tq GM;refine x0 0 [3] sR (fun Hp R hZ=>Sh.tx k rO yC yD yE IB IC p3 Qb R Hp mT Ps Pr (fun x3 Wn JQ hx3=>hZ _ _ _ JQ fun sq=>?_));refine xe (x:=uD) 4 (sq.sb [17,18])<|xm [(5,none)] (sq.sb [17,18])<|xg ?_;intro uE;refine xi 6<|xf 0 sq fun KN Uo Cw=>xe (x:=uE) 6 (Cw.sb [17,18])<|xg ?_;intro wS;refine xi 7<|yh 0 15 20 32 1 0 59 2 55 1 KN tA tc tn xo [.string aE,.string x3] Cw (by omega) (by omega) rfl fun A3 jB Wp ss=>xe (x:=wS) 7 (ss.sb [17,18])<|xm [(8,none)] (ss.sb [17,18])<|xt<|xq 2 (.code (Sx.ct 4051 Tryz.f37)) [.to K3,.al 0,.to K2] [(1,.p k1),(3,.p k2),(4,.p k3),(5,.p bc),(6,.slice A3 (tn+1) jB),(7,.n i)] fun b18=>?_;refine Sx.vi 2 ((i:Int)+(1:Int)) ((i+1:Nat):Int) (Gx.bj (by omega) (by omega)) ?_;exact xj 2 _ (lX _ _ _ _ (by omega) ⟨(i+1),(⟨c3.g,(c3.env++[(xx,some Gs,some Lb).1]),c3.ops,c3.fk,c3.fa⟩:Ck),S9,AD,en+1,AE,(el++[(xx,some Gs,some Lb)]),(fun c=>Sm c∨S4 c),A3,tn+1,jB,(ou++[(aE,Ty.mk yC yD yE IB IC)]),(xo++[.string aE,.string x3]),rfl,rfl,ss.pk [4,1,3,4,4,4,5,5,5,5,5],(by omega),(by omega),(by omega),(by omega),pf,(dh Tl),X9⟩)
     have AG:=pW;try simp[-List.getD_eq_getElem?_getD] at AG
     obtain⟨dZ,mQ⟩:=dj (l:=ks) (i:=i) (by omega);obtain ⟨hz1,hz2⟩:=AF hop mQ (by omega);obtain ⟨rfl,rfl⟩:=hz1 (by simpa using pW);exact xj 4 _ (dH _ _ _ ⟨S,eA,en,ec,el,Sm,tA,tn,tc,xo,rfl,aP,iZ,fL,(by omega),(by omega)⟩)
   have ac7:=of_decide_eq_false Pp;obtain ⟨rfl,rfl⟩:=Ph hop (List.drop_of_length_le (by rw[List.length_take];omega));refine xq 5 (.code (Sx.ct 4049 Tryz.f37)) [.code (Sx.ct 2025 Tryz.f37),.to K3,.al 0,.to K2] [(1,.p k1),(3,.p k2),(4,.p k3),(5,.p bc),(6,.slice tA tn tc),(7,.n i),(45,.bool false)] fun b19=>?_;exact xj 5 _ (dH _ _ _ ⟨S,eA,en,ec,el,Sm,tA,tn,tc,xo,rfl,aZ,iZ,fL,(by omega),(by omega)⟩)
 obtain⟨S,eA,en,ec,el,Sm,tA,tn,tc,xo,rfl,uw,iZ,ajw,hen,htn⟩:=gA;have hlen:=iu (e:=122) (n:=en) (cap:=ec) (A:=eA) (l:=el) uw 2 (by kernel_rfl);refine x0 4 [0] uw (fun Hp R hZ=>h_ bc bg eA en ec oA on oc c2.fk c2.fa w8 R Hp  (fun Wq JR=>hZ _ _ _ JR fun qM=>?_));refine xq 3 (.code (Sx.ct 509 Tryz.f37)) [.code (Sx.ct 255 Tryz.f37)] [(1,.p k1),(3,.p k2),(4,.p k3),(5,.p bc),(6,.slice tA tn tc),(109,.bool (!(c2.fk==0)))] fun b20=>?_;refine xl 0 (!(c2.fk==0)) (fun GN=>?_) (fun GN=>?_)
 · obtain rfl:=Jn (by simpa using GN);refine xw 1 qM [0] [] (LJ:=[Sx.cB bc bg eA en ec oA on oc c2.fk c2.fa]) (by kernel_rfl) fun Qd zf=>xm [(0,none),(1,none),(2,none),(3,none),(4,some (0,[])),(5,none)] (zf.sb [0])<|xg ?_;intro Br;refine xi 6<|xd 0 8 zf fun Y6 kS=>xe (x:=Br) 6 (kS.sb [0])<|xg ?_;intro Bs;refine xi 7<|xd 0 9 kS fun WW wy=>xe (x:=Bs) 7 (wy.sb [0])<|xt<|xq 1 (.code (Sx.ct 2037 Tryz.f37)) [.code (Sx.ct 255 Tryz.f37)] [(2,.slice none 0 0),(3,.p k2),(4,.p k3)] fun b21=>xh 2 [8,9] wy (.tuple #[.slice none 0 0,.agg #[.int .i64 0,.int .i64 0,.int .i64 0,.slice none 0 0,.slice none 0 0],.agg #[.n c2.fk,.int .i64 c2.fa]]) ?_;have u6:=wy.add (Gx.Ext.refl _) (it:=.own 59 2 none 0 0 []) (World.ownsRow_nil _ _ _ _) (fun _ h=>by cases h);have Dq:=u6.add (Gx.Ext.refl _) (it:=lV (fun _=>False) ⟨none,0,0,none,0,0⟩ X4) Ix (fun _ h=>h.elim);subst ak;exact hK none 0 0 (fun _=>False) (⟨none,0,0,none,0,0⟩) ([]) _ (Dq.pk [11,11,6])
 have h2:c2.fk=0:=by simpa using GN
 obtain⟨dM,g3,sB,c4,t4,c5,hdM,BO,hex,X7,rQ,hr3⟩:=iE h2;obtain ⟨mM,hmM⟩:∃q,q+1=ks.length:=⟨ks.length-1,by omega⟩;rw [show ks.length-1=mM by omega] at hdM;obtain ⟨Tm,Pt,Tn,To,Tp⟩:=dM;obtain ⟨B3,ib,a3,xE,su⟩:=aJ (Q:=Q) (ks:=ks) (A:=nA) (c:=nc) (i:=mM) qM 6 (by kernel_rfl) hdM;refine xq 2 (.code (Sx.ct 255 Tryz.f37)) [] [(1,.p k1),(3,.p k2),(4,.p k3),(5,.p bc),(6,.slice tA tn tc)] fun U_=>xb 3 7 su<|xb 1 7 su<|Sx.vi 1 ((ks.length:Int)-(1:Int)) (mM:Int) ((by rw[show ((ks.length:Int)-(1:Int))=(mM:Int) by omega];exact IntWalk.i64_in _ (by omega)))<|xv 0 a3 mM 5 ks.length nc xE (ar hdM)<|xr (c:=5) (t:=62) 0 (Sx.nC Tm Pt Tn To B3 Tp ib) (Sx.nA Tm Pt Tn To B3 Tp ib) (aD (Q:=Q) (a:=a3.add (mM*5)) (n:=5) (cs:=(Sx.nC Tm Pt Tn To B3 Tp ib)) su 11 (by kernel_rfl)) ?_;refine xf 0 su fun MC w51 z6=>xd 0 13 z6 fun w52 Bi=>xb 7 0 Bi ?_;have sx:=Bi.add (Gx.Ext.refl _) (it:=bf (fun _=>False) none []) dw (fun _ h=>h.elim);refine x0 0 [1,13] sx (fun Hp R hZ=>fS S bg c2.g (fun _=>False) none 0 0 ([]) 0 (some 0) w52 R Hp g3 sB rfl rfl BO (fun tU w53 Nz=>hZ _ _ _ Nz fun zg=>?_));refine xb 6 13 zg ?_;refine x0 1 [1,0,0,0,0,0,6] zg (fun Hp R hZ=>Bw k bc bg eA en ec oA on oc tU (⟨g3,c2.env,c2.ops,c2.fk,c2.fa⟩:Ck) el Sm ol So Q Tm Pt Tn To Tp B3 ib  sB w53 R Hp c4 t4 hex iZ ajw (by omega) fB (fun CF CM CN Y7 NA zj EB=>hZ _ _ _ NA fun EI=>?_));refine xb 8 13 EI ?_;refine x0 0 [0,0] EI (fun Hp R hZ=>Ii bc bg CM en CN oA on oc t4 (Pt:Int) CF (⟨c4.g,c4.env,c4.ops,c4.fk,c4.fa⟩:Ck) Y7 R Hp _ c5 X7 (fun BN Y8 NB=>hZ _ _ _ NB fun u7=>?_));refine xq 2 (.code (Sx.ct 4095 Tryz.f37)) [] [(3,.p k2),(4,.p k3),(5,.p bc),(6,.slice tA tn tc),(15,.n t4)] fun Zv=>?_;refine x0 4 [0] u7 (fun Hp R hZ=>h_ bc bg CM en CN oA on oc c5.fk c5.fa Y8 R Hp  (fun w56 R8=>hZ _ _ _ R8 fun ux=>?_));refine xl 3 (!(c5.fk==0)) (fun GO=>?_) (fun GO=>?_)
 · obtain rfl:=rQ (by simpa using GO);refine xw 1 ux [0] [] (LJ:=[Sx.cB bc bg CM en CN oA on oc c5.fk c5.fa]) (by kernel_rfl) fun w57 EJ=>xm [(0,none),(1,none),(2,none),(3,none),(4,some (0,[])),(5,none)] (EJ.sb [0])<|xg ?_;intro FJ;refine xi 6<|xd 0 9 EJ fun w58 wz=>xe (x:=FJ) 6 (wz.sb [0])<|xg ?_;intro FK;refine xi 7<|xd 0 10 wz fun w59 tQ=>xe (x:=FK) 7 (tQ.sb [0])<|xt<|xq 1 (.code (Sx.ct 65525 Tryz.f37)) [.code (Sx.ct 8191 Tryz.f37)] [(2,.slice none 0 0),(3,.p k2),(4,.p k3)] fun b24=>xh 2 [9,10] tQ (.tuple #[.slice none 0 0,.agg #[.int .i64 0,.int .i64 0,.int .i64 0,.slice none 0 0,.slice none 0 0],.agg #[.n c5.fk,.int .i64 c5.fa]]) ?_;have RT:=tQ.add (Gx.Ext.refl _) (it:=.own 59 2 none 0 0 []) (World.ownsRow_nil _ _ _ _) (fun _ h=>by cases h);have HI:=RT.add (Gx.Ext.refl _) (it:=lV (fun _=>False) ⟨none,0,0,none,0,0⟩ X4) Ix (fun _ h=>h.elim);subst ak;exact hK none 0 0 (fun _=>False) (⟨none,0,0,none,0,0⟩) ([]) _ (HI.pk [14,14,7])
 obtain⟨sT,lT,X8,GM,rfl⟩:=hr3 (by simpa using GO);refine xq 2 (.code (Sx.ct 8191 Tryz.f37)) [] [(3,.p k2),(4,.p k3),(5,.p bc),(6,.slice tA tn tc),(15,.n t4)] fun b25=>xw 1 ux [0] [] (LJ:=[Sx.cB bc bg CM en CN oA on oc c5.fk c5.fa]) (by kernel_rfl) fun w60 FB=>xm [(0,none),(1,none),(2,none),(3,some (0,[])),(4,none)] (FB.sb [0])<|xg ?_;intro Kq;refine yp 5 7 ?_ ?_
 · refine x0 0 [] FB (fun Hp R hZ=>vd w60 R Hp  (fun bt3 br3 w61 R9=>hZ _ _ _ R9 fun JF=>?_));refine xe (x:=Kq) 5 (JF.sb [2])<|xg ?_;intro GG;refine yp 6 7 ?_ ?_
   · obtain⟨yC,yD,yE,IB,IC⟩:=sT;refine x0 0 [3,0,0] JF (fun Hp R hZ=>(tl _) BN bg c5.g t4 bt3 br3 (⟨[],[]⟩:gG) w61 R Hp _ lT X8 (fun HT KY p4 w62 R_=>hZ _ _ _ R_ fun Qc=>?_));refine xe (x:=GG) 6 (Qc.sb [4])<|xg ?_;intro Kr;refine xi 7<|xf 0 Qc fun KP w63 Bj=>xe (x:=Kr) 7 (Bj.sb [4])<|xg ?_;intro O0;refine xi 8<|xd 0 17 Bj fun Y9 NF=>xe (x:=O0) 8 (NF.sb [4])<|xt<|xq 1 (.code (Sx.ct 16383 Tryz.f37)) [] [(3,.p k2),(4,.p k3),(6,.slice tA tn tc),(16,.p KP)] fun b26=>xw 1 NF [17] [] (LJ:=[.al KP (.cells #[.n yC,.n yD,.n yE,.slice p4.A p4.na p4.ca,.slice p4.B p4.nb p4.cb] 96)]) (by kernel_rfl) fun w65 Qh=>?_;refine xm [(0,none),(1,some (0,[])),(6,some (0,[])),(7,none)] (Qh.sb [17])<|xg ?_;intro O1;refine xi 2 ?_;obtain ⟨mT,Pr,Ps⟩:=tq GM;refine x0 0 [3] Qh (fun Hp R hZ=>Sh.tx k KY yC yD yE IB IC p4 w65 R Hp mT Ps Pr (fun x4 w66 Sc hx4=>hZ _ _ _ Sc fun NG=>?_));refine xe (x:=O1) 2 (NG.sb [17])<|xm [(3,none)] (NG.sb [17])<|xg ?_;intro O2;refine xi 4<|xf 0 NG fun k14 w67 WX=>xe (x:=O2) 4 (WX.sb [17])<|xg ?_;intro O3;refine xi 5<|yh 0 14 18 32 1 0 59 2 55 1 k14 tA tc tn xo [.string (bY [109,97,105,110]),.string x4] WX (by omega) (by omega) rfl fun A4 sY w68 Qi=>xe (x:=O3) 5 (Qi.sb [17])<|xm [(8,none)] (Qi.sb [17])<|xg ?_;intro O4;refine xi 9<|xd 0 12 Qi fun w69 JS=>xe (x:=O4) 9 (JS.sb [17])<|xg ?_;intro O5;refine xi 10<|xd 0 13 JS fun w70 EN=>xe (x:=O5) 10 (EN.sb [17])<|xt<|xq 1 (.code (Sx.ct 32767 Tryz.f37)) [] [(2,.slice A4 (tn+1) sY),(3,.p k2),(4,.p k3)] fun b27=>xh 1 [12,13] EN (.tuple #[.slice A4 (tn+1) sY,.agg #[.n yC,.n yD,.n yE,.slice p4.A p4.na p4.ca,.slice p4.B p4.nb p4.cb],.agg #[.int .i64 0,.int .i64 0]]) ?_;subst ak;exact hK A4 (tn+1) sY KY p4 (xo++[.string (bY [109,97,105,110]),.string x4]) _ (EN.pk [14,0,9])
   refine xf 0 JF fun ND w71 DK=>xe (x:=GG) 7 (DK.sb [2])<|xg ?_;intro O6;refine xi 6 ?_;obtain ⟨yC,yD,yE,IB,IC⟩:=sT;refine x0 0 [3,0,0] DK (fun Hp R hZ=>(tl _) BN bg c5.g t4 bt3 br3 (⟨[],[]⟩:gG) w71 R Hp _ lT X8 (fun Zh UR p5 w72 Sf=>hZ _ _ _ Sf fun Sj=>?_));refine xe (x:=O6) 6 (Sj.sb [4])<|xg ?_;intro O7;refine xi 8<|xd 0 17 Sj fun w73 WZ=>xe (x:=O7) 8 (WZ.sb [4])<|xt<|xq 1 (.code (Sx.ct 16383 Tryz.f37)) [] [(3,.p k2),(4,.p k3),(6,.slice tA tn tc),(16,.p ND)] fun b28=>xw 1 WZ [17] [] (LJ:=[.al ND (.cells #[.n yC,.n yD,.n yE,.slice p5.A p5.na p5.ca,.slice p5.B p5.nb p5.cb] 96)]) (by kernel_rfl) fun w74 Sk=>?_;refine xm [(0,none),(1,some (0,[])),(6,some (0,[])),(7,none)] (Sk.sb [17])<|xg ?_;intro O8;refine xi 2 ?_;obtain ⟨mT,Pr,Ps⟩:=tq GM;refine x0 0 [3] Sk (fun Hp R hZ=>Sh.tx k UR yC yD yE IB IC p5 w74 R Hp mT Ps Pr (fun x5 w75 Si hx5=>hZ _ _ _ Si fun EO=>?_));refine xe (x:=O8) 2 (EO.sb [17])<|xm [(3,none)] (EO.sb [17])<|xg ?_;intro O9;refine xi 4<|xf 0 EO fun k16 w76 GH=>xe (x:=O9) 4 (GH.sb [17])<|xg ?_;intro Ks;refine xi 5<|yh 0 14 18 32 1 0 59 2 55 1 k16 tA tc tn xo [.string (bY [109,97,105,110]),.string x5] GH (by omega) (by omega) rfl fun A5 w_ w77 JT=>xe (x:=Ks) 5 (JT.sb [17])<|xm [(8,none)] (JT.sb [17])<|xg ?_;intro Kv;refine xi 9<|xd 0 12 JT fun w78 Qj=>xe (x:=Kv) 9 (Qj.sb [17])<|xg ?_;intro O_;refine xi 10<|xd 0 13 Qj fun w79 Qk=>xe (x:=O_) 10 (Qk.sb [17])<|xt<|xq 1 (.code (Sx.ct 32767 Tryz.f37)) [] [(2,.slice A5 (tn+1) w_),(3,.p k2),(4,.p k3)] fun b29=>xh 1 [12,13] Qk (.tuple #[.slice A5 (tn+1) w_,.agg #[.n yC,.n yD,.n yE,.slice p5.A p5.na p5.ca,.slice p5.B p5.nb p5.cb],.agg #[.int .i64 0,.int .i64 0]]) ?_;subst ak;exact hK A5 (tn+1) w_ UR p5 (xo++[.string (bY [109,97,105,110]),.string x5]) _ (Qk.pk [14,0,9])
 refine xf 0 FB fun UF w80 NH=>xe (x:=Kq) 7 (NH.sb [0])<|xg ?_;intro Pa;refine xi 5 ?_;refine x0 0 [] NH (fun Hp R hZ=>vd w80 R Hp  (fun bt4 br4 w81 WY=>hZ _ _ _ WY fun Ql=>?_));refine xe (x:=Pa) 5 (Ql.sb [2])<|xg ?_;intro Pb;refine xi 6 ?_;obtain ⟨yC,yD,yE,IB,IC⟩:=sT;refine x0 0 [3,0,0] Ql (fun Hp R hZ=>(tl _) BN bg c5.g t4 bt4 br4 (⟨[],[]⟩:gG) w81 R Hp _ lT X8 (fun Zi US p6 w82 W0=>hZ _ _ _ W0 fun JU=>?_));refine xe (x:=Pb) 6 (JU.sb [4])<|xg ?_;intro Pc;refine xi 8<|xd 0 17 JU fun w83 BE=>xe (x:=Pc) 8 (BE.sb [4])<|xt<|xq 1 (.code (Sx.ct 16383 Tryz.f37)) [] [(3,.p k2),(4,.p k3),(6,.slice tA tn tc),(16,.p UF)] fun b30=>xw 1 BE [17] [] (LJ:=[.al UF (.cells #[.n yC,.n yD,.n yE,.slice p6.A p6.na p6.ca,.slice p6.B p6.nb p6.cb] 96)]) (by kernel_rfl) fun w84 rL=>?_;refine xm [(0,none),(1,some (0,[])),(6,some (0,[])),(7,none)] (rL.sb [17])<|xg ?_;intro Pd;refine xi 2 ?_;obtain ⟨mT,Pr,Ps⟩:=tq GM;refine x0 0 [3] rL (fun Hp R hZ=>Sh.tx k US yC yD yE IB IC p6 w84 R Hp mT Ps Pr (fun x6 w85 W1 hx6=>hZ _ _ _ W1 fun o_=>?_));refine xe (x:=Pd) 2 (o_.sb [17])<|xm [(3,none)] (o_.sb [17])<|xg ?_;intro X_;refine xi 4<|xf 0 o_ fun k18 w86 wZ=>xe (x:=X_) 4 (wZ.sb [17])<|xg ?_;intro Ya;refine xi 5<|yh 0 14 18 32 1 0 59 2 55 1 k18 tA tc tn xo [.string (bY [109,97,105,110]),.string x6] wZ (by omega) (by omega) rfl fun A6 uG w87 DL=>xe (x:=Ya) 5 (DL.sb [17])<|xm [(8,none)] (DL.sb [17])<|xg ?_;intro Yb;refine xi 9<|xd 0 12 DL fun w88 xB=>xe (x:=Yb) 9 (xB.sb [17])<|xg ?_;intro Yc;refine xi 10<|xd 0 13 xB fun w89 xC=>xe (x:=Yc) 10 (xC.sb [17])<|xt<|xq 1 (.code (Sx.ct 32767 Tryz.f37)) [] [(2,.slice A6 (tn+1) uG),(3,.p k2),(4,.p k3)] fun b31=>xh 1 [12,13] xC (.tuple #[.slice A6 (tn+1) uG,.agg #[.n yC,.n yD,.n yE,.slice p6.A p6.na p6.ca,.slice p6.B p6.nb p6.cb],.agg #[.int .i64 0,.int .i64 0]]) ?_;subst ak;exact hK A6 (tn+1) uG US p6 (xo++[.string (bY [109,97,105,110]),.string x6]) _ (xC.pk [14,0,9])
set_option maxHeartbeats 8000000 in
theorem Tq(Q : Nat → Prop)(kd na : Nat)(nm : Nm)(nb : Nat)(ks : List Nd)(nA : Option Addr)(nc : Nat)(w : World)(K : Ending → World → Prop)(H0 : Sp w [eK Q ks nA nc])(k : Nat)(r : List (Nm × Ty) × Ty × Nat × Int)(hf : tr k nb ks = some r)(HV : kd = 0)(hK : ∀(A' : Option Addr)(n' : Nat)(c' : Nat)(xo' : List Value) w', Hs w [eK Q ks nA nc] w' [.own 59 2 A' c' n' xo', eK Q ks nA nc] → K (.returned (.tuple #[.slice A' n' c', .agg #[.int .i64 (r.2.2.1 : Int), .int .i64 r.2.2.2]])) w') :
   Calls Tryz.prog 26 #[.agg #[.n kd,.n na,.string nm,.n nb,.slice nA ks.length nc]] w K:=by
 obtain⟨L0,ak,H⟩:=Sx.bX H0;refine xu (vs:=[.agg #[.n kd,.n na,.string nm,.n nb,.slice nA ks.length nc]]) 15 Tryz.func26 ?_;obtain ⟨rl,⟨kT,uT,rT,oT,aT⟩,rk,ra⟩:=r;refine xf 2 H fun k1 w1 H1=>xf 1 H1 fun k2 w2 H2=>xb 4 1 H2 ?_;refine x0 0 [0] H2 (fun Hp R hZ=>Tj Q kd na nm nb ks nA nc w2 R Hp k (rl,Ty.mk kT uT rT oT aT,rk,ra) hf HV (fun fA1 fn1 fc1 S1 p1 xo1 w3 G1=>hZ _ _ _ G1 fun H3=>?_));refine xf 4 H3 fun k3 w4 H4=>xf 0 H4 fun k4 w5 H5=>xd 1 5 H5 fun w6 H6=>xd 0 6 H6 fun w7 H7=>xw 3 H7 [6] [] (LJ:=[.al k4 (.cells #[.n rk,.int .i64 ra] 35)]) (by kernel_rfl) fun w8 H8=>xm [(0,none),(1,some (0,[])),(2,none)] (H8.sb [6]) ?_;refine xg ?_;intro gy;refine xi 3<|xd 0 4 H8 fun w9 H9=>xe (x:=gy) 3 (H9.sb [6])<|xt<|xq 1 (.code (Sx.ct 15 Tryz.f26)) [] [(2,.slice fA1 fn1 fc1),(3,.p k2)] fun b1=>xh 1 [4] H9 (.tuple #[.slice fA1 fn1 fc1,.agg #[.n rk,.int .i64 ra]]) ?_;subst ak;exact hK fA1 fn1 fc1 xo1 _ (H9.pk [0,1])
end Go.Proofs.YtdmdecgoebnamaaGreat
namespace Go.Proofs.YtdmdecgoebnamaaGreat
open Go.RowKit Go.Sx Go.aS Go.fO
theorem Ts(s : ByteArray)(w : World)(K : Ending → World → Prop)(H0 : Sp w [])(kd na : Nat)(nm : Nm)(nb : Nat)(ks : List Nd)(fk fa : Nat)(hp : iX s = (.mk kd na nm (nb : Int) ks, fk, fa))
   (hK:∀(Q:Nat→Prop)(A:Option Addr)(c:Nat) w',Hs w [] w' [eK Q ks A c]→K (.returned (.tuple #[.agg #[.int .i64 (kd:Int),.int .i64 (na:Int),.string nm,.int .i64 (nb:Int),.slice A ks.length c],.agg #[.int .i64 (fk:Int),.int .i64 (fa:Int)]])) w'):
   Calls Tryz.prog 25 #[.string s] w K:=
 Rd.Sn s w K H0 fun Q t A c fk' fa' e w' H=>by
   rw[hp] at e;cases e;exact hK Q A c w' H
end Go.Proofs.YtdmdecgoebnamaaGreat
namespace Go.Mn
open Go.RowKit Go.Sx Go.aS Go.Gx Go.fO
inductive Er:PN→Nd→Prop
 |mk {k a:Nat} {nm:Nm} {n:Int} {A:Option Addr} {c:Nat} {ja:List PN} {ks:List Nd} (hl:ja.length=ks.length) (h:∀(i:Nat)(p:PN)(d:Nd),ja[i]?=some p→ks[i]?=some d→Er p d):Er (.mk k a nm n A c ja) (.mk k a nm n ks)
mutual
def smN:Nd→Bool
 |.mk _ _ _ _ ks=>decide (ks.length<1000000000)&&Tt ks
def Tt:List Nd→Bool
 |[]=>true
 |d::l=>smN d&&Tt l
end
theorem Pw:∀{ks:List Nd}{i:Nat}{d:Nd},Tt ks=true→ks[i]?=some d→smN d=true
 |[],_,_,_,h=>by cases h
 |d::l,0,_,hs,h=>by cases h;rw[Tt,Bool.and_eq_true] at hs;exact hs.1
 |d::l,i+1,_,hs,h=>by rw[Tt,Bool.and_eq_true] at hs;exact Pw hs.2 h
theorem ub{α:Type}{P:Nat→α→Prop}:∀(n:Nat),(∀i,i<n→∃x,P i x)→∃l:List α,l.length=n∧∀(i:Nat)(x:α),l[i]?=some x→P i x
 |0,_=>⟨[],rfl,fun i x h=>by cases h⟩
 |n+1,h=>by
   obtain⟨l,hl,hp⟩:=ub n (fun i hi=>h i (by omega));obtain ⟨x,hx⟩:=h n (Nat.lt_succ_self n);refine ⟨l++[x],by rw[List.length_append,hl];rfl,fun i y hy=>?_⟩;rcases v8 hy with⟨_,q⟩|⟨rfl,rfl⟩
   · exact hp i y q
   · rw[hl];exact hx
theorem ac_{Q : Nat → Prop}{w : World}{ks : List Nd}{A : Option Addr}{c : Nat}(h : KV Q w ks A c) : ks.length < 1000000000 → Tt ks = true →
   ∃ja:List PN,ja.length=ks.length∧(∀(i:Nat)(p:PN)(d:Nd),ja[i]?=some p→ks[i]?=some d→Er p d)∧∀(k a:Nat)(nm:Nm)(n:Int),PK w Q (.mk k a nm n A c ja):=by
 induction h with
 |@mk ks A c As cs hc hl hA hr _ ih=>
   intro hn hs;have hch:∀i,i<ks.length→∃p:PN,Er p (ks.getD i gF)∧PK w Q p∧p.cells=vM (ks.getD i gF) (As i) (cs i):=fun i hi=>by
     have hg:ks[i]?=some (ks.getD i gF):=by rw[List.getD_eq_getElem?_getD,List.getElem?_eq_getElem hi];rfl
     have gO:=Pw hs hg;have:=ih i hi;generalize ks.getD i gF=d at this gO hg;obtain ⟨k,a,nm,n,cH⟩:=d;rw [smN,Bool.and_eq_true] at gO;obtain ⟨ja,Px,HA,Py⟩:=this (of_decide_eq_true gO.1) gO.2;exact ⟨.mk k a nm n (As i) (cs i) ja,.mk Px HA,Py k a nm n,by show[Value.int .i64 (k:Int),.int .i64 (a:Int),.string nm,.int .i64 n,.slice (As i) ja.length (cs i)]=_;rw[Px];rfl⟩
   obtain⟨ja,Px,hp⟩:=ub ks.length hch;have hD:∀{i:Nat}{d:Nd},ks[i]?=some d→ks.getD i gF=d:=fun h=>by rw[List.getD_eq_getElem?_getD,h];rfl
   refine⟨ja,Px,fun i p d h1 h2=>by have:=(hp i p h1).1;rwa [hD h2] at this,fun k a nm n=>.mk ⟨by omega,by omega⟩ (fun i p hi=>?_) (fun i p hi=>(hp i p hi).2.1)⟩;have oN:i<ks.length:=by rw[← Px];exact(List.getElem?_eq_some_iff.1 hi).1
   obtain⟨a1,e1,hq⟩:=hA i oN;obtain ⟨a2,e2,pq⟩:=hr i oN;rw [e1] at e2;cases e2;exact ⟨a1,e1,hq,by rw[(hp i p hi).2.2];exact pq⟩
theorem ajC{w0 w : World}{L0 L : List Sx.Item}(H : Hs w0 L0 w L)(j : Nat){Q : Nat → Prop}{ks : List Nd}{A : Option Addr}{c : Nat}(hi : L[j]? = some (eK Q ks A c))(hn : ks.length < 1000000000)(hs : Tt ks = true)(k a : Nat)(nm : Nm)(n : Int) :
   ∃ja:List PN,ja.length=ks.length∧(∀(i:Nat)(p:PN)(d:Nd),ja[i]?=some p→ks[i]?=some d→Er p d)∧Hs w0 L0 w (L++[mI Q [] [] [.aG (.mk k a nm n A c ja)]]):=by
 obtain⟨ja,h1,h2,h3⟩:=ac_ (Z_ H j hi) hn hs;exact ⟨ja,h1,h2,H.ro (S:=Q) (A:=fun w=>KV Q w ks A c) (B:=fun w=>aL w Q [] [] [.aG (.mk k a nm n A c ja)]) j hi ⟨fun _ h=>(by cases h),fun x hx=>(by rw[List.mem_singleton.1 hx];exact h3 k a nm n)⟩ (qt _ _ _ _)⟩
abbrev ET:=List Nat→Option Addr×Nat
mutual
def pl:Nd→ET→PN
 |.mk k a nm n ks,f=>.mk k a nm n (f []).1 (f []).2 (Yd ks 0 f)
def Yd:List Nd→Nat→ET→List PN
 |[],_,_=>[]
 |d::l,i,f=>pl d (fun q=>f (i::q))::Yd l (i+1) f
end
def place:PN→List Nat→Option Addr×Nat
 |.mk _ _ _ _ A c _,[]=>(A,c)
 |.mk _ _ _ _ _ _ ks,i::q=>match ks[i]? with
   |some d=>place d q
   |none=>(none,0)
theorem GP:∀(ks:List Nd)(i:Nat)(f:ET)(ja:List PN),ja.length=ks.length→(∀(j:Nat)(p:PN)(d:Nd),ja[j]?=some p→ks[j]?=some d→pl d (fun q=>f ((i+j)::q))=p)→Yd ks i f=ja
 |[],_,_,[],_,_=>rfl
 |[],_,_,_::_,h,_=>by cases h
 |_::_,_,_,[],h,_=>by cases h
 |d::l,i,f,p::ja,hl,h=>by
   rw[Yd,show(pl d fun q=>f (i::q))=p from h 0 p d rfl rfl,GP l (i+1) f ja (by simpa using hl) (fun j p' d' h1 h2=>by rw[show i+1+j=i+(j+1) by omega];exact h (j+1) p' d' h1 h2)]
theorem ada{p:PN}{d:Nd}(h:Er p d):pl d (place p)=p:=by
 induction h with
 |@mk k a nm n A c ja ks hl _ ih=>
   rw[pl,GP ks 0 _ ja hl (fun j p d h1 h2=>by
     rw[← ih j p d h1 h2,Nat.zero_add];congr 1;funext q
     rw[place,h1])]
   rfl
theorem Tu{ja:List PN}{ks:List Nd}(hl:ja.length=ks.length)(h:∀(i:Nat)(p:PN)(d:Nd),ja[i]?=some p→ks[i]?=some d→Er p d):∃f:ET,ja=Yd ks 0 f:=
 ⟨place (.mk 0 0 ⟨#[]⟩ 0 none 0 ja),(GP ks 0 _ ja hl (fun j p d h1 h2=>by
   have e:(fun q=>place (.mk 0 0 ⟨#[]⟩ 0 none 0 ja) ((0+j)::q))=place p:=funext fun q=>by rw[Nat.zero_add,place,h1]
   rw[e,ada (h j p d h1 h2)])).symm⟩
def AH(s t:ByteArray):Prop:=∃(na:Nat) (nm:Nm) (N:Nat) (ks:List Nd) (fa kf:Nat) (rl:List (Nm×Ty)) (rt:Ty) (ra:Int),iX s=(.mk 0 na nm (N:Int) ks,0,fa)∧tr kf N ks=some (rl,rt,0,ra)∧
 (ks.length<1000000000∧Tt ks=true)∧N<ks.length∧(∀(j:Nat)(d:Nd),N≤j→j+1<ks.length→ks[j]?=some d→d.ks≠[])∧
 ∀(ja:List PN)(p:PN),ja.length=ks.length→(∀(i:Nat)(p:PN)(d:Nd),ja[i]?=some p→ks[i]?=some d→Er p d)→Lets (ja.drop N) p→∃(kk:Nat) (x:Vl) (s':Nat),KH (EE (uz (ja.take N))) kk 0 ⟨[],p,.nil,none,[]⟩=some (x,s')∧pP x=some t
theorem adb{N:Nat}{ks:List Nd}{ja:List PN}(hl:ja.length=ks.length)(he:∀(i:Nat)(p:PN)(d:Nd),ja[i]?=some p→ks[i]?=some d→Er p d)(h:∀(j:Nat)(d:Nd),N≤j→j+1<ks.length→ks[j]?=some d→d.ks≠[]):∀(j:Nat)(d:PN),N≤j→j+1<ja.length→ja[j]?=some d→∃x l,d.ks=x::l:=fun j p h1 h2 h3=>by
 have hj:j<ks.length:=by omega
 have hd:=List.getElem?_eq_getElem hj;have:=h j _ h1 (by omega) hd;have hx:=he j p _ h3 hd;generalize ks[j]'hj=d at this hx;cases hx with
 |@mk k a nm n A c ajD o3 hl' _=>
   cases ajD with
   |nil=>cases o3 with
     |nil=>exact absurd rfl this
     |cons _ _=>cases hl'
   |cons x l=>exact⟨x,l,rfl⟩
end Go.Mn
namespace Go.Proofs.YtdmdecgoebnamaaGreat
open Go.RowKit Go.Sx Go.aS Go.Mn
attribute [local irreducible] Go.wpOps Go.Code.wp Go.wpOp Go.wpAnyH Go.Calls Go.Sx.Goal
set_option maxRecDepth 20000
namespace Mr
theorem Kw(S:Nat→Prop)(k ta:Nat)(nm:Nm)(N:Nat)(nA:Option Addr)(nc:Nat)(ks:List PN)(len:Nat)(w:World)(K:Ending→World→Prop)(H0:Sp w [mI S [] [] [.aG (PN.mk k ta nm (N:Int) nA nc ks)]])(hlen:ks.length=len)(hN:N<ks.length)(hds:∀(j:Nat)(d:PN),N≤j→j+1<ks.length→ks[j]?=some d→∃x l,d.ks=x::l)(hK:∀(br bo:Nat)(S':Nat→Prop)(k' a':Nat)(qw:Nm)(qx:Int)(qy:Option Addr)(qz:Nat)(o3:List PN) w',Hs w [mI S [] [] [.aG (PN.mk k ta nm (N:Int) nA nc ks)]] w' [bR br none 0 0 (.n k') (.n a') qw (.int .i64 qx) qy o3.length qz (.pointer none) (.pointer none) bo (.int .i64 0) eB (.int .i64 0),wI 135 8 none 0 0 (bh ([])),mI S' ([]) ([]) [.env none .nil,.aG (PN.mk k' a' qw qx qy qz o3),.vo none none],tN ([]) ([]),uq bo (uz (ks.take N))]→Lets (ks.drop N) (PN.mk k' a' qw qx qy qz o3)→ur (uz (ks.take N))→K (.returned (.p br)) w'):Calls Tryz.prog 27 #[.agg #[.int .i64 (k:Int),.int .i64 (ta:Int),.string nm,.n N,.slice nA len nc]] w K:=by
 subst hlen;exact JL S k ta nm N nA nc ks w K H0 hN hds hK
set_option maxHeartbeats 8000000 in
theorem du(s : ByteArray)  (w : World) (K : Ending → World → Prop) (H0 : Sp w []) (t : ByteArray) (hpm : AH s t) (hK : ∀(st' : Int) w', Hs w [] w' [] → K (.returned (.tuple #[.agg #[.int .i64 1, .string eB, .string t, .int .i64 st'], .agg #[.int .i64 0, .int .i64 0]])) w') :
   Calls Tryz.prog 16 #[.string s,.int .i64 1000000] w K:=by
 obtain⟨L0,ak,H⟩:=Sx.bX H0;refine xu (vs:=[.string s,.int .i64 1000000]) 45 Tryz.func16 ?_;obtain ⟨na,nm,N,ks,fa,kf,rl,rt,ra,hp,hf,gO,hN,hds,nL⟩:=hpm;refine xf 2 H fun k1 w1 H1=>xf 0 H1 fun k2 w2 H2=>?_;refine x0 5 [] H2 (fun Hp R hZ=>Ts s w2 R Hp 0 na nm N ks 0 fa hp (fun Q nA nc w3 G1=>hZ _ _ _ G1 fun H3=>?_));refine xf 3 H3 fun k3 w4 H4=>xf 0 H4 fun k4 w5 H5=>xd 0 3 H5 fun w6 H6=>xd 0 4 H6 fun w7 H7=>xb 6 4 H7<|xb 5 3 H7 ?_;refine x0 0 [0] H7 (fun Hp R hZ=>Tq Q 0 na nm N ks nA nc w7 R Hp kf (rl,rt,0,ra) hf rfl (fun fA fn fc xo w8 G2=>hZ _ _ _ G2 fun H8=>?_));refine xd 3 5 H8 fun w9 H9=>xb 6 5 H9<|xb 22 4 H9 ?_;have au:=ajC H9 1 (Q:=Q) (ks:=ks) (A:=nA) (c:=nc) (by kernel_rfl) gO.1 gO.2 0 na nm (N:Int);obtain ⟨ja,Px,HA,aY⟩:=au;refine x0 0 [6] aY (fun Hp R hZ=>Kw Q 0 na nm N nA nc ja ks.length w9 R Hp Px (by omega) (adb Px HA hds) (fun br bo S' k' a' qw qx qy qz o3 cJ G3 dO fB=>hZ _ _ _ G3 fun aZ=>?_));have au:=nL ja _ Px HA dO;obtain ⟨kk,x,s',Fe,JI⟩:=au;refine x0 7 [0,0,0,0,0] aZ (fun Hp R hZ=>agl S' [] [] (uz (ja.take N)) .nil kk x s' t br none 0 0 [] k' a' qw qx qy qz o3 none bo cJ R Hp ⟨rfl,by decide⟩ rfl fB Fe JI (fun A2 n2 c2 k2 a2 BB lY vc nc2 ks2 eo2 vo2 Pz fU G4=>hZ _ _ _ G4 fun aP=>?_));refine xb 7 0 aP<|xd 1 3 aP fun gV bF=>xd 0 4 bF fun iq bq=>xh 3 [3,4] bq (.tuple #[.agg #[.int .i64 1,.string eB,.string t,.int .i64 Pz],.agg #[.int .i64 0,.int .i64 0]]) ?_;subst ak;exact hK Pz _ (bq.pk [])
end Mr
end Go.Proofs.YtdmdecgoebnamaaGreat
namespace Go.Proofs
open Go.Shelf
def Tryz.ud:Go.Shelf.Ren:=⟨fun|156=>23|165=>30|166=>31|169=>32|240=>41|241=>42|276=>72|277=>73|n=>n,fun|31=>30|9=>9|3=>3|4=>4|0=>0|20=>20|72=>81|76=>84|70=>79|37=>78|75=>83|127=>100|164=>144|5=>5|80=>86|n=>n,fun|n=>n⟩
theorem Tryz.Tw:Go.Proofs.Lays.n156 Tryz.prog Tryz.ud:={
 mixed:=by kernel_rfl
 f156:=Tryz.func23.trans (congrArg some (by kernel_rfl))
 f165:=Tryz.func30.trans (congrArg some (by kernel_rfl))
 f166:=Tryz.func31.trans (congrArg some (by kernel_rfl))
 f169:=Tryz.func32.trans (congrArg some (by kernel_rfl))
 f240:=Tryz.func41.trans (congrArg some (by kernel_rfl))
 f241:=Tryz.func42.trans (congrArg some (by kernel_rfl))
 f276:=Tryz.func72.trans (congrArg some (by kernel_rfl))
 f277:=Tryz.func73.trans (congrArg some (by kernel_rfl))
 t0:=Tryz.underlying0
 a0:=Tryz.isAgg0
 z0:=Tryz.sizeOf0
 v0:=Tryz.zeroValue0
 t3:=Tryz.underlying3
 a3:=Tryz.isAgg3
 z3:=Tryz.sizeOf3
 v3:=Tryz.zeroValue3
 t4:=Tryz.underlying4
 a4:=Tryz.isAgg4
 z4:=Tryz.sizeOf4
 v4:=Tryz.zeroValue4
 t9:=Tryz.underlying9
 a9:=Tryz.isAgg9
 z9:=Tryz.sizeOf9
 v9:=Tryz.zeroValue9
 t20:=Tryz.underlying20
 a20:=Tryz.isAgg20
 z20:=Tryz.sizeOf20
 v20:=Tryz.zeroValue20
 t31:=Tryz.underlying30
 a31:=Tryz.isAgg30
 z31:=Tryz.sizeOf30
 v31:=Tryz.zeroValue30
 t37:=Tryz.underlying78
 a37:=Tryz.isAgg78
 z37:=Tryz.sizeOf78
 v37:=Tryz.zeroValue78
 t70:=Tryz.underlying79
 a70:=Tryz.isAgg79
 z70:=Tryz.sizeOf79
 v70:=Tryz.zeroValue79
 t72:=Tryz.underlying81
 a72:=Tryz.isAgg81
 z72:=Tryz.sizeOf81
 v72:=Tryz.zeroValue81
 t75:=Tryz.underlying83
 a75:=Tryz.isAgg83
 z75:=Tryz.sizeOf83
 v75:=Tryz.zeroValue83
 t76:=Tryz.underlying84
 a76:=Tryz.isAgg84
 z76:=Tryz.sizeOf84
 v76:=Tryz.zeroValue84
 t127:=Tryz.underlying100
 a127:=Tryz.isAgg100
 z127:=Tryz.sizeOf100
 v127:=Tryz.zeroValue100
 t164:=Tryz.underlying144
 a164:=Tryz.isAgg144
 z164:=Tryz.sizeOf144
 v164:=Tryz.zeroValue144 }
theorem Tryz.r_:Builder.Extra Tryz.prog Tryz.ud:={
 sizeBuilder:=by kernel_rfl
 liesBuilder:=by kernel_rfl
 t5:=Tryz.underlying5
 a5:=Tryz.isAgg5
 z5:=Tryz.sizeOf5
 v5:=Tryz.zeroValue5
 infoByte:=by kernel_rfl
 cellsByte:=by kernel_rfl
 sizeByte:=by kernel_rfl
 neB5:=by decide }
open Go.RowKit in
theorem Tryz.strings_Join(bk o c : Nat)(xs : List ByteArray)(sep : ByteArray)(w : World)(E4 : ∀(j : Nat) x, xs[j]? = some x → w.cell? ⟨bk, o + j, none⟩ = some (.string x))(JD : bk < w.heap.size)(hN : xs.length ≤ 140737488355328)(Dh : xs.length ≤ c)(hlen : (Lib.join (xs.map (·.data.toList)) sep.data.toList).length ≤ 140737488355328) :
   Calls Tryz.prog 23 #[.slice (some ⟨bk,o,none⟩) xs.length c,.string sep] w fun e w'=>e=.returned (.string ⟨(Lib.join (xs.map (·.data.toList)) sep.data.toList).toArray⟩)∧Below w.heap.size w w':=Any.strings_Join Tryz.Tw Tryz.r_ bk o c xs sep w E4 JD hN Dh hlen
end Go.Proofs
namespace Go.aS
open Go.fO
def lnK(c:Code):List ByteArray:=match c with
 |.region _ ops _=>ops.toList.flatMap fun o=>match o.op with
   |.buildSlice _ _ parts=>parts.toList.filterMap fun x=>match x.2 with
     |.const (.string s)=>some s
     |_=>none
   |_=>[]
 |_=>[]
noncomputable def Kx(p:List Nat):List ByteArray:=lnK (Sx.cat p (Sx.AV Proofs.Tryz.f22))
noncomputable def lnC(p:List Nat):Array Value:=((Kx p).map Value.string).toArray
def j_(ls:List ByteArray):ByteArray:=⟨(Lib.join (ls.map (·.data.toList)) (⟨#[10]⟩:ByteArray).data.toList).toArray⟩
noncomputable def AI(p:List Nat):ByteArray:=j_ (Kx p)++⟨#[10]⟩
end Go.aS
namespace Go.Proofs.YtdmdecgoebnamaaGreat
open Go.RowKit Go.Sx Go.aS Go.fO
theorem Ye(bk : Nat)(ls : List ByteArray)(w : World)(K : Ending → World → Prop)(H0 : Sp w [.al bk (.cells (ls.map Value.string).toArray 9)])(hN : ls.length ≤ 1000)(hl : (j_ ls).size ≤ 100000)
   (hK:∀w',Hs w [.al bk (.cells (ls.map Value.string).toArray 9)] w' [.al bk (.cells (ls.map Value.string).toArray 9)]→K (.returned (.string (j_ ls))) w'):
   Calls Tryz.prog 23 #[.slice (some ⟨bk,0,none⟩) ls.length ls.length,.string ⟨#[10]⟩] w K:=by
 have hb:w.heap[bk]?=some (.cells (ls.map Value.string).toArray 9):=H0.all _ (List.mem_singleton.2 rfl);refine (Tryz.strings_Join bk 0 ls.length ls ⟨#[10]⟩ w (fun j x hx=>?_) ?_ (by omega) (Nat.le_refl _) ?_).mono ?_
 · have e:(ls.map Value.string).toArray[0+j]?=some (.string x):=by rw[Nat.zero_add];simp[hx]
   simp[World.cell?,hb,e,hx]
 · exact(Array.getElem?_eq_some_iff.1 hb).1
 · have:(j_ ls).size=(Lib.join (ls.map (·.data.toList)) (⟨#[10]⟩:ByteArray).data.toList).length:=by unfold j_;show(List.toArray _).size=_;simp
   omega
 · rintro e w' ⟨rfl,hbl⟩;exact hK w' ((Hs.refl H0).ext (Gx.Ext.Lg hbl))
end Go.Proofs.YtdmdecgoebnamaaGreat
namespace Go.Proofs.YtdmdecgoebnamaaGreat
open Go.RowKit Go.Sx Go.aS Go.fO
attribute [local irreducible] Go.wpOps Go.Code.wp Go.wpOp Go.wpAnyH Go.Calls Go.Sx.Goal
set_option maxRecDepth 20000
theorem El  (w : World) (K : Ending → World → Prop) (H0 : Sp w []) (hK : ∀(b : Nat) w', Hs w [] w' [.al b (.cells (lnC [1, 0, 1, 0, 1, 0, 0]) 9)] → K (.returned (.slice (some ⟨b, 0, none⟩) 3 3)) w') :
   Calls Tryz.prog 22 #[.string (bY [115,116,97,116,101])] w K:=by
 obtain⟨L0,ak,H⟩:=Sx.bX H0;refine xu (vs:=[.string (bY [115,116,97,116,101])]) 19 Tryz.func22 ?_;refine xl 18 ((bY [115,116,97,116,101]).toList==(bY [115,116,97,116,101]).toList) (fun r0=>?_) (fun r0=>?_)
 · refine xf 2 H fun k1 w1 H1=>?_;refine xh 6 [] H1 (.slice (some ⟨k1,0,none⟩) 3 3) ?_;subst ak;exact hK k1 _ (H1.pk [0])
 exact Bool.noConfusion (r0.symm.trans (show _=true by kernel_rfl))
theorem GQ  (w : World) (K : Ending → World → Prop) (H0 : Sp w []) (hK : ∀ w', Hs w [] w' [] → K (.returned (.string (AI [1, 0, 1, 0, 1, 0, 0]))) w') :
   Calls Tryz.prog 10 #[.string (bY [115,116,97,116,101])] w K:=by
 obtain⟨L0,ak,H⟩:=Sx.bX H0;refine xu (vs:=[.string (bY [115,116,97,116,101])]) 11 Tryz.func10 ?_;refine x0 8 [] H (fun Hp R hZ=>El w R Hp  (fun mJ w1 G1=>hZ _ _ _ G1 fun H1=>?_));refine x0 16 [0] H1 (fun Hp R hZ=>Ye mJ (Kx [1,0,1,0,1,0,0]) w1 R Hp (Nat.le_of_ble_eq_true (by kernel_rfl)) (Nat.le_of_ble_eq_true (by kernel_rfl)) (fun w2 G2=>hZ _ _ _ G2 fun H2=>?_));refine Sx.cg 0 (j_ (Kx [1,0,1,0,1,0,0])) (bY [10]) (Nat.le_of_ble_eq_true (by kernel_rfl))<|xh 4 [] H2 (.string ((j_ (Kx [1,0,1,0,1,0,0]))++(bY [10]))) ?_;subst ak;exact Gx.af (v':=.string (AI [1,0,1,0,1,0,0])) rfl (hK _ (H2.pk []))
end Go.Proofs.YtdmdecgoebnamaaGreat
namespace Go.Mn
open Go.RowKit Go.Sx Go.aS Go.Gx Go.fO
def iQ(n:Int)(m:Nat):Nat:=(n%(m:Int)).toNat
theorem jE(n:Int){m:Nat}(h:0<m):iQ n m<m:=by
 have h1:=Int.emod_nonneg n (b:=(m:Int)) (by omega);have h2:=Int.emod_lt_of_pos n (b:=(m:Int)) (by omega);unfold iQ;omega
theorem ID(n:Int){m:Nat}(h:0<m):(-(m:Int)<Int.tmod n m∧Int.tmod n m<m)∧(Int.tmod n m<0→Int.tmod n m+(m:Int)=((iQ n m:Nat):Int))∧(¬Int.tmod n m<0→Int.tmod n m=((iQ n m:Nat):Int)):=by
 have hm:(0:Int)<m:=by omega
 have h1:=Int.emod_nonneg n (b:=(m:Int)) (by omega);have h2:=Int.emod_lt_of_pos n hm;have h3:Int.tmod n m<m:=Int.tmod_lt_of_pos n hm;have h4: -(m:Int)<Int.tmod n m:=by
   have:=Int.tmod_lt_of_pos (-n) hm;rw [Int.neg_tmod] at this;omega
 have e:((iQ n m:Nat):Int)=n%(m:Int):=by unfold iQ;omega
 have h5:(Int.tmod n m)%(m:Int)=n%(m:Int):=by
   have:=Int.tmod_add_mul_tdiv n m;conv=>rhs;rw[← this]
   rw[Int.add_mul_emod_self_left]
 rw[e];refine ⟨⟨h4,h3⟩,fun q=>?_,fun q=>?_⟩
 · rw[← h5,←Int.add_emod_right];exact(Int.emod_eq_of_lt (by omega) (by omega)).symm
 · rw[← h5];exact(Int.emod_eq_of_lt (by omega) h3).symm
theorem oG{n:Nat}(h:n<1000):(aF n).size≤3:=by
 have b1:∀{m:Nat},m<10→(aF m).size=1:=fun hm=>by rw[jb (by omega)];rfl
 have b2:∀{m:Nat},m<100→(aF m).size≤2:=fun{m} hm=>by
   by_cases q:m/10=0
   · rw[jb q,o8];omega
   · rw[n8 q,ByteArray.size_append,b1 (by omega),o8];omega
 by_cases q:n/10=0
 · rw[jb q,o8];omega
 · rw[n8 q,ByteArray.size_append,o8];have:=b2 (m:=n/10) (by omega);omega
abbrev oH(k:Nat):ByteArray:=(bY [100,111,32,103,101,116,32,40,41,32,42,32])++aF k++(bY [32,43,32,49])
def eW(a b k:Nat):Nat→ByteArray
 |0=>(bY [100,111,32,112,117,116,32])++aF a++(bY [59,32,100,111,32,112,117,116,32])++aF b++(bY [59,32])++oH k
 |1=>(bY [100,111,32,112,117,116,32])++aF a++(bY [59,32,108,101,116,32,120,32,61,32,100,111,32,103,101,116,32,40,41,32,105,110,32,120,32,43,32,40])++oH k++(bY [41])
 |2=>(bY [100,111,32,112,117,116,32,40,100,111,32,103,101,116,32,40,41,41,59,32])++oH k
 |_=>(bY [108,101,116,32,120,32,61,32,100,111,32,103,101,116,32,40,41,32,105,110,32,108,101,116,32,121,32,61,32,100,111,32,103,101,116,32,40,41,32,105,110,32,120,32,45,32,121,32,43,32,40])++oH k++(bY [41])
def eX(a b k:Nat):Nat→ByteArray
 |0=>(bY [100,111,32,112,117,116,32])++aF b++(bY [59,32])++oH k
 |1=>(bY [100,111,32,112,117,116,32])++aF a++(bY [59,32])++aF a++(bY [32,43,32,40])++oH k++(bY [41])
 |2=>oH k
 |_=>(bY [108,101,116,32,120,32,61,32,100,111,32,103,101,116,32,40,41,32,105,110,32,120,32,45,32,120,32,43,32,40])++oH k++(bY [41])
abbrev ka(t:ByteArray)(n:Nat)(e:ByteArray):ByteArray:=t++(bY [32,109,97,105,110,32,61,32,115,116,97,116,101,32])++aF n++(bY [32,40,102,110,32,117,32,61,62,32])++e++(bY [41])
def IE(t:ByteArray)(n a b k:Nat):Prop:=∀i,i<4→∃s,AH (ka t n (eW a b k i)) s∧AH (ka t n (eX a b k i)) s
theorem sC(l:List UInt8):(⟨l.toArray⟩:ByteArray).size=l.length:=by simp[ByteArray.size]
theorem Yf{a b k i:Nat}(ha:a<1000)(hb:b<1000)(hk:k<1000)(hi:i<4):(eW a b k i).size≤100∧(eX a b k i).size≤100:=by
 have h1:=oG ha;have h2:=oG hb;have h3:=oG hk;match i,hi with
 |0,_|1,_|2,_|3,_=>simp only[eW,eX,oH,ByteArray.size_append,sC,List.length_cons,List.length_nil];omega
theorem IF{t e : ByteArray}{n : Nat}(h1 : t.size ≤ 1500)(h2 : (aF n).size ≤ 3)(h3 : e.size ≤ 100) : ∃ u1 u2 u3 u4 u5 : ByteArray, t ++ (bY [32,109,97,105,110,32,61,32,115,116,97,116,101,32]) = u1 ∧ u1 ++ aF n = u2 ∧ u2 ++ (bY [32,40,102,110,32,117,32,61,62,32]) = u3 ∧ u3 ++ e = u4 ∧ u4 ++ (bY [41]) = u5 ∧
   t.size+(bY [32,109,97,105,110,32,61,32,115,116,97,116,101,32]).size≤9223372036854775807∧u1.size+(aF n).size≤9223372036854775807∧u2.size+(bY [32,40,102,110,32,117,32,61,62,32]).size≤9223372036854775807∧u3.size+e.size≤9223372036854775807∧u4.size+(bY [41]).size≤9223372036854775807∧u5=ka t n e:=by
 refine⟨_,_,_,_,_,rfl,rfl,rfl,rfl,rfl,?_,?_,?_,?_,?_,rfl⟩<;>simp only[ByteArray.size_append,sC,List.length_cons,List.length_nil]<;>omega
theorem ade{w:World}{b t i:Nat}(f:Nat→ByteArray)(h:Has w b (.cells #[.string (f 0),.string (f 1),.string (f 2),.string (f 3)] t))(hi:i<4):w.cells? 0 ((⟨b,0,none⟩:Addr).add (i*1)) 1=some [.string (f i)]:=by
 rw[Addr.add_lit];refine ChangeShapes.cells?_of (Nat.zero_le _) rfl (fun j hj=>?_);obtain rfl:j=0:=by omega
 rw[cell_of_row w b _ _ t (0,0) h];match i,hi with
 |0,_|1,_|2,_|3,_=>rfl
theorem ajE(t:ByteArray):Value.bool (!(t.toList==t.toList))=.bool false:=by simp
end Go.Mn
namespace Go.Proofs.YtdmdecgoebnamaaGreat
open Go.RowKit Go.Sx Go.aS Go.Mn
attribute [local irreducible] Go.wpOps Go.Code.wp Go.wpOp Go.wpAnyH Go.Calls Go.Sx.Goal
set_option maxRecDepth 20000
namespace Mr
theorem yF(n : Int)  (w : World) (K : Ending → World → Prop) (H0 : Sp w []) (hn : -9223372036854775808 ≤ n ∧ n ≤ 9223372036854775807) (hK : ∀ w', Hs w [] w' [] → K (.returned (.int .i64 ((iQ n 1000 : Nat) : Int))) w') :
   Calls Tryz.prog 12 #[.int .i64 n,.int .i64 1000] w K:=by
 obtain⟨L0,ak,H⟩:=Sx.bX H0;refine xu (vs:=[.int .i64 n,.int .i64 1000]) 14 Tryz.func12 ?_;have hm:(-1000<Int.tmod n 1000∧Int.tmod n 1000<1000)∧(Int.tmod n 1000<0→Int.tmod n 1000+1000=((iQ n 1000:Nat):Int))∧(¬Int.tmod n 1000<0→Int.tmod n 1000=((iQ n 1000:Nat):Int)):=ID n (m:=1000) (by decide);refine xp 9 (.int .i64 (Int.tmod n (1000:Int))) (.int .i64 (Int.tmod n (1000:Int))) (congrArg (Value.int .i64) (rfl)) ?_;refine xl 10 (decide ((Int.tmod n (1000:Int))<(0:Int))) (fun hY=>?_) (fun hY=>?_)
 · have sU:=of_decide_eq_true hY;refine Sx.vi 3 ((Int.tmod n (1000:Int))+(1000:Int)) ((Int.tmod n (1000:Int))+(1000:Int)) (IntWalk.i64_in _ (by omega))<|xh 10 [] H (.int .i64 ((Int.tmod n (1000:Int))+(1000:Int))) ?_;rw [← hm.2.1 (by omega)] at hK;subst ak;exact hK _ (H.pk [])
 refine xh 9 [] H (.int .i64 (Int.tmod n (1000:Int))) ?_;have sU:=of_decide_eq_false hY;rw [← hm.2.2 (by omega)] at hK;subst ak;exact hK _ (H.pk [])
theorem Yg(n : Int)  (w : World) (K : Ending → World → Prop) (H0 : Sp w []) (hn : -9223372036854775808 ≤ n ∧ n ≤ 9223372036854775807) (hK : ∀ w', Hs w [] w' [] → K (.returned (.int .i64 ((iQ n 50 : Nat) : Int))) w') :
   Calls Tryz.prog 12 #[.int .i64 n,.int .i64 50] w K:=by
 obtain⟨L0,ak,H⟩:=Sx.bX H0;refine xu (vs:=[.int .i64 n,.int .i64 50]) 14 Tryz.func12 ?_;have hm:(-50<Int.tmod n 50∧Int.tmod n 50<50)∧(Int.tmod n 50<0→Int.tmod n 50+50=((iQ n 50:Nat):Int))∧(¬Int.tmod n 50<0→Int.tmod n 50=((iQ n 50:Nat):Int)):=ID n (m:=50) (by decide);refine xp 9 (.int .i64 (Int.tmod n (50:Int))) (.int .i64 (Int.tmod n (50:Int))) (congrArg (Value.int .i64) (rfl)) ?_;refine xl 10 (decide ((Int.tmod n (50:Int))<(0:Int))) (fun hY=>?_) (fun hY=>?_)
 · have sU:=of_decide_eq_true hY;refine Sx.vi 3 ((Int.tmod n (50:Int))+(50:Int)) ((Int.tmod n (50:Int))+(50:Int)) (IntWalk.i64_in _ (by omega))<|xh 10 [] H (.int .i64 ((Int.tmod n (50:Int))+(50:Int))) ?_;rw [← hm.2.1 (by omega)] at hK;subst ak;exact hK _ (H.pk [])
 refine xh 9 [] H (.int .i64 (Int.tmod n (50:Int))) ?_;have sU:=of_decide_eq_false hY;rw [← hm.2.2 (by omega)] at hK;subst ak;exact hK _ (H.pk [])
theorem PE(n : Nat)(w : World)(K : Ending → World → Prop)(H0 : Sp w [])(hn : n < 9223372036854775808)(hK : ∀ w', Hs w [] w' [] → K (.returned (.string (aF n))) w') :
   Calls Tryz.prog 20 #[.n n] w K:=by
 obtain⟨L0,ak,H⟩:=Sx.bX H0;refine xu (vs:=[.n n]) 17 Tryz.func20 ?_;refine xz 11 (fun z l' w'=>∃(m:Nat) (s:ByteArray),l'=[(0,.n m),(3,.string s)]∧z=m+1∧Hs w L0 w' []∧(aF n=aF m++s)∧(m<9223372036854775808∧s.size+m≤n∧(m=0→s.size=0))) _ _ ⟨n,eB,rfl,rfl,H,(FC _),⟨hn,by have:eB.size=0:=rfl;omega,fun _=>rfl⟩⟩ (fun b1 z1 l1 w1 bQ K1 aN=>?_);obtain ⟨m,s,rfl,rfl,H1,hq,hm⟩:=bQ;refine xp 4 (.int .i64 (Int.tmod (m:Int) (10:Int))) (.int .i64 ((m%10:Nat):Int)) (congrArg (Value.int .i64) (by rw[IntWalk.rem_in _ _ (by omega)];omega))<|Sx.vi 0 ((48:Int)+((m%10:Nat):Int)) ((48+(m%10):Nat):Int) (Gx.bj (by omega) (by omega))<|xp 0 (.int .u8 (IntKind.u8.wrap ((48+(m%10):Nat):Int))) (.int .u8 ((48+(m%10):Nat):Int)) (congrArg (Value.int .u8) (IntWalk.u8_in _ (by omega)))<|xf 0 H1 fun k1 w2 H2=>Sx.cbs (c:=1) (bk:=k1) (ty:=5) 0 0 (48+m%10) H2 (by omega) (by kernel_rfl)<|Sx.cg 1 (⟨#[UInt8.ofNat (48+m%10)]⟩:ByteArray) s (by have:((⟨#[UInt8.ofNat (48+m%10)]⟩:ByteArray)).size=1:=rfl;omega) ?_;refine Sx.vi 6 (Int.tdiv (m:Int) (10:Int)) ((m/10:Nat):Int) (by rw[IntWalk.i64_quo _ _ (by omega)];omega) ?_;refine xl 9 (((m/10:Nat):Int)==(0:Int)) (fun bI=>?_) (fun bI=>?_)
 · refine xh 10 [] H2 (.string ((⟨#[UInt8.ofNat (48+m%10)]⟩:ByteArray)++s)) ?_;have iG:=Gx.k1 bI;rw [Bk hq (by omega)] at hK;subst ak;exact hK _ (H2.pick [] (by kernel_rfl))
 have iG:=Gx.k0 bI;exact xj 2 _ (aN _ _ _ _ (by omega) ⟨(m/10),((⟨#[UInt8.ofNat (48+m%10)]⟩:ByteArray)++s),rfl,rfl,H2.pk [],(n9 hq (by omega)),⟨by omega,by have:((⟨#[UInt8.ofNat (48+m%10)]⟩:ByteArray)++s).size=1+s.size:=ByteArray.size_append;omega,by omega⟩⟩)
theorem fu(n : Nat)(w : World)(K : Ending → World → Prop)(H0 : Sp w [])(hn : n < 9223372036854775808)(hK : ∀ w', Hs w [] w' [] → K (.returned (.string (aF n))) w') :
   Calls Tryz.prog 13 #[.n n] w K:=by
 obtain⟨L0,ak,H⟩:=Sx.bX H0;refine xu (vs:=[.n n]) 12 Tryz.func13<|xp 9 (.bool (decide ((n:Int)<(0:Int)))) (.bool false) (dF (by omega)) ?_;refine x0 8 [] H (fun Hp R hZ=>PE n w R Hp hn (fun w1 G1=>hZ _ _ _ G1 fun H1=>?_));refine xh 4 [] H1 (.string (aF n)) ?_;subst ak;exact hK _ (H1.pk [])
set_option maxHeartbeats 16000000 in
theorem Yh(n : Int)(a : Int)(b : Int)(k : Int)(w : World)(K : Ending → World → Prop)(H0 : Sp w [])(hn : -9223372036854775808 ≤ n ∧ n ≤ 9223372036854775807)(ha : -9223372036854775808 ≤ a ∧ a ≤ 9223372036854775807)(hb : -9223372036854775808 ≤ b ∧ b ≤ 9223372036854775807)(hk : -9223372036854775808 ≤ k ∧ k ≤ 9223372036854775807)(hT : (AI [1, 0, 1, 0, 1, 0, 0]).size ≤ 1500)(PF : IE (AI [1, 0, 1, 0, 1, 0, 0]) (iQ n 1000) (iQ a 1000) (iQ b 1000) (iQ k 50))(hK : ∀ w', Hs w [] w' [] → K (.returned (.bool true)) w') :
   Calls Tryz.prog 5 #[.int .i64 n,.int .i64 a,.int .i64 b,.int .i64 k] w K:=by
 obtain⟨L0,ak,H⟩:=Sx.bX H0;refine xu (vs:=[.int .i64 n,.int .i64 a,.int .i64 b,.int .i64 k]) 136 Tryz.func5 ?_;have gO:∀m,m<1000→m<9223372036854775808:=fun m h=>by omega
 have ZH:∀m,m<1000→(aF m).size≤3:=fun m h=>oG h;refine x0 8 [] H (fun Hp R hZ=>yF n w R Hp hn (fun w1 G1=>hZ _ _ _ G1 fun H1=>?_));refine x0 6 [] H1 (fun Hp R hZ=>yF a w1 R Hp ha (fun w2 G2=>hZ _ _ _ G2 fun H2=>?_));refine x0 6 [] H2 (fun Hp R hZ=>yF b w2 R Hp hb (fun w3 G3=>hZ _ _ _ G3 fun H3=>?_));refine yd 3 (fun l' w'=>∃(N:Nat) (A:Nat) (B:Nat) (T:ByteArray),l'=[(0,.n N),(1,.n A),(2,.n B),(3,.int .i64 k),(9,.string T)]∧Hs w L0 w' []∧(N<1000∧A<1000∧B<1000)∧(T.size≤1500)∧(IE T N A B (iQ k 50))) (fun K1 aN=>?_) (fun b1 l1 w4 bQ=>?_)
 · refine x0 1 [] H3 (fun Hp R hZ=>GQ w3 R Hp  (fun w5 G4=>hZ _ _ _ G4 fun H4=>?_));exact xj 2 _ (aN _ _ _ ⟨(iQ n 1000),(iQ a 1000),(iQ b 1000),(AI [1,0,1,0,1,0,0]),rfl,H4.pk [],⟨jE _ (by decide),jE _ (by decide),jE _ (by decide)⟩,hT,PF⟩)
 obtain⟨N,A,B,T,rfl,H6,hN,hT,PF⟩:=bQ;refine yd 0 (fun l' w'=>∃(Q:Nat) (rq:ByteArray),l'=[(0,.n N),(1,.n A),(2,.n B),(9,.string T),(10,.string rq)]∧Hs w L0 w' []∧(Q<50)∧(rq=oH Q)∧(IE T N A B Q)) (fun K2 dH=>?_) (fun b2 l2 w6 gA=>?_)
 · have adf:iQ k 50<1000:=Nat.lt_trans (jE _ (by decide)) (by decide:50<1000);have hk3:=ZH _ adf;refine x0 2 [] H6 (fun Hp R hZ=>Yg k w4 R Hp hk (fun w7 G5=>hZ _ _ _ G5 fun H7=>?_));refine x0 0 [] H7 (fun Hp R hZ=>fu (iQ k 50) w7 R Hp (gO _ adf) (fun w8 G6=>hZ _ _ _ G6 fun H8=>?_));refine Sx.cg 0 (bY [100,111,32,103,101,116,32,40,41,32,42,32]) (aF (iQ k 50)) (by simp only[ByteArray.size_append,sC,List.length_cons,List.length_nil];omega)<|Sx.cg 0 ((bY [100,111,32,103,101,116,32,40,41,32,42,32])++(aF (iQ k 50))) (bY [32,43,32,49]) (by simp only[ByteArray.size_append,sC,List.length_cons,List.length_nil];omega) ?_;exact xj 2 _ (dH _ _ _ ⟨(iQ k 50),(oH (iQ k 50)),rfl,H8.pk [],(jE _ (by decide)),rfl,PF⟩)
 obtain⟨Q,rq,rfl,aY,hQ,hR,PF⟩:=gA;have hRz:rq.size≤20:=by have:=ZH Q (Nat.lt_trans hQ (by decide));rw[hR];simp only[ByteArray.size_append,sC,List.length_cons,List.length_nil];omega
 have hA3:=ZH A hN.2.1;have hB3:=ZH B hN.2.2;refine x0 3 [] aY (fun Hp R hZ=>fu A w6 R Hp (gO _ hN.2.1) (fun w9 G7=>hZ _ _ _ G7 fun aZ=>?_));refine Sx.cg 0 (bY [100,111,32,112,117,116,32]) (aF A) (by simp only[ByteArray.size_append,sC,List.length_cons,List.length_nil];omega)<|Sx.cg 0 ((bY [100,111,32,112,117,116,32])++(aF A)) (bY [59,32,100,111,32,112,117,116,32]) (by simp only[ByteArray.size_append,sC,List.length_cons,List.length_nil];omega) ?_;refine x0 1 [] aZ (fun Hp R hZ=>fu B w9 R Hp (gO _ hN.2.2) (fun cJ G8=>hZ _ _ _ G8 fun aP=>?_));refine Sx.cg 0 (((bY [100,111,32,112,117,116,32])++(aF A))++(bY [59,32,100,111,32,112,117,116,32])) (aF B) (by simp only[ByteArray.size_append,sC,List.length_cons,List.length_nil];omega)<|Sx.cg 0 ((((bY [100,111,32,112,117,116,32])++(aF A))++(bY [59,32,100,111,32,112,117,116,32]))++(aF B)) (bY [59,32]) (by simp only[ByteArray.size_append,sC,List.length_cons,List.length_nil];omega)<|Sx.cg 1 (((((bY [100,111,32,112,117,116,32])++(aF A))++(bY [59,32,100,111,32,112,117,116,32]))++(aF B))++(bY [59,32])) rq (by simp only[ByteArray.size_append,sC,List.length_cons,List.length_nil];omega) ?_;refine x0 1 [] aP (fun Hp R hZ=>fu A cJ R Hp (gO _ hN.2.1) (fun fU G9=>hZ _ _ _ G9 fun bF=>?_));refine Sx.cg 0 (bY [100,111,32,112,117,116,32]) (aF A) (by simp only[ByteArray.size_append,sC,List.length_cons,List.length_nil];omega)<|Sx.cg 0 ((bY [100,111,32,112,117,116,32])++(aF A)) (bY [59,32,108,101,116,32,120,32,61,32,100,111,32,103,101,116,32,40,41,32,105,110,32,120,32,43,32,40]) (by simp only[ByteArray.size_append,sC,List.length_cons,List.length_nil];omega)<|Sx.cg 1 (((bY [100,111,32,112,117,116,32])++(aF A))++(bY [59,32,108,101,116,32,120,32,61,32,100,111,32,103,101,116,32,40,41,32,105,110,32,120,32,43,32,40])) rq (by simp only[ByteArray.size_append,sC,List.length_cons,List.length_nil];omega)<|Sx.cg 0 ((((bY [100,111,32,112,117,116,32])++(aF A))++(bY [59,32,108,101,116,32,120,32,61,32,100,111,32,103,101,116,32,40,41,32,105,110,32,120,32,43,32,40]))++rq) (bY [41]) (by simp only[ByteArray.size_append,sC,List.length_cons,List.length_nil];omega)<|Sx.cg 1 (bY [100,111,32,112,117,116,32,40,100,111,32,103,101,116,32,40,41,41,59,32]) rq (by simp only[ByteArray.size_append,sC,List.length_cons,List.length_nil];omega)<|Sx.cg 1 (bY [108,101,116,32,120,32,61,32,100,111,32,103,101,116,32,40,41,32,105,110,32,108,101,116,32,121,32,61,32,100,111,32,103,101,116,32,40,41,32,105,110,32,120,32,45,32,121,32,43,32,40]) rq (by simp only[ByteArray.size_append,sC,List.length_cons,List.length_nil];omega) ?_;refine Sx.cg 0 ((bY [108,101,116,32,120,32,61,32,100,111,32,103,101,116,32,40,41,32,105,110,32,108,101,116,32,121,32,61,32,100,111,32,103,101,116,32,40,41,32,105,110,32,120,32,45,32,121,32,43,32,40])++rq) (bY [41]) (by simp only[ByteArray.size_append,sC,List.length_cons,List.length_nil];omega)<|xf 0 bF fun k1 gV bq=>xq 3 (.code (Sx.ct 255 Tryz.f5)) [] [(0,.n N),(1,.n A),(2,.n B),(9,.string T),(10,.string rq),(11,.slice (some ⟨k1,0,none⟩) 4 4)] fun b3=>?_;refine x0 3 [] bq (fun Hp R hZ=>fu B gV R Hp (gO _ hN.2.2) (fun iq nj=>hZ _ _ _ nj fun bu=>?_));refine Sx.cg 0 (bY [100,111,32,112,117,116,32]) (aF B) (by simp only[ByteArray.size_append,sC,List.length_cons,List.length_nil];omega)<|Sx.cg 0 ((bY [100,111,32,112,117,116,32])++(aF B)) (bY [59,32]) (by simp only[ByteArray.size_append,sC,List.length_cons,List.length_nil];omega)<|Sx.cg 1 (((bY [100,111,32,112,117,116,32])++(aF B))++(bY [59,32])) rq (by simp only[ByteArray.size_append,sC,List.length_cons,List.length_nil];omega) ?_;refine x0 1 [] bu (fun Hp R hZ=>fu A iq R Hp (gO _ hN.2.1) (fun iF o9=>hZ _ _ _ o9 fun bS=>?_));refine Sx.cg 0 (bY [100,111,32,112,117,116,32]) (aF A) (by simp only[ByteArray.size_append,sC,List.length_cons,List.length_nil];omega)<|Sx.cg 0 ((bY [100,111,32,112,117,116,32])++(aF A)) (bY [59,32]) (by simp only[ByteArray.size_append,sC,List.length_cons,List.length_nil];omega) ?_;refine x0 1 [] bS (fun Hp R hZ=>fu A iF R Hp (gO _ hN.2.1) (fun kr rJ=>hZ _ _ _ rJ fun bx=>?_));refine Sx.cg 0 (((bY [100,111,32,112,117,116,32])++(aF A))++(bY [59,32])) (aF A) (by simp only[ByteArray.size_append,sC,List.length_cons,List.length_nil];omega)<|Sx.cg 0 ((((bY [100,111,32,112,117,116,32])++(aF A))++(bY [59,32]))++(aF A)) (bY [32,43,32,40]) (by simp only[ByteArray.size_append,sC,List.length_cons,List.length_nil];omega)<|Sx.cg 1 (((((bY [100,111,32,112,117,116,32])++(aF A))++(bY [59,32]))++(aF A))++(bY [32,43,32,40])) rq (by simp only[ByteArray.size_append,sC,List.length_cons,List.length_nil];omega)<|Sx.cg 0 ((((((bY [100,111,32,112,117,116,32])++(aF A))++(bY [59,32]))++(aF A))++(bY [32,43,32,40]))++rq) (bY [41]) (by simp only[ByteArray.size_append,sC,List.length_cons,List.length_nil];omega)<|Sx.cg 2 (bY [108,101,116,32,120,32,61,32,100,111,32,103,101,116,32,40,41,32,105,110,32,120,32,45,32,120,32,43,32,40]) rq (by simp only[ByteArray.size_append,sC,List.length_cons,List.length_nil];omega)<|Sx.cg 0 ((bY [108,101,116,32,120,32,61,32,100,111,32,103,101,116,32,40,41,32,105,110,32,120,32,45,32,120,32,43,32,40])++rq) (bY [41]) (by simp only[ByteArray.size_append,sC,List.length_cons,List.length_nil];omega) ?_;refine xf 0 bx fun k2 ku cV=>xq 3 (.code (Sx.ct 511 Tryz.f5)) [] [(0,.n N),(9,.string T),(11,.slice (some ⟨k1,0,none⟩) 4 4),(12,.slice (some ⟨k2,0,none⟩) 4 4)] fun b4=>?_;subst hR;refine xz 7 (fun z l' w'=>∃(i:Nat),l'=[(0,.n N),(9,.string T),(11,.slice (some ⟨k1,0,none⟩) 4 4),(12,.slice (some ⟨k2,0,none⟩) 4 4),(13,.n i)]∧z=4-i∧Hs w L0 w' [.al k1 (.cells #[.string (eW A B Q 0),.string (eW A B Q 1),.string (eW A B Q 2),.string (eW A B Q 3)] 9),.al k2 (.cells #[.string (eX A B Q 0),.string (eX A B Q 1),.string (eX A B Q 2),.string (eX A B Q 3)] 9)]∧(i≤4)) _ _ ⟨0,rfl,rfl,cV.pk [0,0],(by decide)⟩ (fun b5 z1 l3 ke uB K3 lX=>?_);obtain ⟨i,rfl,rfl,cj,hi⟩:=uB;refine Or.elim (Nat.lt_or_ge i 4) (fun hi4=>?_) (fun hi4=>?_)
 · obtain⟨t,Aw,yU⟩:=PF i hi4;have hz4:=Yf hN.2.1 hN.2.2 (Nat.lt_trans hQ (by decide:50<1000)) hi4;have au:=IF hT (ZH _ hN.1) hz4.1;obtain ⟨u1,u2,u3,u4,u5,hu1,Xu,U2,U3,hu5,a1,a2,a3,a4,a5,Mf⟩:=au;have au:=IF hT (ZH _ hN.1) hz4.2;obtain ⟨v1,v2,v3,v4,v5,Qm,Xp,Xq,hv4,hv5,b1,b2,b3,b4,b5,W4⟩:=au;rw [← Mf] at Aw;rw [← W4] at yU;refine xp 4 (.bool (decide ((i:Int)<(4:Int)))) (.bool true) (dT (by omega)) ?_;refine yd 7 (fun l' w'=>∃(ob:Nat) (fb:Nat) (s1:Int),l'=[(0,.n N),(9,.string T),(11,.slice (some ⟨k1,0,none⟩) 4 4),(12,.slice (some ⟨k2,0,none⟩) 4 4),(13,.n i),(14,.p ob),(15,.p fb)]∧Hs w L0 w' [.al ob (.cells #[.int .i64 1,.string eB,.string t,.int .i64 s1] 32),.al fb (.cells #[.int .i64 0,.int .i64 0] 35),.al k1 (.cells #[.string (eW A B Q 0),.string (eW A B Q 1),.string (eW A B Q 2),.string (eW A B Q 3)] 9),.al k2 (.cells #[.string (eX A B Q 0),.string (eX A B Q 1),.string (eX A B Q 2),.string (eX A B Q 3)] 9)]) (fun K4 nh=>?_) (fun b6 l4 mm Dy=>?_)
   · refine xw 0 cj [0] [] (LJ:=[.al k1 (.cells #[.string (eW A B Q 0),.string (eW A B Q 1),.string (eW A B Q 2),.string (eW A B Q 3)] 9)]) (by kernel_rfl) fun nX cC=>?_;refine xm [(0,none)] (cC.sb [0])<|Sx.lB 1 [] T (bY [32,109,97,105,110,32,61,32,115,116,97,116,101,32]) hu1 a1 (cC.sb [0])<|xm [(2,none),(6,none),(7,none)] (cC.sb [0])<|yi 8 [] (⟨k1,0,none⟩) i 1 4 4 rfl (by omega) (cC.sb [0])<|yg (c:=1) (t:=9) 9 [] [.string (eW A B Q i)] (.string (eW A B Q i)) (fun w' hs=>(ade (t:=9) (eW A B Q) (Go.aS.cQ hs 0 (it:=.al k1 (.cells #[.string (eW A B Q 0),.string (eW A B Q 1),.string (eW A B Q 2),.string (eW A B Q 3)] 9)) (by kernel_rfl)) hi4)) (cC.sb [0])<|xg ?_;intro gy;refine Sx.on3 3 16 17 ?_ ?_ ?_
     · refine x0 0 [] cC (fun Hp R hZ=>fu N nX R Hp (gO _ hN.1) (fun o4 sX=>hZ _ _ _ sX fun c_=>?_));refine xe (x:=gy) 3 (c_.sb [0])<|Sx.lB 4 [] u1 (aF N) Xu a2 (c_.sb [0])<|Sx.lB 5 [] u2 (bY [32,40,102,110,32,117,32,61,62,32]) U2 a3 (c_.sb [0])<|Sx.lB 10 [] u3 (eW A B Q i) U3 a4 (c_.sb [0])<|Sx.lB 11 [] u4 (bY [41]) hu5 a5 (c_.sb [0])<|xg ?_;intro im;refine Sx.on3 12 16 17 ?_ ?_ ?_
       · refine x0 0 [] c_ (fun Hp R hZ=>du u5 o4 R Hp t Aw (fun st1 kR zi=>hZ _ _ _ zi fun dJ=>?_));refine xe (x:=im) 12 (dJ.sb [0])<|xm [(13,none),(14,none),(15,none)] (dJ.sb [0])<|xg ?_;intro kc;refine yp 16 17 ?_ ?_
         · refine xf 0 dJ fun k3 ry cW=>?_;refine xe (x:=kc) 16 (cW.sb [0])<|xg ?_;intro o5;refine xi 17<|xf 0 cW fun k4 tK cK=>xe (x:=o5) 17 (cK.sb [0])<|xg ?_;intro tO;refine xi 18<|xd 0 2 cK fun qB ef=>xe (x:=tO) 18 (ef.sb [0])<|xg ?_;intro zX;refine xi 19<|xd 0 3 ef fun um eL=>xe (x:=zX) 19 (eL.sb [0])<|xt ?_;exact xj 0 _ (nh _ _ _ ⟨k3,k4,st1,rfl,eL.pk [2,2,0,0]⟩)
         refine xf 0 dJ fun k5 pK eC=>xe (x:=kc) 17 (eC.sb [0])<|xg ?_;intro Cu;refine xi 16<|xf 0 eC fun k6 tL dz=>xe (x:=Cu) 16 (dz.sb [0])<|xg ?_;intro Dn;refine xi 18<|xd 0 3 dz fun tM dS=>xe (x:=Dn) 18 (dS.sb [0])<|xg ?_;intro Cv;refine xi 19<|xd 0 2 dS fun zd fy=>xe (x:=Cv) 19 (fy.sb [0])<|xt ?_;exact xj 0 _ (nh _ _ _ ⟨k6,k5,st1,rfl,fy.pk [3,2,0,0]⟩)
       · refine xf 0 c_ fun k7 zY gi=>?_;refine xe (x:=im) 16 (gi.sb [0])<|xg ?_;intro rD;refine yp 12 17 ?_ ?_
         · refine x0 0 [] gi (fun Hp R hZ=>du u5 zY R Hp t Aw (fun st2 zZ Bz=>hZ _ _ _ Bz fun fP=>?_));refine xe (x:=rD) 12 (fP.sb [0])<|xm [(13,none),(14,none),(15,none)] (fP.sb [0])<|xg ?_;intro wK;refine xi 17<|xf 0 fP fun k8 ze hP=>xe (x:=wK) 17 (hP.sb [0])<|xg ?_;intro wM;refine xi 18<|xd 0 2 hP fun Dp jQ=>xe (x:=wM) 18 (jQ.sb [0])<|xg ?_;intro wP;refine xi 19<|xd 0 3 jQ fun Cx iV=>xe (x:=wP) 19 (iV.sb [0])<|xt ?_;exact xj 0 _ (nh _ _ _ ⟨k7,k8,st2,rfl,iV.pk [2,2,0,0]⟩)
         refine xf 0 gi fun k9 EF oR=>xe (x:=rD) 17 (oR.sb [0])<|xg ?_;intro wQ;refine xi 12 ?_;refine x0 0 [] oR (fun Hp R hZ=>du u5 EF R Hp t Aw (fun st3 EG BA=>hZ _ _ _ BA fun hU=>?_));refine xe (x:=wQ) 12 (hU.sb [0])<|xm [(13,none),(14,none),(15,none)] (hU.sb [0])<|xg ?_;intro wR;refine xi 18<|xd 0 2 hU fun MM ky=>xe (x:=wR) 18 (ky.sb [0])<|xg ?_;intro uD;refine xi 19<|xd 0 3 ky fun KQ nD=>xe (x:=uD) 19 (nD.sb [0])<|xt ?_;exact xj 0 _ (nh _ _ _ ⟨k7,k9,st3,rfl,nD.pk [2,2,0,0]⟩)
       refine xf 0 c_ fun nY EH lW=>xe (x:=im) 17 (lW.sb [0])<|xg ?_;intro uE;refine yp 12 16 ?_ ?_
       · refine x0 0 [] lW (fun Hp R hZ=>du u5 EH R Hp t Aw (fun st4 JE JQ=>hZ _ _ _ JQ fun o6=>?_));refine xe (x:=uE) 12 (o6.sb [0])<|xm [(13,none),(14,none),(15,none)] (o6.sb [0])<|xg ?_;intro wS;refine xi 16<|xf 0 o6 fun KN KR qC=>xe (x:=wS) 16 (qC.sb [0])<|xg ?_;intro Br;refine xi 18<|xd 0 3 qC fun Qa o7=>xe (x:=Br) 18 (o7.sb [0])<|xg ?_;intro Bs;refine xi 19<|xd 0 2 o7 fun Qb uu=>xe (x:=Bs) 19 (uu.sb [0])<|xt ?_;exact xj 0 _ (nh _ _ _ ⟨KN,nY,st4,rfl,uu.pk [3,2,0,0]⟩)
       refine xf 0 lW fun MC Wn nZ=>xe (x:=uE) 16 (nZ.sb [0])<|xg ?_;intro FJ;refine xi 12 ?_;refine x0 0 [] nZ (fun Hp R hZ=>du u5 Wn R Hp t Aw (fun st5 Uo JR=>hZ _ _ _ JR fun pM=>?_));refine xe (x:=FJ) 12 (pM.sb [0])<|xm [(13,none),(14,none),(15,none)] (pM.sb [0])<|xg ?_;intro FK;refine xi 18<|xd 0 3 pM fun Wp sR=>xe (x:=FK) 18 (sR.sb [0])<|xg ?_;intro Kq;refine xi 19<|xd 0 2 sR fun Wq sq=>xe (x:=Kq) 19 (sq.sb [0])<|xt ?_;exact xj 0 _ (nh _ _ _ ⟨MC,nY,st5,rfl,sq.pk [3,2,0,0]⟩)
     · refine xf 0 cC fun KP Qd ss=>?_;refine xe (x:=gy) 16 (ss.sb [0])<|xg ?_;intro GG;refine yp 3 17 ?_ ?_
       · refine x0 0 [] ss (fun Hp R hZ=>fu N Qd R Hp (gO _ hN.1) (fun Y6 Nz=>hZ _ _ _ Nz fun uv=>?_));refine xe (x:=GG) 3 (uv.sb [0])<|Sx.lB 4 [] u1 (aF N) Xu a2 (uv.sb [0])<|Sx.lB 5 [] u2 (bY [32,40,102,110,32,117,32,61,62,32]) U2 a3 (uv.sb [0])<|Sx.lB 10 [] u3 (eW A B Q i) U3 a4 (uv.sb [0])<|Sx.lB 11 [] u4 (bY [41]) hu5 a5 (uv.sb [0])<|xg ?_;intro Kr;refine yp 12 17 ?_ ?_
         · refine x0 0 [] uv (fun Hp R hZ=>du u5 Y6 R Hp t Aw (fun st6 WW NA=>hZ _ _ _ NA fun uw=>?_));refine xe (x:=Kr) 12 (uw.sb [0])<|xm [(13,none),(14,none),(15,none)] (uw.sb [0])<|xg ?_;intro O0;refine xi 17<|xf 0 uw fun k14 w51 qM=>xe (x:=O0) 17 (qM.sb [0])<|xg ?_;intro O1;refine xi 18<|xd 0 2 qM fun w52 zf=>xe (x:=O1) 18 (zf.sb [0])<|xg ?_;intro O2;refine xi 19<|xd 0 3 zf fun w53 kS=>xe (x:=O2) 19 (kS.sb [0])<|xt ?_;exact xj 0 _ (nh _ _ _ ⟨KP,k14,st6,rfl,kS.pk [2,2,0,0]⟩)
         refine xf 0 uv fun ND Y7 u6=>xe (x:=Kr) 17 (u6.sb [0])<|xg ?_;intro O3;refine xi 12 ?_;refine x0 0 [] u6 (fun Hp R hZ=>du u5 Y7 R Hp t Aw (fun st7 Y8 NB=>hZ _ _ _ NB fun Dq=>?_));refine xe (x:=O3) 12 (Dq.sb [0])<|xm [(13,none),(14,none),(15,none)] (Dq.sb [0])<|xg ?_;intro O4;refine xi 18<|xd 0 2 Dq fun w56 su=>xe (x:=O4) 18 (su.sb [0])<|xg ?_;intro O5;refine xi 19<|xd 0 3 su fun w57 z6=>xe (x:=O5) 19 (z6.sb [0])<|xt ?_;exact xj 0 _ (nh _ _ _ ⟨KP,ND,st7,rfl,z6.pk [2,2,0,0]⟩)
       refine xf 0 ss fun k16 w58 sx=>xe (x:=GG) 17 (sx.sb [0])<|xg ?_;intro O6;refine xi 3 ?_;refine x0 0 [] sx (fun Hp R hZ=>fu N w58 R Hp (gO _ hN.1) (fun w59 R8=>hZ _ _ _ R8 fun zg=>?_));refine xe (x:=O6) 3 (zg.sb [0])<|Sx.lB 4 [] u1 (aF N) Xu a2 (zg.sb [0])<|Sx.lB 5 [] u2 (bY [32,40,102,110,32,117,32,61,62,32]) U2 a3 (zg.sb [0])<|Sx.lB 10 [] u3 (eW A B Q i) U3 a4 (zg.sb [0])<|Sx.lB 11 [] u4 (bY [41]) hu5 a5 (zg.sb [0])<|xg ?_;intro O7;refine xi 12 ?_;refine x0 0 [] zg (fun Hp R hZ=>du u5 w59 R Hp t Aw (fun st8 w60 R9=>hZ _ _ _ R9 fun EI=>?_));refine xe (x:=O7) 12 (EI.sb [0])<|xm [(13,none),(14,none),(15,none)] (EI.sb [0])<|xg ?_;intro O8;refine xi 18<|xd 0 2 EI fun w61 u7=>xe (x:=O8) 18 (u7.sb [0])<|xg ?_;intro O9;refine xi 19<|xd 0 3 u7 fun w62 ux=>xe (x:=O9) 19 (ux.sb [0])<|xt ?_;exact xj 0 _ (nh _ _ _ ⟨KP,k16,st8,rfl,ux.pk [2,2,0,0]⟩)
     refine xf 0 cC fun UF w63 wz=>xe (x:=gy) 17 (wz.sb [0])<|xg ?_;intro Ks;refine yp 3 16 ?_ ?_
     · refine x0 0 [] wz (fun Hp R hZ=>fu N w63 R Hp (gO _ hN.1) (fun Y9 R_=>hZ _ _ _ R_ fun tQ=>?_));refine xe (x:=Ks) 3 (tQ.sb [0])<|Sx.lB 4 [] u1 (aF N) Xu a2 (tQ.sb [0])<|Sx.lB 5 [] u2 (bY [32,40,102,110,32,117,32,61,62,32]) U2 a3 (tQ.sb [0])<|Sx.lB 10 [] u3 (eW A B Q i) U3 a4 (tQ.sb [0])<|Sx.lB 11 [] u4 (bY [41]) hu5 a5 (tQ.sb [0])<|xg ?_;intro Kv;refine yp 12 16 ?_ ?_
       · refine x0 0 [] tQ (fun Hp R hZ=>du u5 Y9 R Hp t Aw (fun st9 w65 Sc=>hZ _ _ _ Sc fun RT=>?_));refine xe (x:=Kv) 12 (RT.sb [0])<|xm [(13,none),(14,none),(15,none)] (RT.sb [0])<|xg ?_;intro O_;refine xi 16<|xf 0 RT fun k18 w66 HI=>xe (x:=O_) 16 (HI.sb [0])<|xg ?_;intro Pa;refine xi 18<|xd 0 3 HI fun w67 FB=>xe (x:=Pa) 18 (FB.sb [0])<|xg ?_;intro Pb;refine xi 19<|xd 0 2 FB fun w68 JF=>xe (x:=Pb) 19 (JF.sb [0])<|xt ?_;exact xj 0 _ (nh _ _ _ ⟨k18,UF,st9,rfl,JF.pk [3,2,0,0]⟩)
       refine xf 0 tQ fun UG w69 Bj=>xe (x:=Kv) 16 (Bj.sb [0])<|xg ?_;intro Pc;refine xi 12 ?_;refine x0 0 [] Bj (fun Hp R hZ=>du u5 w69 R Hp t Aw (fun ajF w70 Sf=>hZ _ _ _ Sf fun NF=>?_));refine xe (x:=Pc) 12 (NF.sb [0])<|xm [(13,none),(14,none),(15,none)] (NF.sb [0])<|xg ?_;intro Pd;refine xi 18<|xd 0 3 NF fun w71 Qh=>xe (x:=Pd) 18 (Qh.sb [0])<|xg ?_;intro X_;refine xi 19<|xd 0 2 Qh fun w72 NG=>xe (x:=X_) 19 (NG.sb [0])<|xt ?_;exact xj 0 _ (nh _ _ _ ⟨UG,UF,ajF,rfl,NG.pk [3,2,0,0]⟩)
     refine xf 0 wz fun k20 w73 Qi=>xe (x:=Ks) 16 (Qi.sb [0])<|xg ?_;intro Ya;refine xi 3 ?_;refine x0 0 [] Qi (fun Hp R hZ=>fu N w73 R Hp (gO _ hN.1) (fun w74 Si=>hZ _ _ _ Si fun JS=>?_));refine xe (x:=Ya) 3 (JS.sb [0])<|Sx.lB 4 [] u1 (aF N) Xu a2 (JS.sb [0])<|Sx.lB 5 [] u2 (bY [32,40,102,110,32,117,32,61,62,32]) U2 a3 (JS.sb [0])<|Sx.lB 10 [] u3 (eW A B Q i) U3 a4 (JS.sb [0])<|Sx.lB 11 [] u4 (bY [41]) hu5 a5 (JS.sb [0])<|xg ?_;intro Yb;refine xi 12 ?_;refine x0 0 [] JS (fun Hp R hZ=>du u5 w74 R Hp t Aw (fun ajG w75 WY=>hZ _ _ _ WY fun EN=>?_));refine xe (x:=Yb) 12 (EN.sb [0])<|xm [(13,none),(14,none),(15,none)] (EN.sb [0])<|xg ?_;intro Yc;refine xi 18<|xd 0 3 EN fun w76 DK=>xe (x:=Yc) 18 (DK.sb [0])<|xg ?_;intro ajH;refine xi 19<|xd 0 2 DK fun w77 Sj=>xe (x:=ajH) 19 (Sj.sb [0])<|xt ?_;exact xj 0 _ (nh _ _ _ ⟨k20,UF,ajG,rfl,Sj.pk [3,2,0,0]⟩)
   obtain⟨ob,fb,s1,rfl,Sk⟩:=Dy;refine yd 0 (fun l' w'=>∃(oc:Nat) (fc:Nat) (s2:Int),l'=[(0,.n N),(9,.string T),(11,.slice (some ⟨k1,0,none⟩) 4 4),(12,.slice (some ⟨k2,0,none⟩) 4 4),(13,.n i),(14,.p ob),(15,.p fb),(16,.p oc),(17,.p fc)]∧Hs w L0 w' [.al oc (.cells #[.int .i64 1,.string eB,.string t,.int .i64 s2] 32),.al fc (.cells #[.int .i64 0,.int .i64 0] 35),.al ob (.cells #[.int .i64 1,.string eB,.string t,.int .i64 s1] 32),.al fb (.cells #[.int .i64 0,.int .i64 0] 35),.al k1 (.cells #[.string (eW A B Q 0),.string (eW A B Q 1),.string (eW A B Q 2),.string (eW A B Q 3)] 9),.al k2 (.cells #[.string (eX A B Q 0),.string (eX A B Q 1),.string (eX A B Q 2),.string (eX A B Q 3)] 9)]) (fun K5 wH=>?_) (fun b7 l5 w78 WM=>?_)
   · refine xw 0 Sk [3] [] (LJ:=[.al k2 (.cells #[.string (eX A B Q 0),.string (eX A B Q 1),.string (eX A B Q 2),.string (eX A B Q 3)] 9)]) (by kernel_rfl) fun w79 EO=>?_;refine xm [(0,none)] (EO.sb [3])<|Sx.lB 1 [] T (bY [32,109,97,105,110,32,61,32,115,116,97,116,101,32]) Qm b1 (EO.sb [3])<|xm [(2,none),(6,none),(7,none)] (EO.sb [3])<|yi 8 [] (⟨k2,0,none⟩) i 1 4 4 rfl (by omega) (EO.sb [3])<|yg (c:=1) (t:=9) 9 [] [.string (eX A B Q i)] (.string (eX A B Q i)) (fun w' hs=>(ade (t:=9) (eX A B Q) (Go.aS.cQ hs 0 (it:=.al k2 (.cells #[.string (eX A B Q 0),.string (eX A B Q 1),.string (eX A B Q 2),.string (eX A B Q 3)] 9)) (by kernel_rfl)) hi4)) (EO.sb [3])<|xg ?_;intro Yi;refine Sx.on3 3 16 17 ?_ ?_ ?_
     · refine x0 0 [] EO (fun Hp R hZ=>fu N w79 R Hp (gO _ hN.1) (fun w80 W0=>hZ _ _ _ W0 fun GH=>?_));refine xe (x:=Yi) 3 (GH.sb [3])<|Sx.lB 4 [] v1 (aF N) Xp b2 (GH.sb [3])<|Sx.lB 5 [] v2 (bY [32,40,102,110,32,117,32,61,62,32]) Xq b3 (GH.sb [3])<|Sx.lB 10 [] v3 (eX A B Q i) hv4 b4 (GH.sb [3])<|Sx.lB 11 [] v4 (bY [41]) hv5 b5 (GH.sb [3])<|xg ?_;intro Yj;refine Sx.on3 12 16 17 ?_ ?_ ?_
       · refine x0 0 [] GH (fun Hp R hZ=>du v5 w80 R Hp t yU (fun adk w81 W1=>hZ _ _ _ W1 fun JT=>?_));refine xe (x:=Yj) 12 (JT.sb [3])<|xm [(13,none),(14,none),(15,none)] (JT.sb [3])<|xg ?_;intro adl;refine yp 16 17 ?_ ?_
         · refine xf 0 JT fun k21 w82 Qj=>?_;refine xe (x:=adl) 16 (Qj.sb [3])<|xg ?_;intro ajI;refine xi 17<|xf 0 Qj fun k22 w83 Qk=>xe (x:=ajI) 17 (Qk.sb [3])<|xg ?_;intro ajJ;refine xi 18<|xd 0 4 Qk fun w84 NH=>xe (x:=ajJ) 18 (NH.sb [3])<|xg ?_;intro ajK;refine xi 19<|xd 0 5 NH fun w85 Ql=>xe (x:=ajK) 19 (Ql.sb [3])<|xt ?_;exact xj 0 _ (wH _ _ _ ⟨k21,k22,adk,rfl,Ql.pk [4,4,0,0,0,0]⟩)
         refine xf 0 JT fun UH w86 BE=>xe (x:=adl) 17 (BE.sb [3])<|xg ?_;intro ajL;refine xi 16<|xf 0 BE fun k24 w87 rL=>xe (x:=ajL) 16 (rL.sb [3])<|xg ?_;intro ajM;refine xi 18<|xd 0 5 rL fun w88 o_=>xe (x:=ajM) 18 (o_.sb [3])<|xg ?_;intro ajN;refine xi 19<|xd 0 4 o_ fun w89 wZ=>xe (x:=ajN) 19 (wZ.sb [3])<|xt ?_;exact xj 0 _ (wH _ _ _ ⟨k24,UH,adk,rfl,wZ.pk [5,4,0,0,0,0]⟩)
       · refine xf 0 GH fun k25 w90 xB=>?_;refine xe (x:=Yj) 16 (xB.sb [3])<|xg ?_;intro adm;refine yp 12 17 ?_ ?_
         · refine x0 0 [] xB (fun Hp R hZ=>du v5 w90 R Hp t yU (fun ajO w91 G31=>hZ _ _ _ G31 fun xC=>?_));refine xe (x:=adm) 12 (xC.sb [3])<|xm [(13,none),(14,none),(15,none)] (xC.sb [3])<|xg ?_;intro ajP;refine xi 17<|xf 0 xC fun k26 w92 DM=>xe (x:=ajP) 17 (DM.sb [3])<|xg ?_;intro ajQ;refine xi 18<|xd 0 4 DM fun w93 Pe=>xe (x:=ajQ) 18 (Pe.sb [3])<|xg ?_;intro ajR;refine xi 19<|xd 0 5 Pe fun w94 FR=>xe (x:=ajR) 19 (FR.sb [3])<|xt ?_;exact xj 0 _ (wH _ _ _ ⟨k25,k26,ajO,rfl,FR.pk [4,4,0,0,0,0]⟩)
         refine xf 0 xB fun k27 w95 JV=>xe (x:=adm) 17 (JV.sb [3])<|xg ?_;intro ajS;refine xi 12 ?_;refine x0 0 [] JV (fun Hp R hZ=>du v5 w95 R Hp t yU (fun ajT w96 G32=>hZ _ _ _ G32 fun DN=>?_));refine xe (x:=ajS) 12 (DN.sb [3])<|xm [(13,none),(14,none),(15,none)] (DN.sb [3])<|xg ?_;intro ajU;refine xi 18<|xd 0 4 DN fun w97 BF=>xe (x:=ajU) 18 (BF.sb [3])<|xg ?_;intro ajV;refine xi 19<|xd 0 5 BF fun w98 JW=>xe (x:=ajV) 19 (JW.sb [3])<|xt ?_;exact xj 0 _ (wH _ _ _ ⟨k25,k27,ajT,rfl,JW.pk [4,4,0,0,0,0]⟩)
       refine xf 0 GH fun k28 w99 FT=>xe (x:=Yj) 17 (FT.sb [3])<|xg ?_;intro adn;refine yp 12 16 ?_ ?_
       · refine x0 0 [] FT (fun Hp R hZ=>du v5 w99 R Hp t yU (fun ajW arF G33=>hZ _ _ _ G33 fun JX=>?_));refine xe (x:=adn) 12 (JX.sb [3])<|xm [(13,none),(14,none),(15,none)] (JX.sb [3])<|xg ?_;intro ajX;refine xi 16<|xf 0 JX fun k29 arH Sl=>xe (x:=ajX) 16 (Sl.sb [3])<|xg ?_;intro ajY;refine xi 18<|xd 0 5 Sl fun arI NI=>xe (x:=ajY) 18 (NI.sb [3])<|xg ?_;intro ajZ;refine xi 19<|xd 0 4 NI fun arJ ado=>xe (x:=ajZ) 19 (ado.sb [3])<|xt ?_;exact xj 0 _ (wH _ _ _ ⟨k29,k28,ajW,rfl,ado.pk [5,4,0,0,0,0]⟩)
       refine xf 0 FT fun k30 aj0 adp=>xe (x:=adn) 16 (adp.sb [3])<|xg ?_;intro aj1;refine xi 12 ?_;refine x0 0 [] adp (fun Hp R hZ=>du v5 aj0 R Hp t yU (fun aj2 arL G34=>hZ _ _ _ G34 fun Yk=>?_));refine xe (x:=aj1) 12 (Yk.sb [3])<|xm [(13,none),(14,none),(15,none)] (Yk.sb [3])<|xg ?_;intro aj3;refine xi 18<|xd 0 5 Yk fun arM adq=>xe (x:=aj3) 18 (adq.sb [3])<|xg ?_;intro aj4;refine xi 19<|xd 0 4 adq fun arO adr=>xe (x:=aj4) 19 (adr.sb [3])<|xt ?_;exact xj 0 _ (wH _ _ _ ⟨k30,k28,aj2,rfl,adr.pk [5,4,0,0,0,0]⟩)
     · refine xf 0 EO fun k31 aj6 Yl=>?_;refine xe (x:=Yi) 16 (Yl.sb [3])<|xg ?_;intro ads;refine yp 3 17 ?_ ?_
       · refine x0 0 [] Yl (fun Hp R hZ=>fu N aj6 R Hp (gO _ hN.1) (fun aj7 G35=>hZ _ _ _ G35 fun GR=>?_));refine xe (x:=ads) 3 (GR.sb [3])<|Sx.lB 4 [] v1 (aF N) Xp b2 (GR.sb [3])<|Sx.lB 5 [] v2 (bY [32,40,102,110,32,117,32,61,62,32]) Xq b3 (GR.sb [3])<|Sx.lB 10 [] v3 (eX A B Q i) hv4 b4 (GR.sb [3])<|Sx.lB 11 [] v4 (bY [41]) hv5 b5 (GR.sb [3])<|xg ?_;intro adt;refine yp 12 17 ?_ ?_
         · refine x0 0 [] GR (fun Hp R hZ=>du v5 aj7 R Hp t yU (fun aj8 arP G36=>hZ _ _ _ G36 fun Ym=>?_));refine xe (x:=adt) 12 (Ym.sb [3])<|xm [(13,none),(14,none),(15,none)] (Ym.sb [3])<|xg ?_;intro aj9;refine xi 17<|xf 0 Ym fun k32 arR adu=>xe (x:=aj9) 17 (adu.sb [3])<|xg ?_;intro aj_;refine xi 18<|xd 0 4 adu fun arS adv=>xe (x:=aj_) 18 (adv.sb [3])<|xg ?_;intro aka;refine xi 19<|xd 0 5 adv fun arT adw=>xe (x:=aka) 19 (adw.sb [3])<|xt ?_;exact xj 0 _ (wH _ _ _ ⟨k31,k32,aj8,rfl,adw.pk [4,4,0,0,0,0]⟩)
         refine xf 0 GR fun k33 akb adx=>xe (x:=adt) 17 (adx.sb [3])<|xg ?_;intro akc;refine xi 12 ?_;refine x0 0 [] adx (fun Hp R hZ=>du v5 akb R Hp t yU (fun akd arV G37=>hZ _ _ _ G37 fun Yn=>?_));refine xe (x:=akc) 12 (Yn.sb [3])<|xm [(13,none),(14,none),(15,none)] (Yn.sb [3])<|xg ?_;intro ake;refine xi 18<|xd 0 4 Yn fun arW ady=>xe (x:=ake) 18 (ady.sb [3])<|xg ?_;intro akf;refine xi 19<|xd 0 5 ady fun arX adz=>xe (x:=akf) 19 (adz.sb [3])<|xt ?_;exact xj 0 _ (wH _ _ _ ⟨k31,k33,akd,rfl,adz.pk [4,4,0,0,0,0]⟩)
       refine xf 0 Yl fun k34 akg adA=>xe (x:=ads) 17 (adA.sb [3])<|xg ?_;intro akh;refine xi 3 ?_;refine x0 0 [] adA (fun Hp R hZ=>fu N akg R Hp (gO _ hN.1) (fun aki G38=>hZ _ _ _ G38 fun Ky=>?_));refine xe (x:=akh) 3 (Ky.sb [3])<|Sx.lB 4 [] v1 (aF N) Xp b2 (Ky.sb [3])<|Sx.lB 5 [] v2 (bY [32,40,102,110,32,117,32,61,62,32]) Xq b3 (Ky.sb [3])<|Sx.lB 10 [] v3 (eX A B Q i) hv4 b4 (Ky.sb [3])<|Sx.lB 11 [] v4 (bY [41]) hv5 b5 (Ky.sb [3])<|xg ?_;intro akj;refine xi 12 ?_;refine x0 0 [] Ky (fun Hp R hZ=>du v5 aki R Hp t yU (fun akk arZ G39=>hZ _ _ _ G39 fun Yo=>?_));refine xe (x:=akj) 12 (Yo.sb [3])<|xm [(13,none),(14,none),(15,none)] (Yo.sb [3])<|xg ?_;intro akl;refine xi 18<|xd 0 4 Yo fun ar0 adB=>xe (x:=akl) 18 (adB.sb [3])<|xg ?_;intro akm;refine xi 19<|xd 0 5 adB fun ar1 adC=>xe (x:=akm) 19 (adC.sb [3])<|xt ?_;exact xj 0 _ (wH _ _ _ ⟨k31,k34,akk,rfl,adC.pk [4,4,0,0,0,0]⟩)
     refine xf 0 EO fun k35 ako Yp=>xe (x:=Yi) 17 (Yp.sb [3])<|xg ?_;intro adD;refine yp 3 16 ?_ ?_
     · refine x0 0 [] Yp (fun Hp R hZ=>fu N ako R Hp (gO _ hN.1) (fun akp G40=>hZ _ _ _ G40 fun GS=>?_));refine xe (x:=adD) 3 (GS.sb [3])<|Sx.lB 4 [] v1 (aF N) Xp b2 (GS.sb [3])<|Sx.lB 5 [] v2 (bY [32,40,102,110,32,117,32,61,62,32]) Xq b3 (GS.sb [3])<|Sx.lB 10 [] v3 (eX A B Q i) hv4 b4 (GS.sb [3])<|Sx.lB 11 [] v4 (bY [41]) hv5 b5 (GS.sb [3])<|xg ?_;intro adE;refine yp 12 16 ?_ ?_
       · refine x0 0 [] GS (fun Hp R hZ=>du v5 akp R Hp t yU (fun akq ar2 G41=>hZ _ _ _ G41 fun Yq=>?_));refine xe (x:=adE) 12 (Yq.sb [3])<|xm [(13,none),(14,none),(15,none)] (Yq.sb [3])<|xg ?_;intro akr;refine xi 16<|xf 0 Yq fun k36 ar4 adF=>xe (x:=akr) 16 (adF.sb [3])<|xg ?_;intro aks;refine xi 18<|xd 0 5 adF fun ar5 adG=>xe (x:=aks) 18 (adG.sb [3])<|xg ?_;intro akt;refine xi 19<|xd 0 4 adG fun ar6 adH=>xe (x:=akt) 19 (adH.sb [3])<|xt ?_;exact xj 0 _ (wH _ _ _ ⟨k36,k35,akq,rfl,adH.pk [5,4,0,0,0,0]⟩)
       refine xf 0 GS fun k37 aku adI=>xe (x:=adE) 16 (adI.sb [3])<|xg ?_;intro akv;refine xi 12 ?_;refine x0 0 [] adI (fun Hp R hZ=>du v5 aku R Hp t yU (fun akw ar8 G42=>hZ _ _ _ G42 fun Yr=>?_));refine xe (x:=akv) 12 (Yr.sb [3])<|xm [(13,none),(14,none),(15,none)] (Yr.sb [3])<|xg ?_;intro akx;refine xi 18<|xd 0 5 Yr fun ar9 adJ=>xe (x:=akx) 18 (adJ.sb [3])<|xg ?_;intro aky;refine xi 19<|xd 0 4 adJ fun ar_ adK=>xe (x:=aky) 19 (adK.sb [3])<|xt ?_;exact xj 0 _ (wH _ _ _ ⟨k37,k35,akw,rfl,adK.pk [5,4,0,0,0,0]⟩)
     refine xf 0 Yp fun k38 akz adL=>xe (x:=adD) 16 (adL.sb [3])<|xg ?_;intro akA;refine xi 3 ?_;refine x0 0 [] adL (fun Hp R hZ=>fu N akz R Hp (gO _ hN.1) (fun akB G43=>hZ _ _ _ G43 fun Kz=>?_));refine xe (x:=akA) 3 (Kz.sb [3])<|Sx.lB 4 [] v1 (aF N) Xp b2 (Kz.sb [3])<|Sx.lB 5 [] v2 (bY [32,40,102,110,32,117,32,61,62,32]) Xq b3 (Kz.sb [3])<|Sx.lB 10 [] v3 (eX A B Q i) hv4 b4 (Kz.sb [3])<|Sx.lB 11 [] v4 (bY [41]) hv5 b5 (Kz.sb [3])<|xg ?_;intro akC;refine xi 12 ?_;refine x0 0 [] Kz (fun Hp R hZ=>du v5 akB R Hp t yU (fun akD asb G44=>hZ _ _ _ G44 fun Ys=>?_));refine xe (x:=akC) 12 (Ys.sb [3])<|xm [(13,none),(14,none),(15,none)] (Ys.sb [3])<|xg ?_;intro akE;refine xi 18<|xd 0 5 Ys fun asc adM=>xe (x:=akE) 18 (adM.sb [3])<|xg ?_;intro akF;refine xi 19<|xd 0 4 adM fun asd adN=>xe (x:=akF) 19 (adN.sb [3])<|xt ?_;exact xj 0 _ (wH _ _ _ ⟨k38,k35,akD,rfl,adN.pk [5,4,0,0,0,0]⟩)
   obtain⟨oc,fc,s2,rfl,GU⟩:=WM;refine xb 3 3 GU<|xb 3 1 GU<|xb 4 2 GU<|xb 4 0 GU<|xb 4 2 GU<|xb 1 0 GU ?_;refine xp 0 (.bool (!(t.toList==t.toList))) (.bool false) (ajE t)<|xq 3 (.code (Sx.ct 523559 Tryz.f5)) [.al 1,.code (Sx.ct 32723 Tryz.f5),.to K3,.al 0,.code (Sx.ct 1023 Tryz.f5)] [(0,.n N),(9,.string T),(11,.slice (some ⟨k1,0,none⟩) 4 4),(12,.slice (some ⟨k2,0,none⟩) 4 4),(13,.n i),(135,.bool false)] fun b8=>Sx.vi 6 ((i:Int)+(1:Int)) ((i+1:Nat):Int) (Gx.bj (by omega) (by omega)) ?_;exact xj 2 _ (lX _ _ _ _ (by omega) ⟨(i+1),rfl,rfl,GU.pk [4,4],(by omega)⟩)
 refine xp 4 (.bool (decide ((i:Int)<(4:Int)))) (.bool false) (dF (by omega))<|xq 2 (.code (Sx.ct 32721 Tryz.f5)) [.code (Sx.ct 16361 Tryz.f5),.to K3,.al 0,.code (Sx.ct 1023 Tryz.f5)] [(0,.n N),(9,.string T),(11,.slice (some ⟨k1,0,none⟩) 4 4),(12,.slice (some ⟨k2,0,none⟩) 4 4),(13,.n i),(76,.bool false)] fun b9=>xh 12 [] cj (.bool true) ?_;subst ak;exact hK _ (cj.pk [])
end Mr
end Go.Proofs.YtdmdecgoebnamaaGreat
namespace Go.fO.N
open Go.Lex Go.fO
open Go.Gx (ae)
def Yt(I:Rs→ByteArray→Bool)(q:Rs):Bool:=okB q&&(((q.k:Int)==(2:Int))||((q.k:Int)==(1:Int))||I q (bY [126])||I q (bY [116,114,117,101])||I q (bY [102,97,108,115,101])||I q (bY [40])||I q (bY [91]))
def aO(I:Rs→ByteArray→Bool)(N:Rs→Rs)(q:Rs)(s:ByteArray):Rs:=if I q s=true then N q else q
def aK(I:Rs→ByteArray→Bool)(N:Rs→Rs)(q:Rs)(s:ByteArray):Rs:=if I q s=true then N q else qh q
def bK(I:Rs→ByteArray→Bool)(N:Rs→Rs)(q:Rs):(ByteArray×Nat)×Rs:=if eu q=true then((q.t,q.a),N q) else(((bY []),0),qh q)
section
variable (I:Rs→ByteArray→Bool) (N:Rs→Rs) (R:NT→Rs→Nd×Rs)
def Ew(a:Nd)(q1:Rs):Nd×Rs:=
 let q2:=aO I N q1 (bY [45,62])
 if I q1 (bY [45,62])=true then
   let r:=R .qQ q2
   (.mk 29 a.a (bY []) 0 [a,r.1],r.2)
 else
   let q3:=aO I N q2 (bY [45])
   if I q2 (bY [45])=true then
     let q4:=aK I N q3 (bY [123])
     let r4:=R (.l_ []) q4
     let q5:=aK I N r4.2 (bY [125])
     let q6:=aK I N q5 (bY [45,62])
     let r6:=R .qQ q6
     (.mk 29 a.a (bY []) 0 ([a,r6.1]++r4.1.ks),r6.2)
   else(a,q3)
def vG(q:Rs):Nd×Rs:=
 if okB q=true then
   if decide ((q.y:Int)≥(200:Int))=true then(gF,{ q with fk:=5,fa:=q.a })
   else
     let r1:=R .pair { q with y:=q.y+1 }
     let r:=Ew I N R r1.1 r1.2
     (r.1,{ r.2 with y:=r.2.y-1 })
 else(gF,q)
def ma(l:List Nd)(q:Rs):Nd×Rs:=
 let r:=bK I N q
 let q1:=aO I N r.2 (bY [44])
 if I r.2 (bY [44])=true then R (.l_ (l++[.mk 23 r.1.2 r.1.1 0 []])) q1 else(.mk 0 0 (bY []) 0 (l++[.mk 23 r.1.2 r.1.1 0 []]),q1)
def vH(q:Rs):Nd×Rs:=
 let r1:=R .some q
 let q2:=aO I N r1.2 (bY [42])
 if I r1.2 (bY [42])=true then
   let r2:=R .pair q2
   (.mk 28 r1.1.a (bY []) 0 [r1.1,r2.1],r2.2)
 else(r1.1,q2)
def py(q:Rs):Nd×Rs:=
 let q1:=aO I N q (bY [105,110,116])
 if I q (bY [105,110,116])=true then R (.jn (.mk 24 q.a (bY []) 0 [])) q1 else
 let q2:=aO I N q1 (bY [98,111,111,108])
 if I q1 (bY [98,111,111,108])=true then R (.jn (.mk 25 q.a (bY []) 0 [])) q2 else
 let q3:=aO I N q2 (bY [117,110,105,116])
 if I q2 (bY [117,110,105,116])=true then R (.jn (.mk 26 q.a (bY []) 0 [])) q3 else
 let q4:=aO I N q3 (bY [40])
 if I q3 (bY [40])=true then
   let r:=R .qQ q4
   R (.jn r.1) (aK I N r.2 (bY [41]))
 else R (.jn gF) (qh q4)
def qj(a:Nd)(q:Rs):Nd×Rs:=
 let q1:=aO I N q (bY [108,105,115,116])
 if I q (bY [108,105,115,116])=true then R (.jn (.mk 27 a.a (bY []) 0 [a])) q1 else(a,q1)
def qT(q:Rs):Nd×Rs:=
 if okB q=true then
   if decide ((q.x:Int)≥(200:Int))=true then(gF,{ q with fk:=5,fa:=q.a })
   else
     let r1:=R .any { q with x:=q.x+1 }
     (r1.1,{ r1.2 with x:=r1.2.x-1 })
 else(gF,q)
def anyS(q:Rs):Nd×Rs:=
 let q1:=aO I N q (bY [108,101,116])
 if I q (bY [108,101,116])=true then R (.Jb q.a) q1 else
 let q2:=aO I N q1 (bY [102,110])
 if I q1 (bY [102,110])=true then
   let r:=R (.params (bY [61,62]) true) q2
   (.mk r.1.k q.a r.1.nm r.1.n r.1.ks,r.2)
 else
 let q3:=aO I N q2 (bY [105,102])
 if I q2 (bY [105,102])=true then
   let ra:=R .expr q3
   let qa:=aK I N ra.2 (bY [116,104,101,110])
   let rb:=R .expr qa
   let qb:=aK I N rb.2 (bY [101,108,115,101])
   let rc:=R .expr qb
   (.mk 11 q.a (bY []) 0 [ra.1,rb.1,rc.1],rc.2)
 else
 let q4:=aO I N q3 (bY [99,97,115,101])
 if I q3 (bY [99,97,115,101])=true then R (.cases q.a) q4 else
 if I q4 (bY [104,97,110,100,108,101])=true then R (.handle q.a) q4 else
 if I q4 (bY [115,104,97,108,108,111,119])=true then R (.handle q.a) q4 else
 let r:=R .comp q4
 let q5:=aO I N r.2 (bY [59])
 if I r.2 (bY [59])=true then
   let r2:=R .expr q5
   (.mk 10 r.1.a (bY []) 0 [r.1,r2.1],r2.2)
 else(r.1,q5)
def kQ(sign:ByteArray)(q:Rs):Nd×Rs:=
 let r:=bK I N q
 if okB r.2=true then
   let r2:=R (.params sign false) r.2
   (.mk 7 r.1.2 r.1.1 0 [r2.1],r2.2)
 else(gF,r.2)
def kE(sign:ByteArray)(first:Bool)(q:Rs):Nd×Rs:=
 if first=true then kQ I N R sign q else if eu q=true then kQ I N R sign q else R .expr (aK I N q sign)
def AR(at_:Nat)(n:Int)(f:Bool)(q1:Rs):Nd×Rs:=
 let r:=bK I N q1
 let r2:=R (.params (bY [61]) f) r.2
 let q3:=aK I N r2.2 (bY [105,110])
 let r4:=R .expr q3
 (.mk 9 at_ r.1.1 n [r2.1,r4.1],r4.2)
def E5(at_:Nat)(q:Rs):Nd×Rs:=
 let q1:=aO I N q (bY [114,101,99])
 if I q (bY [114,101,99])=true then AR I N R at_ 1 true q1 else AR I N R at_ 0 false q1
def sE(at_:Nat)(q:Rs):Nd×Rs:=
 let r:=R .expr q
 let q1:=aK I N r.2 (bY [111,102])
 let q2:=aK I N q1 (bY [91])
 let q3:=aK I N q2 (bY [93])
 let q4:=aK I N q3 (bY [61,62])
 let r5:=R .expr q4
 let q6:=aK I N r5.2 (bY [124])
 let r7:=bK I N q6
 let q8:=aK I N r7.2 (bY [58,58])
 let r9:=bK I N q8
 let sF:=aK I N r9.2 (bY [61,62])
 let ZS:=R .expr sF
 let Jc:=aK I N ZS.2 (bY [101,110,100])
 (.mk 17 at_ (bY []) 0 [r.1,r5.1,.mk 23 r7.1.2 r7.1.1 0 [],.mk 23 r9.1.2 r9.1.1 0 [],ZS.1],Jc)
def pB(at_:Nat)(n:Int)(q1:Rs):Nd×Rs:=
 let r:=R .expr q1
 let q2:=aK I N r.2 (bY [119,105,116,104])
 let q3:=aK I N q2 (bY [123])
 let q4:=aK I N q3 (bY [114,101,116,117,114,110])
 let r5:=bK I N q4
 let q6:=aK I N r5.2 (bY [61,62])
 let r7:=R .expr q6
 let r8:=R (.qR [r.1,.mk 21 q3.a r5.1.1 0 [r7.1]]) r7.2
 let q9:=aK I N r8.2 (bY [125])
 (.mk 20 at_ (bY []) n r8.1.ks,q9)
def mb(at_:Nat)(q:Rs):Nd×Rs:=
 let q1:=aO I N q (bY [104,97,110,100,108,101])
 if I q (bY [104,97,110,100,108,101])=true then pB I N R at_ 0 q1 else pB I N R at_ 1 (N q1)
def ql(l:List Nd)(q:Rs):Nd×Rs:=
 let q1:=aO I N q (bY [124])
 if I q (bY [124])=true then
   let r2:=bK I N q1
   let r3:=bK I N r2.2
   let r4:=bK I N r3.2
   let q5:=aK I N r4.2 (bY [61,62])
   let r6:=R .expr q5
   R (.qR (l++[.mk 22 r2.1.2 r2.1.1 0 [.mk 23 r3.1.2 r3.1.1 0 [],.mk 23 r4.1.2 r4.1.1 0 [],r6.1]])) r6.2
 else(.mk 0 0 (bY []) 0 l,q1)
def tE(q:Rs):Nd×Rs:=
 let r:=R .cons q
 let q1:=aO I N r.2 (bY [61,61])
 if I r.2 (bY [61,61])=true then
   let r2:=R .cons q1
   (two (bY [61,61]) r.1 r2.1,r2.2)
 else
 let q2:=aO I N q1 (bY [60])
 if I q1 (bY [60])=true then
   let r2:=R .cons q2
   (two (bY [60]) r.1 r2.1,r2.2)
 else(r.1,q2)
def vI(q:Rs):Nd×Rs:=
 let r:=R .sum q
 let q1:=aO I N r.2 (bY [58,58])
 if I r.2 (bY [58,58])=true then
   let r2:=R .cons q1
   (.mk 16 r.1.a (bY []) 0 [r.1,r2.1],r2.2)
 else(r.1,q1)
def Jd(q:Rs):Nd×Rs:=
 let r:=R .mul q
 R (.vF r.1) r.2
def tF(a:Nd)(q:Rs):Nd×Rs:=
 let q1:=aO I N q (bY [43])
 if I q (bY [43])=true then
   let r:=R .mul q1
   R (.vF (two q.t a r.1)) r.2
 else
 let q2:=aO I N q1 (bY [45])
 if I q1 (bY [45])=true then
   let r:=R .mul q2
   R (.vF (two q.t a r.1)) r.2
 else(a,q2)
def Je(q:Rs):Nd×Rs:=
 let r:=R .app q
 R (.mulL r.1) r.2
def vJ(a:Nd)(q:Rs):Nd×Rs:=
 let q1:=aO I N q (bY [42])
 if I q (bY [42])=true then
   let r:=R .app q1
   R (.mulL (two (bY [42]) a r.1)) r.2
 else(a,q1)
def AS(q:Rs):Nd×Rs:=
 let q1:=aO I N q (bY [100,111])
 if I q (bY [100,111])=true then
   let r:=bK I N q1
   let r2:=R .atom r.2
   (.mk 19 q.a r.1.1 0 [r2.1],r2.2)
 else
 let q2:=aO I N q1 (bY [102,115,116])
 if I q1 (bY [102,115,116])=true then
   let r:=R .atom q2
   (.mk 13 q.a (bY []) 0 [r.1],r.2)
 else
 let q3:=aO I N q2 (bY [115,110,100])
 if I q2 (bY [115,110,100])=true then
   let r:=R .atom q3
   (.mk 14 q.a (bY []) 0 [r.1],r.2)
 else
 let r:=R .atom q3
 R (.AQ r.1) r.2
def vK(a:Nd)(q:Rs):Nd×Rs:=
 if Yt I q=true then
   let r:=R .atom q
   R (.AQ (.mk 8 a.a (bY []) 0 [a,r.1])) r.2
 else(a,q)
def mV(q:Rs)(q1:Rs):Nd×Rs:=
 if okB q1=true then
   if((q1.k:Int) != (1:Int))=true then(.mk 3 q.a (bY []) (-(q1.n:Int)) [],N (qh q1))
   else(.mk 3 q.a (bY []) (-(q1.n:Int)) [],N q1)
 else(.mk 3 q.a (bY []) (-(q1.n:Int)) [],N q1)
def gT(q:Rs):Nd×Rs:=
 if okB q=true then
   if((q.k:Int)==(2:Int))=true then(.mk 6 q.a q.t 0 [],N q) else
   if((q.k:Int)==(1:Int))=true then(.mk 3 q.a (bY []) (q.n:Int) [],N q) else
   let q1:=aO I N q (bY [126])
   if I q (bY [126])=true then mV N q q1 else
   let q2:=aO I N q1 (bY [116,114,117,101])
   if I q1 (bY [116,114,117,101])=true then(.mk 4 q.a (bY []) 1 [],q2) else
   let q3:=aO I N q2 (bY [102,97,108,115,101])
   if I q2 (bY [102,97,108,115,101])=true then(.mk 4 q.a (bY []) 0 [],q3) else
   let q4:=aO I N q3 (bY [40])
   if I q3 (bY [40])=true then R (.round q.a) q4 else
   let q5:=aO I N q4 (bY [91])
   if I q4 (bY [91])=true then R (.qi q.a) q5 else
   (gF,qh q5)
 else(gF,q)
def nM(at_:Nat)(q:Rs):Nd×Rs:=
 let q1:=aO I N q (bY [41])
 if I q (bY [41])=true then(.mk 5 at_ (bY []) 0 [],q1) else
 let r:=R .expr q1
 let q2:=aO I N r.2 (bY [44])
 if I r.2 (bY [44])=true then
   let r2:=R .expr q2
   let q3:=aK I N r2.2 (bY [41])
   (.mk 12 at_ (bY []) 0 [r.1,r2.1],q3)
 else(r.1,aK I N q2 (bY [41]))
def mc(at_:Nat)(q:Rs):Nd×Rs:=
 let q1:=aO I N q (bY [93])
 if I q (bY [93])=true then(.mk 15 at_ (bY []) 0 [],q1) else
 let r:=R (.jx []) q1
 (AT at_ r.1.ks,aK I N r.2 (bY [93]))
def jL(l:List Nd)(q:Rs):Nd×Rs:=
 let r:=R .expr q
 let q1:=aO I N r.2 (bY [44])
 if I r.2 (bY [44])=true then R (.jx (l++[r.1])) q1 else(.mk 0 0 (bY []) 0 (l++[r.1]),q1)
def sG(l:List Nd)(at_:Nat)(n:Int)(q2:Rs):Nd×Rs:=
 let r:=bK I N q2
 let q3:=aK I N r.2 (bY [58])
 let ra:=R .qQ q3
 let q4:=aK I N ra.2 (bY [61,62])
 let rb:=R .qQ q4
 R (.opsL (l++[.mk 1 at_ r.1.1 n [ra.1,rb.1]])) rb.2
def qU(l:List Nd)(q:Rs):Nd×Rs:=
 if I q (bY [111,112])=true then
   let q1:=N q
   if I q1 (bY [111,110,99,101])=true then sG I N R l q.a 1 (N q1)
   else if I q1 (bY [109,97,110,121])=true then sG I N R l q.a 0 (N q1)
   else sG I N R l q.a 0 (qh q1)
 else(.mk 0 0 (bY []) (l.length:Int) l,q)
def pC(n0:Nat)(l:List Nd)(at_:Nat)(n:Int)(q2:Rs):Nd×Rs:=
 let r:=bK I N q2
 let r2:=R (.params (bY [61]) true) r.2
 R (.qS n0 (l++[.mk 2 at_ r.1.1 n [r2.1]])) r2.2
def nN(n0:Nat)(l:List Nd)(q:Rs):Nd×Rs:=
 if I q (bY [100,101,102])=true then
   let q1:=N q
   let q2:=aO I N q1 (bY [114,101,99])
   if I q1 (bY [114,101,99])=true then pC I N R n0 l q.a 1 q2 else pC I N R n0 l q.a 0 q2
 else(.mk 0 0 (bY []) (n0:Int) l,q)
def zL(q:Rs):Nd×Rs:=
 let r:=R (.opsL []) q
 let r2:=R (.qS r.1.ks.length r.1.ks) r.2
 let q3:=aK I N r2.2 (bY [109,97,105,110])
 let q4:=aK I N q3 (bY [61])
 let r5:=R .expr q4
 (.mk 0 0 (bY []) (r.1.ks.length:Int) (r2.1.ks++[r5.1]),r5.2)
def aB(nt:NT)(q:Rs):Nd×Rs:=
 match nt with
 |.qQ=>vG I N R q
 |.pair=>vH I N R q
 |.some=>py I N R q
 |.jn a=>qj I N R a q
 |.l_ l=>ma I N R l q
 |.expr=>qT R q
 |.any=>anyS I N R q
 |.params s f=>kE I N R s f q
 |.Jb a=>E5 I N R a q
 |.cases a=>sE I N R a q
 |.handle a=>mb I N R a q
 |.qR l=>ql I N R l q
 |.comp=>tE I N R q
 |.cons=>vI I N R q
 |.sum=>Jd R q
 |.vF a=>tF I N R a q
 |.mul=>Je R q
 |.mulL a=>vJ I N R a q
 |.app=>AS I N R q
 |.AQ a=>vK I R a q
 |.atom=>gT I N R q
 |.round a=>nM I N R a q
 |.qi a=>mc I N R a q
 |.jx l=>jL I N R l q
 |.prog=>zL I N R q
 |.opsL l=>qU I N R l q
 |.qS n l=>nN I N R n l q
end
def run(I:Rs→ByteArray→Bool)(N:Rs→Rs):Nat→NT→Rs→Nd×Rs
 |0=>fun _ q=>(gF,qh q)
 |k+1=>aB I N (run I N k)
theorem step_eq(S:ByteArray)(R:NT→Rs→Nd×Rs):Go.fO.aB S R=aB bw (bU S) R:=by
 funext nt q;cases nt<;>rfl
theorem run_eq(S:ByteArray)(k:Nat):Go.fO.run S k=run bw (bU S) k:=by
 induction k with
 |zero=>rfl
 |succ k ih=>show Go.fO.aB S (Go.fO.run S k)=aB bw (bU S) (run bw (bU S) k);rw[ih];exact step_eq S _
def Vi(a b:ByteArray):Bool:=a.data.toList==b.data.toList
theorem tz(a b:ByteArray):(a.toList==b.toList)=Vi a b:=by unfold Vi;rw[ByteArray.toList_eq,ByteArray.toList_eq]
def yG(q:Rs)(s:ByteArray):Bool:=(Nat.beq q.fk 0)&&(Nat.beq q.k 3||Nat.beq q.k 4)&&Vi q.t s
theorem mE(a b:Nat):((a:Int)==(b:Int))=Nat.beq a b:=by
 rw[Bool.eq_iff_iff,beq_iff_eq,Nat.beq_eq];omega
theorem Yu:bw=yG:=by
 funext q s;unfold bw yG okB;rw [tz];rw [← mE q.fk 0,←mE q.k 3,←mE q.k 4];rfl
def yH(p:UInt8→Bool)(s:ByteArray):Nat→Nat→Nat
 |0,k=>k
 |f+1,k=>if k<s.size&&p (ae s k) then yH p s f (k+1) else k
theorem lS(p:UInt8→Bool)(s:ByteArray):∀(f k:Nat),s.size≤k+f→yH p s f k=stop p s k
 |0,k,h=>by rw[yH,stop,dif_neg (by omega)]
 |f+1,k,h=>by
   rw[yH,stop];by_cases hc:k<s.size∧p (ae s k)=true
   · rw[dif_pos hc,if_pos (by simp[hc.1,hc.2]),lS p s f (k+1) (by omega)]
   · rw[dif_neg hc,if_neg (by simpa using hc)]
def AJ(s:ByteArray):Nat→Nat→Nat
 |0,k=>k
 |f+1,k=>if k<s.size then(if cY (ae s k) then AJ s f (k+1) else if Nat.beq (ae s k).toNat 35 then AJ s f (yH cE s s.size (k+1)) else k) else k
theorem sd(s:ByteArray):∀(f k:Nat),s.size≤k+f→AJ s f k=pass s k
 |0,k,h=>by rw[AJ,pass,dif_neg (by omega)]
 |f+1,k,h=>by
   rw[AJ,pass];by_cases hc:k<s.size
   · rw[if_pos hc,dif_pos hc];by_cases hb:cY (ae s k)=true
     · rw[if_pos hb,if_pos hb,sd s f (k+1) (by omega)]
     · rw[if_neg hb,if_neg hb];have h5:(((ae s k).toNat:Int)==35)=Nat.beq (ae s k).toNat 35:=mE (ae s k).toNat 35;by_cases he:Nat.beq (ae s k).toNat 35=true
       · rw[if_pos he,if_pos (by rw[← he];exact h5),lS cE s s.size (k+1) (by omega),sd s f _ (by have:=cy cE s (k+1);omega)]
       · rw[if_neg he,if_neg (by intro q;apply he;rw[← q];exact h5.symm)]
   · rw[if_neg hc,dif_neg hc]
def ZI(c:UInt8):Bool:=ax c||ah c
def IG(s:ByteArray):Bool:=eJ.any (fun x=>Vi s x)
theorem PG(s:ByteArray):nH s=IG s:=by unfold nH IG;congr 1;funext x;exact tz s x
def se(s:ByteArray):Bool:=((Vi s ⟨#[58,58]⟩||Vi s ⟨#[61,61]⟩)||Vi s ⟨#[61,62]⟩)||Vi s ⟨#[45,62]⟩
theorem GV(s:ByteArray):ij s=se s:=by unfold ij se;rw[tz,tz,tz,tz]
def ext(s:ByteArray)(a b:Nat):ByteArray:=⟨((s.data.toList.drop a).take (b-a)).toArray⟩
theorem yI(s:ByteArray)(a b:Nat):s.extract a b=ext s a b:=by
 unfold ext;have h:(s.extract a b).data=((s.data.toList.drop a).take (b-a)).toArray:=by
   rw[ByteArray.data_extract];apply Array.toList_inj.1;rw [Array.toList_extract]
 cases h':s.extract a b with
 |mk d=>rw[h'] at h;exact congrArg ByteArray.mk h
def adO(s:ByteArray)(j e:Nat):Nx:=if dq s j e then⟨1,j,⟨#[]⟩,ed s j (e-j),e,0,0⟩ else fault 3 j
def PH(s:ByteArray)(j e:Nat):Nx:=if 20<e-j then fault 3 j else⟨if IG (ext s j e) then 3 else 2,j,ext s j e,0,e,0,0⟩
def PI(s:ByteArray)(j:Nat):Nx:=if j+2≤s.size&&se (ext s j (j+2)) then⟨4,j,ext s j (j+2),0,j+2,0,0⟩ else⟨4,j,ext s j (j+1),0,j+1,0,0⟩
def PJ(s:ByteArray)(j:Nat):Nx:=
 if ah (ae s j) then adO s j (yH ah s s.size j) else if ax (ae s j) then PH s j (yH ZI s s.size j) else if mG (ae s j) then PI s j else fault 2 j
theorem Tx(s:ByteArray)(j:Nat):cx s j=PJ s j:=by
 unfold cx PJ;rw [lS ah s s.size j (by omega),lS ZI s s.size j (by omega)];congr 1;congr 1
 · unfold nameAt PH;simp only[PG,yI,gt_iff_lt];rfl
 · congr 1;unfold PI ch;rw [GV,yI];by_cases h:j+2≤s.size
   · have:decide (((j+2:Nat):Int)≤(s.size:Int))=true:=decide_eq_true (by omega);rw [this,Bool.true_and];simp only[h,decide_true,Bool.true_and];by_cases hl:se (ext s j (j+2))=true
     · simp[hl,yI]
     · simp[hl,yI]
   · have:decide (((j+2:Nat):Int)≤(s.size:Int))=false:=decide_eq_false (by omega);rw [this,Bool.false_and];simp [h,yI]
def Yv(s:ByteArray)(j:Nat):Nx:=if j<s.size then PJ s j else⟨0,s.size,⟨#[]⟩,0,s.size,0,0⟩
def PL(s:ByteArray)(i:Nat):Nx:=Yv s (AJ s s.size i)
theorem PM(s:ByteArray)(i:Nat):next s i=PL s i:=by
 unfold next PL Yv
 rw[sd s s.size i (by omega),Tx]
def D(s:ByteArray)(k:Nat):List UInt8:=s.data.toList.drop k
theorem oI{s:ByteArray}{k:Nat}(h:k<s.size):D s k=ae s k::D s (k+1):=by
 have h':k<s.data.toList.length:=by simpa using h
 unfold D ae;rw [List.drop_eq_getElem_cons h'];congr 1;have h2:k<s.data.size:=h;rw [Array.getElem?_eq_getElem h2];rfl
theorem IH{s:ByteArray}{k:Nat}(h:¬k<s.size):D s k=[]:=by
 unfold D
 exact List.drop_eq_nil_of_le (by have : s.data.toList.length = s.size := by simp
                                  omega)
def iR(p:UInt8→Bool):List UInt8→Nat
 |[]=>0
 |c::r=>if p c then iR p r+1 else 0
theorem Cp(p:UInt8→Bool)(s:ByteArray)(k:Nat):stop p s k=k+iR p (D s k):=by
 by_cases h:k<s.size
 · rw[oI h,stop];by_cases hp:p (ae s k)=true
   · rw[dif_pos ⟨h,hp⟩,Cp p s (k+1),iR,if_pos hp];omega
   · rw[dif_neg (fun q=>hp q.2),iR,if_neg hp];rfl
 · rw[IH h,stop,dif_neg (fun q=>h q.1)];rfl
termination_by s.size-k
def iS:List UInt8→Bool→Nat→Nat
 |[],_,k=>k
 |c::r,true,k=>if c.toNat=10 then iS r false (k+1) else iS r true (k+1)
 |c::r,false,k=>if cY c then iS r false (k+1) else if Nat.beq c.toNat 35 then iS r true (k+1) else k
theorem II(s:ByteArray)(k:Nat):pass s k=iS (D s k) false k∧pass s (stop cE s k)=iS (D s k) true k:=by
 by_cases h:k<s.size
 · have ih:=II s (k+1);rw [oI h];constructor
   · rw[pass,dif_pos h,iS];by_cases hb:cY (ae s k)=true
     · rw[if_pos hb,if_pos hb,ih.1]
     · rw[if_neg hb,if_neg hb];have h5:(((ae s k).toNat:Int)==35)=Nat.beq (ae s k).toNat 35:=mE (ae s k).toNat 35;by_cases he:Nat.beq (ae s k).toNat 35=true
       · rw[if_pos he,if_pos (by rw[← he];exact h5),ih.2]
       · rw[if_neg he,if_neg (by intro q;apply he;rw[← q];exact h5.symm)]
   · rw[iS];by_cases hn:(ae s k).toNat=10
     · rw[if_pos hn,stop,dif_neg (by intro q;have:=q.2;simp[cE,hn] at this),pass,dif_pos h,if_pos (by simp[cY,hn]),ih.1]
     · rw[if_neg hn,stop,dif_pos ⟨h,by simp[cE];exact_mod_cast hn⟩,ih.2]
 · rw[IH h];have:stop cE s k=k:=by rw[stop,dif_neg (fun q=>h q.1)]
   rw[this,pass,dif_neg h];exact ⟨rfl,rfl⟩
termination_by s.size-k
def GW:List UInt8→Nat→Nat→Nat
 |c::r,m+1,v=>GW r m (v*10+(c.toNat-48))
 |_,_,v=>v
theorem Em(s:ByteArray)(j:Nat):∀(m i v:Nat),j+i+m≤s.size→v=ed s j i→GW (D s (j+i)) m v=ed s j (i+m)
 |0,i,v,_,h=>by subst h;cases D s (j+i)<;>rfl
 |m+1,i,v,hs,h=>by
   rw[oI (by omega),GW,show j+i+1=j+(i+1) by omega,Em s j m (i+1) _ (by omega) (by rw[h];rfl)];congr 1;omega
def Vj(l:List UInt8):ByteArray:=⟨l.toArray⟩
def PO(l:List UInt8)(j:Nat):Nx:=match l with
 |[]=>fault 2 j
 |c::r=>
   if ah c then
     let m:=iR ah l
     let v:=GW l m 0
     if !(Nat.blt 1 m&&Nat.beq c.toNat 48)&&Nat.ble v 9223372036854775807 then⟨1,j,⟨#[]⟩,v,j+m,0,0⟩ else fault 3 j
   else if ax c then
     let m:=iR ZI l
     if Nat.blt 20 m then fault 3 j else⟨if IG (Vj (l.take m)) then 3 else 2,j,Vj (l.take m),0,j+m,0,0⟩
   else if mG c then
     match r with
     |[]=>⟨4,j,Vj [c],0,j+1,0,0⟩
     |d::_=>if se (Vj [c,d]) then⟨4,j,Vj [c,d],0,j+2,0,0⟩ else⟨4,j,Vj [c],0,j+1,0,0⟩
   else fault 2 j
theorem TD(p:UInt8→Bool)(l:List UInt8):iR p l≤l.length:=by
 induction l with
 |nil=>exact Nat.le_refl _
 |cons c r ih=>unfold iR;split<;>simp<;>omega
theorem adP(s:ByteArray)(k:Nat):(D s k).length=s.size-k:=by
 unfold D;rw[List.length_drop];rfl
theorem TE{s:ByteArray}{j:Nat}(h:j<s.size):PJ s j=PO (D s j) j:=by
 have hc:=oI h;rw [hc,PO.eq_def];simp only;rw [← hc];unfold PJ;rw [lS ah s s.size j (by omega),lS ZI s s.size j (by omega),Cp,Cp];have hl:=adP s j;have e1:∀m,j+m-j=m:=fun m=>by omega
 congr 1
 · unfold adO dq;have hv : ed s j (iR ah (D s j)) = GW (D s j) (iR ah (D s j)) 0 := by
     have:=Em s j (iR ah (D s j)) 0 0 (by have:=TD ah (D s j);omega) rfl;rw [Nat.add_zero,Nat.zero_add] at this;exact this.symm
   rw[e1,hv];have a1:decide (iR ah (D s j)>1)=Nat.blt 1 (iR ah (D s j)):=by rw[Bool.eq_iff_iff,decide_eq_true_eq,Nat.blt_eq]
   have a2:((ae s j).toNat==48)=Nat.beq (ae s j).toNat 48:=by rw[Bool.eq_iff_iff,beq_iff_eq,Nat.beq_eq]
   have a3:decide (GW (D s j) (iR ah (D s j)) 0≤fW)=Nat.ble (GW (D s j) (iR ah (D s j)) 0) 9223372036854775807:=by rw[Bool.eq_iff_iff,decide_eq_true_eq,Nat.ble_eq];rfl
   rw[a1,a2,a3]
 · congr 1
   · unfold PH ext Vj;rw [e1];have a1:(20<iR ZI (D s j))=(Nat.blt 20 (iR ZI (D s j))=true):=by rw[Nat.blt_eq]
     simp only[a1];rfl
   · congr 1;unfold PI ext Vj;have e2:(s.data.toList.drop j)=D s j:=rfl;rw [e2,show j+2-j=2 by omega,show j+1-j=1 by omega,hc];by_cases h2:j+1<s.size
     · rw[oI h2];have:decide (j+2≤s.size)=true:=decide_eq_true (by omega);rw [this,Bool.true_and];rfl
     · rw[IH h2];have:decide (j+2≤s.size)=false:=decide_eq_false (by omega);rw [this,Bool.false_and];rfl
def yJ(l:List UInt8)(n i:Nat):Nx:=
 let j:=iS (l.drop i) false i
 match l.drop j with
 |[]=>⟨0,n,⟨#[]⟩,0,n,0,0⟩
 |c::r=>PO (c::r) j
theorem PQ(s:ByteArray)(i:Nat):next s i=yJ s.data.toList s.size i:=by
 rw[PM];unfold PL Yv yJ;rw [sd s s.size i (by omega),(II s i).1];have e:(s.data.toList.drop (iS (s.data.toList.drop i) false i))=D s (iS (D s i) false i):=rfl;simp only[e];by_cases h:iS (D s i) false i<s.size
 · rw[if_pos h,TE h,oI h];rfl
 · rw[if_neg h,IH h]
end Go.fO.N
