/- A part of the proof. -/
import Derived.Test.YtdmdecgoebnamaaGreatYb
import Derived.Test.YtdmdecgoebnamaaGreatInfSet
import Derived.Test.YtdmdecgoebnamaaGreatInf23
import Derived.Test.YtdmdecgoebnamaaGreatRe6
import Derived.Test.YtdmdecgoebnamaaGreatMw8
import Derived.Test.YtdmdecgoebnamaaGreatSx7
import Derived.Test.YtdmdecgoebnamaaGreatMd
import Derived.Shelf.Strings.Builder1
import Derived.Shelf.Strings.Builder2
import Derived.Shelf.Strings.OnBuilder
import Derived.Shelf.Strings.BuilderF
import Derived.Shelf.Strings.BuilderK
import Derived.Shelf.Strings.Builder2Cap
import Derived.Test.YtdmdecgoebnamaaGreatProg
import Derived.KernelRfl
set_option linter.unusedVariables false
set_option linter.unusedSimpArgs false
namespace Go.Proofs.YtdmdecgoebnamaaGreat
open Go.RowKit Go.Sx Go.aR Go.dy
attribute [local irreducible] Go.wpOps Go.Code.wp Go.wpOp Go.wpAnyH Go.Calls Go.Sx.Goal
set_option maxRecDepth 20000
set_option maxHeartbeats 8000000 in
theorem Xe(Q : Φ)(kd na : Nat)(nm : Nm)(nb : Nat)(ks : List Nd)(nA : Ω)(nc : Nat)(w : Ψ)(K : Ending -> Ψ -> Prop)(H0 : Sp w [fK Q ks nA nc])(k : Nat × Nat)(r : List (Nm × Ty) × Ty × Nat × Int)(hf : oF k nb ks = some r)(CV : kd = 0)(hK : ∀(A' : Ω)(n' : Nat)(c' : Nat)(Sy : Φ)(p : Tv)(xo' : Θ) w', Hs w [fK Q ks nA nc] w' [.own 59 2 A' c' n' xo', nW Sy p r.2.1, fK Q ks nA nc] -> K (.returned (.tuple #[.slice A' n' c', .agg (Is r.2.1 p).toArray, .agg #[.int .i64 (r.2.2.1 : Int), .int .i64 r.2.2.2]])) w') :
   Calls Tryz.prog 37 #[.agg #[.n kd,.n na,.string nm,.n nb,.slice nA ks.length nc]] w K:=by
 obtain⟨L0,aq,H⟩:=Sx.cw H0;refine xu (vs:=[.agg #[.n kd,.n na,.string nm,.n nb,.slice nA ks.length nc]]) 160 Tryz.func37 ?_;obtain⟨⟨WU,hnk,hkk⟩,c1,c2,out,acG,ahV,ME,iq⟩:=GW hf;have an9:((ks.length:Int)==(0:Int))=false:=beq_eq_false_iff_ne.2 (by omega);refine xg 2 H fun k1 w1 H1=>xg 1 H1 fun k2 w2 H2=>xg 0 H2 fun k3 w3 H3=>?_;refine xd 4 [] H3 (fun Hp R hZ=>af0 w3 R Hp  (fun S0 bg w4 G1=>hZ _ _ _ G1 fun H4=>?_));refine xg 1 H4 fun bc w5 H5=>?_;refine yg 4 (fun l' w'=>l'=[(1,.p k1),(3,.p k2),(4,.p k3),(5,.p bc),(28,.bool (((kd:Int) != (0:Int))||((ks.length:Int)==(0:Int))))]/\w5=w') (fun K1 aU=>?_) (fun b1 l1 w6 cm=>?_)
 . refine xb 2 2 H5 ?_;refine ye 2 23 ((kd:Int) != (0:Int)) (fun lg=>?_) (fun lg=>?_)
   . exact xi 6 _ (aU _ _ _ ⟨rfl,rfl⟩) (h2:=(by rw[lg];try kernel_rfl))
   refine xb 1 2 H5 ?_;exact xi 4 _ (aU _ _ _ ⟨rfl,rfl⟩) (h2:=(by rw[lg];try kernel_rfl))
 obtain⟨rfl,rfl⟩:=cm;refine xh 0 (((kd:Int) != (0:Int))||((ks.length:Int)==(0:Int))) (fun Ah=>?_) (fun Ah=>?_)
 . have ahW:=Ah;try simp[-List.getD_eq_getElem?_getD] at ahW
   first|(rw[an9,CV] at Ah;exact absurd Ah (by decide))|omega|simp_all
 refine xr 2 (.code (Sx.ct 15 Tryz.f37)) [] [(1,.p k1),(3,.p k2),(4,.p k3),(5,.p bc)] fun b2=>xb 3 2 H5 ?_;refine xd 0 [5,1] H5 (fun Hp R hZ=>ahI bc bg none 0 0 G.new [] Q kd na nm nb ks nA nc w5 R Hp k.1 c1 acG hnk (by omega) (fun oA on oc ol So w7 G2 gP gv HQ=>hZ _ _ _ G2 fun H6=>?_));rw[<- HQ.1] at H6;have H7:=H6.add (Gx.Ext.refl _) (it:=.own 122 6 none 0 0 []) (World.ownsRow_nil _ _ _ _) (fun _ h=>by cases h);have H8:=H7.add (Gx.Ext.refl _) (it:=bf (fun _=>False) []) SQ (fun _ h=>h.elim);refine yg 7 (fun l' w'=>∃(S:Φ) (eA:Ω) (en:Nat) (ec:Nat) (el:List Nv) (Sm:Φ) (tA:Ω) (tn:Nat) (tc:Nat) (xo:Θ),l'=[(1,.p k1),(3,.p k2),(4,.p k3),(5,.p bc),(6,.slice tA tn tc)]/\Hs w L0 w' (Sx.cX bc bg eA en ec oA on oc c2.fk c2.fa S c2.g el Sm ol So Q ks nA nc++[.ar k1 (.cells #[.n kd,.n na,.string nm,.n nb,.slice nA ks.length nc] 62),.ar k2 (.cells #[.int .i64 0,.int .i64 0,.int .i64 0,.slice none 0 0,.slice none 0 0] 96),.ar k3 (.cells #[.int .i64 0,.int .i64 0] 35),.own 59 2 tA tc tn xo])/\(el.map (·.1)=c2.env)/\(ol.map (·.1)=c2.ops)/\(en<100000000)/\(tn<100000000)) (fun K2 eC=>?_) (fun b3 l2 w8 iw=>?_)
 . refine xb 3 5 H8 ?_;have H9:=H8.add (Gx.Ext.refl _) (it:=.own 59 2 none 0 0 []) (World.ownsRow_nil _ _ _ _) (fun _ h=>by cases h);refine y0 4 (fun z l' w'=>∃(i:Nat) (cc:Ck) (S:Φ) (eA:Ω) (en:Nat) (ec:Nat) (el:List Nv) (Sm:Φ) (tA:Ω) (tn:Nat) (tc:Nat) (ou:List (Nm×Ty)) (xo:Θ),l'=[(1,.p k1),(3,.p k2),(4,.p k3),(5,.p bc),(6,.slice tA tn tc),(7,.n i)]/\z=ks.length-i/\Hs w L0 w' (Sx.cX bc bg eA en ec oA on oc cc.fk cc.fa S cc.g el Sm ol So Q ks nA nc++[.ar k1 (.cells #[.n kd,.n na,.string nm,.n nb,.slice nA ks.length nc] 62),.ar k2 (.cells #[.int .i64 0,.int .i64 0,.int .i64 0,.slice none 0 0,.slice none 0 0] 96),.ar k3 (.cells #[.int .i64 0,.int .i64 0] 35),.own 59 2 tA tc tn xo])/\(nb<=i)/\(i<=ks.length-1)/\(en<=i)/\(tn<=i)/\(mA k ks nb i ((ks.take (ks.length-1)).drop i) cc ou=some (c2,out))/\(el.map (·.1)=cc.env)/\(ol.map (·.1)=cc.ops)) _ _ ⟨nb,c1,S0,none,0,0,[],(fun _=>False),none,0,0,[],[],rfl,rfl,H9.pk [0,3,6,6,0,0,0,0,0,0,0],(Nat.le_refl _),(by omega),(Nat.zero_le _),(Nat.zero_le _),ahV,HQ.2.symm,gP⟩ (fun b4 z1 l3 w9 xM K3 nj=>?_);obtain⟨i,cc,S,eA,en,ec,el,Sm,tA,tn,tc,ou,xo,rfl,rfl,bp,hbi,him,hen,htn,hop,jX,gP⟩:=xM;have hlen:=jx (e:=122) (n:=en) (cap:=ec) (A:=eA) (l:=el) bp 2;refine xb 5 7 bp<|Sx.vi 1 ((ks.length:Int)-(1:Int)) ((ks.length:Int)-(1:Int)) (IntWalk.i64_in _ (by omega)) ?_;refine ye 2 42 (decide ((i:Int)<((ks.length:Int)-(1:Int)))) (fun SW=>?_) (fun SW=>?_)
   . have ahX:=of_decide_eq_true SW;refine xd 1 [0] bp (fun Hp R hZ=>jm bc bg eA en ec oA on oc cc.fk cc.fa w9 R Hp  (fun df G3=>hZ _ _ _ G3 fun aV=>?_));refine xr 3 (.code (Sx.ct 4049 Tryz.f37)) [.code (Sx.ct 2025 Tryz.f37),.to K3,.ar 0,.to K2] [(1,.p k1),(3,.p k2),(4,.p k3),(5,.p bc),(6,.slice tA tn tc),(7,.n i),(45,.bool (cc.fk==0))] fun b5=>?_;refine xh 0 (cc.fk==0) (fun sh=>?_) (fun sh=>?_)
     . have C8:=sh;try simp[-List.getD_eq_getElem?_getD] at C8
       obtain⟨dZ,oU⟩:=dW (l:=ks) (i:=i) (by omega);obtain⟨hz1,hz2⟩:=C7 hop oU (by omega);have h0:cc.fk=0:=by simpa using sh
       obtain⟨d2,t2,c3,hbd,hbg,hx1,hx2⟩:=hz2 h0;have hkp:=GX dZ ((ks.take i).drop nb) cc;obtain⟨cz,ahY⟩:∃z,((ks.take i).drop nb).foldl (sd dZ) cc=z:=⟨_,rfl⟩;rw[ahY] at hkp hbd;obtain⟨bO,aL,aI,bQ,bz⟩:=dZ;obtain⟨B1,eZ,a1,hO,bS⟩:=aM (Q:=Q) (ks:=ks) (A:=nA) (c:=nc) (i:=i) aV 6 (by kernel_rfl) oU;refine xb 7 7 bS<|xv 1 a1 i 5 ks.length nc hO (aw oU)<|xt (c:=5) (t:=62) 0 (Sx.nC bO aL aI bQ B1 bz eZ) (Sx.nA bO aL aI bQ B1 bz eZ) (aG (Q:=Q) (a:=a1.add (i*5)) (n:=5) (cs:=(Sx.nC bO aL aI bQ B1 bz eZ)) bS 11)<|xg 0 bS fun k4 gV bD=>xe 0 13 bD fun jk bG=>xr 2 (.code (Sx.ct 16201 Tryz.f37)) [.ar 1,.code (Sx.ct 4051 Tryz.f37),.to K3,.ar 0,.to K2] [(1,.p k1),(3,.p k2),(4,.p k3),(5,.p bc),(6,.slice tA tn tc),(7,.n i),(8,.p k4)] fun b6=>?_;refine xb 4 7 bG ?_;refine y0 4 (fun z l' w'=>∃(j:Nat) (cd:Ck),l'=[(1,.p k1),(3,.p k2),(4,.p k3),(5,.p bc),(6,.slice tA tn tc),(7,.n i),(8,.p k4),(9,.n j)]/\z=i-j/\Hs w L0 w' (Sx.cX bc bg eA en ec oA on oc cd.fk cd.fa S cc.g el Sm ol So Q ks nA nc++[.ar k1 (.cells #[.n kd,.n na,.string nm,.n nb,.slice nA ks.length nc] 62),.ar k2 (.cells #[.int .i64 0,.int .i64 0,.int .i64 0,.slice none 0 0,.slice none 0 0] 96),.ar k3 (.cells #[.int .i64 0,.int .i64 0] 35),.own 59 2 tA tc tn xo,eO Q (a1.add (i*5)) 5 (Sx.nC bO aL aI bQ B1 bz eZ),fK Q bz B1 eZ,.ar k4 (.cells #[.n bO,.n aL,.string aI,.int .i64 bQ,.slice B1 bz.length eZ] 62)])/\(nb<=j)/\(j<=i)/\(((ks.take i).drop j).foldl (sd (Nd.mk bO aL aI bQ bz)) cd=cz)) _ _ ⟨nb,cc,rfl,rfl,bG.pk [0,0,0,0,0,0,0,0,0,0,0,0,0,0],(Nat.le_refl _),hbi,ahY⟩ (fun b7 z2 l4 jT IL K4 yJ=>?_);obtain⟨j,cd,rfl,rfl,bL,hjb,N_,Fc⟩:=IL;refine xh 8 (decide ((j:Int)<(i:Int))) (fun Gi=>?_) (fun Gi=>?_)
       . have ahZ:=of_decide_eq_true Gi;obtain⟨dV,RQ⟩:=dW (l:=ks) (i:=j) (by omega);obtain⟨GA,GB,kH,GC,GD⟩:=dV;obtain⟨B2,gQ,a2,kS,dG⟩:=aM (Q:=Q) (ks:=ks) (A:=nA) (c:=nc) (i:=j) bL 6 (by kernel_rfl) RQ;have uF:=Eg Fc (by omega) RQ;refine xy 5 dG [7,14,13] [] (LJ:=[.ar k1 (.cells #[.n kd,.n na,.string nm,.n nb,.slice nA ks.length nc] 62),eO Q (a2.add (j*5)) 5 (Sx.nC GA GB kH GC B2 GD gQ),.ar k4 (.cells #[.n bO,.n aL,.string aI,.int .i64 bQ,.slice B1 bz.length eZ] 62)]) (by kernel_rfl) fun jZ cx=>xm [(0,none),(1,some (0,[])),(2,none)] (cx.sb [7,13,12])<|yj 3 [] a2 j 5 ks.length nc kS (aw RQ) (cx.sb [7,13,12])<|yp 4 [] (a2.add (j*5)) 2 (cx.sb [7,13,12])<|yh (c:=1) (t:=9) 5 [] [.string kH] (.string kH) (fun w' hs=>(aa (i:=2) (m:=1) (hU (Q:=Q) (a:=a2.add (j*5)) (n:=5) (cs:=(Sx.nC GA GB kH GC B2 GD gQ)) hs 1) (by decide))) (cx.sb [7,13,12])<|xm [(6,none),(7,some (2,[])),(8,none)] (cx.sb [7,13,12]) ?_;refine xw<|xr 1 (.code (Sx.ct 4147529 Tryz.f37)) [.ar 3,.code (Sx.ct 1036883 Tryz.f37),.to K4,.ar 2,.code (Sx.ct 32403 Tryz.f37),.ar 1,.code (Sx.ct 4051 Tryz.f37),.to K3,.ar 0,.to K2] [(1,.p k1),(3,.p k2),(4,.p k3),(5,.p bc),(6,.slice tA tn tc),(7,.n i),(8,.p k4),(9,.n j),(68,.bool (kH.toList==aI.toList))] fun b8=>?_;refine xh 0 (kH.toList==aI.toList) (fun lH=>?_) (fun lH=>?_)
         . have he:dh kH (Nd.mk bO aL aI bQ bz).nm=true:=by rw[eD];exact lH
           rw[if_pos he] at uF;refine xb 3 13 cx ?_;refine xd 0 [0] cx (fun Hp R hZ=>j5 bc bg eA en ec oA on oc cd.fk cd.fa 7 (aL:Int) jZ R Hp  (fun mn G4=>hZ _ _ _ G4 fun cM=>?_));rw[<- (eY (c:=cd) (kd:=7) (a:=(aL:Int))).1,<-(eY (c:=cd) (kd:=7) (a:=(aL:Int))).2.1] at cM;refine Sx.vi 5 ((j:Int)+(1:Int)) ((j+1:Nat):Int) (Gx.bq (by omega) (by omega)) ?_;exact xi 2 _ (yJ _ _ _ _ (by omega) ⟨(j+1),(Ck.no cd 7 (aL:Int)),rfl,rfl,cM.pk [0,0,0,0,0,0,0,0,0,0,0,0,0,0],(by omega),(by omega),uF⟩)
         have he:dh kH (Nd.mk bO aL aI bQ bz).nm=false:=by rw[eD];exact lH
         rw[if_neg (by rw[he];decide)] at uF;refine Sx.vi 5 ((j:Int)+(1:Int)) ((j+1:Nat):Int) (Gx.bq (by omega) (by omega)) ?_;exact xi 2 _ (yJ _ _ _ _ (by omega) ⟨(j+1),cd,rfl,rfl,cx.pk [0,0,0,0,0,0,0,0,0,0,0,0,0,0],(by omega),(by omega),uF⟩)
       have ahZ:=of_decide_eq_false Gi;obtain rfl:=Eh Fc (by omega);rw[<- hkp.1] at bL;refine xr 5 (.code (Sx.ct 32403 Tryz.f37)) [.ar 1,.code (Sx.ct 4051 Tryz.f37),.to K3,.ar 0,.to K2] [(1,.p k1),(3,.p k2),(4,.p k3),(5,.p bc),(6,.slice tA tn tc),(7,.n i),(8,.p k4)] fun b9=>xb 3 13 bL ?_;refine xd 0 [0,0,0,0,0,0,6] bL (fun Hp R hZ=>Lk k.1 k.2 (D1 k.1 k.2) bc bg eA en ec oA on oc S (⟨cd.g,cd.env,cd.ops,cd.fk,cd.fa⟩:Ck) el Sm ol So Q bO aL aI bQ bz B1 eZ jT R Hp d2 t2 hbd (jX.trans hkp.2.1.symm) (gP.trans hkp.2.2.symm) (by omega) gv (fun S1 yT yU mq G5 wE Fj=>hZ _ _ _ G5 fun fi=>?_));refine xb 8 13 fi ?_;refine xd 0 [0,0] fi (fun Hp R hZ=>K_ bc bg yT en yU oA on oc t2 (aL:Int) S1 (⟨d2.g,d2.env,d2.ops,d2.fk,d2.fa⟩:Ck) mq R Hp _ c3 hbg (fun S2 lW G6=>hZ _ _ _ G6 fun dI=>?_));refine xd 6 [0] dI (fun Hp R hZ=>jm bc bg yT en yU oA on oc c3.fk c3.fa lW R Hp  (fun oN G7=>hZ _ _ _ G7 fun dp=>?_));refine xh 3 (!(c3.fk==0)) (fun SZ=>?_) (fun SZ=>?_)
       . obtain⟨rfl,rfl⟩:=hx1 (by simpa using SZ);exact xi 6 _ (eC _ _ _ ⟨S2,yT,en,yU,el,Sm,tA,tn,tc,xo,rfl,dp.pk [0,0,0,0,0,0,1,1,1,1,1],(wE.trans (er hbg).2.1.symm),(Fj.trans (er hbg).2.2.symm),(by omega),(by omega)⟩)
       have h3:c3.fk=0:=by simpa using SZ
       obtain⟨xx,sT,lT,an_,htl,JJ,rG⟩:=hx2 h3;have Xf:=(wE.trans (er hbg).2.1.symm);have acJ:=(Fj.trans (er hbg).2.2.symm);refine xr 2 (.code (Sx.ct 259231 Tryz.f37)) [.ar 1,.code (Sx.ct 4051 Tryz.f37),.to K3,.ar 0,.to K2] [(1,.p k1),(3,.p k2),(4,.p k3),(5,.p bc),(6,.slice tA tn tc),(7,.n i),(8,.p k4),(10,.n t2)] fun UW=>xb 4 13 dp ?_;refine xd 1 [0,0,0,0] dp (fun Hp R hZ=>vR bc bg yT en yU oA on oc S2 (⟨c3.g,c3.env,c3.ops,c3.fk,c3.fa⟩:Ck) el Sm aI t2 oN R Hp _ xx an_ Xf (by omega) (fun S3 S4 HR NI rB G8=>hZ _ _ _ G8 fun fV=>?_));refine xg 0 fV fun k5 s6 jU=>xe 0 15 jU fun m_ fG=>xb 5 15 fG ?_;refine xd 0 [0,1,1,1] fG (fun Hp R hZ=>jr bc bg yT en yU oA on oc c3.fk c3.fa el Sm S4 (xx,some HR,some NI) m_ R Hp (by omega) (fun C5 C6 u5 G9=>hZ _ _ _ G9 fun eU=>?_));refine xy 3 eU [0] [] (LJ:=[.ar bc (.cells #[.p bg,.slice C5 (en+1) C6,.slice oA on oc,.n c3.fk,.int .i64 c3.fa] 115)]) (by kernel_rfl) fun xC fj=>xm [(0,none),(1,none),(2,none),(3,some (0,[])),(4,none)] (fj.sb [0])<|xl ?_;intro iU;refine Sx.Od 5 7 ?_ ?_
       . refine xd 0 [] fj (fun Hp R hZ=>yN xC R Hp  (fun bt1 br1 tz pZ=>hZ _ _ _ pZ fun gM=>?_));refine xj (x:=iU) 5 (gM.sb [2])<|xl ?_;intro ky;refine Sx.Od 6 7 ?_ ?_
         . obtain⟨AY,AZ,A_,Lu,Lv⟩:=sT;refine xd 0 [6,0,0] gM (fun Hp R hZ=>(vW _) S3 bg c3.g t2 bt1 br1 (⟨[],[]⟩:gJ) tz R Hp _ lT htl (fun S5 S6 p1 yF td=>hZ _ _ _ td fun lX=>?_));refine xj (x:=ky) 6 (lX.sb [4])<|xl ?_;intro mJ;refine xp 7<|xg 0 lX fun k6 s8 iT=>xj (x:=mJ) 7 (iT.sb [4])<|xl ?_;intro s7;refine xp 8<|xe 0 19 iT fun xD iv=>xj (x:=s7) 8 (iv.sb [4])<|xw<|xr 1 (.code (Sx.ct 2073855 Tryz.f37)) [.ar 1,.code (Sx.ct 4051 Tryz.f37),.to K3,.ar 0,.to K2] [(1,.p k1),(3,.p k2),(4,.p k3),(5,.p bc),(6,.slice tA tn tc),(7,.n i),(8,.p k4),(12,.p k6)] fun b13=>xy 0 iv [17,19] [] (LJ:=[.ar k4 (.cells #[.n bO,.n aL,.string aI,.int .i64 bQ,.slice B1 bz.length eZ] 62),.ar k6 (.cells #[.n AY,.n AZ,.n A_,.slice p1.A p1.na p1.ca,.slice p1.B p1.nb p1.cb] 96)]) (by kernel_rfl) fun xE jV=>?_;refine xm [(0,none),(1,none),(2,some (0,[])),(3,some (1,[]))] (jV.sb [17,18])<|xl ?_;intro yG;refine xp 4 ?_;obtain⟨mT,S_,Ta⟩:=vZ JJ;refine xd 0 [3] jV (fun Hp R hZ=>Sh.v_ k.1 S6 AY AZ A_ Lu Lv p1 xE R Hp mT Ta S_ (fun x1 Cx vE hx1=>hZ _ _ _ vE fun mr=>?_));refine xj (x:=yG) 4 (mr.sb [17,18])<|xm [(5,none)] (mr.sb [17,18])<|xl ?_;intro E2;refine xp 6<|xg 0 mr fun k7 E5 kF=>xj (x:=E2) 6 (kF.sb [17,18])<|xl ?_;intro HH;refine xp 7<|yi 0 15 20 32 1 0 59 2 55 1 k7 tA tc tn xo [.string aI,.string x1] kF (by omega) (by omega) rfl fun A1 bT DG mv=>xj (x:=HH) 7 (mv.sb [17,18])<|xm [(8,none)] (mv.sb [17,18])<|xw<|xr 2 (.code (Sx.ct 4051 Tryz.f37)) [.to K3,.ar 0,.to K2] [(1,.p k1),(3,.p k2),(4,.p k3),(5,.p bc),(6,.slice A1 (tn+1) bT),(7,.n i)] fun b14=>?_;refine Sx.vi 2 ((i:Int)+(1:Int)) ((i+1:Nat):Int) (Gx.bq (by omega) (by omega)) ?_;exact xi 2 _ (nj _ _ _ _ (by omega) ⟨(i+1),(⟨c3.g,(c3.env++[(xx,some HR,some NI).1]),c3.ops,c3.fk,c3.fa⟩:Ck),S5,C5,en+1,C6,(el++[(xx,some HR,some NI)]),(fun c=>Sm c∨S4 c),A1,tn+1,bT,(ou++[(aI,Ty.mk AY AZ A_ Lu Lv)]),(xo++[.string aI,.string x1]),rfl,rfl,mv.pk [4,1,3,4,4,4,5,5,5,5,5],(by omega),(by omega),(by omega),(by omega),rG,(dS Xf),acJ⟩)
         refine xg 0 gM fun k8 Cz j4=>xj (x:=ky) 7 (j4.sb [2])<|xl ?_;intro IC;refine xp 6 ?_;obtain⟨AY,AZ,A_,Lu,Lv⟩:=sT;refine xd 0 [6,0,0] j4 (fun Hp R hZ=>(vW _) S3 bg c3.g t2 bt1 br1 (⟨[],[]⟩:gJ) Cz R Hp _ lT htl (fun S7 S8 p2 HJ xP=>hZ _ _ _ xP fun ni=>?_));refine xj (x:=IC) 6 (ni.sb [4])<|xl ?_;intro HI;refine xp 8<|xe 0 19 ni fun FZ rD=>xj (x:=HI) 8 (rD.sb [4])<|xw<|xr 1 (.code (Sx.ct 2073855 Tryz.f37)) [.ar 1,.code (Sx.ct 4051 Tryz.f37),.to K3,.ar 0,.to K2] [(1,.p k1),(3,.p k2),(4,.p k3),(5,.p bc),(6,.slice tA tn tc),(7,.n i),(8,.p k4),(12,.p k8)] fun b15=>xy 0 rD [17,19] [] (LJ:=[.ar k4 (.cells #[.n bO,.n aL,.string aI,.int .i64 bQ,.slice B1 bz.length eZ] 62),.ar k8 (.cells #[.n AY,.n AZ,.n A_,.slice p2.A p2.na p2.ca,.slice p2.B p2.nb p2.cb] 96)]) (by kernel_rfl) fun KC tC=>?_;refine xm [(0,none),(1,none),(2,some (0,[])),(3,some (1,[]))] (tC.sb [17,18])<|xl ?_;intro zO;refine xp 4 ?_;obtain⟨mT,S_,Ta⟩:=vZ JJ;refine xd 0 [3] tC (fun Hp R hZ=>Sh.v_ k.1 S8 AY AZ A_ Lu Lv p2 KC R Hp mT Ta S_ (fun x2 IG D4 hx2=>hZ _ _ _ D4 fun pg=>?_));refine xj (x:=zO) 4 (pg.sb [17,18])<|xm [(5,none)] (pg.sb [17,18])<|xl ?_;intro DR;refine xp 6<|xg 0 pg fun k9 UE uj=>xj (x:=DR) 6 (uj.sb [17,18])<|xl ?_;intro DS;refine xp 7<|yi 0 15 20 32 1 0 59 2 55 1 k9 tA tc tn xo [.string aI,.string x2] uj (by omega) (by omega) rfl fun A2 iA Qj u6=>xj (x:=DS) 7 (u6.sb [17,18])<|xm [(8,none)] (u6.sb [17,18])<|xw<|xr 2 (.code (Sx.ct 4051 Tryz.f37)) [.to K3,.ar 0,.to K2] [(1,.p k1),(3,.p k2),(4,.p k3),(5,.p bc),(6,.slice A2 (tn+1) iA),(7,.n i)] fun b16=>?_;refine Sx.vi 2 ((i:Int)+(1:Int)) ((i+1:Nat):Int) (Gx.bq (by omega) (by omega)) ?_;exact xi 2 _ (nj _ _ _ _ (by omega) ⟨(i+1),(⟨c3.g,(c3.env++[(xx,some HR,some NI).1]),c3.ops,c3.fk,c3.fa⟩:Ck),S7,C5,en+1,C6,(el++[(xx,some HR,some NI)]),(fun c=>Sm c∨S4 c),A2,tn+1,iA,(ou++[(aI,Ty.mk AY AZ A_ Lu Lv)]),(xo++[.string aI,.string x2]),rfl,rfl,u6.pk [4,1,3,4,4,4,5,5,5,5,5],(by omega),(by omega),(by omega),(by omega),rG,(dS Xf),acJ⟩)
       refine xg 0 fj fun rU KD Bo=>xj (x:=iU) 7 (Bo.sb [0])<|xl ?_;intro DT;refine xp 5 ?_;refine xd 0 [] Bo (fun Hp R hZ=>yN KD R Hp  (fun bt2 br2 Oi Gf=>hZ _ _ _ Gf fun wB=>?_));refine xj (x:=DT) 5 (wB.sb [2])<|xl ?_;intro DU;refine xp 6 ?_;obtain⟨AY,AZ,A_,Lu,Lv⟩:=sT;refine xd 0 [6,0,0] wB (fun Hp R hZ=>(vW _) S3 bg c3.g t2 bt2 br2 (⟨[],[]⟩:gJ) Oi R Hp _ lT htl (fun S9 uz p3 Qk Gg=>hZ _ _ _ Gg fun rW=>?_));refine xj (x:=DU) 6 (rW.sb [4])<|xl ?_;intro DV;refine xp 8<|xe 0 19 rW fun Wc u7=>xj (x:=DV) 8 (u7.sb [4])<|xw<|xr 1 (.code (Sx.ct 2073855 Tryz.f37)) [.ar 1,.code (Sx.ct 4051 Tryz.f37),.to K3,.ar 0,.to K2] [(1,.p k1),(3,.p k2),(4,.p k3),(5,.p bc),(6,.slice tA tn tc),(7,.n i),(8,.p k4),(12,.p rU)] fun b17=>xy 0 u7 [17,19] [] (LJ:=[.ar k4 (.cells #[.n bO,.n aL,.string aI,.int .i64 bQ,.slice B1 bz.length eZ] 62),.ar rU (.cells #[.n AY,.n AZ,.n A_,.slice p3.A p3.na p3.ca,.slice p3.B p3.nb p3.cb] 96)]) (by kernel_rfl) fun We yH=>?_;refine xm [(0,none),(1,none),(2,some (0,[])),(3,some (1,[]))] (yH.sb [17,18])<|xl ?_;intro BL;refine xp 4 ?_;obtain⟨mT,S_,Ta⟩:=vZ JJ;refine xd 0 [3] yH (fun Hp R hZ=>Sh.v_ k.1 uz AY AZ A_ Lu Lv p3 We R Hp mT Ta S_ (fun x3 w44 QZ hx3=>hZ _ _ _ QZ fun xI=>?_));refine xj (x:=BL) 4 (xI.sb [17,18])<|xm [(5,none)] (xI.sb [17,18])<|xl ?_;intro DW;refine xp 6<|xg 0 xI fun UC w45 E6=>xj (x:=DW) 6 (E6.sb [17,18])<|xl ?_;intro DX;refine xp 7<|yi 0 15 20 32 1 0 59 2 55 1 UC tA tc tn xo [.string aI,.string x3] E6 (by omega) (by omega) rfl fun A3 kG w46 yI=>xj (x:=DX) 7 (yI.sb [17,18])<|xm [(8,none)] (yI.sb [17,18])<|xw<|xr 2 (.code (Sx.ct 4051 Tryz.f37)) [.to K3,.ar 0,.to K2] [(1,.p k1),(3,.p k2),(4,.p k3),(5,.p bc),(6,.slice A3 (tn+1) kG),(7,.n i)] fun b18=>?_;refine Sx.vi 2 ((i:Int)+(1:Int)) ((i+1:Nat):Int) (Gx.bq (by omega) (by omega)) ?_;exact xi 2 _ (nj _ _ _ _ (by omega) ⟨(i+1),(⟨c3.g,(c3.env++[(xx,some HR,some NI).1]),c3.ops,c3.fk,c3.fa⟩:Ck),S9,C5,en+1,C6,(el++[(xx,some HR,some NI)]),(fun c=>Sm c∨S4 c),A3,tn+1,kG,(ou++[(aI,Ty.mk AY AZ A_ Lu Lv)]),(xo++[.string aI,.string x3]),rfl,rfl,yI.pk [4,1,3,4,4,4,5,5,5,5,5],(by omega),(by omega),(by omega),(by omega),rG,(dS Xf),acJ⟩)
     have C8:=sh;try simp[-List.getD_eq_getElem?_getD] at C8
     obtain⟨dZ,oU⟩:=dW (l:=ks) (i:=i) (by omega);obtain⟨hz1,hz2⟩:=C7 hop oU (by omega);obtain⟨rfl,rfl⟩:=hz1 (by simpa using sh);exact xi 4 _ (eC _ _ _ ⟨S,eA,en,ec,el,Sm,tA,tn,tc,xo,rfl,aV,jX,gP,(by omega),(by omega)⟩)
   have ahX:=of_decide_eq_false SW;obtain⟨rfl,rfl⟩:=SP hop (List.drop_of_length_le (by rw[List.length_take];omega));refine xr 5 (.code (Sx.ct 4049 Tryz.f37)) [.code (Sx.ct 2025 Tryz.f37),.to K3,.ar 0,.to K2] [(1,.p k1),(3,.p k2),(4,.p k3),(5,.p bc),(6,.slice tA tn tc),(7,.n i),(45,.bool false)] fun b19=>?_;exact xi 5 _ (eC _ _ _ ⟨S,eA,en,ec,el,Sm,tA,tn,tc,xo,rfl,bp,jX,gP,(by omega),(by omega)⟩)
 obtain⟨S,eA,en,ec,el,Sm,tA,tn,tc,xo,rfl,BF,jX,aoa,hen,htn⟩:=iw;have hlen:=jx (e:=122) (n:=en) (cap:=ec) (A:=eA) (l:=el) BF 2;refine xd 4 [0] BF (fun Hp R hZ=>jm bc bg eA en ec oA on oc c2.fk c2.fa w8 R Hp  (fun w47 Q_=>hZ _ _ _ Q_ fun vw=>?_));refine xr 3 (.code (Sx.ct 509 Tryz.f37)) [.code (Sx.ct 255 Tryz.f37)] [(1,.p k1),(3,.p k2),(4,.p k3),(5,.p bc),(6,.slice tA tn tc),(109,.bool (!(c2.fk==0)))] fun b20=>?_;refine xh 0 (!(c2.fk==0)) (fun JK=>?_) (fun JK=>?_)
 . obtain rfl:=ME (by simpa using JK);refine xy 1 vw [0] [] (LJ:=[Sx.cB bc bg eA en ec oA on oc c2.fk c2.fa]) (by kernel_rfl) fun Yy E7=>xm [(0,none),(1,none),(2,none),(3,none),(4,some (0,[])),(5,none)] (E7.sb [0])<|xl ?_;intro IP;refine xp 6<|xe 0 8 E7 fun w49 nY=>xj (x:=IP) 6 (nY.sb [0])<|xl ?_;intro IQ;refine xp 7<|xe 0 9 nY fun w50 zY=>xj (x:=IQ) 7 (zY.sb [0])<|xw<|xr 1 (.code (Sx.ct 2037 Tryz.f37)) [.code (Sx.ct 255 Tryz.f37)] [(2,.slice none 0 0),(3,.p k2),(4,.p k3)] fun b21=>xf 2 [8,9] zY (.tuple #[.slice none 0 0,.agg #[.int .i64 0,.int .i64 0,.int .i64 0,.slice none 0 0,.slice none 0 0],.agg #[.n c2.fk,.int .i64 c2.fa]]) ?_;have BG:=zY.add (Gx.Ext.refl _) (it:=.own 59 2 none 0 0 []) (World.ownsRow_nil _ _ _ _) (fun _ h=>by cases h);have MX:=BG.add (Gx.Ext.refl _) (it:=nW (fun _=>False) ⟨none,0,0,none,0,0⟩ tyZ) Lq (fun _ h=>h.elim);subst aq;exact hK none 0 0 (fun _=>False) (⟨none,0,0,none,0,0⟩) ([]) _ (MX.pk [11,11,6])
 have h2:c2.fk=0:=by simpa using JK
 obtain⟨dM,g3,u_,c4,t4,c5,hdM,Ed,hex,hbg,pj,hr3⟩:=iq h2;obtain⟨mM,hmM⟩:∃q,q+1=ks.length:=⟨ks.length-1,by omega⟩;rw[show ks.length-1=mM by omega] at hdM;obtain⟨Xg,Tb,Xh,Xi,Xj⟩:=dM;obtain⟨B3,jn,a3,Ao,xJ⟩:=aM (Q:=Q) (ks:=ks) (A:=nA) (c:=nc) (i:=mM) vw 6 (by kernel_rfl) hdM;refine xr 2 (.code (Sx.ct 255 Tryz.f37)) [] [(1,.p k1),(3,.p k2),(4,.p k3),(5,.p bc),(6,.slice tA tn tc)] fun Ze=>xb 3 7 xJ<|xb 1 7 xJ<|Sx.vi 1 ((ks.length:Int)-(1:Int)) (mM:Int) ((by rw[show((ks.length:Int)-(1:Int))=(mM:Int) by omega];exact IntWalk.i64_in _ (by omega)))<|xv 0 a3 mM 5 ks.length nc Ao (aw hdM)<|xt (c:=5) (t:=62) 0 (Sx.nC Xg Tb Xh Xi B3 Xj jn) (Sx.nA Xg Tb Xh Xi B3 Xj jn) (aG (Q:=Q) (a:=a3.add (mM*5)) (n:=5) (cs:=(Sx.nC Xg Tb Xh Xi B3 Xj jn)) xJ 11) ?_;refine xg 0 xJ fun V5 w51 F1=>xe 0 13 F1 fun w52 DH=>xb 7 0 DH ?_;have xK:=DH.add (Gx.Ext.refl _) (it:=bw (fun _=>False) none []) eu (fun _ h=>h.elim);refine xd 0 [1,13] xK (fun Hp R hZ=>gY S bg c2.g (fun _=>False) none 0 0 ([]) 0 (some 0) w52 R Hp g3 u_ rfl rfl Ed (fun wG w53 Wt=>hZ _ _ _ Wt fun KE=>?_));refine xb 6 13 KE ?_;refine xd 1 [1,0,0,0,0,0,6] KE (fun Hp R hZ=>D1 k.1 k.2 bc bg eA en ec oA on oc wG (⟨g3,c2.env,c2.ops,c2.fk,c2.fa⟩:Ck) el Sm ol So Q Xg Tb Xh Xi Xj B3 jn  u_ w53 R Hp c4 t4 hex jX aoa (by omega) gv (fun Fb Fk Fl w54 Wu BM HE=>hZ _ _ _ Wu fun Oj=>?_));refine xb 8 13 Oj ?_;refine xd 0 [0,0] Oj (fun Hp R hZ=>K_ bc bg Fk en Fl oA on oc t4 (Tb:Int) Fb (⟨c4.g,c4.env,c4.ops,c4.fk,c4.fa⟩:Ck) w54 R Hp _ c5 hbg (fun Ec w55 Wv=>hZ _ _ _ Wv fun BH=>?_));refine xr 2 (.code (Sx.ct 4095 Tryz.f37)) [] [(3,.p k2),(4,.p k3),(5,.p bc),(6,.slice tA tn tc),(15,.n t4)] fun b23=>?_;refine xd 4 [0] BH (fun Hp R hZ=>jm bc bg Fk en Fl oA on oc c5.fk c5.fa w55 R Hp  (fun w56 G22=>hZ _ _ _ G22 fun Bp=>?_));refine xh 3 (!(c5.fk==0)) (fun JL=>?_) (fun JL=>?_)
 . obtain rfl:=pj (by simpa using JL);refine xy 1 Bp [0] [] (LJ:=[Sx.cB bc bg Fk en Fl oA on oc c5.fk c5.fa]) (by kernel_rfl) fun w57 HK=>xm [(0,none),(1,none),(2,none),(3,none),(4,some (0,[])),(5,none)] (HK.sb [0])<|xl ?_;intro QR;refine xp 6<|xe 0 9 HK fun w58 DI=>xj (x:=QR) 6 (DI.sb [0])<|xl ?_;intro QS;refine xp 7<|xe 0 10 DI fun w59 E8=>xj (x:=QS) 7 (E8.sb [0])<|xw<|xr 1 (.code (Sx.ct 65525 Tryz.f37)) [.code (Sx.ct 8191 Tryz.f37)] [(2,.slice none 0 0),(3,.p k2),(4,.p k3)] fun b24=>xf 2 [9,10] E8 (.tuple #[.slice none 0 0,.agg #[.int .i64 0,.int .i64 0,.int .i64 0,.slice none 0 0,.slice none 0 0],.agg #[.n c5.fk,.int .i64 c5.fa]]) ?_;have H76:=E8.add (Gx.Ext.refl _) (it:=.own 59 2 none 0 0 []) (World.ownsRow_nil _ _ _ _) (fun _ h=>by cases h);have Ql:=H76.add (Gx.Ext.refl _) (it:=nW (fun _=>False) ⟨none,0,0,none,0,0⟩ tyZ) Lq (fun _ h=>h.elim);subst aq;exact hK none 0 0 (fun _=>False) (⟨none,0,0,none,0,0⟩) ([]) _ (Ql.pk [14,14,7])
 obtain⟨sT,lT,htl,JJ,rfl⟩:=hr3 (by simpa using JL);refine xr 2 (.code (Sx.ct 8191 Tryz.f37)) [] [(3,.p k2),(4,.p k3),(5,.p bc),(6,.slice tA tn tc),(15,.n t4)] fun b25=>xy 1 Bp [0] [] (LJ:=[Sx.cB bc bg Fk en Fl oA on oc c5.fk c5.fa]) (by kernel_rfl) fun w60 Ol=>xm [(0,none),(1,none),(2,none),(3,some (0,[])),(4,none)] (Ol.sb [0])<|xl ?_;intro W_;refine Sx.Od 5 7 ?_ ?_
 . refine xd 0 [] Ol (fun Hp R hZ=>yN w60 R Hp  (fun bt3 br3 w61 G23=>hZ _ _ _ G23 fun UF=>?_));refine xj (x:=W_) 5 (UF.sb [2])<|xl ?_;intro Xa;refine Sx.Od 6 7 ?_ ?_
   . obtain⟨AY,AZ,A_,Lu,Lv⟩:=sT;refine xd 0 [3,0,0] UF (fun Hp R hZ=>(vW _) Ec bg c5.g t4 bt3 br3 (⟨[],[]⟩:gJ) w61 R Hp _ lT htl (fun KQ Ou p4 w62 G24=>hZ _ _ _ G24 fun UG=>?_));refine xj (x:=Xa) 6 (UG.sb [4])<|xl ?_;intro ace;refine xp 7<|xg 0 UG fun Yw w63 HL=>xj (x:=ace) 7 (HL.sb [4])<|xl ?_;intro acf;refine xp 8<|xe 0 17 HL fun w64 H82=>xj (x:=acf) 8 (H82.sb [4])<|xw<|xr 1 (.code (Sx.ct 16383 Tryz.f37)) [] [(3,.p k2),(4,.p k3),(6,.slice tA tn tc),(16,.p Yw)] fun b26=>xy 1 H82 [17] [] (LJ:=[.ar Yw (.cells #[.n AY,.n AZ,.n A_,.slice p4.A p4.na p4.ca,.slice p4.B p4.nb p4.cb] 96)]) (by kernel_rfl) fun w65 H83=>?_;refine xm [(0,none),(1,some (0,[])),(6,some (0,[])),(7,none)] (H83.sb [17])<|xl ?_;intro acg;refine xp 2 ?_;obtain⟨mT,S_,Ta⟩:=vZ JJ;refine xd 0 [3] H83 (fun Hp R hZ=>Sh.v_ k.1 Ou AY AZ A_ Lu Lv p4 w65 R Hp mT Ta S_ (fun x4 w66 G25 hx4=>hZ _ _ _ G25 fun YM=>?_));refine xj (x:=acg) 2 (YM.sb [17])<|xm [(3,none)] (YM.sb [17])<|xl ?_;intro ach;refine xp 4<|xg 0 YM fun k14 w67 H85=>xj (x:=ach) 4 (H85.sb [17])<|xl ?_;intro aci;refine xp 5<|yi 0 14 18 32 1 0 59 2 55 1 k14 tA tc tn xo [.string (bY [109,97,105,110]),.string x4] H85 (by omega) (by omega) rfl fun A4 vF w68 H86=>xj (x:=aci) 5 (H86.sb [17])<|xm [(8,none)] (H86.sb [17])<|xl ?_;intro acj;refine xp 9<|xe 0 12 H86 fun w69 H87=>xj (x:=acj) 9 (H87.sb [17])<|xl ?_;intro acm;refine xp 10<|xe 0 13 H87 fun w70 Oo=>xj (x:=acm) 10 (Oo.sb [17])<|xw<|xr 1 (.code (Sx.ct 32767 Tryz.f37)) [] [(2,.slice A4 (tn+1) vF),(3,.p k2),(4,.p k3)] fun b27=>xf 1 [12,13] Oo (.tuple #[.slice A4 (tn+1) vF,.agg #[.n AY,.n AZ,.n A_,.slice p4.A p4.na p4.ca,.slice p4.B p4.nb p4.cb],.agg #[.int .i64 0,.int .i64 0]]) ?_;subst aq;exact hK A4 (tn+1) vF Ou p4 (xo++[.string (bY [109,97,105,110]),.string x4]) _ (Oo.pk [14,0,9])
   refine xg 0 UF fun Ww w71 KN=>xj (x:=Xa) 7 (KN.sb [2])<|xl ?_;intro acn;refine xp 6 ?_;obtain⟨AY,AZ,A_,Lu,Lv⟩:=sT;refine xd 0 [3,0,0] KN (fun Hp R hZ=>(vW _) Ec bg c5.g t4 bt3 br3 (⟨[],[]⟩:gJ) w71 R Hp _ lT htl (fun S16 YZ p5 w72 G26=>hZ _ _ _ G26 fun H90=>?_));refine xj (x:=acn) 6 (H90.sb [4])<|xl ?_;intro aco;refine xp 8<|xe 0 17 H90 fun w73 H91=>xj (x:=aco) 8 (H91.sb [4])<|xw<|xr 1 (.code (Sx.ct 16383 Tryz.f37)) [] [(3,.p k2),(4,.p k3),(6,.slice tA tn tc),(16,.p Ww)] fun b28=>xy 1 H91 [17] [] (LJ:=[.ar Ww (.cells #[.n AY,.n AZ,.n A_,.slice p5.A p5.na p5.ca,.slice p5.B p5.nb p5.cb] 96)]) (by kernel_rfl) fun w74 H92=>?_;refine xm [(0,none),(1,some (0,[])),(6,some (0,[])),(7,none)] (H92.sb [17])<|xl ?_;intro acp;refine xp 2 ?_;obtain⟨mT,S_,Ta⟩:=vZ JJ;refine xd 0 [3] H92 (fun Hp R hZ=>Sh.v_ k.1 YZ AY AZ A_ Lu Lv p5 w74 R Hp mT Ta S_ (fun x5 w75 G27 hx5=>hZ _ _ _ G27 fun H93=>?_));refine xj (x:=acp) 2 (H93.sb [17])<|xm [(3,none)] (H93.sb [17])<|xl ?_;intro acq;refine xp 4<|xg 0 H93 fun k16 w76 H94=>xj (x:=acq) 4 (H94.sb [17])<|xl ?_;intro acr;refine xp 5<|yi 0 14 18 32 1 0 59 2 55 1 k16 tA tc tn xo [.string (bY [109,97,105,110]),.string x5] H94 (by omega) (by omega) rfl fun A5 An w77 YN=>xj (x:=acr) 5 (YN.sb [17])<|xm [(8,none)] (YN.sb [17])<|xl ?_;intro acs;refine xp 9<|xe 0 12 YN fun w78 H96=>xj (x:=acs) 9 (H96.sb [17])<|xl ?_;intro acu;refine xp 10<|xe 0 13 H96 fun w79 H97=>xj (x:=acu) 10 (H97.sb [17])<|xw<|xr 1 (.code (Sx.ct 32767 Tryz.f37)) [] [(2,.slice A5 (tn+1) An),(3,.p k2),(4,.p k3)] fun b29=>xf 1 [12,13] H97 (.tuple #[.slice A5 (tn+1) An,.agg #[.n AY,.n AZ,.n A_,.slice p5.A p5.na p5.ca,.slice p5.B p5.nb p5.cb],.agg #[.int .i64 0,.int .i64 0]]) ?_;subst aq;exact hK A5 (tn+1) An YZ p5 (xo++[.string (bY [109,97,105,110]),.string x5]) _ (H97.pk [14,0,9])
 refine xg 0 Ol fun k17 w80 YO=>xj (x:=W_) 7 (YO.sb [0])<|xl ?_;intro acv;refine xp 5 ?_;refine xd 0 [] YO (fun Hp R hZ=>yN w80 R Hp  (fun bt4 br4 w81 G28=>hZ _ _ _ G28 fun H99=>?_));refine xj (x:=acv) 5 (H99.sb [2])<|xl ?_;intro acw;refine xp 6 ?_;obtain⟨AY,AZ,A_,Lu,Lv⟩:=sT;refine xd 0 [3,0,0] H99 (fun Hp R hZ=>(vW _) Ec bg c5.g t4 bt4 br4 (⟨[],[]⟩:gJ) w81 R Hp _ lT htl (fun S18 Y0 p6 w82 G29=>hZ _ _ _ G29 fun M_=>?_));refine xj (x:=acw) 6 (M_.sb [4])<|xl ?_;intro acx;refine xp 8<|xe 0 17 M_ fun w83 Na=>xj (x:=acx) 8 (Na.sb [4])<|xw<|xr 1 (.code (Sx.ct 16383 Tryz.f37)) [] [(3,.p k2),(4,.p k3),(6,.slice tA tn tc),(16,.p k17)] fun b30=>xy 1 Na [17] [] (LJ:=[.ar k17 (.cells #[.n AY,.n AZ,.n A_,.slice p6.A p6.na p6.ca,.slice p6.B p6.nb p6.cb] 96)]) (by kernel_rfl) fun w84 Am=>?_;refine xm [(0,none),(1,some (0,[])),(6,some (0,[])),(7,none)] (Am.sb [17])<|xl ?_;intro acz;refine xp 2 ?_;obtain⟨mT,S_,Ta⟩:=vZ JJ;refine xd 0 [3] Am (fun Hp R hZ=>Sh.v_ k.1 Y0 AY AZ A_ Lu Lv p6 w84 R Hp mT Ta S_ (fun x6 w85 G30 hx6=>hZ _ _ _ G30 fun vG=>?_));refine xj (x:=acz) 2 (vG.sb [17])<|xm [(3,none)] (vG.sb [17])<|xl ?_;intro aod;refine xp 4<|xg 0 vG fun k18 w86 Gk=>xj (x:=aod) 4 (Gk.sb [17])<|xl ?_;intro aoe;refine xp 5<|yi 0 14 18 32 1 0 59 2 55 1 k18 tA tc tn xo [.string (bY [109,97,105,110]),.string x6] Gk (by omega) (by omega) rfl fun A6 xQ w87 Gl=>xj (x:=aoe) 5 (Gl.sb [17])<|xm [(8,none)] (Gl.sb [17])<|xl ?_;intro aof;refine xp 9<|xe 0 12 Gl fun w88 IX=>xj (x:=aof) 9 (IX.sb [17])<|xl ?_;intro aog;refine xp 10<|xe 0 13 IX fun w89 IY=>xj (x:=aog) 10 (IY.sb [17])<|xw<|xr 1 (.code (Sx.ct 32767 Tryz.f37)) [] [(2,.slice A6 (tn+1) xQ),(3,.p k2),(4,.p k3)] fun b31=>xf 1 [12,13] IY (.tuple #[.slice A6 (tn+1) xQ,.agg #[.n AY,.n AZ,.n A_,.slice p6.A p6.na p6.ca,.slice p6.B p6.nb p6.cb],.agg #[.int .i64 0,.int .i64 0]]) ?_;subst aq;exact hK A6 (tn+1) xQ Y0 p6 (xo++[.string (bY [109,97,105,110]),.string x6]) _ (IY.pk [14,0,9])
set_option maxHeartbeats 8000000 in
theorem Xk(Q : Φ)(kd na : Nat)(nm : Nm)(nb : Nat)(ks : List Nd)(nA : Ω)(nc : Nat)(w : Ψ)(K : Ending -> Ψ -> Prop)(H0 : Sp w [fK Q ks nA nc])(k : Nat × Nat)(r : List (Nm × Ty) × Ty × Nat × Int)(hf : oF k nb ks = some r)(CV : kd = 0)(hK : ∀(A' : Ω)(n' : Nat)(c' : Nat)(xo' : Θ) w', Hs w [fK Q ks nA nc] w' [.own 59 2 A' c' n' xo', fK Q ks nA nc] -> K (.returned (.tuple #[.slice A' n' c', .agg #[.int .i64 (r.2.2.1 : Int), .int .i64 r.2.2.2]])) w') :
   Calls Tryz.prog 26 #[.agg #[.n kd,.n na,.string nm,.n nb,.slice nA ks.length nc]] w K:=by
 obtain⟨L0,aq,H⟩:=Sx.cw H0;refine xu (vs:=[.agg #[.n kd,.n na,.string nm,.n nb,.slice nA ks.length nc]]) 15 Tryz.func26 ?_;obtain⟨rl,⟨kT,uT,rT,oT,aT⟩,rk,ra⟩:=r;refine xg 2 H fun k1 w1 H1=>xg 1 H1 fun k2 w2 H2=>xb 4 1 H2 ?_;refine xd 0 [0] H2 (fun Hp R hZ=>Xe Q kd na nm nb ks nA nc w2 R Hp k (rl,Ty.mk kT uT rT oT aT,rk,ra) hf CV (fun fA1 fn1 fc1 S1 p1 xo1 w3 G1=>hZ _ _ _ G1 fun H3=>?_));refine xg 4 H3 fun k3 w4 H4=>xg 0 H4 fun k4 w5 H5=>xe 1 5 H5 fun w6 H6=>xe 0 6 H6 fun w7 H7=>xy 3 H7 [6] [] (LJ:=[.ar k4 (.cells #[.n rk,.int .i64 ra] 35)]) (by kernel_rfl) fun w8 H8=>xm [(0,none),(1,some (0,[])),(2,none)] (H8.sb [6]) ?_;refine xl ?_;intro iU;refine xp 3<|xe 0 4 H8 fun w9 H9=>xj (x:=iU) 3 (H9.sb [6])<|xw<|xr 1 (.code (Sx.ct 15 Tryz.f26)) [] [(2,.slice fA1 fn1 fc1),(3,.p k2)] fun b1=>xf 1 [4] H9 (.tuple #[.slice fA1 fn1 fc1,.agg #[.n rk,.int .i64 ra]]) ?_;subst aq;exact hK fA1 fn1 fc1 xo1 _ (H9.pk [0,1])
end Go.Proofs.YtdmdecgoebnamaaGreat
namespace Go.Proofs.YtdmdecgoebnamaaGreat
open Go.RowKit Go.Sx Go.aR Go.dy
theorem Xl(s : Ξ)(w : Ψ)(K : Ending -> Ψ -> Prop)(H0 : Sp w [])(kd na : Nat)(nm : Nm)(nb : Nat)(ks : List Nd)(fk fa : Nat)(hp : jf s = (.mk kd na nm (nb : Int) ks, fk, fa))
   (hK:∀(Q:Φ)(A:Ω)(c:Nat) w',Hs w [] w' [fK Q ks A c]->K (.returned (.tuple #[.agg #[.int .i64 (kd:Int),.int .i64 (na:Int),.string nm,.int .i64 (nb:Int),.slice A ks.length c],.agg #[.int .i64 (fk:Int),.int .i64 (fa:Int)]])) w'):
   Calls Tryz.prog 25 #[.string s] w K:=
 Rd.WA s w K H0 fun Q t A c fk' fa' e w' H=>by
   rw[hp] at e;cases e;exact hK Q A c w' H
end Go.Proofs.YtdmdecgoebnamaaGreat
namespace Go.Mn
open Go.RowKit Go.Sx Go.aR Go.Gx Go.dy
inductive Er:PN->Nd->Prop
 |mk {k a:Nat} {nm:Nm} {n:Int} {A:Ω} {c:Nat} {nh:List PN} {ks:List Nd} (hl:nh.length=ks.length) (h:∀(i:Nat)(p:PN)(d:Nd),nh[i]?=some p->ks[i]?=some d->Er p d):Er (.mk k a nm n A c nh) (.mk k a nm n ks)
mutual
def Zm:Nd->Bool
 |.mk _ _ _ _ ks=>decide (ks.length<1000000000)&&EJ ks
def EJ:List Nd->Bool
 |[]=>true
 |d::l=>Zm d&&EJ l
end
theorem Te:∀{ks:List Nd}{i:Nat}{d:Nd},EJ ks=true->ks[i]?=some d->Zm d=true
 |[],_,_,_,h=>by cases h
 |d::l,0,_,hs,h=>by cases h;rw[EJ,Bool.and_eq_true] at hs;exact hs.1
 |d::l,i+1,_,hs,h=>by rw[EJ,Bool.and_eq_true] at hs;exact Te hs.2 h
theorem wP{α:Type}{P:Nat->α->Prop}:∀(n:Nat),(∀i,i<n->∃x,P i x)->∃l:List α,l.length=n/\∀(i:Nat)(x:α),l[i]?=some x->P i x
 |0,_=>⟨[],rfl,fun i x h=>by cases h⟩
 |n+1,h=>by
   obtain⟨l,hl,hp⟩:=wP n (fun i hi=>h i (by omega));obtain⟨x,hx⟩:=h n (Nat.lt_succ_self n);refine⟨l++[x],by rw[List.length_append,hl];rfl,fun i y hy=>?_⟩;rcases f_ hy with⟨_,q⟩|⟨rfl,rfl⟩
   . exact hp i y q
   . rw[hl];exact hx
theorem ah0{Q : Nat -> Prop}{w : Ψ}{ks : List Nd}{A : Ω}{c : Nat}(h : KV Q w ks A c) : ks.length < 1000000000 -> EJ ks = true ->
   ∃nh:List PN,nh.length=ks.length/\(∀(i:Nat)(p:PN)(d:Nd),nh[i]?=some p->ks[i]?=some d->Er p d)/\∀(k a:Nat)(nm:Nm)(n:Int),PK w Q (.mk k a nm n A c nh):=by
 induction h with
 |@mk ks A c As cs hc hl hA hr _ ih=>
   intro hn hs;have hch:∀i,i<ks.length->∃p:PN,Er p (ks.getD i gS)/\PK w Q p/\p.cells=zx (ks.getD i gS) (As i) (cs i):=fun i hi=>by
     have hg:ks[i]?=some (ks.getD i gS):=by rw[List.getD_eq_getElem?_getD,List.getElem?_eq_getElem hi];rfl
     have nK:=Te hs hg;have:=ih i hi;generalize ks.getD i gS=d at this nK hg;obtain⟨k,a,nm,n,db⟩:=d;rw[Zm,Bool.and_eq_true] at nK;obtain⟨nh,Tf,Iu,Th⟩:=this (of_decide_eq_true nK.1) nK.2;exact⟨.mk k a nm n (As i) (cs i) nh,.mk Tf Iu,Th k a nm n,by show[Value.int .i64 (k:Int),.int .i64 (a:Int),.string nm,.int .i64 n,.slice (As i) nh.length (cs i)]=_;rw[Tf];rfl⟩
   obtain⟨nh,Tf,hp⟩:=wP ks.length hch;have hD:∀{i:Nat}{d:Nd},ks[i]?=some d->ks.getD i gS=d:=fun h=>by rw[List.getD_eq_getElem?_getD,h];rfl
   refine⟨nh,Tf,fun i p d h1 h2=>by have:=(hp i p h1).1;rwa [hD h2] at this,fun k a nm n=>.mk ⟨by omega,by omega⟩ (fun i p hi=>?_) (fun i p hi=>(hp i p hi).2.1)⟩;have pG:i<ks.length:=by rw[<- Tf];exact(List.getElem?_eq_some_iff.1 hi).1
   obtain⟨a1,e1,hq⟩:=hA i pG;obtain⟨a2,e2,o9⟩:=hr i pG;rw[e1] at e2;cases e2;exact⟨a1,e1,hq,by rw[(hp i p hi).2.2];exact o9⟩
theorem aok{w0 w : Ψ}{L0 L : List Sx.Item}(H : Hs w0 L0 w L)(j : Nat){Q : Nat -> Prop}{ks : List Nd}{A : Ω}{c : Nat}(hi : L[j]? = some (fK Q ks A c))(hn : ks.length < 1000000000)(hs : EJ ks = true)(k a : Nat)(nm : Nm)(n : Int) :
   ∃nh:List PN,nh.length=ks.length/\(∀(i:Nat)(p:PN)(d:Nd),nh[i]?=some p->ks[i]?=some d->Er p d)/\Hs w0 L0 w (L++[mI Q [] [] [.aJ (.mk k a nm n A c nh)]]):=by
 obtain⟨nh,h1,h2,h3⟩:=ah0 (ae4 H j hi) hn hs;exact⟨nh,h1,h2,H.ro (S:=Q) (A:=fun w=>KV Q w ks A c) (B:=fun w=>aO w Q [] [] [.aJ (.mk k a nm n A c nh)]) j hi ⟨fun _ h=>(by cases h),fun x hx=>(by rw[List.mem_singleton.1 hx];exact h3 k a nm n)⟩ (sR _ _ _ _)⟩
def GZ(s t:Ξ):Prop:=∃(na:Nat) (nm:Nm) (N:Nat) (ks:List Nd) (fa:Nat) (kf:Nat×Nat) (rl:List (Nm×Ty)) (rt:Ty) (ra:Int),jf s=(.mk 0 na nm (N:Int) ks,0,fa)/\oF kf N ks=some (rl,rt,0,ra)/\
 (ks.length<1000000000/\EJ ks=true)/\N<ks.length/\(∀(j:Nat)(d:Nd),N<=j->j+1<ks.length->ks[j]?=some d->d.ks≠[])/\
 ∀(nh:List PN)(p:PN),nh.length=ks.length->(∀(i:Nat)(p:PN)(d:Nd),nh[i]?=some p->ks[i]?=some d->Er p d)->Lets (nh.drop N) p->∃(kk:Nat) (x:Vl) (s':Nat),Cn (E1 (pU (nh.take N))) kk 0 ⟨[],p,.nil,none,[]⟩=some (x,s')/\wC x=some t
theorem ah1{N:Nat}{ks:List Nd}{nh:List PN}(hl:nh.length=ks.length)(he:∀(i:Nat)(p:PN)(d:Nd),nh[i]?=some p->ks[i]?=some d->Er p d)(h:∀(j:Nat)(d:Nd),N<=j->j+1<ks.length->ks[j]?=some d->d.ks≠[]):∀(j:Nat)(d:PN),N<=j->j+1<nh.length->nh[j]?=some d->∃x l,d.ks=x::l:=fun j p h1 h2 h3=>by
 have hj:j<ks.length:=by omega
 have hd:=List.getElem?_eq_getElem hj;have:=h j _ h1 (by omega) hd;have hx:=he j p _ h3 hd;generalize ks[j]'hj=d at this hx;cases hx with
 |@mk k a nm n A c aol pf VK _=>
   cases aol with
   |nil=>cases pf with
     |nil=>exact absurd rfl this
     |cons _ _=>cases VK
   |cons x l=>exact⟨x,l,rfl⟩
end Go.Mn
namespace Go.Proofs.YtdmdecgoebnamaaGreat
open Go.RowKit Go.Sx Go.aR Go.Mn
attribute [local irreducible] Go.wpOps Go.Code.wp Go.wpOp Go.wpAnyH Go.Calls Go.Sx.Goal
set_option maxRecDepth 20000
namespace Mr
theorem NL(S:Φ)(k ta:Nat)(nm:Nm)(N:Nat)(nA:Ω)(nc:Nat)(ks:List PN)(len:Nat)(w:Ψ)(K:Ending->Ψ->Prop)(H0:Sp w [mI S [] [] [.aJ (PN.mk k ta nm (N:Int) nA nc ks)]])(hlen:ks.length=len)(hN:N<ks.length)(hds:∀(j:Nat)(d:PN),N<=j->j+1<ks.length->ks[j]?=some d->∃x l,d.ks=x::l)(hK:∀(br bo:Nat)(S':Φ)(k' a':Nat)(sW:Nm)(sY:Int)(sZ:Ω)(s5:Nat)(pf:List PN) w',Hs w [mI S [] [] [.aJ (PN.mk k ta nm (N:Int) nA nc ks)]] w' [bR br none 0 0 (.n k') (.n a') sW (.int .i64 sY) sZ pf.length s5 (.pointer none) (.pointer none) bo (.int .i64 0) eB (.int .i64 0),wI 135 8 none 0 0 (bx ([])),mI S' ([]) ([]) [.env none .nil,.aJ (PN.mk k' a' sW sY sZ s5 pf),.vo none none],wA ([]) ([]),xF bo (pU (ks.take N))]->Lets (ks.drop N) (PN.mk k' a' sW sY sZ s5 pf)->xG (pU (ks.take N))->K (.returned (.p br)) w'):Calls Tryz.prog 27 #[.agg #[.int .i64 (k:Int),.int .i64 (ta:Int),.string nm,.n N,.slice nA len nc]] w K:=by
 subst hlen;exact M5 S k ta nm N nA nc ks w K H0 hN hds hK
set_option maxHeartbeats 8000000 in
theorem acK(s : Ξ)  (w : Ψ) (K : Ending -> Ψ -> Prop) (H0 : Sp w []) (t : Ξ) (hpm : GZ s t) (hK : ∀(st' : Int) w', Hs w [] w' [] -> K (.returned (.tuple #[.agg #[.int .i64 1, .string eB, .string t, .int .i64 st'], .agg #[.int .i64 0, .int .i64 0]])) w') :
   Calls Tryz.prog 16 #[.string s,.int .i64 1000000] w K:=by
 obtain⟨L0,aq,H⟩:=Sx.cw H0;refine xu (vs:=[.string s,.int .i64 1000000]) 45 Tryz.func16 ?_;obtain⟨na,nm,N,ks,fa,kf,rl,rt,ra,hp,hf,nK,hN,hds,pC⟩:=hpm;refine xg 2 H fun k1 w1 H1=>xg 0 H1 fun k2 w2 H2=>?_;refine xd 5 [] H2 (fun Hp R hZ=>Xl s w2 R Hp 0 na nm N ks 0 fa hp (fun Q nA nc w3 G1=>hZ _ _ _ G1 fun H3=>?_));refine xg 3 H3 fun k3 w4 H4=>xg 0 H4 fun k4 w5 H5=>xe 0 3 H5 fun w6 H6=>xe 0 4 H6 fun w7 H7=>xb 6 4 H7<|xb 5 3 H7 ?_;refine xd 0 [0] H7 (fun Hp R hZ=>Xk Q 0 na nm N ks nA nc w7 R Hp kf (rl,rt,0,ra) hf rfl (fun fA fn fc xo w8 G2=>hZ _ _ _ G2 fun H8=>?_));refine xe 3 5 H8 fun w9 H9=>xb 6 5 H9<|xb 22 4 H9 ?_;have ax:=aok H9 1 (Q:=Q) (ks:=ks) (A:=nA) (c:=nc) (by kernel_rfl) nK.1 nK.2 0 na nm (N:Int);obtain⟨nh,Tf,Iu,bh⟩:=ax;refine xd 0 [6] bh (fun Hp R hZ=>NL Q 0 na nm N nA nc nh ks.length w9 R Hp Tf (by omega) (ah1 Tf Iu hds) (fun br bo S' k' a' sW sY sZ s5 pf df G3 eK gv=>hZ _ _ _ G3 fun bp=>?_));have ax:=pC nh _ Tf Iu eK;obtain⟨kk,x,s',Im,M1⟩:=ax;refine xd 7 [0,0,0,0,0] bp (fun Hp R hZ=>ak2 S' [] [] (pU (nh.take N)) .nil kk x s' t br none 0 0 [] k' a' sW sY sZ s5 pf none bo df R Hp ⟨rfl,by decide⟩ rfl gv Im M1 (fun A2 n2 c2 k2 a2 tG nZ yM nc2 ks2 eo2 vo2 Ti gV G4=>hZ _ _ _ G4 fun aV=>?_));refine xb 7 0 aV<|xe 1 3 aV fun jk bS=>xe 0 4 bS fun jT bD=>xf 3 [3,4] bD (.tuple #[.agg #[.int .i64 1,.string eB,.string t,.int .i64 Ti],.agg #[.int .i64 0,.int .i64 0]]) ?_;subst aq;exact hK Ti _ (bD.pk [])
end Mr
end Go.Proofs.YtdmdecgoebnamaaGreat
namespace Go.Proofs
open Go.Shelf
def Tryz.wQ:Go.Shelf.Ren:=⟨fun|156=>23|165=>30|166=>31|169=>32|240=>41|241=>42|276=>72|277=>73|n=>n,fun|31=>30|9=>9|3=>3|4=>4|0=>0|20=>20|72=>81|76=>84|70=>79|37=>78|75=>83|127=>100|164=>144|5=>5|80=>86|n=>n,fun|n=>n⟩
theorem Tryz.Xm:Go.Proofs.Lays.n156 Tryz.prog Tryz.wQ:={
 mixed:=by kernel_rfl
 f156:=Tryz.func23.trans (congrArg some (by kernel_rfl))
 f165:=Tryz.func30.trans (congrArg some (by kernel_rfl))
 f166:=Tryz.func31.trans (congrArg some (by kernel_rfl))
 f169:=Tryz.func32.trans (congrArg some (by kernel_rfl))
 f240:=Tryz.func41.trans (congrArg some (by kernel_rfl))
 f241:=Tryz.func42.trans (congrArg some (by kernel_rfl))
 f276:=Tryz.func72.trans (congrArg some (by kernel_rfl))
 f277:=Tryz.func73.trans (congrArg some (by kernel_rfl))
 t0:=Tryz.underlying0
 a0:=Tryz.isAgg0
 z0:=Tryz.sizeOf0
 v0:=Tryz.zeroValue0
 t3:=Tryz.underlying3
 a3:=Tryz.isAgg3
 z3:=Tryz.sizeOf3
 v3:=Tryz.zeroValue3
 t4:=Tryz.underlying4
 a4:=Tryz.isAgg4
 z4:=Tryz.sizeOf4
 v4:=Tryz.zeroValue4
 t9:=Tryz.underlying9
 a9:=Tryz.isAgg9
 z9:=Tryz.sizeOf9
 v9:=Tryz.zeroValue9
 t20:=Tryz.underlying20
 a20:=Tryz.isAgg20
 z20:=Tryz.sizeOf20
 v20:=Tryz.zeroValue20
 t31:=Tryz.underlying30
 a31:=Tryz.isAgg30
 z31:=Tryz.sizeOf30
 v31:=Tryz.zeroValue30
 t37:=Tryz.underlying78
 a37:=Tryz.isAgg78
 z37:=Tryz.sizeOf78
 v37:=Tryz.zeroValue78
 t70:=Tryz.underlying79
 a70:=Tryz.isAgg79
 z70:=Tryz.sizeOf79
 v70:=Tryz.zeroValue79
 t72:=Tryz.underlying81
 a72:=Tryz.isAgg81
 z72:=Tryz.sizeOf81
 v72:=Tryz.zeroValue81
 t75:=Tryz.underlying83
 a75:=Tryz.isAgg83
 z75:=Tryz.sizeOf83
 v75:=Tryz.zeroValue83
 t76:=Tryz.underlying84
 a76:=Tryz.isAgg84
 z76:=Tryz.sizeOf84
 v76:=Tryz.zeroValue84
 t127:=Tryz.underlying100
 a127:=Tryz.isAgg100
 z127:=Tryz.sizeOf100
 v127:=Tryz.zeroValue100
 t164:=Tryz.underlying144
 a164:=Tryz.isAgg144
 z164:=Tryz.sizeOf144
 v164:=Tryz.zeroValue144 }
theorem Tryz.uO:Builder.Extra Tryz.prog Tryz.wQ:={
 sizeBuilder:=by kernel_rfl
 liesBuilder:=by kernel_rfl
 t5:=Tryz.underlying5
 a5:=Tryz.isAgg5
 z5:=Tryz.sizeOf5
 v5:=Tryz.zeroValue5
 infoByte:=by kernel_rfl
 cellsByte:=by kernel_rfl
 sizeByte:=by kernel_rfl
 neB5:=by decide }
open Go.RowKit in
theorem Tryz.strings_Join(bk o c : Nat)(xs : List Ξ)(sep : Ξ)(w : Ψ)(Ic : ∀(j : Nat) x, xs[j]? = some x -> w.cell? ⟨bk, o + j, none⟩ = some (.string x))(MW : bk < w.heap.size)(hN : xs.length <= 140737488355328)(FR : xs.length <= c)(hlen : (Lib.join (xs.map (·.data.toList)) sep.data.toList).length <= 140737488355328) :
   Calls Tryz.prog 23 #[.slice (some ⟨bk,o,none⟩) xs.length c,.string sep] w fun e w'=>e=.returned (.string ⟨(Lib.join (xs.map (·.data.toList)) sep.data.toList).toArray⟩)/\Below w.heap.size w w':=Any.strings_Join Tryz.Xm Tryz.uO bk o c xs sep w Ic MW hN FR hlen
end Go.Proofs
namespace Go.aR
open Go.dy
def lnK(c:Code):List Ξ:=match c with
 |.region _ ops _=>ops.toList.flatMap fun o=>match o.op with
   |.buildSlice _ _ parts=>parts.toList.filterMap fun x=>match x.2 with
     |.const (.string s)=>some s
     |_=>none
   |_=>[]
 |_=>[]
noncomputable def OF(p:List Nat):List Ξ:=lnK (Sx.cat p (Sx.Dr Proofs.Tryz.f22))
noncomputable def lnC(p:List Nat):Array Value:=((OF p).map Value.string).toArray
def mC(ls:List Ξ):Ξ:=⟨(Lib.join (ls.map (·.data.toList)) (⟨#[10]⟩:Ξ).data.toList).toArray⟩
noncomputable def wg(p:List Nat):Ξ:=mC (OF p)++⟨#[10]⟩
end Go.aR
namespace Go.Proofs.YtdmdecgoebnamaaGreat
open Go.RowKit Go.Sx Go.aR Go.dy
theorem acL(bk : Nat)(ls : List Ξ)(w : Ψ)(K : Ending -> Ψ -> Prop)(H0 : Sp w [.ar bk (.cells (ls.map Value.string).toArray 9)])(hN : ls.length <= 1000)(hl : (mC ls).size <= 100000)
   (hK:∀w',Hs w [.ar bk (.cells (ls.map Value.string).toArray 9)] w' [.ar bk (.cells (ls.map Value.string).toArray 9)]->K (.returned (.string (mC ls))) w'):
   Calls Tryz.prog 23 #[.slice (some ⟨bk,0,none⟩) ls.length ls.length,.string ⟨#[10]⟩] w K:=by
 have hb:w.heap[bk]?=some (.cells (ls.map Value.string).toArray 9):=H0.all _ (List.mem_singleton.2 rfl);refine(Tryz.strings_Join bk 0 ls.length ls ⟨#[10]⟩ w (fun j x hx=>?_) ?_ (by omega) (Nat.le_refl _) ?_).mono ?_
 . have e:(ls.map Value.string).toArray[0+j]?=some (.string x):=by rw[Nat.zero_add];simp[hx]
   simp[World.cell?,hb,e,hx]
 . exact(Array.getElem?_eq_some_iff.1 hb).1
 . have:(mC ls).size=(Lib.join (ls.map (·.data.toList)) (⟨#[10]⟩:Ξ).data.toList).length:=by unfold mC;show(List.toArray _).size=_;simp
   omega
 . rintro e w' ⟨rfl,hbl⟩;exact hK w' ((Hs.refl H0).ext (Gx.Ext.OL hbl))
end Go.Proofs.YtdmdecgoebnamaaGreat
namespace Go.Proofs.YtdmdecgoebnamaaGreat
open Go.RowKit Go.Sx Go.aR Go.dy
attribute [local irreducible] Go.wpOps Go.Code.wp Go.wpOp Go.wpAnyH Go.Calls Go.Sx.Goal
set_option maxRecDepth 20000
theorem G0  (w : Ψ) (K : Ending -> Ψ -> Prop) (H0 : Sp w []) (hK : ∀(b : Nat) w', Hs w [] w' [.ar b (.cells (lnC [1, 0, 1, 0, 1, 0, 0]) 9)] -> K (.returned (.slice (Χ b) 3 3)) w') :
   Calls Tryz.prog 22 #[.string (bY [115,116,97,116,101])] w K:=by
 obtain⟨L0,aq,H⟩:=Sx.cw H0;refine xu (vs:=[.string (bY [115,116,97,116,101])]) 19 Tryz.func22 ?_;refine xh 18 ((bY [115,116,97,116,101]).toList==(bY [115,116,97,116,101]).toList) (fun uM=>?_) (fun uM=>?_)
 . refine xg 2 H fun k1 w1 H1=>?_;refine xf 6 [] H1 (.slice (Χ k1) 3 3) ?_;subst aq;exact hK k1 _ (H1.pk [0])
 exact Bool.noConfusion (uM.symm.trans (show _=true by kernel_rfl))
theorem JM  (w : Ψ) (K : Ending -> Ψ -> Prop) (H0 : Sp w []) (hK : ∀ w', Hs w [] w' [] -> K (.returned (.string (wg [1, 0, 1, 0, 1, 0, 0]))) w') :
   Calls Tryz.prog 10 #[.string (bY [115,116,97,116,101])] w K:=by
 obtain⟨L0,aq,H⟩:=Sx.cw H0;refine xu (vs:=[.string (bY [115,116,97,116,101])]) 11 Tryz.func10 ?_;refine xd 8 [] H (fun Hp R hZ=>G0 w R Hp  (fun oO w1 G1=>hZ _ _ _ G1 fun H1=>?_));refine xd 16 [0] H1 (fun Hp R hZ=>acL oO (OF [1,0,1,0,1,0,0]) w1 R Hp (Nat.le_of_ble_eq_true (by kernel_rfl)) (Nat.le_of_ble_eq_true (by kernel_rfl)) (fun w2 G2=>hZ _ _ _ G2 fun H2=>?_));refine Sx.dq 0 (mC (OF [1,0,1,0,1,0,0])) (bY [10]) (Nat.le_of_ble_eq_true (by kernel_rfl))<|xf 4 [] H2 (.string ((mC (OF [1,0,1,0,1,0,0]))++(bY [10]))) ?_;subst aq;exact Gx.ah (v':=.string (wg [1,0,1,0,1,0,0])) rfl (hK _ (H2.pk []))
end Go.Proofs.YtdmdecgoebnamaaGreat
namespace Go.Mn
open Go.aR Go.dy
mutual
def bP:PN->PN
 |.mk k _ nm n _ _ ks=>.mk k 0 nm n none 0 (bPs ks)
def bPs:List PN->List PN
 |[]=>[]
 |d::l=>bP d::bPs l
end
mutual
def bV:Vl->Vl
 |.int n=>.int n
 |.bool b=>.bool b
 |.unit=>.unit
 |.nil=>.nil
 |.cons a b=>.cons (bV a) (bV b)
 |.pair a b=>.pair (bV a) (bV b)
 |.fn nd e=>.fn (bP nd) (bE e)
 |.res i fr op o=>.res i (Zn fr) op o
def bE:En->En
 |.nil=>.nil
 |.put nm v up=>.put nm (bV v) (bE up)
 |.rc nm nd up=>.rc nm (bP nd) (bE up)
def bF:Fr->Fr
 |.mk nd at_ e none=>.mk (bP nd) at_ (bE e) none
 |.mk nd at_ e (some v)=>.mk (bP nd) at_ (bE e) (some (bV v))
def Zn:List Fr->List Fr
 |[]=>[]
 |f::l=>bF f::Zn l
end
def mD(r:Rn):Rn:=⟨Zn r.st,bP r.nd,bE r.e,r.v.map bV,r.us⟩
theorem Tl(l:List PN):bPs l=l.map bP:=by induction l with
 |nil=>rfl
 |cons x l ih=>rw[bPs,ih];rfl
theorem m0(l:List Fr):Zn l=l.map bF:=by induction l with
 |nil=>rfl
 |cons x l ih=>rw[Zn,ih];rfl
theorem Tm(d:PN):(bP d).k=d.k:=by cases d;rfl
theorem uP(d:PN):(bP d).nm=d.nm:=by cases d;rfl
theorem Xn(d:PN):(bP d).n=d.n:=by cases d;rfl
theorem wR(d:PN):(bP d).ks=d.ks.map bP:=by cases d;exact Tl _
theorem Lw(nd:PN)(i:Nat)(e:En)(v:Option Vl):bF (.mk nd i e v)=.mk (bP nd) i (bE e) (v.map bV):=by cases v<;>rfl
theorem JN:∀(e:En)(x:Nm),find (bE e) x=(find e x).map bV
 |.nil,_=>rfl
 |.put nm v up,x=>by
   simp only[bE,find];split
   . rfl
   . exact JN up x
 |.rc nm nd up,x=>by
   simp only[bE,find];split
   . rfl
   . exact JN up x
theorem Tn(r:Rn)(i:Nat)(v:Option Vl):pJ (mD r) i (v.map bV)=Zn (pJ r i v):=by
 simp only[pJ,mD,m0,List.map_append,List.map_cons,List.map_nil,Lw]
theorem G_(r:Rn)(i:Nat)(v:Option Vl):oY (mD r) i (v.map bV)=(oY r i v).map mD:=by
 unfold oY;rw[show(mD r).nd.ks[i]?=(r.nd.ks[i]?).map bP by show(bP r.nd).ks[i]?=_;rw[wR,List.getElem?_map]];cases r.nd.ks[i]? with
 |none=>rfl
 |some d=>simp only[Option.map_some,Tn];rfl
theorem acN(r:Rn):gU (mD r)=(gU r).map mD:=by
 unfold gU;rw[show(mD r).nd.k=r.nd.k from Tm _,show(mD r).nd.nm=r.nd.nm from uP _,show(mD r).nd.n=r.nd.n from Xn _,show(mD r).e=bE r.e from rfl,JN,show oY (mD r) 0 none=(oY r 0 none).map mD from G_ r 0 none];split<;>first|rfl|(cases find r.e r.nd.nm<;>rfl)
theorem Ha(op:Nm):∀(l:List PN)(i:Nat),cJ op (l.map bP) i=cJ op l i
 |[],_=>rfl
 |d::l,i=>by simp only[List.map_cons,cJ,uP,Ha op l]
theorem To(op:Nm):∀(l:List Fr)(i:Nat),hand op (l.map bF) i=hand op l i
 |[],_=>rfl
 |.mk nd j e v::l,i=>by
   simp only[List.map_cons,hand,To op l,Lw,Fr.nd,Tm,wR,<-List.map_drop,Ha];rfl
theorem acO(once:Nm->Bool)(r:Rn)(op:Nm)(x:Vl):kq once (mD r) op (bV x)=(kq once r op x).map mD:=by
 unfold kq;rw[show(mD r).st=r.st.map bF from m0 _,To];cases hand op r.st 0 with
 |none=>rfl
 |some q=>
   obtain⟨i,k⟩:=q;simp only[List.getElem?_map];cases r.st[i]? with
   |none=>rfl
   |some f=>
     obtain⟨nd,j,e,v⟩:=f;simp only[Option.map_some,Lw,wR,List.getElem?_map];cases nd.ks[k]? with
     |none=>rfl
     |some c=>
       simp only[Option.map_some,wR,Xn];match c.ks with
       |[]|[_]|[_,_]|_::_::_::_::_=>rfl
       |[a,b,d]=>
         simp only[List.map_cons,List.map_nil,Option.map_some,mD,m0,bE,bV,uP,<-List.map_take,<-List.map_drop,Option.map_none]
theorem Xo(r:Rn)(f x:Vl):iG (mD r) (bV f) (bV x)=(iG r f x).map mD:=by
 cases f with
 |fn nd e=>
   simp only[iG,bV,wR];match nd.ks with
   |[]|_::_::_=>rfl
   |[d]=>simp only[List.map_cons,List.map_nil,Option.map_some,mD,bE,uP]
 |res i fr op o=>
   simp only[iG,bV];rw[show(mD r).us=r.us from rfl,show(mD r).st=r.st.map bF from m0 _,m0,List.length_map,List.length_map];cases r.us[i]? with
   |none=>rfl
   |some u=>
     simp only;split
     . rfl
     . simp only[Option.map_some,mD,m0,List.map_append]
 |_=>rfl
theorem aom(nm:Nm)(x y:Int):bV (EZ nm x y)=EZ nm x y:=by unfold EZ;repeat' split<;>first|rfl|skip
theorem EK(r:Rn)(a b:Vl):iH (mD r) (bV a) (bV b)=(iH r a b).map mD:=by
 unfold iH;rw[show(mD r).nd.k=r.nd.k from Tm _,show(mD r).nd.nm=r.nd.nm from uP _];split
 . rfl
 . rfl
 . cases a<;>cases b<;>first|rfl|(simp only[bV,Option.map_some,mD,aom])
 . exact Xo r a b
 . rfl
theorem acP{α β:Type}(f:α->β)(l:List α):(l.map f).getLast?=l.getLast?.map f:=by rw[List.getLast?_map]
theorem acQ(once:Nm->Bool)(r:Rn)(x:Vl):oM once (mD r) (bV x)=(oM once r x).map mD:=by
 unfold oM;rw[show(mD r).st=r.st.map bF from m0 _,acP];cases r.st.getLast? with
 |none=>rfl
 |some fr=>
   obtain⟨nd,i,e,fv⟩:=fr;simp only[Option.map_some,Lw,wR,List.getElem?_map,Tm,Xn,uP];rw[show(r.st.map bF).dropLast=Zn r.st.dropLast by rw[m0,List.map_dropLast]];split
   . split
     . cases x<;>first|rfl|skip
       cases nd.ks[1]?<;>rfl
     . cases nd.ks[1]?<;>rfl
   . split
     . cases x<;>first|rfl|skip
       cases nd.ks[1]?<;>rfl
     . cases nd.ks[1]?<;>rfl
   . cases nd.ks[1]?<;>rfl
   . cases x with
     |bool b=>match nd.ks with
       |[]|[_]|[_,_]|_::_::_::_::_=>rfl
       |[_,d,f]=>cases b<;>rfl
     |_=>rfl
   . cases x<;>rfl
   . cases x<;>rfl
   . cases x<;>first|rfl|skip
     . match nd.ks with
       |[]|[_]|[_,_]|[_,_,_]|[_,_,_,_]|_::_::_::_::_::_::_=>rfl
       |[_,d,_,_,_]=>rfl
     . match nd.ks with
       |[]|[_]|[_,_]|[_,_,_]|[_,_,_,_]|_::_::_::_::_::_::_=>rfl
       |[_,_,p,s,d]=>simp only[bV,List.map_cons,List.map_nil,Option.map_some,mD,bE,uP];rfl
   . exact acO once ⟨r.st.dropLast,nd,e,none,r.us⟩ nd.nm x
   . cases nd.ks[1]? with
     |none=>rfl
     |some c=>
       simp only[Option.map_some,wR,uP];match c.ks with
       |[]|_::_::_=>rfl
       |[d]=>rfl
   . split
     . exact G_ ⟨r.st.dropLast,nd,e,none,r.us⟩ 1 (some x)
     . cases fv with
       |none=>rfl
       |some f=>exact EK ⟨r.st.dropLast,nd,e,none,r.us⟩ f x
   . split
     . exact G_ ⟨r.st.dropLast,nd,e,none,r.us⟩ 1 (some x)
     . cases fv with
       |none=>rfl
       |some f=>exact EK ⟨r.st.dropLast,nd,e,none,r.us⟩ f x
   . split
     . exact G_ ⟨r.st.dropLast,nd,e,none,r.us⟩ 1 (some x)
     . cases fv with
       |none=>rfl
       |some f=>exact EK ⟨r.st.dropLast,nd,e,none,r.us⟩ f x
   . split
     . exact G_ ⟨r.st.dropLast,nd,e,none,r.us⟩ 1 (some x)
     . cases fv with
       |none=>rfl
       |some f=>exact EK ⟨r.st.dropLast,nd,e,none,r.us⟩ f x
   . rfl
theorem Xp(once:Nm->Bool):∀(k s:Nat)(r:Rn),Cn once k s (mD r)=(Cn once k s r).map fun p=>(bV p.1,p.2)
 |0,_,_=>rfl
 |k+1,s,r=>by
   unfold Cn;rw[show(mD r).st=r.st.map bF from m0 _,List.length_map,show(mD r).v=r.v.map bV from rfl];split
   . rfl
   . cases hv:r.v with
     |some x=>
       simp only[Option.map_some];rw[show(r.st.map bF).isEmpty=r.st.isEmpty by cases r.st<;>rfl];split
       . rfl
       . rw[show(⟨r.st.map bF,(mD r).nd,(mD r).e,none,(mD r).us⟩:Rn)=mD { r with v:=none } by simp only[mD,m0,Option.map_none],acQ];cases oM once { r with v:=none } x with
         |none=>rfl
         |some r'=>exact Xp once k s r'
     |none=>
       simp only[Option.map_none];rw[show(mD r).nd.k=r.nd.k from Tm _,show(mD r).nd.ks[0]?=(r.nd.ks[0]?).map bP by show(bP r.nd).ks[0]?=_;rw[wR,List.getElem?_map]];split
       . cases r.nd.ks[0]? with
         |none=>rfl
         |some d=>
           simp only[Option.map_some];rw[show pJ (mD r) 0 none=Zn (pJ r 0 none) from Tn r 0 none];exact Xp once k s ⟨pJ r 0 none,d,r.e,none,r.us⟩
       . split
         . rw[acN];cases gU r with
           |none=>rfl
           |some r'=>exact Xp once k (s+1) r'
         . rfl
mutual
def bN:Nd->PN
 |.mk k _ nm n ks=>.mk k 0 nm n none 0 (bNs ks)
def bNs:List Nd->List PN
 |[]=>[]
 |d::l=>bN d::bNs l
end
theorem acR(l:List Nd):bNs l=l.map bN:=by induction l with
 |nil=>rfl
 |cons x l ih=>rw[bNs,ih];rfl
theorem acS{p:PN}{d:Nd}(h:Er p d):bP p=bN d:=by
 induction h with
 |@mk k a nm n A c nh ks hl _ ih=>
   rw[bP,bN,Tl,acR];congr 1;apply List.ext_getElem?;intro i;rw[List.getElem?_map,List.getElem?_map];rcases Nat.lt_or_ge i nh.length with q|q
   . have h1:=List.getElem?_eq_getElem q;have h2:=List.getElem?_eq_getElem (show i<ks.length by omega);rw[h1,h2];exact congrArg some (ih i _ _ h1 h2)
   . rw[List.getElem?_eq_none q,List.getElem?_eq_none (by omega)];rfl
def Ba:List Nd->PN
 |[]=>pz
 |[m]=>bN m
 |d::l=>.mk 2 0 d.nm d.n none 0 [bN (d.ks.headD gS),Ba l]
theorem acT{l:List PN}{p:PN}(h:Lets l p):∀{ks:List Nd},l.length=ks.length->(∀(i:Nat)(p:PN)(d:Nd),l[i]?=some p->ks[i]?=some d->Er p d)->bP p=Ba ks:=by
 induction h with
 |one m=>intro ks hl he;match ks,hl with
   |[d],_=>exact acS (he 0 m d rfl rfl)
 |@more k a nm n A B c c2 x ps l e h ih=>
   intro ks hl he;match ks,hl with
   |[d],hl=>exact absurd hl (by cases h<;>simp)
   |d::d2::ks,hl=>
     have h0:=he 0 _ d rfl rfl;have:=ih (ks:=d2::ks) (by simpa using hl) (fun i p d h1 h2=>he (i+1) p d h1 h2);rw[Ba,bP,bPs,bPs,bPs,this]
     . cases h0 with
       |@mk _ _ _ _ _ _ _ pf VK h'=>
         match pf,VK with
         |y::pf,_=>
           have:=acS (h' 0 _ _ rfl rfl);show PN.mk 2 0 nm n none 0 [bP x,_]=PN.mk 2 0 nm n none 0 [bN y,_];rw[this]
     . intro q;cases q
theorem NM{s t : Ξ}{na : Nat}{nm : Nm}{N : Nat}{ks : List Nd}{fa : Nat}{kf : Nat × Nat}{rl : List (Nm × Ty)}{rt : Ty}{ra : Int}{k s' : Nat}{x : Vl}(hp : jf s = (.mk 0 na nm (N : Int) ks, 0, fa))(hf : oF kf N ks = some (rl, rt, 0, ra))(hl : ks.length < 1000000000)(hs : EJ ks = true)(hN : N < ks.length)
   (hd:∀(j:Nat)(d:Nd),N<=j->j+1<ks.length->ks[j]?=some d->d.ks≠[]) (hg:Cn (E1 (pU ((ks.take N).map bN))) k 0 ⟨[],Ba (ks.drop N),.nil,none,[]⟩=some (x,s')) (hx:∀y,bV y=x->y=x) (ht:wC x=some t):GZ s t:=by
 refine⟨na,nm,N,ks,fa,kf,rl,rt,ra,hp,hf,⟨hl,hs⟩,hN,hd,fun nh p Tf Iu eK=>?_⟩;have e1:pU (nh.take N)=pU ((ks.take N).map bN):=by
   have:(nh.take N).map bP=(ks.take N).map bN:=by
     apply List.ext_getElem?;intro i;rw[List.getElem?_map,List.getElem?_map];rcases Nat.lt_or_ge i N with q|q
     . rw[List.getElem?_take_of_lt q,List.getElem?_take_of_lt q];rcases Nat.lt_or_ge i nh.length with q|q
       . have h1:=List.getElem?_eq_getElem q;have h2:=List.getElem?_eq_getElem (show i<ks.length by omega);rw[h1,h2];exact congrArg some (acS (Iu i _ _ h1 h2))
       . rw[List.getElem?_eq_none q,List.getElem?_eq_none (by omega)];rfl
     . rw[List.getElem?_eq_none (by simp;omega),List.getElem?_eq_none (by simp;omega)];rfl
   rw[<- this];unfold pU;rw[List.foldl_map];congr 1;funext m d;rw[uP,Xn]
 have e2:bP p=Ba (ks.drop N):=acT eK (by simp[Tf]) (fun i p d h1 h2=>by rw[List.getElem?_drop] at h1 h2;exact Iu _ p d h1 h2);have:=Xp (E1 (pU (nh.take N))) k 0 ⟨[],p,.nil,none,[]⟩;rw[show mD ⟨[],p,.nil,none,[]⟩=⟨[],Ba (ks.drop N),.nil,none,[]⟩ by rw[<- e2];rfl,e1,hg] at this;obtain⟨q,h1,h2⟩:=Option.map_eq_some_iff.1 this.symm;obtain⟨y,s2⟩:=q;have hy:y=x:=hx y (congrArg Prod.fst h2);subst hy;exact⟨k,y,s2,by rw[e1];exact h1,ht⟩
def rv(r:Rn):Rn:=⟨r.st.reverse,r.nd,r.e,r.v,r.us⟩
theorem Ly{r:Rn}(h:r.nd.k≠3/\r.nd.k≠4/\r.nd.k≠5/\r.nd.k≠15/\r.nd.k≠6/\r.nd.k≠7):gU r=oY r 0 none:=by
 unfold gU;split<;>first|rfl|(exfalso;omega)
def evT(r:Rn):Option Rn:=match gU { r with st:=[] } with
 |some q=>some { q with st:=q.st++r.st }
 |none=>none
theorem ah2(r:Rn):gU (rv r)=(evT r).map rv:=by
 obtain⟨st,nd,e,v,us⟩:=r;unfold evT;have:nd.k=3∨nd.k=4∨nd.k=5∨nd.k=15∨nd.k=7∨nd.k=6∨(nd.k≠3/\nd.k≠4/\nd.k≠5/\nd.k≠15/\nd.k≠6/\nd.k≠7):=by omega
 rcases this with h|h|h|h|h|h|h
 . simp only[gU,rv,h,Option.map_some,List.nil_append]
 . simp only[gU,rv,h,Option.map_some,List.nil_append]
 . simp only[gU,rv,h,Option.map_some,List.nil_append]
 . simp only[gU,rv,h,Option.map_some,List.nil_append]
 . simp only[gU,rv,h,Option.map_some,List.nil_append]
 . simp only[gU,rv,h];cases find e nd.nm<;>simp[rv]
 . rw[Ly (r:=rv ⟨st,nd,e,v,us⟩) h,Ly (r:=⟨[],nd,e,v,us⟩) h];unfold oY pJ;simp only[rv];cases nd.ks[0]?<;>simp[rv]
def clF(op:Nm)(f:Fr):Option Nat:=if f.nd.k=20 then cJ op (f.nd.ks.drop 2) 2 else none
def h_(op:Nm):List Fr->Nat->Option (Nat×Nat)
 |[],_=>none
 |f::l,i=>match clF op f with
   |some k=>some (i,k)
   |none=>h_ op l (i+1)
theorem Hb(op : Nm)(f : Fr) : ∀(l : List Fr)(i : Nat), hand op (l ++ [f]) i = match clF op f with
   |some k=>some (i+l.length,k)
   |none=>hand op l i
 |[],i=>by
   rw[List.nil_append,hand,hand,clF];by_cases h:f.nd.k=20
   . simp only[if_pos h];cases cJ op (f.nd.ks.drop 2) 2<;>rfl
   . simp only[if_neg h];rfl
 |g::l,i=>by
   rw[List.cons_append,hand,Hb op f l (i+1),hand];cases clF op f with
   |none=>rfl
   |some k=>simp only[List.length_cons];rw[show i+(l.length+1)=i+1+l.length by omega]
theorem Hc(op:Nm):∀(l:List Fr)(i:Nat),h_ op l i=(hand op l.reverse 0).map fun q=>(i+(l.length-1-q.1),q.2)
 |[],_=>rfl
 |f::l,i=>by
   rw[h_,List.reverse_cons,Hb];cases clF op f with
   |some k=>simp[List.length_reverse]
   |none=>
     simp only;rw[Hc op l (i+1)];have lt:∀(l:List Fr)(j:Nat)(q:Nat×Nat),hand op l j=some q->j<=q.1/\q.1<j+l.length:=fun l=>by
       induction l with
       |nil=>intro j q h;cases h
       |cons g l ih=>
         intro j q h;rw[hand] at h;cases hh:hand op l (j+1) with
         |some p=>rw[hh] at h;cases h;have:=ih _ _ hh;simp only[List.length_cons];omega
         |none=>
           rw[hh] at h;simp only at h;split at h
           . split at h
             . cases h;simp
             . cases h
           . cases h
     cases hh:hand op l.reverse 0 with
     |none=>rfl
     |some q=>
       have:=(lt _ _ _ hh).2;rw[List.length_reverse] at this;simp only[Option.map_some,List.length_cons];rw[show i+1+(l.length-1-q.1)=i+(l.length+1-1-q.1) by omega]
def doT(once:Nm->Bool)(r:Rn)(op:Nm)(x:Vl):Option Rn:=match h_ op r.st 0 with
 |some (i,k)=>match r.st[i]? with
   |some (.mk nd _ e _)=>match nd.ks[k]? with
     |some c=>match c.ks with
       |[a,b,d]=>some ⟨r.st.drop (i+1),d,.put b.nm (.res r.us.length ((r.st.take (if nd.n==1 then i else i+1)).reverse) op (once op)) (.put a.nm x e),none,r.us++[false]⟩
       |_=>none
     |none=>none
   |none=>none
 |none=>none
theorem ah4(once:Nm->Bool)(r:Rn)(op:Nm)(x:Vl):kq once (rv r) op x=(doT once r op x).map rv:=by
 unfold kq doT;rw[show(rv r).st=r.st.reverse from rfl,show(rv r).us=r.us from rfl,Hc op r.st 0];cases hh:hand op r.st.reverse 0 with
 |none=>rfl
 |some q=>
   obtain⟨j,k⟩:=q;simp only[Option.map_some,Nat.zero_add];rcases Nat.lt_or_ge j r.st.length with hj|hj
   . rw[List.getElem?_reverse hj];cases r.st[r.st.length-1-j]? with
     |none=>rfl
     |some f=>
       obtain⟨nd,i,e,fv⟩:=f;simp only;cases nd.ks[k]? with
       |none=>rfl
       |some c=>
         simp only;match c.ks with
         |[]|[_]|[_,_]|_::_::_::_::_=>rfl
         |[a,b,d]=>
           simp only[Option.map_some,rv,List.reverse_drop,List.reverse_take];have e1:r.st.length-(r.st.length-1-j+1)=j:=by omega
           have e2:(if(nd.n==1)=true then r.st.reverse.drop (j+1) else r.st.reverse.drop j)=(if(nd.n==1)=true then r.st.reverse.drop (j+1) else r.st.reverse.drop j):=rfl;rw[e1];congr 4;split
           . congr 1;omega
           . congr 1;omega
   . have : hand op r.st.reverse 0 = none := by
       have lt:∀(l:List Fr)(j:Nat)(q:Nat×Nat),hand op l j=some q->q.1<j+l.length:=fun l=>by
         induction l with
         |nil=>intro j q h;cases h
         |cons g l ih=>
           intro j q h;rw[hand] at h;cases hh:hand op l (j+1) with
           |some p=>rw[hh] at h;cases h;have:=ih _ _ hh;simp only[List.length_cons];omega
           |none=>
             rw[hh] at h;simp only at h;split at h
             . split at h
               . cases h;simp
               . cases h
             . cases h
       exact absurd (lt _ _ _ hh) (by simp;omega)
     rw[this] at hh;cases hh
def k1Q(q:Rn)(i:Nat)(fv:Option Vl)(x:Vl):Option Rn:=if i=0 then oY q 1 (some x) else match fv with
 |some f=>iH q f x
 |none=>none
def gp(once : Nm -> Bool)(q : Rn)(at_ : Nat)(fv : Option Vl)(x : Vl) : Option Rn := match q.nd.k with
   | 2 | 9 => if q.nd.n == 1 then (match x, q.nd.ks[1]? with
       |.fn fd _,some d=>some { q with nd:=d,e:=.put q.nd.nm (.fn fd (.rc q.nd.nm fd q.e)) q.e }
       |_,_=>none) else(match q.nd.ks[1]? with|some d=>some { q with nd:=d,e:=.put q.nd.nm x q.e }|none=>none)
   |10=>match q.nd.ks[1]? with|some d=>some { q with nd:=d }|none=>none
   |11=>match x,q.nd.ks with
     |.bool b,[_,d,f]=>some { q with nd:=if b then d else f }
     |_,_=>none
   |13=>match x with|.pair a _=>some { q with v:=some a }|_=>none
   |14=>match x with|.pair _ b=>some { q with v:=some b }|_=>none
   |17=>match x,q.nd.ks with
     |.cons a b,[_,_,p,s,d]=>some { q with nd:=d,e:=.put s.nm b (.put p.nm a q.e) }
     |.nil,[_,d,_,_,_]=>some { q with nd:=d }
     |_,_=>none
   |19=>kq once q q.nd.nm x
   |20=>match q.nd.ks[1]? with
     |some c=>match c.ks with
       |[d]=>some { q with nd:=d,e:=.put c.nm x q.e }
       |_=>none
     |none=>none
   |8|12|16|18=>k1Q q at_ fv x
   |_=>none
theorem acV(once:Nm->Bool)(S:List Fr)(nd JO:PN)(i:Nat)(e e':En)(fv v':Option Vl)(us:List Bool)(x:Vl):oM once ⟨S++[.mk nd i e fv],JO,e',v',us⟩ x=gp once ⟨S,nd,e,none,us⟩ i fv x:=by
 unfold oM gp;simp only[List.getLast?_concat,List.dropLast_concat];rfl
def bkT(once:Nm->Bool)(r:Rn)(x:Vl):Option Rn:=match r.st with
 |[]=>none
 |.mk nd i e fv::st=>if nd.k=19 then doT once ⟨st,nd,e,none,r.us⟩ nd.nm x else match gp once ⟨[],nd,e,none,r.us⟩ i fv x with
   |some q=>some { q with st:=q.st.reverse++st }
   |none=>none
def up(S:List Fr)(q:Rn):Rn:=⟨S++q.st,q.nd,q.e,q.v,q.us⟩
theorem Tp{S:List Fr}{nd:PN}{e:En}{v:Option Vl}{us:List Bool}{f x:Vl}{q:Rn}(h:iG ⟨[],nd,e,v,us⟩ f x=some q)(hl:(up S q).st.length<100000000):iG ⟨S,nd,e,v,us⟩ f x=some (up S q):=by
 cases f with
 |fn fd fe=>
   unfold iG at h ⊢;simp only at h ⊢;split at h
   . cases h;simp[up]
   . cases h
 |res i fr op o=>
   unfold iG at h ⊢;simp only at h ⊢;cases hu:us[i]? with
   |none=>rw[hu] at h;cases h
   |some u=>
     rw[hu] at h;simp only at h ⊢;split at h
     . cases h
     . rename_i hc;cases h;have hl:(S++([]++fr)).length<100000000:=hl;simp only[List.nil_append,List.length_append] at hl;rw[if_neg]
       . simp[up]
       . simp only[Bool.or_eq_true,Bool.not_eq_true',decide_eq_false_iff_not,not_or,Nat.not_lt] at hc ⊢;exact⟨hc.1,by omega⟩
 |_=>cases h
theorem Xq{S:List Fr}{nd:PN}{e:En}{v:Option Vl}{us:List Bool}{f x:Vl}{q:Rn}(h:iH ⟨[],nd,e,v,us⟩ f x=some q)(hl:(up S q).st.length<100000000):iH ⟨S,nd,e,v,us⟩ f x=some (up S q):=by
 have:nd.k=12∨nd.k=16∨nd.k=18∨nd.k=8∨(nd.k≠12/\nd.k≠16/\nd.k≠18/\nd.k≠8):=by omega
 rcases this with k|k|k|k|k
 . simp only[iH,k] at h ⊢;cases h;simp[up]
 . simp only[iH,k] at h ⊢;cases h;simp[up]
 . simp only[iH,k] at h ⊢;cases f<;>cases x<;>first|(cases h;done)|(cases h;simp[up])
 . simp only[iH,k] at h ⊢;exact Tp h hl
 . exfalso;unfold iH at h;split at h<;>first|(dsimp only at *;omega)|cases h
theorem Xr(once:Nm->Bool){S:List Fr}{nd:PN}{i:Nat}{e:En}{fv:Option Vl}{us:List Bool}{x:Vl}{q:Rn}(h19:nd.k≠19)(h:gp once ⟨[],nd,e,none,us⟩ i fv x=some q)(hl:(up S q).st.length<100000000):gp once ⟨S,nd,e,none,us⟩ i fv x=some (up S q):=by
 have hk:∀{q:Rn},k1Q ⟨[],nd,e,none,us⟩ i fv x=some q->(up S q).st.length<100000000->k1Q ⟨S,nd,e,none,us⟩ i fv x=some (up S q):=fun{q} h hl=>by
   unfold k1Q at h ⊢;split at h
   . rename_i q0;rw[if_pos q0];unfold oY pJ at h ⊢;simp only at h ⊢;cases hd:nd.ks[1]? with
     |none=>rw[hd] at h;cases h
     |some d=>rw[hd] at h;cases h;simp[up]
   . rename_i q0;rw[if_neg q0];cases fv with
     |none=>cases h
     |some f=>exact Xq h hl
 have:(nd.k=2∨nd.k=9)∨nd.k=10∨nd.k=11∨nd.k=13∨nd.k=14∨nd.k=17∨nd.k=20∨(nd.k=8∨nd.k=12∨nd.k=16∨nd.k=18)∨(nd.k≠2/\nd.k≠9/\nd.k≠10/\nd.k≠11/\nd.k≠13/\nd.k≠14/\nd.k≠17/\nd.k≠20/\nd.k≠8/\nd.k≠12/\nd.k≠16/\nd.k≠18):=by omega
 rcases this with(k|k)|k|k|k|k|k|k|(k|k|k|k)|k
 . simp only[gp,k] at h ⊢;split at h
   . rename_i c;rw[if_pos c];split at h<;>first|(cases h;done)|(rename_i hd;cases h;simp[up,hd])
   . rename_i c;rw[if_neg c];split at h<;>first|(cases h;done)|(rename_i hd;cases h;simp[up,hd])
 . simp only[gp,k] at h ⊢;split at h
   . rename_i c;rw[if_pos c];split at h<;>first|(cases h;done)|(rename_i hd;cases h;simp[up,hd])
   . rename_i c;rw[if_neg c];split at h<;>first|(cases h;done)|(rename_i hd;cases h;simp[up,hd])
 . simp only[gp,k] at h ⊢;split at h<;>first|(cases h;done)|(rename_i hd;cases h;simp[up,hd])
 . simp only[gp,k] at h ⊢;split at h<;>first|(cases h;done)|(rename_i hd;cases h;simp[up,hd])
 . simp only[gp,k] at h ⊢;split at h<;>first|(cases h;done)|(cases h;simp[up])
 . simp only[gp,k] at h ⊢;split at h<;>first|(cases h;done)|(cases h;simp[up])
 . simp only[gp,k] at h ⊢;split at h<;>first|(cases h;done)|(rename_i hd;cases h;simp[up,hd])
 . simp only[gp,k] at h ⊢;split at h
   . split at h<;>first|(cases h;done)|(rename_i hd;cases h;simp[up,hd])
   . cases h
 . simp only[gp,k] at h ⊢;exact hk h hl
 . simp only[gp,k] at h ⊢;exact hk h hl
 . simp only[gp,k] at h ⊢;exact hk h hl
 . simp only[gp,k] at h ⊢;exact hk h hl
 . exfalso;unfold gp at h;split at h<;>first|(dsimp only at *;omega)|cases h
theorem ah5(once:Nm->Bool){r r':Rn}{x:Vl}(h:bkT once r x=some r')(hl:r'.st.length<100000000):oM once (rv r) x=some (rv r'):=by
 obtain⟨st,JO,e',v',us⟩:=r;unfold bkT at h;match st,h with
 |.mk nd i e fv::st,h=>
   simp only at h;rw[show rv ⟨.mk nd i e fv::st,JO,e',v',us⟩=⟨st.reverse++[.mk nd i e fv],JO,e',v',us⟩ by simp[rv],acV];by_cases k:nd.k=19
   . rw[if_pos k] at h;unfold gp;simp only[k];have:=ah4 once ⟨st,nd,e,none,us⟩ nd.nm x;rw[h] at this;exact this
   . rw[if_neg k] at h;cases hq:gp once ⟨[],nd,e,none,us⟩ i fv x with
     |none=>rw[hq] at h;cases h
     |some q=>
       rw[hq] at h;cases h;have e1:up st.reverse q=rv { q with st:=q.st.reverse++st }:=by simp[up,rv]
       rw[<- e1];exact Xr once k hq (by simp only[up,List.length_append,List.length_reverse] at hl ⊢;omega)
def stT(once:Nm->Bool)(r:Rn):Option Rn:=match r.v with
 |some x=>bkT once { r with v:=none } x
 |none=>if r.nd.k=2 then(match r.nd.ks[0]? with
   |some d=>some { r with st:=.mk r.nd 0 r.e none::r.st,nd:=d }
   |none=>none) else evT r
def Rc(once:Nm->Bool)(r r':Rn)(n:Nat):Prop:=∀k s,s+n<=1000000->∃s',s'<=s+n/\Cn once (k+n) s (rv r)=Cn once k s' (rv r')
theorem Rc.refl{once:Nm->Bool}(r:Rn):Rc once r r 0:=fun k s _=>⟨s,Nat.le_refl _,rfl⟩
theorem Rc.trans{once:Nm->Bool}{r r' r'':Rn}{n m:Nat}(h:Rc once r r' n)(g:Rc once r' r'' m):Rc once r r'' (n+m):=fun k s hs=>by
 obtain⟨s1,h1,e1⟩:=h (k+m) s (by omega);obtain⟨s2,h2,e2⟩:=g k s1 (by omega);exact⟨s2,by omega,by rw[show k+(n+m)=k+m+n by omega,e1,e2]⟩
theorem Rc.one{once:Nm->Bool}{r r':Rn}(h:stT once r=some r')(hl:r.st.length<100000000)(VK:r'.st.length<100000000):Rc once r r' 1:=fun k s hs=>by
 have l1:¬(! decide ((rv r).st.length<100000000))=true:=by simp[rv,hl]
 unfold stT at h;cases hv:r.v with
 |some x=>
   rw[hv] at h;have hb:=ah5 once h VK;refine⟨s,by omega,?_⟩;rw[Cn,if_neg l1,show(rv r).v=some x from hv];have jQ:¬(rv r).st.isEmpty=true:=by
     intro q;have:r.st=[]:=by cases hr:r.st with
       |nil=>rfl
       |cons f l=>simp[rv,hr] at q
     unfold bkT at h;rw[this] at h;cases h
   simp only[if_neg jQ];rw[show({ rv r with v:=none }:Rn)=rv { r with v:=none } from rfl,hb]
 |none=>
   rw[hv] at h;simp only at h;rw[Cn,if_neg l1,show(rv r).v=none from hv];by_cases k2:r.nd.k=2
   . rw[if_pos k2] at h;refine⟨s,by omega,?_⟩;simp only[show(rv r).nd=r.nd from rfl,if_pos k2];cases hd:r.nd.ks[0]? with
     |none=>rw[hd] at h;cases h
     |some d=>
       rw[hd] at h;cases h;simp[rv,pJ,hv]
   . rw[if_neg k2] at h;refine⟨s+1,Nat.le_refl _,?_⟩;simp only[show(rv r).nd=r.nd from rfl,if_neg k2,if_pos (show s<1000000 by omega),ah2,h,Option.map_some]
def Zo(r:Rn):Bool:=match r.v,r.st with
 |some _,.mk _ _ _ (some (.res _ _ _ _))::_=>false
 |_,_=>true
def rT(once:Nm->Bool):Nat->Rn->Option Rn
 |0,r=>some r
 |n+1,r=>match Zo r,stT once r with
   |true,some r'=>rT once n r'
   |_,_=>none
theorem acY{nd:PN}{e:En}{v:Option Vl}{us:List Bool}{q:Rn}(h:gU ⟨[],nd,e,v,us⟩=some q):q.st.length<=1:=by
 unfold gU at h;split at h<;>first|(cases h;exact Nat.zero_le _)|skip
 . split at h<;>first|(cases h;exact Nat.zero_le _)|cases h
 . unfold oY at h;split at h
   . cases h;exact Nat.le_refl _
   . cases h
theorem acZ{once:Nm->Bool}{nd:PN}{i:Nat}{e:En}{fv:Option Vl}{us:List Bool}{x:Vl}{q:Rn}(h19:nd.k≠19)(hr:∀a b c d,fv≠some (.res a b c d))(h:gp once ⟨[],nd,e,none,us⟩ i fv x=some q):q.st.length<=1:=by
 have ap:∀f,(∀a b c d,f≠.res a b c d)->∀{q:Rn},iH ⟨[],nd,e,none,us⟩ f x=some q->q.st.length<=1:=fun f hf {q} h=>by
   unfold iH at h;split at h
   . cases h;exact Nat.zero_le _
   . cases h;exact Nat.zero_le _
   . split at h<;>first|(cases h;exact Nat.zero_le _)|cases h
   . cases f with
     |fn fd fe=>
       unfold iG at h;simp only at h;split at h
       . cases h;exact Nat.zero_le _
       . cases h
     |res a b c d=>exact absurd rfl (hf a b c d)
     |_=>cases h
   . cases h
 have hk:∀{q:Rn},k1Q ⟨[],nd,e,none,us⟩ i fv x=some q->q.st.length<=1:=fun{q} h=>by
   unfold k1Q at h;split at h
   . unfold oY at h;split at h
     . cases h;exact Nat.le_refl _
     . cases h
   . cases fv with
     |none=>cases h
     |some f=>exact ap f (fun a b c d q=>hr a b c d (by rw[q])) h
 unfold gp at h;split at h<;>first|(exact hk h)|(exfalso;exact h19 ‹_›)|skip
 all_goals (repeat' split at h)<;>first|(cases h;exact Nat.zero_le _)|cases h
theorem ac0{once:Nm->Bool}{r r':Rn}(hn:Zo r=true)(h:stT once r=some r'):r'.st.length<=r.st.length+1:=by
 obtain⟨st,nd,e,v,us⟩:=r;unfold stT at h;cases v with
 |none=>
   simp only at h;split at h
   . split at h
     . cases h;simp
     . cases h
   . unfold evT at h;split at h
     . rename_i q hq;cases h;have:=acY hq;simp only[List.length_append];omega
     . cases h
 |some x=>
   simp only at h;unfold bkT at h;match st,h,hn with
   |.mk fd i fe fv::st,h,hn=>
     simp only at h;split at h
     . unfold doT at h;repeat' split at h
       all_goals first|(cases h;simp only[List.length_drop,List.length_cons];omega)|cases h
     . rename_i k;split at h
       . rename_i q hq;cases h;have:=acZ k (fun a b c d q=>by subst q;cases hn) hq;simp only[List.length_append,List.length_reverse,List.length_cons];omega
       . cases h
theorem Rc.run{once:Nm->Bool}:∀{n:Nat}{r r':Rn},rT once n r=some r'->r.st.length+n<100000000->Rc once r r' n
 |0,r,r',h,_=>by cases h;exact .refl r
 |n+1,r,r',h,hl=>by
   unfold rT at h;split at h
   . rename_i r1 h1 h2;have hz:=ac0 h1 h2;have:=Rc.one h2 (by omega) (by omega);rw[show n+1=1+n by omega];exact this.trans (Rc.run h (by omega))
   . cases h
end Go.Mn
namespace Go.dy.N
open Go.Lex Go.dy
open Go.Gx (ag)
variable {α:Type}
def ac1(I:bu α->Ξ->Bool)(q:bu α):Bool:=okB q&&(((q.k:Int)==(2:Int))||((q.k:Int)==(1:Int))||I q (bY [126])||I q (bY [116,114,117,101])||I q (bY [102,97,108,115,101])||I q (bY [40])||I q (bY [91]))
def aH(I:bu α->Ξ->Bool)(N:bu α->bu α)(q:bu α)(s:Ξ):bu α:=if I q s=true then N q else q
def aN(I:bu α->Ξ->Bool)(N:bu α->bu α)(q:bu α)(s:Ξ):bu α:=if I q s=true then N q else sH q
def bZ(I:bu α->Ξ->Bool)(N:bu α->bu α)(q:bu α):(Ξ×Nat)×bu α:=if fy q=true then((q.t,q.a),N q) else(((bY []),0),sH q)
section
variable (I:bu α->Ξ->Bool) (N:bu α->bu α) (R:NT->bu α->Nd×bu α)
def Hz(a:Nd)(q1:bu α):Nd×bu α:=
 let q2:=aH I N q1 (bY [45,62])
 if I q1 (bY [45,62])=true then
   let r:=R .tL q2
   (.mk 29 a.a (bY []) 0 [a,r.1],r.2)
 else
   let q3:=aH I N q2 (bY [45])
   if I q2 (bY [45])=true then
     let q4:=aN I N q3 (bY [123])
     let r4:=R (.n_ []) q4
     let q5:=aN I N r4.2 (bY [125])
     let q6:=aN I N q5 (bY [45,62])
     let r6:=R .tL q6
     (.mk 29 a.a (bY []) 0 ([a,r6.1]++r4.1.ks),r6.2)
   else(a,q3)
def zp(q:bu α):Nd×bu α:=
 if okB q=true then
   if decide ((q.y:Int)>=(200:Int))=true then(gS,{ q with fk:=5,fa:=q.a })
   else
     let r1:=R .pair { q with y:=q.y+1 }
     let r:=Hz I N R r1.1 r1.2
     (r.1,{ r.2 with y:=r.2.y-1 })
 else(gS,q)
def oa(l:List Nd)(q:bu α):Nd×bu α:=
 let r:=bZ I N q
 let q1:=aH I N r.2 (bY [44])
 if I r.2 (bY [44])=true then R (.n_ (l++[.mk 23 r.1.2 r.1.1 0 []])) q1 else(.mk 0 0 (bY []) 0 (l++[.mk 23 r.1.2 r.1.1 0 []]),q1)
def zq(q:bu α):Nd×bu α:=
 let r1:=R .some q
 let q2:=aH I N r1.2 (bY [42])
 if I r1.2 (bY [42])=true then
   let r2:=R .pair q2
   (.mk 28 r1.1.a (bY []) 0 [r1.1,r2.1],r2.2)
 else(r1.1,q2)
def rN(q:bu α):Nd×bu α:=
 let q1:=aH I N q (bY [105,110,116])
 if I q (bY [105,110,116])=true then R (.ki (.mk 24 q.a (bY []) 0 [])) q1 else
 let q2:=aH I N q1 (bY [98,111,111,108])
 if I q1 (bY [98,111,111,108])=true then R (.ki (.mk 25 q.a (bY []) 0 [])) q2 else
 let q3:=aH I N q2 (bY [117,110,105,116])
 if I q2 (bY [117,110,105,116])=true then R (.ki (.mk 26 q.a (bY []) 0 [])) q3 else
 let q4:=aH I N q3 (bY [40])
 if I q3 (bY [40])=true then
   let r:=R .tL q4
   R (.ki r.1) (aN I N r.2 (bY [41]))
 else R (.ki gS) (sH q4)
def sJ(a:Nd)(q:bu α):Nd×bu α:=
 let q1:=aH I N q (bY [108,105,115,116])
 if I q (bY [108,105,115,116])=true then R (.ki (.mk 27 a.a (bY []) 0 [a])) q1 else(a,q1)
def tO(q:bu α):Nd×bu α:=
 if okB q=true then
   if decide ((q.x:Int)>=(200:Int))=true then(gS,{ q with fk:=5,fa:=q.a })
   else
     let r1:=R .any { q with x:=q.x+1 }
     (r1.1,{ r1.2 with x:=r1.2.x-1 })
 else(gS,q)
def anyS(q:bu α):Nd×bu α:=
 let q1:=aH I N q (bY [108,101,116])
 if I q (bY [108,101,116])=true then R (.Mq q.a) q1 else
 let q2:=aH I N q1 (bY [102,110])
 if I q1 (bY [102,110])=true then
   let r:=R (.params (bY [61,62]) true) q2
   (.mk r.1.k q.a r.1.nm r.1.n r.1.ks,r.2)
 else
 let q3:=aH I N q2 (bY [105,102])
 if I q2 (bY [105,102])=true then
   let ra:=R .expr q3
   let qa:=aN I N ra.2 (bY [116,104,101,110])
   let rb:=R .expr qa
   let qb:=aN I N rb.2 (bY [101,108,115,101])
   let rc:=R .expr qb
   (.mk 11 q.a (bY []) 0 [ra.1,rb.1,rc.1],rc.2)
 else
 let q4:=aH I N q3 (bY [99,97,115,101])
 if I q3 (bY [99,97,115,101])=true then R (.cases q.a) q4 else
 if I q4 (bY [104,97,110,100,108,101])=true then R (.handle q.a) q4 else
 if I q4 (bY [115,104,97,108,108,111,119])=true then R (.handle q.a) q4 else
 let r:=R .comp q4
 let q5:=aH I N r.2 (bY [59])
 if I r.2 (bY [59])=true then
   let r2:=R .expr q5
   (.mk 10 r.1.a (bY []) 0 [r.1,r2.1],r2.2)
 else(r.1,q5)
def mG(sign:Ξ)(q:bu α):Nd×bu α:=
 let r:=bZ I N q
 if okB r.2=true then
   let r2:=R (.params sign false) r.2
   (.mk 7 r.1.2 r.1.1 0 [r2.1],r2.2)
 else(gS,r.2)
def mb(sign:Ξ)(first:Bool)(q:bu α):Nd×bu α:=
 if first=true then mG I N R sign q else if fy q=true then mG I N R sign q else R .expr (aN I N q sign)
def Dm(at_:Nat)(n:Int)(f:Bool)(q1:bu α):Nd×bu α:=
 let r:=bZ I N q1
 let r2:=R (.params (bY [61]) f) r.2
 let q3:=aN I N r2.2 (bY [105,110])
 let r4:=R .expr q3
 (.mk 9 at_ r.1.1 n [r2.1,r4.1],r4.2)
def Ie(at_:Nat)(q:bu α):Nd×bu α:=
 let q1:=aH I N q (bY [114,101,99])
 if I q (bY [114,101,99])=true then Dm I N R at_ 1 true q1 else Dm I N R at_ 0 false q1
def vd(at_:Nat)(q:bu α):Nd×bu α:=
 let r:=R .expr q
 let q1:=aN I N r.2 (bY [111,102])
 let q2:=aN I N q1 (bY [91])
 let q3:=aN I N q2 (bY [93])
 let q4:=aN I N q3 (bY [61,62])
 let r5:=R .expr q4
 let q6:=aN I N r5.2 (bY [124])
 let r7:=bZ I N q6
 let q8:=aN I N r7.2 (bY [58,58])
 let r9:=bZ I N q8
 let vg:=aN I N r9.2 (bY [61,62])
 let r11:=R .expr vg
 let Ms:=aN I N r11.2 (bY [101,110,100])
 (.mk 17 at_ (bY []) 0 [r.1,r5.1,.mk 23 r7.1.2 r7.1.1 0 [],.mk 23 r9.1.2 r9.1.1 0 [],r11.1],Ms)
def h_(at_:Nat)(n:Int)(q1:bu α):Nd×bu α:=
 let r:=R .expr q1
 let q2:=aN I N r.2 (bY [119,105,116,104])
 let q3:=aN I N q2 (bY [123])
 let q4:=aN I N q3 (bY [114,101,116,117,114,110])
 let r5:=bZ I N q4
 let q6:=aN I N r5.2 (bY [61,62])
 let r7:=R .expr q6
 let r8:=R (.tM [r.1,.mk 21 q3.a r5.1.1 0 [r7.1]]) r7.2
 let q9:=aN I N r8.2 (bY [125])
 (.mk 20 at_ (bY []) n r8.1.ks,q9)
def od(at_:Nat)(q:bu α):Nd×bu α:=
 let q1:=aH I N q (bY [104,97,110,100,108,101])
 if I q (bY [104,97,110,100,108,101])=true then h_ I N R at_ 0 q1 else h_ I N R at_ 1 (N q1)
def sL(l:List Nd)(q:bu α):Nd×bu α:=
 let q1:=aH I N q (bY [124])
 if I q (bY [124])=true then
   let r2:=bZ I N q1
   let r3:=bZ I N r2.2
   let r4:=bZ I N r3.2
   let q5:=aN I N r4.2 (bY [61,62])
   let r6:=R .expr q5
   R (.tM (l++[.mk 22 r2.1.2 r2.1.1 0 [.mk 23 r3.1.2 r3.1.1 0 [],.mk 23 r4.1.2 r4.1.1 0 [],r6.1]])) r6.2
 else(.mk 0 0 (bY []) 0 l,q1)
def wu(q:bu α):Nd×bu α:=
 let r:=R .cons q
 let q1:=aH I N r.2 (bY [61,61])
 if I r.2 (bY [61,61])=true then
   let r2:=R .cons q1
   (two (bY [61,61]) r.1 r2.1,r2.2)
 else
 let q2:=aH I N q1 (bY [60])
 if I q1 (bY [60])=true then
   let r2:=R .cons q2
   (two (bY [60]) r.1 r2.1,r2.2)
 else(r.1,q2)
def zr(q:bu α):Nd×bu α:=
 let r:=R .sum q
 let q1:=aH I N r.2 (bY [58,58])
 if I r.2 (bY [58,58])=true then
   let r2:=R .cons q1
   (.mk 16 r.1.a (bY []) 0 [r.1,r2.1],r2.2)
 else(r.1,q1)
def Mt(q:bu α):Nd×bu α:=
 let r:=R .mul q
 R (.zo r.1) r.2
def wv(a:Nd)(q:bu α):Nd×bu α:=
 let q1:=aH I N q (bY [43])
 if I q (bY [43])=true then
   let r:=R .mul q1
   R (.zo (two q.t a r.1)) r.2
 else
 let q2:=aH I N q1 (bY [45])
 if I q1 (bY [45])=true then
   let r:=R .mul q2
   R (.zo (two q.t a r.1)) r.2
 else(a,q2)
def Mu(q:bu α):Nd×bu α:=
 let r:=R .app q
 R (.mulL r.1) r.2
def zt(a:Nd)(q:bu α):Nd×bu α:=
 let q1:=aH I N q (bY [42])
 if I q (bY [42])=true then
   let r:=R .app q1
   R (.mulL (two (bY [42]) a r.1)) r.2
 else(a,q1)
def Dn(q:bu α):Nd×bu α:=
 let q1:=aH I N q (bY [100,111])
 if I q (bY [100,111])=true then
   let r:=bZ I N q1
   let r2:=R .atom r.2
   (.mk 19 q.a r.1.1 0 [r2.1],r2.2)
 else
 let q2:=aH I N q1 (bY [102,115,116])
 if I q1 (bY [102,115,116])=true then
   let r:=R .atom q2
   (.mk 13 q.a (bY []) 0 [r.1],r.2)
 else
 let q3:=aH I N q2 (bY [115,110,100])
 if I q2 (bY [115,110,100])=true then
   let r:=R .atom q3
   (.mk 14 q.a (bY []) 0 [r.1],r.2)
 else
 let r:=R .atom q3
 R (.Dl r.1) r.2
def zu(a:Nd)(q:bu α):Nd×bu α:=
 if ac1 I q=true then
   let r:=R .atom q
   R (.Dl (.mk 8 a.a (bY []) 0 [a,r.1])) r.2
 else(a,q)
def oX(q:bu α)(q1:bu α):Nd×bu α:=
 if okB q1=true then
   if((q1.k:Int) != (1:Int))=true then(.mk 3 q.a (bY []) (-(q1.n:Int)) [],N (sH q1))
   else(.mk 3 q.a (bY []) (-(q1.n:Int)) [],N q1)
 else(.mk 3 q.a (bY []) (-(q1.n:Int)) [],N q1)
def iV(q:bu α):Nd×bu α:=
 if okB q=true then
   if((q.k:Int)==(2:Int))=true then(.mk 6 q.a q.t 0 [],N q) else
   if((q.k:Int)==(1:Int))=true then(.mk 3 q.a (bY []) (q.n:Int) [],N q) else
   let q1:=aH I N q (bY [126])
   if I q (bY [126])=true then oX N q q1 else
   let q2:=aH I N q1 (bY [116,114,117,101])
   if I q1 (bY [116,114,117,101])=true then(.mk 4 q.a (bY []) 1 [],q2) else
   let q3:=aH I N q2 (bY [102,97,108,115,101])
   if I q2 (bY [102,97,108,115,101])=true then(.mk 4 q.a (bY []) 0 [],q3) else
   let q4:=aH I N q3 (bY [40])
   if I q3 (bY [40])=true then R (.round q.a) q4 else
   let q5:=aH I N q4 (bY [91])
   if I q4 (bY [91])=true then R (.sI q.a) q5 else
   (gS,sH q5)
 else(gS,q)
def pD(at_:Nat)(q:bu α):Nd×bu α:=
 let q1:=aH I N q (bY [41])
 if I q (bY [41])=true then(.mk 5 at_ (bY []) 0 [],q1) else
 let r:=R .expr q1
 let q2:=aH I N r.2 (bY [44])
 if I r.2 (bY [44])=true then
   let r2:=R .expr q2
   let q3:=aN I N r2.2 (bY [41])
   (.mk 12 at_ (bY []) 0 [r.1,r2.1],q3)
 else(r.1,aN I N q2 (bY [41]))
def oe(at_:Nat)(q:bu α):Nd×bu α:=
 let q1:=aH I N q (bY [93])
 if I q (bY [93])=true then(.mk 15 at_ (bY []) 0 [],q1) else
 let r:=R (.kD []) q1
 (Dp at_ r.1.ks,aN I N r.2 (bY [93]))
def kR(l:List Nd)(q:bu α):Nd×bu α:=
 let r:=R .expr q
 let q1:=aH I N r.2 (bY [44])
 if I r.2 (bY [44])=true then R (.kD (l++[r.1])) q1 else(.mk 0 0 (bY []) 0 (l++[r.1]),q1)
def vh(l:List Nd)(at_:Nat)(n:Int)(q2:bu α):Nd×bu α:=
 let r:=bZ I N q2
 let q3:=aN I N r.2 (bY [58])
 let ra:=R .tL q3
 let q4:=aN I N ra.2 (bY [61,62])
 let rb:=R .tL q4
 R (.opsL (l++[.mk 1 at_ r.1.1 n [ra.1,rb.1]])) rb.2
def tP(l:List Nd)(q:bu α):Nd×bu α:=
 if I q (bY [111,112])=true then
   let q1:=N q
   if I q1 (bY [111,110,99,101])=true then vh I N R l q.a 1 (N q1)
   else if I q1 (bY [109,97,110,121])=true then vh I N R l q.a 0 (N q1)
   else vh I N R l q.a 0 (sH q1)
 else(.mk 0 0 (bY []) (l.length:Int) l,q)
def rO(n0:Nat)(l:List Nd)(at_:Nat)(n:Int)(q2:bu α):Nd×bu α:=
 let r:=bZ I N q2
 let r2:=R (.params (bY [61]) true) r.2
 R (.tN n0 (l++[.mk 2 at_ r.1.1 n [r2.1]])) r2.2
def pE(n0:Nat)(l:List Nd)(q:bu α):Nd×bu α:=
 if I q (bY [100,101,102])=true then
   let q1:=N q
   let q2:=aH I N q1 (bY [114,101,99])
   if I q1 (bY [114,101,99])=true then rO I N R n0 l q.a 1 q2 else rO I N R n0 l q.a 0 q2
 else(.mk 0 0 (bY []) (n0:Int) l,q)
def Cm(q:bu α):Nd×bu α:=
 let r:=R (.opsL []) q
 let r2:=R (.tN r.1.ks.length r.1.ks) r.2
 let q3:=aN I N r2.2 (bY [109,97,105,110])
 let q4:=aN I N q3 (bY [61])
 let r5:=R .expr q4
 (.mk 0 0 (bY []) (r.1.ks.length:Int) (r2.1.ks++[r5.1]),r5.2)
def aF(nt:NT)(q:bu α):Nd×bu α:=
 match nt with
 |.tL=>zp I N R q
 |.pair=>zq I N R q
 |.some=>rN I N R q
 |.ki a=>sJ I N R a q
 |.n_ l=>oa I N R l q
 |.expr=>tO R q
 |.any=>anyS I N R q
 |.params s f=>mb I N R s f q
 |.Mq a=>Ie I N R a q
 |.cases a=>vd I N R a q
 |.handle a=>od I N R a q
 |.tM l=>sL I N R l q
 |.comp=>wu I N R q
 |.cons=>zr I N R q
 |.sum=>Mt R q
 |.zo a=>wv I N R a q
 |.mul=>Mu R q
 |.mulL a=>zt I N R a q
 |.app=>Dn I N R q
 |.Dl a=>zu I R a q
 |.atom=>iV I N R q
 |.round a=>pD I N R a q
 |.sI a=>oe I N R a q
 |.kD l=>kR I N R l q
 |.prog=>Cm I N R q
 |.opsL l=>tP I N R l q
 |.tN n l=>pE I N R n l q
end
def run(I:bu α->Ξ->Bool)(N:bu α->bu α):Nat->NT->bu α->Nd×bu α
 |0=>fun _ q=>(gS,sH q)
 |k+1=>aF I N (run I N k)
theorem step_eq(S:Ξ)(R:NT->Rs->Nd×Rs):Go.dy.aF S R=aF bH (cr S) R:=by
 funext nt q;cases nt<;>rfl
theorem run_eq(S:Ξ)(k:Nat):Go.dy.run S k=run bH (cr S) k:=by
 induction k with
 |zero=>rfl
 |succ k ih=>show Go.dy.aF S (Go.dy.run S k)=aF bH (cr S) (run bH (cr S) k);rw[ih];exact step_eq S _
def U3(a b:Ξ):Bool:=a.data.toList==b.data.toList
theorem wi(a b:Ξ):(a.toList==b.toList)=U3 a b:=by unfold U3;rw[ByteArray.toList_eq,ByteArray.toList_eq]
def sj{α:Type}(q:bu α)(s:Ξ):Bool:=(Nat.beq q.fk 0)&&(Nat.beq q.k 3||Nat.beq q.k 4)&&U3 q.t s
theorem oH(a b:Nat):((a:Int)==(b:Int))=Nat.beq a b:=by
 rw[Bool.eq_iff_iff,beq_iff_eq,Nat.beq_eq];omega
theorem ac2:(bH:Rs->Ξ->Bool)=sj:=by
 funext q s;unfold bH sj okB;rw[wi];rw[<- oH q.fk 0,<-oH q.k 3,<-oH q.k 4];rfl
def Bb(p:UInt8->Bool)(s:Ξ):Nat->Nat->Nat
 |0,k=>k
 |f+1,k=>if k<s.size&&p (ag s k) then Bb p s f (k+1) else k
theorem nR(p:UInt8->Bool)(s:Ξ):∀(f k:Nat),s.size<=k+f->Bb p s f k=stop p s k
 |0,k,h=>by rw[Bb,stop,dif_neg (by omega)]
 |f+1,k,h=>by
   rw[Bb,stop];by_cases hc:k<s.size/\p (ag s k)=true
   . rw[dif_pos hc,if_pos (by simp[hc.1,hc.2]),nR p s f (k+1) (by omega)]
   . rw[dif_neg hc,if_neg (by simpa using hc)]
def C9(s:Ξ):Nat->Nat->Nat
 |0,k=>k
 |f+1,k=>if k<s.size then(if dx (ag s k) then C9 s f (k+1) else if Nat.beq (ag s k).toNat 35 then C9 s f (Bb cZ s s.size (k+1)) else k) else k
theorem uQ(s:Ξ):∀(f k:Nat),s.size<=k+f->C9 s f k=pass s k
 |0,k,h=>by rw[C9,pass,dif_neg (by omega)]
 |f+1,k,h=>by
   rw[C9,pass];by_cases hc:k<s.size
   . rw[if_pos hc,dif_pos hc];by_cases hb:dx (ag s k)=true
     . rw[if_pos hb,if_pos hb,uQ s f (k+1) (by omega)]
     . rw[if_neg hb,if_neg hb];have h5:(((ag s k).toNat:Int)==35)=Nat.beq (ag s k).toNat 35:=oH (ag s k).toNat 35;by_cases he:Nat.beq (ag s k).toNat 35=true
       . rw[if_pos he,if_pos (by rw[<- he];exact h5),nR cZ s s.size (k+1) (by omega),uQ s f _ (by have:=cV cZ s (k+1);omega)]
       . rw[if_neg he,if_neg (by intro q;apply he;rw[<- q];exact h5.symm)]
   . rw[if_neg hc,dif_neg hc]
def Tq(c:UInt8):Bool:=az c||aj c
def Lz(s:Ξ):Bool:=fI.any (fun x=>U3 s x)
theorem Ts(s:Ξ):pt s=Lz s:=by unfold pt Lz;congr 1;funext x;exact wi s x
def uR(s:Ξ):Bool:=((U3 s ⟨#[58,58]⟩||U3 s ⟨#[61,61]⟩)||U3 s ⟨#[61,62]⟩)||U3 s ⟨#[45,62]⟩
theorem JP(s:Ξ):ju s=uR s:=by unfold ju uR;rw[wi,wi,wi,wi]
def ext(s:Ξ)(a b:Nat):Ξ:=⟨((s.data.toList.drop a).take (b-a)).toArray⟩
theorem Bc(s:Ξ)(a b:Nat):s.extract a b=ext s a b:=by
 unfold ext;have h:(s.extract a b).data=((s.data.toList.drop a).take (b-a)).toArray:=by
   rw[ByteArray.data_extract];apply Array.toList_inj.1;rw[Array.toList_extract]
 cases h':s.extract a b with
 |mk d=>rw[h'] at h;exact congrArg ByteArray.mk h
def ah6(s:Ξ)(j e:Nat):Nx:=if eg s j e then⟨1,j,⟨#[]⟩,e_ s j (e-j),e,0,0⟩ else fault 3 j
def Tt(s:Ξ)(j e:Nat):Nx:=if 20<e-j then fault 3 j else⟨if Lz (ext s j e) then 3 else 2,j,ext s j e,0,e,0,0⟩
def Tu(s:Ξ)(j:Nat):Nx:=if j+2<=s.size&&uR (ext s j (j+2)) then⟨4,j,ext s j (j+2),0,j+2,0,0⟩ else⟨4,j,ext s j (j+1),0,j+1,0,0⟩
def Tw(s:Ξ)(j:Nat):Nx:=
 if aj (ag s j) then ah6 s j (Bb aj s s.size j) else if az (ag s j) then Tt s j (Bb Tq s s.size j) else if oL (ag s j) then Tu s j else fault 2 j
theorem Xs(s:Ξ)(j:Nat):cU s j=Tw s j:=by
 unfold cU Tw;rw[nR aj s s.size j (by omega),nR Tq s s.size j (by omega)];congr 1;congr 1
 . unfold nameAt Tt;simp only[Ts,Bc,gt_iff_lt];rfl
 . congr 1;unfold Tu cH;rw[JP,Bc];by_cases h:j+2<=s.size
   . have:decide (((j+2:Nat):Int)<=(s.size:Int))=true:=decide_eq_true (by omega);rw[this,Bool.true_and];simp only[h,decide_true,Bool.true_and];by_cases hl:uR (ext s j (j+2))=true
     . simp[hl,Bc]
     . simp[hl,Bc]
   . have:decide (((j+2:Nat):Int)<=(s.size:Int))=false:=decide_eq_false (by omega);rw[this,Bool.false_and];simp[h,Bc]
def ac3(s:Ξ)(j:Nat):Nx:=if j<s.size then Tw s j else⟨0,s.size,⟨#[]⟩,0,s.size,0,0⟩
def Tx(s:Ξ)(i:Nat):Nx:=ac3 s (C9 s s.size i)
theorem TD(s:Ξ)(i:Nat):next s i=Tx s i:=by
 unfold next Tx ac3
 rw[uQ s s.size i (by omega),Xs]
def D(s:Ξ)(k:Nat):List UInt8:=s.data.toList.drop k
theorem qG{s:Ξ}{k:Nat}(h:k<s.size):D s k=ag s k::D s (k+1):=by
 have h':k<s.data.toList.length:=by simpa using h
 unfold D ag;rw[List.drop_eq_getElem_cons h'];congr 1;have h2:k<s.data.size:=h;rw[Array.getElem?_eq_getElem h2];rfl
theorem LA{s:Ξ}{k:Nat}(h:¬k<s.size):D s k=[]:=by
 unfold D
 exact List.drop_eq_nil_of_le (by have : s.data.toList.length = s.size := by simp
                                  omega)
def jO(p:UInt8->Bool):List UInt8->Nat
 |[]=>0
 |c::r=>if p c then jO p r+1 else 0
theorem EL(p:UInt8->Bool)(s:Ξ)(k:Nat):stop p s k=k+jO p (D s k):=by
 by_cases h:k<s.size
 . rw[qG h,stop];by_cases hp:p (ag s k)=true
   . rw[dif_pos ⟨h,hp⟩,EL p s (k+1),jO,if_pos hp];omega
   . rw[dif_neg (fun q=>hp q.2),jO,if_neg hp];rfl
 . rw[LA h,stop,dif_neg (fun q=>h q.1)];rfl
termination_by s.size-k
def jP:List UInt8->Bool->Nat->Nat
 |[],_,k=>k
 |c::r,true,k=>if c.toNat=10 then jP r false (k+1) else jP r true (k+1)
 |c::r,false,k=>if dx c then jP r false (k+1) else if Nat.beq c.toNat 35 then jP r true (k+1) else k
theorem LB(s:Ξ)(k:Nat):pass s k=jP (D s k) false k/\pass s (stop cZ s k)=jP (D s k) true k:=by
 by_cases h:k<s.size
 . have ih:=LB s (k+1);rw[qG h];constructor
   . rw[pass,dif_pos h,jP];by_cases hb:dx (ag s k)=true
     . rw[if_pos hb,if_pos hb,ih.1]
     . rw[if_neg hb,if_neg hb];have h5:(((ag s k).toNat:Int)==35)=Nat.beq (ag s k).toNat 35:=oH (ag s k).toNat 35;by_cases he:Nat.beq (ag s k).toNat 35=true
       . rw[if_pos he,if_pos (by rw[<- he];exact h5),ih.2]
       . rw[if_neg he,if_neg (by intro q;apply he;rw[<- q];exact h5.symm)]
   . rw[jP];by_cases hn:(ag s k).toNat=10
     . rw[if_pos hn,stop,dif_neg (by intro q;have:=q.2;simp[cZ,hn] at this),pass,dif_pos h,if_pos (by simp[dx,hn]),ih.1]
     . rw[if_neg hn,stop,dif_pos ⟨h,by simp[cZ];exact_mod_cast hn⟩,ih.2]
 . rw[LA h];have:stop cZ s k=k:=by rw[stop,dif_neg (fun q=>h q.1)]
   rw[this,pass,dif_neg h];exact⟨rfl,rfl⟩
termination_by s.size-k
def JQ:List UInt8->Nat->Nat->Nat
 |c::r,m+1,v=>JQ r m (v*10+(c.toNat-48))
 |_,_,v=>v
theorem Hd(s:Ξ)(j:Nat):∀(m i v:Nat),j+i+m<=s.size->v=e_ s j i->JQ (D s (j+i)) m v=e_ s j (i+m)
 |0,i,v,_,h=>by subst h;cases D s (j+i)<;>rfl
 |m+1,i,v,hs,h=>by
   rw[qG (by omega),JQ,show j+i+1=j+(i+1) by omega,Hd s j m (i+1) _ (by omega) (by rw[h];rfl)];congr 1;omega
def sq(l:List UInt8):Ξ:=⟨l.toArray⟩
def TE(l:List UInt8)(j:Nat):Nx:=match l with
 |[]=>fault 2 j
 |c::r=>
   if aj c then
     let m:=jO aj l
     let v:=JQ l m 0
     if !(Nat.blt 1 m&&Nat.beq c.toNat 48)&&Nat.ble v 9223372036854775807 then⟨1,j,⟨#[]⟩,v,j+m,0,0⟩ else fault 3 j
   else if az c then
     let m:=jO Tq l
     if Nat.blt 20 m then fault 3 j else⟨if Lz (sq (l.take m)) then 3 else 2,j,sq (l.take m),0,j+m,0,0⟩
   else if oL c then
     match r with
     |[]=>⟨4,j,sq [c],0,j+1,0,0⟩
     |d::_=>if uR (sq [c,d]) then⟨4,j,sq [c,d],0,j+2,0,0⟩ else⟨4,j,sq [c],0,j+1,0,0⟩
   else fault 2 j
theorem Xt(p:UInt8->Bool)(l:List UInt8):jO p l<=l.length:=by
 induction l with
 |nil=>exact Nat.le_refl _
 |cons c r ih=>unfold jO;split<;>simp<;>omega
theorem ah7(s:Ξ)(k:Nat):(D s k).length=s.size-k:=by
 unfold D;rw[List.length_drop];rfl
theorem Xu{s:Ξ}{j:Nat}(h:j<s.size):Tw s j=TE (D s j) j:=by
 have hc:=qG h;rw[hc,TE.eq_def];simp only;rw[<- hc];unfold Tw;rw[nR aj s s.size j (by omega),nR Tq s s.size j (by omega),EL,EL];have hl:=ah7 s j;have e1:∀m,j+m-j=m:=fun m=>by omega
 congr 1
 . unfold ah6 eg;have hv : e_ s j (jO aj (D s j)) = JQ (D s j) (jO aj (D s j)) 0 := by
     have:=Hd s j (jO aj (D s j)) 0 0 (by have:=Xt aj (D s j);omega) rfl;rw[Nat.add_zero,Nat.zero_add] at this;exact this.symm
   rw[e1,hv];have a1:decide (jO aj (D s j)>1)=Nat.blt 1 (jO aj (D s j)):=by rw[Bool.eq_iff_iff,decide_eq_true_eq,Nat.blt_eq]
   have a2:((ag s j).toNat==48)=Nat.beq (ag s j).toNat 48:=by rw[Bool.eq_iff_iff,beq_iff_eq,Nat.beq_eq]
   have a3:decide (JQ (D s j) (jO aj (D s j)) 0<=fu)=Nat.ble (JQ (D s j) (jO aj (D s j)) 0) 9223372036854775807:=by rw[Bool.eq_iff_iff,decide_eq_true_eq,Nat.ble_eq];rfl
   rw[a1,a2,a3]
 . congr 1
   . unfold Tt ext sq;rw[e1];have a1:(20<jO Tq (D s j))=(Nat.blt 20 (jO Tq (D s j))=true):=by rw[Nat.blt_eq]
     simp only[a1];rfl
   . congr 1;unfold Tu ext sq;have e2:(s.data.toList.drop j)=D s j:=rfl;rw[e2,show j+2-j=2 by omega,show j+1-j=1 by omega,hc];by_cases h2:j+1<s.size
     . rw[qG h2];have:decide (j+2<=s.size)=true:=decide_eq_true (by omega);rw[this,Bool.true_and];rfl
     . rw[LA h2];have:decide (j+2<=s.size)=false:=decide_eq_false (by omega);rw[this,Bool.false_and];rfl
def wS(l:List UInt8)(n i:Nat):Nx:=
 let j:=jP (l.drop i) false i
 match l.drop j with
 |[]=>⟨0,n,⟨#[]⟩,0,n,0,0⟩
 |c::r=>TE (c::r) j
theorem He(s:Ξ)(i:Nat):next s i=wS s.data.toList s.size i:=by
 rw[TD];unfold Tx ac3 wS;rw[uQ s s.size i (by omega),(LB s i).1];have e:(s.data.toList.drop (jP (s.data.toList.drop i) false i))=D s (jP (D s i) false i):=rfl;simp only[e];by_cases h:jP (D s i) false i<s.size
 . rw[if_pos h,Xu h,qG h];rfl
 . rw[if_neg h,LA h]
end Go.dy.N
namespace Go.dy.N
open Go.Lex Go.dy
def ph{α β:Type}(E:α->β)(q:bu α):bu β:=⟨q.k,q.a,q.t,q.n,E q.e,q.fk,q.fa,q.x,q.y⟩
def OG{α β:Type}(E:α->β)(r:Nd×bu α):Nd×bu β:=(r.1,ph E r.2)
section
variable {α β:Type} {E:α->β} {N:bu β->bu β} {N':bu α->bu α} {R:NT->bu β->Nd×bu β} {R':NT->bu α->Nd×bu α}
theorem LC(q:bu α)(s:Ξ):sj (ph E q) s=sj q s:=rfl
theorem Hf(q:bu α):sH (ph E q)=ph E (sH q):=by unfold sH okB ph;split<;>rfl
theorem Zp(q:bu α):okB (ph E q)=okB q:=rfl
theorem Zq(q:bu α):fy (ph E q)=fy q:=rfl
theorem ac4(q:bu α):ac1 sj (ph E q)=ac1 sj q:=rfl
theorem TF(hN:∀q,N (ph E q)=ph E (N' q))(q:bu α)(s:Ξ):aH sj N (ph E q) s=ph E (aH sj N' q s):=by unfold aH;rw[LC];split<;>simp[hN]
theorem LD(hN:∀q,N (ph E q)=ph E (N' q))(q:bu α)(s:Ξ):aN sj N (ph E q) s=ph E (aN sj N' q s):=by unfold aN;rw[LC];split<;>simp[hN,Hf]
theorem Xv(hN:∀q,N (ph E q)=ph E (N' q))(q:bu α):bZ sj N (ph E q)=((bZ sj N' q).1,ph E (bZ sj N' q).2):=by unfold bZ;rw[Zq];split<;>simp[hN,Hf];exact⟨rfl,rfl⟩
theorem ah8(q:bu α):(ph E q).k=q.k:=rfl
theorem aon(q:bu α):(ph E q).a=q.a:=rfl
theorem aoo(q:bu α):(ph E q).t=q.t:=rfl
theorem aop(q:bu α):(ph E q).n=q.n:=rfl
theorem aoq(q:bu α):(ph E q).x=q.x:=rfl
theorem aor(q:bu α):(ph E q).y=q.y:=rfl
theorem aos(q:bu α):(ph E q).e=E q.e:=rfl
theorem ah9(q:bu α):(ph E q).fk=q.fk:=rfl
theorem ah_(q:bu α):(ph E q).fa=q.fa:=rfl
theorem aia(k a:Nat)(t:Ξ)(n:Nat)(e:α)(fk fa x y:Nat):(⟨k,a,t,n,E e,fk,fa,x,y⟩:bu β)=ph E ⟨k,a,t,n,e,fk,fa,x,y⟩:=rfl
theorem TG(d:Nd)(q:bu α):OG E (d,q)=(d,ph E q):=rfl
theorem LF(c:Prop)[Decidable c] (a b:Nd×bu α):OG E (if c then a else b)=if c then OG E a else OG E b:=by split<;>rfl
theorem aib(hN:∀q,N (ph E q)=ph E (N' q))(hR:∀nt q,R nt (ph E q)=OG E (R' nt q))(a:Nd)(q:bu α):Hz sj N R a (ph E q)=((Hz sj N' R' a q).1,ph E (Hz sj N' R' a q).2):=by
 have h1:∀nt q,R nt (ph E q)=((R' nt q).1,ph E (R' nt q).2):=hR;show _=OG E (Hz sj N' R' a q);simp only[Hz,LC,TF hN,LD hN,TG,LF,h1]
theorem LG(hN:∀q,N (ph E q)=ph E (N' q))(hR:∀nt q,R nt (ph E q)=OG E (R' nt q))(nt:NT)(q:bu α):aF sj N R nt (ph E q)=OG E (aF sj N' R' nt q):=by
 have h1:∀nt q,R nt (ph E q)=((R' nt q).1,ph E (R' nt q).2):=hR;have h2:∀nt q,OG E (R' nt q)=((R' nt q).1,ph E (R' nt q).2):=fun _ _=>rfl;cases nt<;>(simp only[aF,zp,aib hN hR,zq,rN,sJ,oa,tO,anyS,mb,mG,Ie,Dm,vd,od,h_,sL,wu,zr,Mt,wv,Mu,zt,Dn,zu,iV,oX,pD,oe,kR,Cm,tP,vh,pE,rO,LC,Hf,Zp,Zq,ac4,TF hN,LD hN,Xv hN,ah8,aon,aoo,aop,aoq,aor,aos,ah9,ah_,aia (E:=E),TG,LF,hN,h1,h2];try rfl)
theorem Bd(hN:∀q,N (ph E q)=ph E (N' q)):∀(k:Nat)(nt:NT)(q:bu α),run sj N k nt (ph E q)=OG E (run sj N' k nt q)
 |0,_,q=>by show(gS,sH (ph E q))=(gS,ph E (sH q));rw[Hf]
 |k+1,nt,q=>LG hN (Bd hN k) nt q
end
end Go.dy.N
