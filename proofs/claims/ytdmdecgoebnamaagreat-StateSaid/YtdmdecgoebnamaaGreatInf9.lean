/- A part of the proof. -/
import Derived.Test.YtdmdecgoebnamaaGreatYb
import Derived.Test.YtdmdecgoebnamaaGreatInfSet
import Derived.Test.YtdmdecgoebnamaaGreatRe6
import Derived.Test.YtdmdecgoebnamaaGreatSx7
set_option linter.unusedVariables false
set_option linter.unusedSimpArgs false
namespace Go.Proofs.YtdmdecgoebnamaaGreat
open Go.RowKit Go.Sx Go.aR
attribute [local irreducible] Go.wpOps Go.Code.wp Go.wpOp Go.wpAnyH Go.Calls Go.Sx.Goal
set_option maxRecDepth 20000
theorem jm(bc bg : Nat)(eA : Ω)(en ec : Nat)(oA : Ω)(on oc : Nat)(fk : Nat)(fa : Int)(w : Ψ)(K : Ending -> Ψ -> Prop)(H0 : Sp w [Sx.cB bc bg eA en ec oA on oc fk fa])(hK : ∀ w', Hs w [Sx.cB bc bg eA en ec oA on oc fk fa] w' [Sx.cB bc bg eA en ec oA on oc fk fa] -> K (.returned (.bool (fk == 0))) w') :
   Calls Tryz.prog 55 #[.p bc] w K:=by
 obtain⟨L0,aq,H⟩:=Sx.cw H0;refine xu (vs:=[.p bc]) 9 Tryz.func55<|xb 11 0 H<|xf 5 [] H (.bool ((fk:Int)==(0:Int))) ?_;subst aq;exact Gx.ah (v':=.bool (fk==0)) (by rw[Py]) (hK  _ (H.pk [0]))
theorem j5(bc bg : Nat)(eA : Ω)(en ec : Nat)(oA : Ω)(on oc : Nat)(fk : Nat)(fa : Int)(kd : Nat)(at_ : Int)(w : Ψ)(K : Ending -> Ψ -> Prop)(H0 : Sp w [Sx.cB bc bg eA en ec oA on oc fk fa])(hK : ∀ w', Hs w [Sx.cB bc bg eA en ec oA on oc fk fa] w' [.ar bc (.cells #[.p bg, .slice eA en ec, .slice oA on oc, .n (if fk = 0 then kd else fk), .int .i64 (if fk = 0 then at_ else fa)] 115)] -> K (.returned (.tuple #[])) w') :
   Calls Tryz.prog 56 #[.p bc,.n kd,.int .i64 at_] w K:=by
 obtain⟨L0,aq,H⟩:=Sx.cw H0;refine xu (vs:=[.p bc,.n kd,.int .i64 at_]) 14 Tryz.func56 ?_;refine xd 3 [0] H (fun Hp R hZ=>jm bc bg eA en ec oA on oc fk fa w R Hp  (fun w1 G1=>hZ _ _ _ G1 fun H1=>?_));refine xh 2 (fk==0) (fun nI=>?_) (fun nI=>?_)
 . have h0:fk=0:=by simpa using nI
   rw[if_pos h0,if_pos h0] at hK;refine xe 7 0 H1 fun w2 H2=>xf 1 [] H2 (.tuple #[]) ?_;subst aq;exact Gx.ah (v':=.tuple #[]) (by rfl) (hK  _ (H2.pk [0]))
 have h0:fk≠0:=by simpa using nI
 rw[if_neg h0,if_neg h0] at hK;refine xf 1 [] H1 (.tuple #[]) ?_;subst aq;exact Gx.ah (v':=.tuple #[]) (by rfl) (hK  _ (H1.pk [0]))
theorem YS(bc bg : Nat)(eA : Ω)(en ec : Nat)(oA : Ω)(on oc : Nat)(m n : Nat)(at_ : Int)(S : Φ)(c : Ck)(w : Ψ)(K : Ending -> Ψ -> Prop)(H0 : Sp w [Sx.cB bc bg eA en ec oA on oc c.fk c.fa, GI S bg c.g])(k : Nat)(c' : Ck)(hf : c.row k m n at_ = some c')(hK : ∀(S' : Φ) w', Hs w [Sx.cB bc bg eA en ec oA on oc c.fk c.fa, GI S bg c.g] w' [Sx.cB bc bg eA en ec oA on oc c'.fk c'.fa, GI S' bg c'.g] -> K (.returned (.tuple #[])) w') :
   Calls Tryz.prog 125 #[.p bc,.n m,.n n,.int .i64 at_] w K:=by
 obtain⟨L0,aq,H⟩:=Sx.cw H0;refine xu (vs:=[.p bc,.n m,.n n,.int .i64 at_]) 24 Tryz.func125 ?_;obtain⟨hc0,nX⟩:=PJ hf;refine xd 4 [0] H (fun Hp R hZ=>jm bc bg eA en ec oA on oc c.fk c.fa w R Hp  (fun w1 G1=>hZ _ _ _ G1 fun H1=>?_));refine xh 3 (!(c.fk==0)) (fun fT=>?_) (fun fT=>?_)
 . have h0:c.fk≠0:=by simpa using fT
   obtain rfl:=hc0 h0;refine xf 2 [] H1 (.tuple #[]) ?_;subst aq;exact Gx.ah (v':=.tuple #[]) (by rfl) (hK S _ (H1.pk [0,0]))
 have h0:c.fk=0:=by simpa using fT
 obtain⟨g2,s,hsr,vI,Rq⟩:=nX h0;refine xb 7 0 H1 ?_;refine xd 2 [1] H1 (fun Hp R hZ=>CS S bg c.g m n w1 R Hp _ g2 s hsr (fun S1 w2 G2=>hZ _ _ _ G2 fun H2=>?_));refine xh 9 (!s) (fun jI=>?_) (fun jI=>?_)
 . have hs:s=false:=by simpa using jI
   obtain rfl:=vI hs;refine xd 3 [1] H2 (fun Hp R hZ=>j5 bc bg eA en ec oA on oc c.fk c.fa 9 at_ w2 R Hp  (fun w3 G3=>hZ _ _ _ G3 fun H4=>?_));rw[if_pos h0,if_pos h0] at H4;refine xf 1 [] H4 (.tuple #[]) ?_;subst aq;exact Gx.ah (v':=.tuple #[]) (by rfl) (hK S1 _ (H4.pk [0,0]))
 have hs:s=true:=by simpa using jI
 obtain rfl:=Rq hs;refine xf 1 [] H2 (.tuple #[]) ?_;subst aq;exact Gx.ah (v':=.tuple #[]) (by rfl) (hK S1 _ (H2.pk [1,0]))
theorem iQ(bc bg : Nat)(eA : Ω)(en ec : Nat)(oA : Ω)(on oc : Nat)(m n : Nat)(at_ : Int)(S : Φ)(c : Ck)(w : Ψ)(K : Ending -> Ψ -> Prop)(H0 : Sp w [Sx.cB bc bg eA en ec oA on oc c.fk c.fa, GI S bg c.g])(k : Nat)(c' : Ck)(hf : c.same k m n at_ = some c')(hK : ∀(S' : Φ) w', Hs w [Sx.cB bc bg eA en ec oA on oc c.fk c.fa, GI S bg c.g] w' [Sx.cB bc bg eA en ec oA on oc c'.fk c'.fa, GI S' bg c'.g] -> K (.returned (.tuple #[])) w') :
   Calls Tryz.prog 90 #[.p bc,.n m,.n n,.int .i64 at_] w K:=by
 obtain⟨L0,aq,H⟩:=Sx.cw H0;refine xu (vs:=[.p bc,.n m,.n n,.int .i64 at_]) 40 Tryz.func90 ?_;obtain⟨hc0,nX⟩:=Kr hf;refine xd 4 [0] H (fun Hp R hZ=>jm bc bg eA en ec oA on oc c.fk c.fa w R Hp  (fun w1 G1=>hZ _ _ _ G1 fun H1=>?_));refine xh 3 (!(c.fk==0)) (fun fT=>?_) (fun fT=>?_)
 . have h0:c.fk≠0:=by simpa using fT
   obtain rfl:=hc0 h0;refine xf 2 [] H1 (.tuple #[]) ?_;subst aq;exact Gx.ah (v':=.tuple #[]) (by rfl) (hK S _ (H1.pk [0,0]))
 have h0:c.fk=0:=by simpa using fT
 obtain⟨g2,s,nK,vI,Rq⟩:=nX h0;refine xb 7 0 H1 ?_;refine xd 2 [1] H1 (fun Hp R hZ=>(abl _) S bg c.g m n w1 R Hp g2 s nK (fun S1 w2 G2=>hZ _ _ _ G2 fun H2=>?_));refine ye 8 21 (!s) (fun wJ=>?_) (fun wJ=>?_)
 . have hs:s=false:=by simpa using wJ
   obtain rfl:=vI hs;refine xd 21 [1] H2 (fun Hp R hZ=>j5 bc bg eA en ec oA on oc c.fk c.fa 8 at_ w2 R Hp  (fun w3 G3=>hZ _ _ _ G3 fun H4=>?_));rw[if_pos h0,if_pos h0] at H4;refine xf 1 [] H4 (.tuple #[]) ?_;subst aq;exact Gx.ah (v':=.tuple #[]) (by rfl) (hK S1 _ (H4.pk [0,0]))
 have hs:s=true:=by simpa using wJ
 obtain⟨r1,z1,iq,hn3,WC⟩:=Rq hs;refine xb 3 1 H2 ?_;refine xd 1 [0] H2 (fun Hp R hZ=>KR S1 bg g2 m w2 R Hp _ r1 z1 iq (fun S2 w4 G4=>hZ _ _ _ G4 fun H5=>?_));refine ye 2 29 r1 (fun AK=>?_) (fun AK=>?_)
 . obtain rfl:=hn3 AK;refine xd 13 [1] H5 (fun Hp R hZ=>j5 bc bg eA en ec oA on oc c.fk c.fa 8 at_ w4 R Hp  (fun w5 G5=>hZ _ _ _ G5 fun H7=>?_));rw[if_pos h0,if_pos h0] at H7;refine xf 1 [] H7 (.tuple #[]) ?_;subst aq;exact Gx.ah (v':=.tuple #[]) (by rfl) (hK S2 _ (H7.pk [0,0]))
 obtain⟨r2,z2,pj,WD,hn6⟩:=WC AK;refine xb 3 1 H5 ?_;refine xd 1 [0] H5 (fun Hp R hZ=>KR S2 bg g2 n w4 R Hp _ r2 z2 pj (fun S3 w6 G6=>hZ _ _ _ G6 fun H8=>?_));refine xh 3 r2 (fun CI=>?_) (fun CI=>?_)
 . obtain rfl:=WD CI;refine xd 3 [1] H8 (fun Hp R hZ=>j5 bc bg eA en ec oA on oc c.fk c.fa 8 at_ w6 R Hp  (fun w7 G7=>hZ _ _ _ G7 fun bh=>?_));rw[if_pos h0,if_pos h0] at bh;refine xf 1 [] bh (.tuple #[]) ?_;subst aq;exact Gx.ah (v':=.tuple #[]) (by rfl) (hK S3 _ (bh.pk [0,0]))
 obtain rfl:=hn6 CI;refine xf 1 [] H8 (.tuple #[]) ?_;subst aq;exact Gx.ah (v':=.tuple #[]) (by rfl) (hK S3 _ (H8.pk [1,0]))
theorem K_(bc bg : Nat)(eA : Ω)(en ec : Nat)(oA : Ω)(on oc : Nat)(n : Nat)(at_ : Int)(S : Φ)(c : Ck)(w : Ψ)(K : Ending -> Ψ -> Prop)(H0 : Sp w [Sx.cB bc bg eA en ec oA on oc c.fk c.fa, GI S bg c.g])(k : Nat)(c' : Ck)(hf : c.ry k n at_ = some c')(hK : ∀(S' : Φ) w', Hs w [Sx.cB bc bg eA en ec oA on oc c.fk c.fa, GI S bg c.g] w' [Sx.cB bc bg eA en ec oA on oc c'.fk c'.fa, GI S' bg c'.g] -> K (.returned (.tuple #[])) w') :
   Calls Tryz.prog 58 #[.p bc,.n n,.int .i64 at_] w K:=by
 obtain⟨L0,aq,H⟩:=Sx.cw H0;refine xu (vs:=[.p bc,.n n,.int .i64 at_]) 20 Tryz.func58 ?_;obtain⟨hc0,nX⟩:=PL hf;refine xd 3 [0] H (fun Hp R hZ=>jm bc bg eA en ec oA on oc c.fk c.fa w R Hp  (fun w1 G1=>hZ _ _ _ G1 fun H1=>?_));refine ye 1 8 (c.fk==0) (fun abo=>?_) (fun abo=>?_)
 . have h0:c.fk=0:=by simpa using abo
   obtain⟨p,z,hp,vI,Rq⟩:=nX h0;refine xb 3 0 H1 ?_;refine xd 1 [1] H1 (fun Hp R hZ=>WG S bg c.g n w1 R Hp _ p z hp (fun S1 w2 G2=>hZ _ _ _ G2 fun H2=>?_));refine xh 4 (decide ((p:Int)>(300:Int))) (fun dw=>?_) (fun dw=>?_)
   . have oS:=of_decide_eq_true dw;obtain rfl:=vI (by omega);refine xd 3 [1] H2 (fun Hp R hZ=>j5 bc bg eA en ec oA on oc c.fk c.fa 10 at_ w2 R Hp  (fun w3 G3=>hZ _ _ _ G3 fun H4=>?_));rw[if_pos h0,if_pos h0] at H4;refine xf 1 [] H4 (.tuple #[]) ?_;subst aq;exact Gx.ah (v':=.tuple #[]) (by rfl) (hK S1 _ (H4.pk [0,0]))
   have oS:=of_decide_eq_false dw;obtain rfl:=Rq (by omega);refine xf 1 [] H2 (.tuple #[]) ?_;subst aq;exact Gx.ah (v':=.tuple #[]) (by rfl) (hK S1 _ (H2.pk [1,0]))
 have h0:c.fk≠0:=by simpa using abo
 obtain rfl:=hc0 h0;refine xf 12 [] H1 (.tuple #[]) ?_;subst aq;exact Gx.ah (v':=.tuple #[]) (by rfl) (hK S _ (H1.pk [0,0]))
def vM(k : Nat) : Prop := ∀(Sy : Φ)(kd u row : Nat)(ops : List Nm)(args : List Ty)(p : Tv)(w : Ψ)(K : Ending -> Ψ -> Prop)(H0 : Sp w [nW Sy p (Ty.mk kd u row ops args)])(m : Nat)(hf : kX k (Ty.mk kd u row ops args) = some m)(hK : ∀ w', Hs w [nW Sy p (Ty.mk kd u row ops args)] w' [nW Sy p (Ty.mk kd u row ops args)] -> K (.returned (.int .i64 (m : Int))) w'),
   Calls Tryz.prog 86 #[.agg #[.n kd,.n u,.n row,.slice p.A p.na p.ca,.slice p.B p.nb p.cb]] w K
set_option maxHeartbeats 4000000 in
theorem I_(k:Nat)(ih:vM k):vM (k+1):=by
 intro Sy kd u row ops args p w K H0 m hf hK;obtain⟨L0,aq,H⟩:=Sx.cw H0;refine xu (vs:=[.agg #[.n kd,.n u,.n row,.slice p.A p.na p.ca,.slice p.B p.nb p.cb]]) 25 Tryz.func86 ?_;obtain⟨_,hna,hca,hnb,_⟩:=(mm (S:=Sy) (p:=p) (t:=Ty.mk kd u row ops args) H 0).open;have hf0:=MK hf;refine xg 2 H fun k1 w1 H1=>xb 6 1 H1<|Sx.vi 1 ((1:Int)+(p.na:Int)) ((1+p.na:Nat):Int) (Gx.bq (by omega) (by omega)) ?_;refine y0 10 (fun z l' w'=>∃(i:Nat) (c:Nat),l'=[(1,.p k1),(3,.n c),(4,.n i)]/\z=args.length-i/\Hs w L0 w' [nW Sy p (Ty.mk kd u row ops args),.ar k1 (.cells #[.n kd,.n u,.n row,.slice p.A p.na p.ca,.slice p.B p.nb p.cb] 96)]/\(i<=args.length)/\((args.drop i).foldl (pF k) (some c)=some m)) _ _ ⟨0,(1+p.na),rfl,rfl,H1,(Nat.zero_le _),(by rw[hna];exact hf0)⟩ (fun b1 z1 l1 w2 cm K1 aU=>?_);obtain⟨i,c,rfl,rfl,H2,hi,u4⟩:=cm;refine xb 5 1 H2 ?_;refine xh 4 (decide ((i:Int)<(p.nb:Int))) (fun fQ=>?_) (fun fQ=>?_)
 . have uD:=of_decide_eq_true fQ;obtain⟨t,j,ht,hpj,hle,alM⟩:=VG u4 (by omega);obtain⟨o6,u1,fL,lB,gh⟩:=t;refine xb 7 1 H2 ?_;obtain⟨q1,a1,hO,nX,BP⟩:=(mm (S:=Sy) (p:=p) (t:=Ty.mk kd u row ops args) H2 0).open.2.2.2.2 i _ ht;refine xv 1 a1 i 5 p.nb p.cb hO (by omega)<|xt (c:=5) (t:=96) 0 [.n o6,.n u1,.n fL,.slice q1.A q1.na q1.ca,.slice q1.B q1.nb q1.cb] (.agg #[.n o6,.n u1,.n fL,.slice q1.A q1.na q1.ca,.slice q1.B q1.nb q1.cb]) nX ?_;have H3:=H2.ro 0 (S:=Sy) (A:=fun w=>dm w Sy p (Ty.mk kd u row ops args)) (B:=fun w=>dm w Sy q1 (Ty.mk o6 u1 fL lB gh)) (by kernel_rfl) BP (fP _ _ _);refine xd 0 [2] H3 (fun Hp R hZ=>ih Sy o6 u1 fL lB gh q1 w2 R Hp j hpj (fun w3 G1=>hZ _ _ _ G1 fun H4=>?_));refine Sx.vi 0 ((c:Int)+(j:Int)) ((c+j:Nat):Int) (Gx.bq (by omega) (by omega))<|Sx.vi 6 ((i:Int)+(1:Int)) ((i+1:Nat):Int) (Gx.bq (by omega) (by omega)) ?_;exact xi 2 _ (aU _ _ _ _ (by omega) ⟨(i+1),(c+j),rfl,rfl,H4.pk [1,1],(by omega),alM⟩)
 have uD:=of_decide_eq_false fQ;rw[List.drop_of_length_le (by omega)] at u4;obtain rfl:c=m:=by simpa using u4
 refine xf 12 [] H2 (.n c) ?_;subst aq;exact Gx.ah (v':=.n c) (by rfl) (hK  _ (H2.pk [0]))
theorem Gr(k:Nat):vM k:=by
 induction k with
 |zero=>intro Sy kd u row ops args p w K H0 m hf;exact absurd hf (by simp[kX])
 |succ k ih=>exact I_ k ih
end Go.Proofs.YtdmdecgoebnamaaGreat
namespace Go.Proofs.YtdmdecgoebnamaaGreat
open Go.RowKit Go.Sx Go.aR Go.dy
attribute [local irreducible] Go.wpOps Go.Code.wp Go.wpOp Go.wpAnyH Go.Calls Go.Sx.Goal
set_option maxRecDepth 20000
theorem WO(kd na : Nat)(nm : Nm)(nn : Int)(ks : List Nd)(nA : Ω)(nc : Nat)(w : Ψ)(K : Ending -> Ψ -> Prop)(H0 : Sp w [])(hK : ∀ w', Hs w [] w' [] -> K (.returned (.bool (value (.mk kd na nm nn ks)))) w') :
   Calls Tryz.prog 126 #[Sx.nA kd na nm nn nA ks nc] w K:=by
 obtain⟨L0,aq,H⟩:=Sx.cw H0;refine xu (vs:=[Sx.nA kd na nm nn nA ks nc]) 31 Tryz.func126<|xg 2 H fun k1 w1 H1=>?_;refine yg 3 (fun l' w'=>l'=[(2,.bool (((((((kd:Int)==(3:Int))||((kd:Int)==(4:Int)))||((kd:Int)==(5:Int)))||((kd:Int)==(15:Int)))||((kd:Int)==(6:Int)))||((kd:Int)==(7:Int))))]/\w1=w') (fun K1 aU=>?_) (fun b1 l1 w2 cm=>?_)
 . refine xb 2 0 H1 ?_;refine ye 2 6 ((kd:Int)==(3:Int)) (fun Ja=>?_) (fun Ja=>?_)
   . exact xi 26 _ (aU _ _ _ ⟨rfl,rfl⟩) (h2:=(by rw[Ja];try kernel_rfl))
   refine xb 1 0 H1 ?_;refine ye 3 11 ((kd:Int)==(4:Int)) (fun ik=>?_) (fun ik=>?_)
   . exact xi 21 _ (aU _ _ _ ⟨rfl,rfl⟩) (h2:=(by rw[Ja,ik];try kernel_rfl))
   refine xb 1 0 H1 ?_;refine ye 3 16 ((kd:Int)==(5:Int)) (fun uv=>?_) (fun uv=>?_)
   . exact xi 16 _ (aU _ _ _ ⟨rfl,rfl⟩) (h2:=(by rw[Ja,ik,uv];try kernel_rfl))
   refine xb 1 0 H1 ?_;refine ye 3 21 ((kd:Int)==(15:Int)) (fun wJ=>?_) (fun wJ=>?_)
   . exact xi 11 _ (aU _ _ _ ⟨rfl,rfl⟩) (h2:=(by rw[Ja,ik,uv,wJ];try kernel_rfl))
   refine xb 1 0 H1 ?_;refine ye 3 26 ((kd:Int)==(6:Int)) (fun RJ=>?_) (fun RJ=>?_)
   . exact xi 6 _ (aU _ _ _ ⟨rfl,rfl⟩) (h2:=(by rw[Ja,ik,uv,wJ,RJ];try kernel_rfl))
   refine xb 1 0 H1 ?_;exact xi 4 _ (aU _ _ _ ⟨rfl,rfl⟩) (h2:=(by rw[Ja,ik,uv,wJ,RJ];try kernel_rfl))
 obtain⟨rfl,rfl⟩:=cm;refine xf 1 [] H1 (.bool (((((((kd:Int)==(3:Int))||((kd:Int)==(4:Int)))||((kd:Int)==(5:Int)))||((kd:Int)==(15:Int)))||((kd:Int)==(6:Int)))||((kd:Int)==(7:Int)))) ?_;subst aq;exact Gx.ah (v':=.bool (value (.mk kd na nm nn ks))) (by show Value.bool (kd==3||kd==4||kd==5||kd==15||kd==6||kd==7)=_;rw[ML kd 3 3 rfl,ML kd 4 4 rfl,ML kd 5 5 rfl,ML kd 15 15 rfl,ML kd 6 6 rfl,ML kd 7 7 rfl]) (hK _ (H1.pk []))
def Ee(k : Nat) : Prop := ∀(Q : Φ)(kd na : Nat)(nm : Nm)(nn : Int)(ks : List Nd)(nA : Ω)(nc : Nat)(w : Ψ)(K : Ending -> Ψ -> Prop)(H0 : Sp w [fK Q ks nA nc])(t : Ty)(hf : tL k (.mk kd na nm nn ks) = some t)(hK : ∀ (Sy : Φ) (p : Tv) w', Hs w [fK Q ks nA nc] w' [fK Q ks nA nc, nW Sy p t] -> K (.returned (.agg (Is t p).toArray)) w'),
   Calls Tryz.prog 85 #[Sx.nA kd na nm nn nA ks nc] w K
set_option maxHeartbeats 8000000 in
theorem RK(k:Nat)(ih:Ee k):Ee (k+1):=by
 intro Q kd na nm nn ks nA nc w K H0 t hf hK;obtain⟨L0,aq,H⟩:=Sx.cw H0;refine xu (vs:=[Sx.nA kd na nm nn nA ks nc]) 69 Tryz.func85 ?_;obtain⟨D9,hy2,hy3,hy4,hy5⟩:=MM hf;refine xg 2 H fun k1 w1 H1=>xg 0 H1 fun k2 w2 H2=>xb 6 1 H2 ?_;refine xh 9 ((kd:Int)==(24:Int)) (fun nI=>?_) (fun nI=>?_)
 . have RL:=Gx.k1 nI;obtain rfl:=D9 (by omega);refine xe 3 2 H2 fun w3 H3=>xf 5 [2] H3 (.agg #[.int .i64 1,.int .i64 0,.int .i64 0,.slice none 0 0,.slice none 0 0]) ?_;have H4:=H3.add (Gx.Ext.refl _) (it:=.own 96 5 none 0 0 []) (World.ownsRow_nil _ _ _ _) (fun _ h=>by cases h);have H5:=H4.add (Gx.Ext.refl _) (it:=bw (fun _=>False) none []) eu (fun _ h=>h.elim);obtain⟨S1,H6⟩:=dz (e:=96) (cap:=0) (n:=0) (A:=none) (B:=none) (Sa:=(fun _=>False)) (l:=[]) (ops:=[]) (na:=0) (ca:=0) H5 [3,3] 1 0 0 (by kernel_rfl) rfl ⟨Nat.le_refl _,by simp,by simp⟩ rfl;subst aq;exact Gx.ah (by rfl) (hK S1 ⟨none,0,0,none,0,0⟩ _ (H6.pk [1,0]))
 refine xh 6 ((kd:Int)==(25:Int)) (fun jG=>?_) (fun jG=>?_)
 . have RL:=Gx.k0 nI;have iZ:=Gx.k1 jG;obtain rfl:=hy2 (by omega);refine xe 3 2 H2 fun w4 H7=>xf 5 [2] H7 (.agg #[.int .i64 2,.int .i64 0,.int .i64 0,.slice none 0 0,.slice none 0 0]) ?_;have H8:=H7.add (Gx.Ext.refl _) (it:=.own 96 5 none 0 0 []) (World.ownsRow_nil _ _ _ _) (fun _ h=>by cases h);have H9:=H8.add (Gx.Ext.refl _) (it:=bw (fun _=>False) none []) eu (fun _ h=>h.elim);obtain⟨S2,bh⟩:=dz (e:=96) (cap:=0) (n:=0) (A:=none) (B:=none) (Sa:=(fun _=>False)) (l:=[]) (ops:=[]) (na:=0) (ca:=0) H9 [3,3] 2 0 0 (by kernel_rfl) rfl ⟨Nat.le_refl _,by simp,by simp⟩ rfl;subst aq;exact Gx.ah (by rfl) (hK S2 ⟨none,0,0,none,0,0⟩ _ (bh.pk [1,0]))
 refine xh 6 ((kd:Int)==(26:Int)) (fun fQ=>?_) (fun fQ=>?_)
 . have RL:=Gx.k0 nI;have iZ:=Gx.k0 jG;have uD:=Gx.k1 fQ;obtain rfl:=hy3 (by omega);refine xe 3 2 H2 fun w5 bp=>xf 5 [2] bp (.agg #[.int .i64 3,.int .i64 0,.int .i64 0,.slice none 0 0,.slice none 0 0]) ?_;have aV:=bp.add (Gx.Ext.refl _) (it:=.own 96 5 none 0 0 []) (World.ownsRow_nil _ _ _ _) (fun _ h=>by cases h);have bS:=aV.add (Gx.Ext.refl _) (it:=bw (fun _=>False) none []) eu (fun _ h=>h.elim);obtain⟨S3,bD⟩:=dz (e:=96) (cap:=0) (n:=0) (A:=none) (B:=none) (Sa:=(fun _=>False)) (l:=[]) (ops:=[]) (na:=0) (ca:=0) bS [3,3] 3 0 0 (by kernel_rfl) rfl ⟨Nat.le_refl _,by simp,by simp⟩ rfl;subst aq;exact Gx.ah (by rfl) (hK S3 ⟨none,0,0,none,0,0⟩ _ (bD.pk [1,0]))
 refine xh 6 ((kd:Int)==(27:Int)) (fun dw=>?_) (fun dw=>?_)
 . have RL:=Gx.k0 nI;have iZ:=Gx.k0 jG;have uD:=Gx.k0 fQ;have oS:=Gx.k1 dw;obtain⟨dP,tX,La,WQ,rfl⟩:=hy4 (by omega) (by omega) (by omega) (by omega);obtain⟨mN,mO,fM,mP,mQ⟩:=dP;obtain⟨B1,eZ,a1,hO,bG⟩:=aM (Q:=Q) (ks:=ks) (A:=nA) (c:=nc) (i:=0) H2 0 (by kernel_rfl) La;obtain⟨qV,qW,qZ,Bs,Bt⟩:=tX;refine xb 3 1 bG<|xv 0 a1 0 5 ks.length nc hO (aw La)<|xt (c:=5) (t:=62) 0 (Sx.nC mN mO fM mP B1 mQ eZ) (Sx.nA mN mO fM mP B1 mQ eZ) (aG (Q:=Q) (a:=a1.add (0*5)) (n:=5) (cs:=(Sx.nC mN mO fM mP B1 mQ eZ)) bG 3) ?_;refine xd 0 [4] bG (fun Hp R hZ=>ih Q mN mO fM mP mQ B1 eZ w2 R Hp _ WQ (fun S4 p1 w6 G1=>hZ _ _ _ G1 fun cC=>?_));refine xg 0 cC fun k3 w7 bL=>xe 1 4 bL fun w8 dG=>xf 5 [4] dG (.agg #[.int .i64 4,.int .i64 0,.int .i64 0,.slice none 0 0,.slice (Χ k3) 1 1]) ?_;have cx:=Hs.wy (k:=k3) (e:=96) (cs:=#[.n qV,.n qW,.n qZ,.slice p1.A p1.na p1.ca,.slice p1.B p1.nb p1.cb]) dG 6 5 1 (by kernel_rfl) (by rfl) (by omega);have cM:=cx.add (Gx.Ext.refl _) (it:=bw (fun _=>False) none []) eu (fun _ h=>h.elim);obtain⟨S5,dt⟩:=dz (e:=96) (cap:=1) (n:=1) (A:=none) (B:=(Χ k3)) (Sa:=(fun _=>False)) (l:=[(p1,Ty.mk qV qW qZ Bs Bt,S4)]) (ops:=[]) (na:=0) (ca:=0) cM [6,6,1] 4 0 0 (by kernel_rfl) rfl ⟨Nat.le_refl _,by simp,by simp⟩ rfl;subst aq;exact Gx.ah (by rfl) (hK S5 ⟨none,0,0,(Χ k3),1,1⟩ _ (dt.pk [2,0]))
 refine xh 6 ((kd:Int)==(28:Int)) (fun kz=>?_) (fun kz=>?_)
 . have RL:=Gx.k0 nI;have iZ:=Gx.k0 jG;have uD:=Gx.k0 fQ;have oS:=Gx.k0 dw;have F2:=Gx.k1 kz;obtain⟨dP,dR,tX,tY,La,Lb,WQ,WR,hp5,hp6⟩:=hy5 (by omega) (by omega) (by omega) (by omega);obtain⟨mN,mO,fM,mP,mQ⟩:=dP;obtain⟨B2,gQ,a2,kS,ep⟩:=aM (Q:=Q) (ks:=ks) (A:=nA) (c:=nc) (i:=0) H2 0 (by kernel_rfl) La;obtain⟨j8,hY,j9,j_,kc⟩:=dR;obtain⟨B3,jn,a3,Ao,fi⟩:=aM (Q:=Q) (ks:=ks) (A:=nA) (c:=nc) (i:=1) ep 0 (by kernel_rfl) Lb;obtain⟨qV,qW,qZ,Bs,Bt⟩:=tX;obtain⟨tf,tg,th,CW,CX⟩:=tY;obtain rfl:=hp5 (by omega);refine xy 1 fi [1,3,5] [] (LJ:=[.ar k1 (.cells #[.n kd,.n na,.string nm,.int .i64 nn,.slice nA ks.length nc] 62),eO Q (a2.add (0*5)) 5 (Sx.nC mN mO fM mP B2 mQ gQ),eO Q (a3.add (1*5)) 5 (Sx.nC j8 hY j9 j_ B3 kc jn)]) (by kernel_rfl) fun w9 dI=>xm [(0,none),(1,some (0,[]))] (dI.sb [1,2,3])<|yj 2 [] a2 0 5 ks.length nc kS (aw La) (dI.sb [1,2,3])<|yh (c:=5) (t:=62) 3 [] (Sx.nC mN mO fM mP B2 mQ gQ) (Sx.nA mN mO fM mP B2 mQ gQ) (fun w' hs=>(hU (Q:=Q) (a:=a2.add (0*5)) (n:=5) (cs:=(Sx.nC mN mO fM mP B2 mQ gQ)) hs 1)) (dI.sb [1,2,3])<|xm [(5,none),(6,some (0,[]))] (dI.sb [1,2,3])<|yj 7 [] a3 1 5 ks.length nc Ao (aw Lb) (dI.sb [1,2,3]) ?_;refine yh (c:=5) (t:=62) 8 [] (Sx.nC j8 hY j9 j_ B3 kc jn) (Sx.nA j8 hY j9 j_ B3 kc jn) (fun w' hs=>(hU (Q:=Q) (a:=a3.add (1*5)) (n:=5) (cs:=(Sx.nC j8 hY j9 j_ B3 kc jn)) hs 2)) (dI.sb [1,2,3])<|xl ?_;intro iU;refine xp 4 ?_;refine xd 0 [4] dI (fun Hp R hZ=>ih Q mN mO fM mP mQ B2 gQ w9 R Hp _ WQ (fun S6 p2 df G2=>hZ _ _ _ G2 fun dp=>?_));refine xj (x:=iU) 4 (dp.sb [3,4,4])<|xl ?_;intro ky;refine xp 9 ?_;refine xd 0 [7] dp (fun Hp R hZ=>ih Q j8 hY j9 j_ kc B3 jn df R Hp _ WR (fun S7 p3 gV G3=>hZ _ _ _ G3 fun fE=>?_));refine xj (x:=ky) 9 (fE.sb [5,6,6])<|xl ?_;intro mJ;refine xp 10<|xg 0 fE fun k4 jk fV=>xj (x:=mJ) 10 (fV.sb [5,6,6])<|xm [(11,none)] (fV.sb [5,6,6])<|xl ?_;intro s7;refine xp 12<|xe 0 6 fV fun jT jU=>xj (x:=s7) 12 (jU.sb [5,6,6])<|xw<|xf 4 [6] jU (.agg #[.int .i64 5,.int .i64 0,.int .i64 0,.slice none 0 0,.slice (Χ k4) 2 2]) ?_;have fG:=Hs.wy (k:=k4) (e:=96) (cs:=#[.n qV,.n qW,.n qZ,.slice p2.A p2.na p2.ca,.slice p2.B p2.nb p2.cb,.n tf,.n tg,.n th,.slice p3.A p3.na p3.ca,.slice p3.B p3.nb p3.cb]) jU 9 5 2 (by kernel_rfl) (by rfl) (by omega);have eU:=fG.add (Gx.Ext.refl _) (it:=bw (fun _=>False) none []) eu (fun _ h=>h.elim);obtain⟨S8,fj⟩:=dz (e:=96) (cap:=2) (n:=2) (A:=none) (B:=(Χ k4)) (Sa:=(fun _=>False)) (l:=[(p2,Ty.mk qV qW qZ Bs Bt,S6),(p3,Ty.mk tf tg th CW CX,S7)]) (ops:=[]) (na:=0) (ca:=0) eU [9,9,3,1] 5 0 0 (by kernel_rfl) rfl ⟨Nat.le_refl _,by simp,by simp⟩ rfl;subst aq;exact Gx.ah (by rfl) (hK S8 ⟨none,0,0,(Χ k4),2,2⟩ _ (fj.pk [3,0]))
 have RL:=Gx.k0 nI;have iZ:=Gx.k0 jG;have uD:=Gx.k0 fQ;have oS:=Gx.k0 dw;have F2:=Gx.k0 kz;obtain⟨dP,dR,tX,tY,La,Lb,WQ,WR,hp5,hp6⟩:=hy5 (by omega) (by omega) (by omega) (by omega);obtain⟨mN,mO,fM,mP,mQ⟩:=dP;obtain⟨B4,nL,a4,Fa,gM⟩:=aM (Q:=Q) (ks:=ks) (A:=nA) (c:=nc) (i:=0) H2 0 (by kernel_rfl) La;obtain⟨j8,hY,j9,j_,kc⟩:=dR;obtain⟨B5,ox,a5,UM,lX⟩:=aM (Q:=Q) (ks:=ks) (A:=nA) (c:=nc) (i:=1) gM 0 (by kernel_rfl) Lb;obtain⟨qV,qW,qZ,Bs,Bt⟩:=tX;obtain⟨tf,tg,th,CW,CX⟩:=tY;obtain⟨P8,rfl⟩:=hp6 (by omega);refine yg 3 (fun l' w'=>∃(b3:Nat) (ab:Nat) (SX:Φ) (pX:Tv) (SY:Φ) (pY:Tv),l'=[(1,.p k1),(2,.p k2),(3,.p b3)]/\Hs w L0 w' [fK Q ks nA nc,.ar k1 (.cells #[.n kd,.n na,.string nm,.int .i64 nn,.slice nA ks.length nc] 62),.ar k2 (.cells #[.int .i64 0,.int .i64 0,.int .i64 0,.slice none 0 0,.slice none 0 0] 96),.ar ab (.cells #[.n qV,.n qW,.n qZ,.slice pX.A pX.na pX.ca,.slice pX.B pX.nb pX.cb,.n tf,.n tg,.n th,.slice pY.A pY.na pY.ca,.slice pY.B pY.nb pY.cb] 96),nW SX pX (Ty.mk qV qW qZ Bs Bt),nW SY pY (Ty.mk tf tg th CW CX),.ar b3 (.cells #[.int .i64 6,.int .i64 0,.int .i64 0,.slice none 0 0,.slice (Χ ab) 2 2] 96)]) (fun K1 aU=>?_) (fun b1 l1 jZ cm=>?_)
 . refine xy 0 lX [1,3,5] [] (LJ:=[.ar k1 (.cells #[.n kd,.n na,.string nm,.int .i64 nn,.slice nA ks.length nc] 62),eO Q (a4.add (0*5)) 5 (Sx.nC mN mO fM mP B4 mQ nL),eO Q (a5.add (1*5)) 5 (Sx.nC j8 hY j9 j_ B5 kc ox)]) (by kernel_rfl) fun mn iT=>?_;refine xm [(0,none),(1,some (0,[]))] (iT.sb [1,2,3])<|yj 2 [] a4 0 5 ks.length nc Fa (aw La) (iT.sb [1,2,3])<|yh (c:=5) (t:=62) 3 [] (Sx.nC mN mO fM mP B4 mQ nL) (Sx.nA mN mO fM mP B4 mQ nL) (fun w' hs=>(hU (Q:=Q) (a:=a4.add (0*5)) (n:=5) (cs:=(Sx.nC mN mO fM mP B4 mQ nL)) hs 1)) (iT.sb [1,2,3])<|xm [(5,none),(6,some (0,[]))] (iT.sb [1,2,3])<|yj 7 [] a5 1 5 ks.length nc UM (aw Lb) (iT.sb [1,2,3])<|yh (c:=5) (t:=62) 8 [] (Sx.nC j8 hY j9 j_ B5 kc ox) (Sx.nA j8 hY j9 j_ B5 kc ox) (fun w' hs=>(hU (Q:=Q) (a:=a5.add (1*5)) (n:=5) (cs:=(Sx.nC j8 hY j9 j_ B5 kc ox)) hs 2)) (iT.sb [1,2,3]) ?_;refine xl ?_;intro yG;refine Sx.Od 4 12 ?_ ?_
   . refine xd 0 [4] iT (fun Hp R hZ=>ih Q mN mO fM mP mQ B4 nL mn R Hp _ WQ (fun S9 p4 mq G4=>hZ _ _ _ G4 fun iv=>?_));refine xj (x:=yG) 4 (iv.sb [3,4,4])<|xl ?_;intro E2;refine Sx.Od 9 12 ?_ ?_
     . refine xd 0 [7] iv (fun Hp R hZ=>ih Q j8 hY j9 j_ kc B5 ox mq R Hp _ WR (fun uz p5 lW G5=>hZ _ _ _ G5 fun jV=>?_));refine xj (x:=E2) 9 (jV.sb [5,6,6])<|xl ?_;intro HH;refine Sx.Od 10 12 ?_ ?_
       . refine xg 0 jV fun k5 oN mr=>?_;refine xj (x:=HH) 10 (mr.sb [5,6,6])<|xm [(11,none)] (mr.sb [5,6,6])<|xl ?_;intro IC;refine xp 12<|xg 0 mr fun k6 rB kF=>xj (x:=IC) 12 (kF.sb [5,6,6])<|xl ?_;intro HI;refine xp 13<|xe 0 10 kF fun s6 mv=>xj (x:=HI) 13 (mv.sb [5,6,6])<|xw ?_;exact xi 0 _ (aU _ _ _ ⟨k6,k5,S9,p4,uz,p5,rfl,mv.pk [4,4,4,6,3,1,4]⟩)
       refine xg 0 jV fun k7 m_ j4=>xj (x:=HH) 12 (j4.sb [5,6,6])<|xl ?_;intro zO;refine xp 10<|xg 0 j4 fun k8 u5 ni=>xj (x:=zO) 10 (ni.sb [5,6,6])<|xm [(11,none)] (ni.sb [5,6,6])<|xl ?_;intro DR;refine xp 13<|xe 0 9 ni fun xC rD=>xj (x:=DR) 13 (rD.sb [5,6,6])<|xw ?_;exact xi 0 _ (aU _ _ _ ⟨k7,k8,S9,p4,uz,p5,rfl,rD.pk [4,4,4,7,3,1,4]⟩)
     refine xg 0 iv fun k9 tz pg=>xj (x:=E2) 12 (pg.sb [3,4,4])<|xl ?_;intro DS;refine xp 9 ?_;refine xd 0 [7] pg (fun Hp R hZ=>ih Q j8 hY j9 j_ kc B5 ox tz R Hp _ WR (fun wG p6 yF G6=>hZ _ _ _ G6 fun uj=>?_));refine xj (x:=DS) 9 (uj.sb [5,6,6])<|xl ?_;intro DT;refine xp 10<|xg 0 uj fun rU s8 u6=>xj (x:=DT) 10 (u6.sb [5,6,6])<|xm [(11,none)] (u6.sb [5,6,6])<|xl ?_;intro DU;refine xp 13<|xe 0 9 u6 fun xD tD=>xj (x:=DU) 13 (tD.sb [5,6,6])<|xw ?_;exact xi 0 _ (aU _ _ _ ⟨k9,rU,S9,p4,wG,p6,rfl,tD.pk [4,4,4,7,3,1,4]⟩)
   refine xg 0 iT fun UC xE wB=>xj (x:=yG) 12 (wB.sb [1,2,3])<|xl ?_;intro DV;refine xp 4 ?_;refine xd 0 [4] wB (fun Hp R hZ=>ih Q mN mO fM mP mQ B4 nL xE R Hp _ WQ (fun Fb p7 Cx G7=>hZ _ _ _ G7 fun rW=>?_));refine xj (x:=DV) 4 (rW.sb [3,4,4])<|xl ?_;intro BL;refine xp 9 ?_;refine xd 0 [7] rW (fun Hp R hZ=>ih Q j8 hY j9 j_ kc B5 ox Cx R Hp _ WR (fun Ec p8 E5 G8=>hZ _ _ _ G8 fun u7=>?_));refine xj (x:=BL) 9 (u7.sb [5,6,6])<|xl ?_;intro DW;refine xp 10<|xg 0 u7 fun V5 DG yH=>xj (x:=DW) 10 (yH.sb [5,6,6])<|xm [(11,none)] (yH.sb [5,6,6])<|xl ?_;intro DX;refine xp 13<|xe 0 9 yH fun Cz xI=>xj (x:=DX) 13 (xI.sb [5,6,6])<|xw ?_;exact xi 0 _ (aU _ _ _ ⟨UC,V5,Fb,p7,Ec,p8,rfl,xI.pk [4,4,4,7,3,1,4]⟩)
 obtain⟨b3,ab,SX,pX,SY,pY,rfl,yI⟩:=cm;have F0:=yI.add (Gx.Ext.refl _) (it:=bw (fun _=>False) none []) eu (fun _ h=>h.elim);refine y0 7 (fun z l' w'=>∃(i:Nat) (A4:Ω) (n4:Nat) (c4:Nat) (S4:Φ) (acc:List Nm),l'=[(1,.p k1),(2,.p k2),(3,.p b3),(4,.n i)]/\z=ks.length-i/\Hs w L0 w' [fK Q ks nA nc,.ar k1 (.cells #[.n kd,.n na,.string nm,.int .i64 nn,.slice nA ks.length nc] 62),.ar k2 (.cells #[.int .i64 0,.int .i64 0,.int .i64 0,.slice none 0 0,.slice none 0 0] 96),.ar ab (.cells #[.n qV,.n qW,.n qZ,.slice pX.A pX.na pX.ca,.slice pX.B pX.nb pX.cb,.n tf,.n tg,.n th,.slice pY.A pY.na pY.ca,.slice pY.B pY.nb pY.cb] 96),nW SX pX (Ty.mk qV qW qZ Bs Bt),nW SY pY (Ty.mk tf tg th CW CX),.ar b3 (.cells #[.int .i64 6,.int .i64 0,.int .i64 0,.slice A4 n4 c4,.slice (Χ ab) 2 2] 96),bw S4 A4 acc]/\(2<=i)/\(i<=ks.length)/\(n4=acc.length)/\(n4<=c4)/\(acc.length+2<=i)/\((ks.drop i).foldl It acc=(ks.drop 2).foldl It [])) _ _ ⟨2,none,0,0,(fun _=>False),[],rfl,rfl,F0.pk [0,0,0,0,0,0,0,0],(Nat.le_refl _),(aw Lb),rfl,(Nat.le_refl _),(by decide),rfl⟩ (fun b2 z1 l2 HJ iw K2 eC=>?_);obtain⟨i,A4,n4,c4,S4,acc,rfl,rfl,vw,HM,UA,WC,hc4,hal,Va⟩:=iw;refine xb 5 1 vw ?_;refine xh 4 (decide ((i:Int)<(ks.length:Int))) (fun qm=>?_) (fun qm=>?_)
 . have Gs:=of_decide_eq_true qm;obtain⟨dZ,oU⟩:=dW (l:=ks) (i:=i) (by omega);obtain⟨bO,aL,aI,bQ,bz⟩:=dZ;obtain⟨B6,Jb,a6,No,E7⟩:=aM (Q:=Q) (ks:=ks) (A:=nA) (c:=nc) (i:=i) vw 0 (by kernel_rfl) oU;refine xy 4 E7 [6,1,8] [10] (LJ:=[.ar b3 (.cells #[.int .i64 6,.int .i64 0,.int .i64 0,.slice A4 n4 c4,.slice (Χ ab) 2 2] 96),.ar k1 (.cells #[.n kd,.n na,.string nm,.int .i64 nn,.slice nA ks.length nc] 62),eO Q (a6.add (i*5)) 5 (Sx.nC bO aL aI bQ B6 bz Jb)]) (by kernel_rfl) fun FZ nY=>xm [(0,none),(1,some (0,[8,9,10])),(2,none),(3,some (1,[5,6,7,8,9,10])),(4,none)] (nY.sb [6,1,6])<|yj 5 [6,7,8,9,10] a6 i 5 ks.length nc No (aw oU) (nY.sb [6,1,6])<|yp 6 [7,8,9,10] (a6.add (i*5)) 2 (nY.sb [6,1,6])<|yh (c:=1) (t:=9) 7 [8,9,10] [.string aI] (.string aI) (fun w' hs=>(aa (i:=2) (m:=1) (hU (Q:=Q) (a:=a6.add (i*5)) (n:=5) (cs:=(Sx.nC bO aL aI bQ B6 bz Jb)) hs 2) (by decide))) (nY.sb [6,1,6])<|xl ?_;intro IP;refine xp 8 ?_;refine xd 0 [7] nY (fun Hp R hZ=>Ro S4 A4 n4 c4 acc aI FZ R Hp (by omega) (by omega) (by omega) (fun KQ A1 n1 c1 KC G9 vI nX=>hZ _ _ _ G9 fun zY=>?_));refine xj (x:=IP) 8 (zY.sb [8,3,7])<|xm [(9,none)] (zY.sb [8,3,7])<|xl ?_;intro IQ;refine xp 10<|xe 0 8 zY fun IG BG=>xj (x:=IQ) 10 Sx.np<|xw<|Sx.vi 4 ((i:Int)+(1:Int)) ((i+1:Nat):Int) (Gx.bq (by omega) (by omega)) ?_;exact xi 2 _ (eC _ _ _ _ (by omega) ⟨(i+1),A1,n1,c1,KQ,(jg acc aI),rfl,rfl,BG.pk [2,2,2,2,2,2,2,1],(by omega),(by omega),vI,nX,(by rw[pN];omega),(by rw[<- MO oU];exact Va)⟩)
 refine xb 7 6 vw<|xe 0 2 vw fun UE xJ=>xf 3 [2] xJ (.agg #[.int .i64 6,.int .i64 0,.int .i64 0,.slice A4 n4 c4,.slice (Χ ab) 2 2]) ?_;have F1:=Hs.wy (k:=ab) (e:=96) (cs:=#[.n qV,.n qW,.n qZ,.slice pX.A pX.na pX.ca,.slice pX.B pX.nb pX.cb,.n tf,.n tg,.n th,.slice pY.A pY.na pY.ca,.slice pY.B pY.nb pY.cb]) xJ 3 5 2 (by kernel_rfl) (by rfl) (by omega);have Gs:=of_decide_eq_false qm;have alP:acc=(ks.drop 2).foldl It []:=by have:=Va;rw[List.drop_of_length_le (by omega)] at this;exact this
 rw[<- alP] at hK;obtain⟨Ou,DH⟩:=dz (e:=96) (cap:=2) (n:=2) (A:=A4) (B:=(Χ ab)) (Sa:=S4) (l:=[(pX,Ty.mk qV qW qZ Bs Bt,SX),(pY,Ty.mk tf tg th CW CX,SY)]) (ops:=acc) (na:=n4) (ca:=c4) F1 [3,6,3,3] 6 0 0 (by kernel_rfl) WC ⟨hc4,by omega,by simp⟩ rfl;subst aq;exact Gx.ah (by rfl) (hK Ou ⟨A4,n4,c4,(Χ ab),2,2⟩ _ (DH.pk [1,0]))
theorem AL(k:Nat):Ee k:=by
 induction k with
 |zero=>intro Q kd na nm nn ks nA nc w K H0 t hf;exact absurd hf (by simp[tL])
 |succ k ih=>exact RK k ih
end Go.Proofs.YtdmdecgoebnamaaGreat
namespace Go.aR
open Go.RowKit Go.Sx Go.Gx Go.dy
theorem bs{α β:Type}{x:Option α}{f:α->Option β}{r:β}(h:(x >>= f)=some r):∃a,x=some a/\f a=some r:=by
 cases x with
 |none=>cases h
 |some a=>exact⟨a,rfl,h⟩
theorem RM{c c1:Ck}{kd r n:Nat}{a b:Option Nat}(h:c.put kd a b r=some (c1,n)):∃g,c.g.put kd a b r=some (g,n)/\{ c with g:=g }=c1:=by
 unfold Ck.put at h;split at h<;>try contradiction
 rename_i g m hg;cases h;exact⟨g,hg,rfl⟩
theorem abp{c c1:Ck}{n:Nat}(h:c.var=some (c1,n)):∃g,c.g.var=some (g,n)/\{ c with g:=g }=c1:=RM h
theorem CY{c c1:Ck}{l:List Nm}{nx:Option Nat}{n:Nat}(h:c.putRow l nx=some (c1,n)):∃g,c.g.putRow l nx=some (g,n)/\{ c with g:=g }=c1:=by
 unfold Ck.putRow at h;split at h<;>try contradiction
 rename_i g m hg;cases h;exact⟨g,hg,rfl⟩
theorem abq{c c1:Ck}{n:Nat}(h:c.eR=some (c1,n)):∃g,c.g.eR=some (g,n)/\{ c with g:=g }=c1:=CY h
theorem abr{k:Nat}{c c1:Ck}{t:Ty}{n:Nat}(h:c.pI k t=some (c1,n)):∃g,aR.pI k c.g t=some (g,n)/\{ c with g:=g }=c1:=by
 unfold Ck.pI at h;split at h<;>try contradiction
 rename_i g m hg;cases h;exact⟨g,hg,rfl⟩
theorem eY{c:Ck}{kd:Nat}{a:Int}:(c.no kd a).fk=(if c.fk=0 then kd else c.fk)/\(c.no kd a).fa=(if c.fk=0 then a else c.fa)/\(c.no kd a).g=c.g/\(c.no kd a).env=c.env/\(c.no kd a).ops=c.ops:=by
 unfold Ck.no;split<;>simp_all
theorem q_{k m n:Nat}{c c':Ck}{a:Int}(h:c.row k m n a=some c'):c'.env=c.env/\c'.ops=c.ops:=by
 have q:=PJ h;by_cases e:c.fk=0
 . obtain⟨g,s,_,h1,h2⟩:=q.2 e;cases s with
   |false=>rw[<- h1 rfl];exact⟨rfl,rfl⟩
   |true=>rw[<- h2 rfl];exact⟨rfl,rfl⟩
 . rw[q.1 e];exact⟨rfl,rfl⟩
theorem aK{k m n:Nat}{c c':Ck}{a:Int}(h:c.same k m n a=some c'):c'.env=c.env/\c'.ops=c.ops:=by
 have q:=Kr h;by_cases e:c.fk=0
 . obtain⟨g,s,_,h1,h2⟩:=q.2 e;cases s with
   |false=>rw[<- h1 rfl];exact⟨rfl,rfl⟩
   |true=>
     obtain⟨r1,z1,_,h3,h4⟩:=h2 rfl;cases r1 with
     |true=>rw[<- h3 rfl];exact⟨rfl,rfl⟩
     |false=>
       obtain⟨r2,z2,_,h5,h6⟩:=h4 rfl;cases r2 with
       |true=>rw[<- h5 rfl];exact⟨rfl,rfl⟩
       |false=>rw[<- h6 rfl];exact⟨rfl,rfl⟩
 . rw[q.1 e];exact⟨rfl,rfl⟩
theorem er{k n:Nat}{c c':Ck}{a:Int}(h:c.ry k n a=some c'):c'.g=c.g/\c'.env=c.env/\c'.ops=c.ops:=by
 have q:=PL h;by_cases e:c.fk=0
 . obtain⟨p,z,_,h1,h2⟩:=q.2 e;rcases Nat.lt_or_ge 300 p with r|r
   . rw[<- h1 r];exact⟨rfl,rfl,rfl⟩
   . rw[<- h2 r];exact⟨rfl,rfl,rfl⟩
 . rw[q.1 e];exact⟨rfl,rfl,rfl⟩
theorem qq{w0 w:Ψ}{L0 L:List Sx.Item}{Q:Nat->Prop}{ks:List Nd}{A:Ω}{c:Nat}(H:Hs w0 L0 w L)(j:Nat)(hi:L[j]?=some (fK Q ks A c):=by kernel_rfl):ks.length<=9223372036854775807:=by
 cases (H.at j hi).1 with
 | mk As cs _ hl _ _ _ => have : maxLen <= 9223372036854775807 := by decide
                          omega
abbrev Nv:=jw×Option Nat×Option Nat
def YT(x:Nv):Θ:=[.string x.1.nm,.int .i64 (x.1.t:Int),.bool x.1.all,.map x.2.1,.map x.2.2,.bool x.1.eR]
def gi(l:List Nv):Θ:=l.flatMap YT
def AM(w:Ψ)(S:Φ)(x:Nv):Prop:=Dy w S x.2.1 x.1.tv/\Dy w S x.2.2 x.1.rv
theorem AM.jh{w w':Ψ}{S:Nat->Prop}{x:Nv}(h:AM w S x)(k:∀c,S c->w'.heap[c]?=w.heap[c]?):AM w' S x:=⟨h.1.jh k,h.2.jh k⟩
theorem AM.mono{w:Ψ}{S S':Nat->Prop}{x:Nv}(h:AM w S x)(k:∀c,S c->S' c):AM w S' x:=⟨h.1.mono k,h.2.mono k⟩
def bf(S:Φ)(l:List Nv):Sx.Item:=.ro S (fun w=>∀x∈l,AM w S x)
theorem nM(S:Φ)(l:List Nv):Sx.Loc S (fun w=>∀x∈l,AM w S x):=fun _ _ _ hk h x hx=>(h x hx).jh hk
theorem Ef{α:Type}(f:α->Θ)(m:Nat)(hf:∀x,(f x).length=m):∀(l:List α)(i:Nat)(x:α),l[i]?=some x->((l.flatMap f).drop (i*m)).take m=f x
 |[],i,x,h=>by simp at h
 |y::l,0,x,h=>by
   simp at h;subst h;rw[List.flatMap_cons,Nat.zero_mul,List.drop_zero,<-hf y,List.take_left' rfl]
 |y::l,i+1,x,h=>by
   rw[List.flatMap_cons,show(i+1)*m=(f y).length+i*m by rw[hf];rw[Nat.add_mul];omega,List.drop_append,List.drop_of_length_le (by omega),List.nil_append];rw[show(f y).length+i*m-(f y).length=i*m by omega];exact Ef f m hf l i x (by simpa using h)
theorem yO{α:Type}(f:α->Θ)(m:Nat)(hf:∀x,(f x).length=m)(l:List α):(l.flatMap f).length=l.length*m:=by
 induction l with
 |nil=>simp
 |cons y l ih=>rw[List.flatMap_cons,List.length_append,hf,ih,List.length_cons,Nat.add_mul];omega
theorem Np{α:Type}(f:α->Θ)(m:Nat)(hf:∀x,(f x).length=m){l:List α}{i j:Nat}{x:α}(h:l[i]?=some x)(hj:j<m):(l.flatMap f)[i*m+j]?=(f x)[j]?:=by
 have e:=Ef f m hf l i x h;rw[<- e,List.getElem?_take,if_pos hj,List.getElem?_drop]
theorem oy(x:Nv):(YT x).length=6:=rfl
theorem jx{w0 w:Ψ}{L0 L:List Sx.Item}(H:Hs w0 L0 w L)(j:Nat){e n cap:Nat}{A:Ω}{l:List Nv}(hi:L[j]?=some (.own e 6 A cap n (gi l)):=by kernel_rfl):l.length=n:=by
 have:=(H.at j hi).1;unfold gi at this;rw[yO YT 6 oy] at this;omega
def yP(P:Program)(t:TypeId)(m:Nat):Bool:=match P.underlying t with
 |some (.struct _)=>match P.info? t with
   |some inf=>Nat.beq inf.size m
   |none=>false
 |_=>false
def RN(P:Program)(t:TypeId):Bool:=match P.underlying t with
 |some (.struct _)=>false
 |some (.array _ _)=>false
 |some _=>true
 |none=>false
section
variable {α:Type} {f:α->Θ} {m:Nat} {P:Program} {t:TypeId} {l:List α} {i:Nat} {x:α}
theorem Gt(hf:∀x,(f x).length=m)(h:l[i]?=some x)(hs:yP P t m=true:=by kernel_rfl):fO P t (l.flatMap f) (i*m) (.agg (f x).toArray):=by
 unfold yP at hs;split at hs<;>try contradiction
 rename_i fs hu;split at hs<;>try contradiction
 rename_i inf hi;have e:=Nat.eq_of_beq_eq_true hs;unfold fO;rw[hu];refine⟨inf,hi,?_,?_⟩
 . rw [yO f m hf, e];have := (List.getElem?_eq_some_iff.1 h).1;calc i * m + m = (i + 1) * m := by rw [Nat.add_mul]; omega
     _<=l.length*m:=Nat.mul_le_mul_right _ this
 . rw[e,Ef f m hf l i x h]
theorem uE(j q:Nat)(hf:∀x,(f x).length=m)(h:l[i]?=some x)(hj:j+q<=m){cs:Θ}(hc:((f x).drop j).take q=cs)(hs:yP P t q=true:=by kernel_rfl):fO P t (l.flatMap f) (i*m+j) (.agg cs.toArray):=by
 unfold yP at hs;split at hs<;>try contradiction
 rename_i fs hu;split at hs<;>try contradiction
 rename_i inf hi;have e:=Nat.eq_of_beq_eq_true hs;unfold fO;rw[hu];refine⟨inf,hi,?_,?_⟩
 . rw [yO f m hf, e];have := (List.getElem?_eq_some_iff.1 h).1;calc i * m + j + q <= i * m + m := by omega
     _=(i+1)*m:=by rw[Nat.add_mul];omega
     _<=l.length*m:=Nat.mul_le_mul_right _ this
 . rw[e,<-hc];have q1:=Ef f m hf l i x h;rw[<- q1,List.drop_take,List.take_take,List.drop_drop,Nat.min_eq_left (by omega)]
theorem qu(j:Nat)(hf:∀x,(f x).length=m)(h:l[i]?=some x)(hj:j<m){v:Value}(hc:(f x)[j]?=some v)(hs:RN P t=true:=by kernel_rfl):fO P t (l.flatMap f) (i*m+j) v:=by
 have e:=(Np f m hf h hj).trans hc;unfold RN at hs;unfold fO;split at hs<;>simp_all
end
theorem yQ{α:Type}(f:α->Θ)(l:List α)(x:α):l.flatMap f++f x=(l++[x]).flatMap f:=by simp
abbrev Ov:=o_×Tv×Tv
def ovC(x:Ov):Θ:=.string x.1.nm::(Is x.1.i x.2.1++Is x.1.o x.2.2++[.int .i64 (x.1.n:Int)])
theorem rh(x:Ov):(ovC x).length=12:=by unfold ovC;simp[uf]
def jM(l:List Ov):Θ:=l.flatMap ovC
def YU(w:Ψ)(S:Φ)(x:Ov):Prop:=dm w S x.2.1 x.1.i/\dm w S x.2.2 x.1.o
def yu(S:Φ)(l:List Ov):Sx.Item:=.ro S (fun w=>∀x∈l,YU w S x)
theorem Gu(S:Φ)(l:List Ov):Sx.Loc S (fun w=>∀x∈l,YU w S x):=fun _ _ _ hk h x hx=>⟨(h x hx).1.jh hk,(h x hx).2.jh hk⟩
theorem Lc{w0 w:Ψ}{L0 L:List Sx.Item}(H:Hs w0 L0 w L)(j:Nat){e n cap:Nat}{A:Ω}{l:List Ov}(hi:L[j]?=some (.own e 12 A cap n (jM l))):l.length=n:=by
 have:=(H.at j hi).1;unfold jM at this;rw[yO ovC 12 rh] at this;omega
def BR(nm:Nm):List Ov->Option Nat
 |[]=>none
 |o::r=>if dh o.1.nm nm then some 0 else(BR nm r).map (·+1)
def opV(A:Ω):Option Nat->Value
 |none=>.pointer none
 |some k=>match A with
   |some a=>.pointer (some ⟨a.block,k*12,none⟩)
   |none=>.pointer none
theorem yR{nm:Nm}:∀{l:List Ov},iJ nm (l.map (·.1))=none->BR nm l=none
 |[],_=>rfl
 |o::r,h=>by
   simp only[List.map_cons,iJ] at h;unfold BR;split at h
   . cases h
   . rename_i e;rw[if_neg e,yR h];rfl
theorem nN{nm:Nm}{o:o_}:∀{l:List Ov},iJ nm (l.map (·.1))=some o->∃k x,BR nm l=some k/\l[k]?=some x/\x.1=o
 |[],h=>by simp[iJ] at h
 |y::r,h=>by
   simp only[List.map_cons,iJ] at h;unfold BR;split at h
   . rename_i e;cases h;exact⟨0,y,by rw[if_pos e],rfl,rfl⟩
   . rename_i e;obtain⟨k,x,h1,h2,h3⟩:=nN h;exact⟨k+1,x,by rw[if_neg e,h1];rfl,by simpa using h2,h3⟩
theorem Nq{nm:Nm}{l:List Ov}{i:Nat}{x:Ov}{o:Option Nat}(h:(BR nm (l.drop i)).map (·+i)=o)(hx:l[i]?=some x):if dh x.1.nm nm then some i=o else(BR nm (l.drop (i+1))).map (·+(i+1))=o:=by
 obtain⟨hi,e⟩:=List.getElem?_eq_some_iff.1 hx;rw[List.drop_eq_getElem_cons hi,e] at h;unfold BR at h;split
 . rename_i q;rw[if_pos q] at h;simpa using h
 . rename_i q;rw[if_neg q,Option.map_map] at h;rw[<- h];congr 1;funext z;simp only[Function.comp];omega
abbrev rF(k:Nat)(all:List Nm)(s:Option Ck)(d:Nd):Option Ck:=match s with
 |some c=>cF k c d all
 |none=>none
theorem Ld(k:Nat)(all:List Nm)(l:List Nd):l.foldl (rF k all) none=none:=by
 induction l with
 |nil=>rfl
 |cons t l ih=>rw[List.foldl_cons];exact ih
theorem qw{k kd na : Nat}{nm : Nm}{nn : Int}{ks : List Nd}{c c' : Ck}{all : List Nm}(h : cF (k + 1) c (.mk kd na nm nn ks) all = some c') :
   (c.fk≠0->c=c')/\(c.fk=0->(kd≠29->ks.foldl (rF k all) (some c)=some c')/\(kd=29->∃a b c1,ks[0]?=some a/\ks[1]?=some b/\cF k c a all=some c1/\cF k (iK c1 all [] (ks.drop 2)) b all=some c')):=by
 unfold cF at h;split at h
 . rename_i e;cases h;exact⟨fun _=>rfl,fun q=>absurd q e⟩
 . rename_i e;have e:c.fk=0:=by simpa using e
   refine⟨fun q=>absurd e q,fun _=>⟨fun q=>?_,fun q=>?_⟩⟩
   . have q:(Nd.mk kd na nm nn ks).k≠29:=q;rw[if_pos q] at h;exact h
   . subst q;have q:¬(Nd.mk 29 na nm nn ks).k≠29:=by simp[Nd.k]
     rw[if_neg q] at h;simp only[Nd.ks] at h;split at h<;>try contradiction
     rename_i a b r;split at h<;>try contradiction
     rename_i c1 h1;exact⟨a,b,c1,rfl,rfl,h1,h⟩
theorem WS{k i:Nat}{all:List Nm}{ks:List Nd}{c c':Ck}(h:(ks.drop i).foldl (rF k all) (some c)=some c'){d:Nd}(hd:ks[i]?=some d):∃c1,cF k c d all=some c1/\(ks.drop (i+1)).foldl (rF k all) (some c1)=some c':=by
 obtain⟨hi,e⟩:=List.getElem?_eq_some_iff.1 hd;rw[List.drop_eq_getElem_cons hi,List.foldl_cons,e] at h;cases hr:cF k c d all with
 |none=>simp only[rF,hr] at h;rw[Ld] at h;cases h
 |some c1=>simp only[rF,hr] at h;exact⟨c1,rfl,h⟩
theorem WT{k i:Nat}{all:List Nm}{ks:List Nd}{c c':Ck}(h:(ks.drop i).foldl (rF k all) (some c)=some c')(hi:ks.length<=i):c=c':=by
 rw[List.drop_of_length_le hi] at h;simpa using h
abbrev sd(d:Nd)(c:Ck)(e:Nd):Ck:=if dh e.nm d.nm then c.no 7 d.a else c
theorem Gv{c : Ck}{all : List Nm}{ks : List Nd}{i : Nat}{d : Nd}{R : Ck}(h : iK c all ((ks.take i).drop 2) (ks.drop i) = R)(HM : 2 <= i)(hd : ks[i]? = some d) :
   ∃c1,((ks.take i).drop 2).foldl (sd d) (if Oe d.nm all then c else c.no 6 d.a)=c1/\iK c1 all ((ks.take (i+1)).drop 2) (ks.drop (i+1))=R:=by
 obtain⟨hi,e⟩:=List.getElem?_eq_some_iff.1 hd;rw[List.drop_eq_getElem_cons hi,e] at h;unfold iK at h;refine⟨_,rfl,?_⟩;have e2:(ks.take i).drop 2++[d]=(ks.take (i+1)).drop 2:=by
   rw[List.take_add_one,hd,List.drop_append,List.length_take];rw[show 2-min i ks.length=0 by omega];rfl
 rw[<- e2];exact h
theorem Gw{c:Ck}{all:List Nm}{ks b:List Nd}{i:Nat}{R:Ck}(h:iK c all b (ks.drop i)=R)(hi:ks.length<=i):c=R:=by
 rw[List.drop_of_length_le hi] at h;unfold iK at h;exact h
theorem Gy{s:Nm}{all:List Nm}{j:Nat}(hj:j<all.length):Oe s (all.take (j+1))=(Oe s (all.take j)||dh (gn all j) s):=by
 unfold Oe;rw[List.take_add_one,List.any_append,kr hj];simp
theorem Eg{ks:List Nd}{i j:Nat}{d:Nd}{c R:Ck}(h:((ks.take i).drop j).foldl (sd d) c=R)(hj:j<i){kd na:Nat}{nm:Nm}{nn:Int}{k2:List Nd}(hd:ks[j]?=some (.mk kd na nm nn k2)):((ks.take i).drop (j+1)).foldl (sd d) (if dh nm d.nm then c.no 7 d.a else c)=R:=by
 obtain⟨hi,e⟩:=List.getElem?_eq_some_iff.1 hd;have hl:j<(ks.take i).length:=by rw[List.length_take];omega
 rw[List.drop_eq_getElem_cons hl,List.foldl_cons,List.getElem_take,e] at h;exact h
theorem Eh{ks:List Nd}{i j:Nat}{d:Nd}{c R:Ck}(h:((ks.take i).drop j).foldl (sd d) c=R)(hj:i<=j):c=R:=by
 rw[List.drop_of_length_le (by rw[List.length_take];omega)] at h;exact h
theorem Gz{all:List Nm}:∀{r b:List Nd}{c:Ck},(iK c all b r).g=c.g/\(iK c all b r).env=c.env/\(iK c all b r).ops=c.ops
 |[],b,c=>⟨rfl,rfl,rfl⟩
 |d::r,b,c=>by
   unfold iK;have h1:∀(l:List Nd)(c:Ck),(l.foldl (sd d) c).g=c.g/\(l.foldl (sd d) c).env=c.env/\(l.foldl (sd d) c).ops=c.ops:=by
     intro l;induction l with
     |nil=>intro c;exact⟨rfl,rfl,rfl⟩
     |cons e l ih=>
       intro c;rw[List.foldl_cons];have h2:=ih (sd d c e);have h3:(sd d c e).g=c.g/\(sd d c e).env=c.env/\(sd d c e).ops=c.ops:=by
         unfold sd;split
         . exact eY.2.2
         . exact⟨rfl,rfl,rfl⟩
       exact⟨h2.1.trans h3.1,h2.2.1.trans h3.2.1,h2.2.2.trans h3.2.2⟩
   have h4:(vp c all b d).g=c.g/\(vp c all b d).env=c.env/\(vp c all b d).ops=c.ops:=by
     unfold vp;have h5:=h1 b (if Oe d.nm all then c else c.no 6 d.a);have h6:(if Oe d.nm all then c else c.no 6 d.a).g=c.g/\(if Oe d.nm all then c else c.no 6 d.a).env=c.env/\(if Oe d.nm all then c else c.no 6 d.a).ops=c.ops:=by
       split
       . exact⟨rfl,rfl,rfl⟩
       . exact eY.2.2
     exact⟨h5.1.trans h6.1,h5.2.1.trans h6.2.1,h5.2.2.trans h6.2.2⟩
   have h7:=Gz (all:=all) (r:=r) (b:=b++[d]) (c:=vp c all b d);exact⟨h7.1.trans h4.1,h7.2.1.trans h4.2.1,h7.2.2.trans h4.2.2⟩
end Go.aR
namespace Go.Sx
open Go.aR Go.dy
abbrev cX(b g:Nat)(A:Ω)(n c:Nat)(B:Ω)(m d k:Nat)(a:Int)(S:Φ)(G:Go.aR.G)(el:List Nv)(Sm:Φ)(ol:List Ov)(So Q:Φ)(ks:List Nd)(nA:Ω)(nc:Nat):List Item:=[cB b g A n c B m d k a,GI S g G,.own 122 6 A c n (gi el),bf Sm el,.own 160 12 B d m (jM ol),yu So ol,fK Q ks nA nc]
end Go.Sx
namespace Go.Proofs.YtdmdecgoebnamaaGreat
open Go.RowKit Go.Sx Go.aR Go.dy
attribute [local irreducible] Go.wpOps Go.Code.wp Go.wpOp Go.wpAnyH Go.Calls Go.Sx.Goal
set_option maxRecDepth 20000
theorem Jc(bc bg : Nat)(eA : Ω)(en ec : Nat)(oA : Ω)(on oc : Nat)(fk : Nat)(fa : Int)(ol : List Ov)(nm : Nm)(w : Ψ)(K : Ending -> Ψ -> Prop)(H0 : Sp w [Sx.cB bc bg eA en ec oA on oc fk fa, .own 160 12 oA oc on (jM ol)])(o : Option Nat)(ho : BR nm ol = o)(gv : on < 1000000000)(hK : ∀ w', Hs w [Sx.cB bc bg eA en ec oA on oc fk fa, .own 160 12 oA oc on (jM ol)] w' [Sx.cB bc bg eA en ec oA on oc fk fa, .own 160 12 oA oc on (jM ol)] -> K (.returned (opV oA o)) w') :
   Calls Tryz.prog 83 #[.p bc,.string nm] w K:=by
 obtain⟨L0,aq,H⟩:=Sx.cw H0;refine xu (vs:=[.p bc,.string nm]) 31 Tryz.func83 ?_;have gP:=Lc (e:=160) (n:=on) (cap:=oc) (A:=oA) (l:=ol) H 1 (by kernel_rfl);refine y0 12 (fun z l' w'=>∃(i:Nat),l'=[(0,.p bc),(1,.string nm),(5,.n i)]/\z=ol.length-i/\w=w'/\(i<=ol.length)/\((BR nm (ol.drop i)).map (·+i)=o)) _ _ ⟨0,rfl,rfl,rfl,(Nat.zero_le _),(by simpa using ho)⟩ (fun b1 z1 l1 w1 cm K1 aU=>?_);obtain⟨i,rfl,rfl,rfl,UA,hix⟩:=cm;refine xb 7 0 H ?_;refine xh 4 (decide ((i:Int)<(on:Int))) (fun gg=>?_) (fun gg=>?_)
 . have uu:=of_decide_eq_true gg;obtain⟨x,hx⟩:=dW (l:=ol) (i:=i) (by omega);have cT:=Nq hix hx;obtain⟨lZ,rfl⟩:=H.row 1 (A:=oA) (e:=160) (sz:=12) (cap:=oc) (n:=on) (xs:=(jM ol)) (by kernel_rfl) (by omega);refine xb 9 0 H<|yf 1 lZ i 12 on oc (by omega)<|yd 1 1 160 12 9 lZ oc on (i*12) (jM ol) H (.string x.1.nm) (qu 0 rh hx (by decide) rfl) ?_;refine xh 4 (x.1.nm.toList==nm.toList) (fun AN=>?_) (fun AN=>?_)
   . rw[if_pos (by rw[eD];exact AN)] at cT;subst cT;refine xb 5 0 H<|yf 1 lZ i 12 on oc (by omega)<|xf 9 [] H (.pointer (some (⟨lZ,i*12,none⟩))) ?_;subst aq;exact hK _ (H.pk [0,0])
   rw[if_neg (by rw[eD,AN];decide)] at cT;refine Sx.vi 5 ((i:Int)+(1:Int)) ((i+1:Nat):Int) (Gx.bq (by omega) (by omega)) ?_;exact xi 2 _ (aU _ _ _ _ (by omega) ⟨(i+1),rfl,rfl,rfl,(by omega),cT⟩)
 have uu:=of_decide_eq_false gg;rw[List.drop_of_length_le (by omega)] at hix;obtain rfl:none=o:=hix;refine xf 11 [] H (.pointer none) ?_;subst aq;exact hK _ (H.pk [0,0])
def qz(k : Nat) : Prop := ∀(bc bg : Nat)(eA : Ω)(en ec : Nat)(oA : Ω)(on oc : Nat)(Q : Φ)(kd na : Nat)(nm : Nm)(nn : Int)(ks : List Nd)(nA : Ω)(nc : Nat)(Sa : Φ)(Aa : Ω)(an ac : Nat)(all : List Nm)(c : Ck)(w : Ψ)(K : Ending -> Ψ -> Prop)(H0 : Sp w [Sx.cB bc bg eA en ec oA on oc c.fk c.fa, fK Q ks nA nc, bw Sa Aa all])(c' : Ck)(hf : cF k c (.mk kd na nm nn ks) all = some c')(u9 : an = all.length)(YQ : all.length < 1000000000)(hK : ∀ w', Hs w [Sx.cB bc bg eA en ec oA on oc c.fk c.fa, fK Q ks nA nc, bw Sa Aa all] w' [Sx.cB bc bg eA en ec oA on oc c'.fk c'.fa, fK Q ks nA nc, bw Sa Aa all] -> K (.returned (.tuple #[])) w'),
   Calls Tryz.prog 84 #[.p bc,Sx.nA kd na nm nn nA ks nc,.slice Aa an ac] w K
set_option maxHeartbeats 8000000 in
theorem Ei(k:Nat)(ih:qz k):qz (k+1):=by
 intro bc bg eA en ec oA on oc Q kd na nm nn ks nA nc Sa Aa an ac all c w K H0 c' hf u9 YQ hK;obtain⟨L0,aq,H⟩:=Sx.cw H0;refine xu (vs:=[.p bc,Sx.nA kd na nm nn nA ks nc,.slice Aa an ac]) 109 Tryz.func84 ?_;have WU:=qq (Q:=Q) (ks:=ks) (A:=nA) (c:=nc) H 1;obtain⟨hc0,nX⟩:=qw hf;refine xg 2 H fun k1 w1 H1=>?_;refine xd 6 [0] H1 (fun Hp R hZ=>jm bc bg eA en ec oA on oc c.fk c.fa w1 R Hp  (fun w2 G1=>hZ _ _ _ G1 fun H2=>?_));refine xh 3 (!(c.fk==0)) (fun fQ=>?_) (fun fQ=>?_)
 . have h0:c.fk≠0:=by simpa using fQ
   obtain rfl:=hc0 h0;refine xf 2 [] H2 (.tuple #[]) ?_;subst aq;exact hK _ (H2.pk [0,0,0])
 have h0:c.fk=0:=by simpa using fQ
 obtain⟨hn,hy⟩:=nX h0;refine xb 6 3 H2 ?_;refine xh 3 ((kd:Int) != (29:Int)) (fun dw=>?_) (fun dw=>?_)
 . have oS:=dw;try simp[-List.getD_eq_getElem?_getD] at oS
   have u4:=hn (by omega);refine y0 7 (fun z l' w'=>∃(i:Nat) (cc:Ck),l'=[(0,.p bc),(2,.slice Aa an ac),(4,.p k1),(6,.n i)]/\z=ks.length-i/\Hs w L0 w' [Sx.cB bc bg eA en ec oA on oc cc.fk cc.fa,fK Q ks nA nc,bw Sa Aa all,.ar k1 (.cells #[.n kd,.n na,.string nm,.int .i64 nn,.slice nA ks.length nc] 62)]/\(i<=ks.length)/\((ks.drop i).foldl (rF k all) (some cc)=some c')) _ _ ⟨0,c,rfl,rfl,H2.pk [0,0,0,0],(Nat.zero_le _),u4⟩ (fun b1 z1 l1 w3 cm K1 aU=>?_);obtain⟨i,cc,rfl,rfl,H4,UA,u4⟩:=cm;refine xb 5 3 H4 ?_;refine xh 4 (decide ((i:Int)<(ks.length:Int))) (fun CJ=>?_) (fun CJ=>?_)
   . have af3:=of_decide_eq_true CJ;obtain⟨dZ,oU⟩:=dW (l:=ks) (i:=i) (by omega);obtain⟨c2,hq,alR⟩:=WS u4 oU;obtain⟨bO,aL,aI,bQ,bz⟩:=dZ;obtain⟨B1,eZ,a1,hO,H5⟩:=aM (Q:=Q) (ks:=ks) (A:=nA) (c:=nc) (i:=i) H4 1 (by kernel_rfl) oU;refine xb 7 3 H5<|xv 1 a1 i 5 ks.length nc hO (aw oU)<|xt (c:=5) (t:=62) 0 (Sx.nC bO aL aI bQ B1 bz eZ) (Sx.nA bO aL aI bQ B1 bz eZ) (aG (Q:=Q) (a:=a1.add (i*5)) (n:=5) (cs:=(Sx.nC bO aL aI bQ B1 bz eZ)) H5 4) ?_;refine xd 1 [0,4,1] H5 (fun Hp R hZ=>ih bc bg eA en ec oA on oc Q bO aL aI bQ bz B1 eZ Sa Aa an ac all cc w3 R Hp c2 hq u9 YQ (fun w4 G2=>hZ _ _ _ G2 fun H6=>?_));refine Sx.vi 5 ((i:Int)+(1:Int)) ((i+1:Nat):Int) (Gx.bq (by omega) (by omega)) ?_;exact xi 2 _ (aU _ _ _ _ (by omega) ⟨(i+1),c2,rfl,rfl,H6.pk [0,2,1,1],(by omega),alR⟩)
   have af3:=of_decide_eq_false CJ;obtain rfl:=WT u4 (by omega);refine xf 7 [] H4 (.tuple #[]) ?_;subst aq;exact hK _ (H4.pk [0,0,0])
 have oS:=dw;try simp[-List.getD_eq_getElem?_getD] at oS
 obtain⟨dA,dB,c1,hd0,IF,iq,pj⟩:=hy (by omega);obtain⟨aY,aS,a_,ba,aX⟩:=dA;obtain⟨B2,gQ,a2,kS,H8⟩:=aM (Q:=Q) (ks:=ks) (A:=nA) (c:=nc) (i:=0) H2 1 (by kernel_rfl) hd0;refine xb 6 3 H8<|xv 0 a2 0 5 ks.length nc kS (aw hd0)<|xt (c:=5) (t:=62) 0 (Sx.nC aY aS a_ ba B2 aX gQ) (Sx.nA aY aS a_ ba B2 aX gQ) (aG (Q:=Q) (a:=a2.add (0*5)) (n:=5) (cs:=(Sx.nC aY aS a_ ba B2 aX gQ)) H8 4) ?_;refine xd 1 [0,4,1] H8 (fun Hp R hZ=>ih bc bg eA en ec oA on oc Q aY aS a_ ba aX B2 gQ Sa Aa an ac all c w2 R Hp c1 iq u9 YQ (fun w5 G3=>hZ _ _ _ G3 fun H9=>?_));refine y0 9 (fun z l' w'=>∃(i:Nat) (cc:Ck),l'=[(0,.p bc),(2,.slice Aa an ac),(4,.p k1),(7,.n i)]/\z=ks.length-i/\Hs w L0 w' [Sx.cB bc bg eA en ec oA on oc cc.fk cc.fa,fK Q ks nA nc,bw Sa Aa all,.ar k1 (.cells #[.n kd,.n na,.string nm,.int .i64 nn,.slice nA ks.length nc] 62)]/\(2<=i)/\(i<=ks.length)/\(iK cc all ((ks.take i).drop 2) (ks.drop i)=iK c1 all [] (ks.drop 2))) _ _ ⟨2,c1,rfl,rfl,H9.pk [0,2,1,1],(Nat.le_refl _),(aw IF),(by rw[List.drop_of_length_le (by rw[List.length_take];omega)])⟩ (fun b2 z2 l2 w6 iw K2 eC=>?_);obtain⟨i,cc,rfl,rfl,bp,HM,UA,hra⟩:=iw;refine xb 5 3 bp ?_;refine xh 4 (decide ((i:Int)<(ks.length:Int))) (fun kY=>?_) (fun kY=>?_)
 . have zM:=of_decide_eq_true kY;obtain⟨dZ,oU⟩:=dW (l:=ks) (i:=i) (by omega);obtain⟨c3,Fc,af4⟩:=Gv hra HM oU;obtain⟨bO,aL,aI,bQ,bz⟩:=dZ;obtain⟨B3,jn,a3,Ao,aV⟩:=aM (Q:=Q) (ks:=ks) (A:=nA) (c:=nc) (i:=i) bp 1 (by kernel_rfl) oU;refine y0 16 (fun z l' w'=>∃(j:Nat) (b:Bool),l'=[(0,.p bc),(2,.slice Aa an ac),(4,.p k1),(7,.n i),(8,.bool b),(9,.n j)]/\z=all.length-j/\Hs w L0 w' [Sx.cB bc bg eA en ec oA on oc cc.fk cc.fa,fK Q ks nA nc,bw Sa Aa all,.ar k1 (.cells #[.n kd,.n na,.string nm,.int .i64 nn,.slice nA ks.length nc] 62),eO Q (a3.add (i*5)) 5 (Sx.nC bO aL aI bQ B3 bz jn),fK Q bz B3 jn]/\(j<=all.length)/\(Oe aI (all.take j)=b)) _ _ ⟨0,false,rfl,rfl,aV.pk [0,0,0,0,0,0],(Nat.zero_le _),rfl⟩ (fun b3 z3 l3 w7 xM K3 nj=>?_);obtain⟨j,b,rfl,rfl,bD,hjl,hb⟩:=xM;rcases b with _|_
   . refine xh 9 (decide ((j:Int)<(an:Int))) (fun qd=>?_) (fun qd=>?_)
     . refine xy 4 bD [2,3,4] [] (LJ:=[bw Sa Aa all,.ar k1 (.cells #[.n kd,.n na,.string nm,.int .i64 nn,.slice nA ks.length nc] 62),eO Q (a3.add (i*5)) 5 (Sx.nC bO aL aI bQ B3 bz jn)]) (by kernel_rfl) fun w8 bG=>?_;have RO:=of_decide_eq_true qd;obtain⟨a4,Fa,_,nX⟩:=(bG.at 2 (it:=bw Sa Aa all) (by kernel_rfl)).1 j _ (kr (l:=all) (by omega));refine xm [(0,none),(1,none),(2,none),(3,none)] (bG.sb [2,2,2])<|yj 4 [] a4 j 1 an ac Fa (by omega) (bG.sb [2,2,2])<|yh (c:=1) (t:=9) 5 [] [.string (gn all j)] (.string (gn all j)) (fun w' hs=>(dJ hs 0 (it:=bw Sa Aa all)).1.one Fa (kr (by omega))) (bG.sb [2,2,2])<|xm [(6,none),(7,some (1,[])),(8,none)] (bG.sb [2,2,2])<|yj 9 [] a3 i 5 ks.length nc Ao (aw oU) (bG.sb [2,2,2])<|yp 10 [] (a3.add (i*5)) 2 (bG.sb [2,2,2]) ?_;refine yh (c:=1) (t:=9) 11 [] [.string aI] (.string aI) (fun w' hs=>(aa (i:=2) (m:=1) (hU (Q:=Q) (a:=a3.add (i*5)) (n:=5) (cs:=(Sx.nC bO aL aI bQ B3 bz jn)) hs 2) (by decide))) (bG.sb [2,2,2])<|xm [(12,none),(13,none),(14,none)] (bG.sb [2,2,2])<|xw<|Sx.vi 4 ((j:Int)+(1:Int)) ((j+1:Nat):Int) (Gx.bq (by omega) (by omega)) ?_;exact xi 2 _ (nj _ _ _ _ (by omega) ⟨(j+1),((gn all j).toList==aI.toList),rfl,rfl,bG.pk [0,0,0,0,0,0],(by omega),(by rw[Gy (by omega),hb,eD];rfl)⟩)
     have RO:=of_decide_eq_false qd;have hin:Oe (Nd.mk bO aL aI bQ bz).nm all=false:=by rw[List.take_of_length_le (by omega)] at hb;exact hb
     rw[if_neg (by rw[hin];decide)] at Fc;refine xb 16 3 bD<|xv 1 a3 i 5 ks.length nc Ao (aw oU)<|xz 0 (a3.add (i*5)) 1<|xt (c:=1) (t:=3) 0 [.n aL] (.n aL) (aa (i:=1) (m:=1) (aG (Q:=Q) (a:=a3.add (i*5)) (n:=5) (cs:=(Sx.nC bO aL aI bQ B3 bz jn)) bD 4) (by decide)) ?_;refine xd 0 [0] bD (fun Hp R hZ=>j5 bc bg eA en ec oA on oc cc.fk cc.fa 6 (aL:Int) w7 R Hp  (fun w9 G4=>hZ _ _ _ G4 fun bL=>?_));rw[<- (eY (c:=cc) (kd:=6) (a:=(aL:Int))).1,<-(eY (c:=cc) (kd:=6) (a:=(aL:Int))).2.1] at bL;refine y0 8 (fun z l' w'=>∃(j:Nat) (cd:Ck),l'=[(0,.p bc),(2,.slice Aa an ac),(4,.p k1),(7,.n i),(10,.n j)]/\z=i-j/\Hs w L0 w' [Sx.cB bc bg eA en ec oA on oc cd.fk cd.fa,fK Q ks nA nc,bw Sa Aa all,.ar k1 (.cells #[.n kd,.n na,.string nm,.int .i64 nn,.slice nA ks.length nc] 62),eO Q (a3.add (i*5)) 5 (Sx.nC bO aL aI bQ B3 bz jn),fK Q bz B3 jn]/\(2<=j)/\(j<=i)/\(((ks.take i).drop j).foldl (sd (Nd.mk bO aL aI bQ bz)) cd=c3)) _ _ ⟨2,(Ck.no cc 6 (aL:Int)),rfl,rfl,bL.pk [0,0,0,0,0,0],(Nat.le_refl _),HM,Fc⟩ (fun b4 z4 l4 df IL K4 yJ=>?_);obtain⟨j,cd,rfl,rfl,cx,hj2,N_,Fc⟩:=IL;refine xh 8 (decide ((j:Int)<(i:Int))) (fun qj=>?_) (fun qj=>?_)
     . have RP:=of_decide_eq_true qj;obtain⟨dV,RQ⟩:=dW (l:=ks) (i:=j) (by omega);obtain⟨GA,GB,kH,GC,GD⟩:=dV;obtain⟨B4,nL,a5,UM,cM⟩:=aM (Q:=Q) (ks:=ks) (A:=nA) (c:=nc) (i:=j) cx 1 (by kernel_rfl) RQ;have uF:=Eg Fc (by omega) RQ;refine xy 5 cM [3,6,4] [] (LJ:=[.ar k1 (.cells #[.n kd,.n na,.string nm,.int .i64 nn,.slice nA ks.length nc] 62),eO Q (a5.add (j*5)) 5 (Sx.nC GA GB kH GC B4 GD nL),eO Q (a3.add (i*5)) 5 (Sx.nC bO aL aI bQ B3 bz jn)]) (by kernel_rfl) fun gV dt=>xm [(0,none),(1,some (0,[])),(2,none)] (dt.sb [3,5,3])<|yj 3 [] a5 j 5 ks.length nc UM (aw RQ) (dt.sb [3,5,3])<|yp 4 [] (a5.add (j*5)) 2 (dt.sb [3,5,3])<|yh (c:=1) (t:=9) 5 [] [.string kH] (.string kH) (fun w' hs=>(aa (i:=2) (m:=1) (hU (Q:=Q) (a:=a5.add (j*5)) (n:=5) (cs:=(Sx.nC GA GB kH GC B4 GD nL)) hs 1) (by decide))) (dt.sb [3,5,3])<|xm [(6,none),(7,some (0,[])),(8,none)] (dt.sb [3,5,3]) ?_;refine yj 9 [] a3 i 5 ks.length nc Ao (aw oU) (dt.sb [3,5,3])<|yp 10 [] (a3.add (i*5)) 2 (dt.sb [3,5,3])<|yh (c:=1) (t:=9) 11 [] [.string aI] (.string aI) (fun w' hs=>(aa (i:=2) (m:=1) (hU (Q:=Q) (a:=a3.add (i*5)) (n:=5) (cs:=(Sx.nC bO aL aI bQ B3 bz jn)) hs 2) (by decide))) (dt.sb [3,5,3])<|xm [(12,none)] (dt.sb [3,5,3])<|xw ?_;refine xh 1 (kH.toList==aI.toList) (fun AO=>?_) (fun AO=>?_)
       . have he:dh kH (Nd.mk bO aL aI bQ bz).nm=true:=by rw[eD];exact AO
         rw[if_pos he] at uF;refine xb 3 3 dt<|xv 1 a3 i 5 ks.length nc Ao (aw oU)<|xz 0 (a3.add (i*5)) 1<|xt (c:=1) (t:=3) 0 [.n aL] (.n aL) (aa (i:=1) (m:=1) (aG (Q:=Q) (a:=a3.add (i*5)) (n:=5) (cs:=(Sx.nC bO aL aI bQ B3 bz jn)) dt 4) (by decide)) ?_;refine xd 0 [0] dt (fun Hp R hZ=>j5 bc bg eA en ec oA on oc cd.fk cd.fa 7 (aL:Int) gV R Hp  (fun jk G5=>hZ _ _ _ G5 fun ep=>?_));rw[<- (eY (c:=cd) (kd:=7) (a:=(aL:Int))).1,<-(eY (c:=cd) (kd:=7) (a:=(aL:Int))).2.1] at ep;refine Sx.vi 5 ((j:Int)+(1:Int)) ((j+1:Nat):Int) (Gx.bq (by omega) (by omega)) ?_;exact xi 2 _ (yJ _ _ _ _ (by omega) ⟨(j+1),(Ck.no cd 7 (aL:Int)),rfl,rfl,ep.pk [0,0,0,0,0,0],(by omega),(by omega),uF⟩)
       have he:dh kH (Nd.mk bO aL aI bQ bz).nm=false:=by rw[eD];exact AO
       rw[if_neg (by rw[he];decide)] at uF;refine Sx.vi 5 ((j:Int)+(1:Int)) ((j+1:Nat):Int) (Gx.bq (by omega) (by omega)) ?_;exact xi 2 _ (yJ _ _ _ _ (by omega) ⟨(j+1),cd,rfl,rfl,dt.pk [0,0,0,0,0,0],(by omega),(by omega),uF⟩)
     have RP:=of_decide_eq_false qj;obtain rfl:=Eh Fc (by omega);refine Sx.vi 8 ((i:Int)+(1:Int)) ((i+1:Nat):Int) (Gx.bq (by omega) (by omega)) ?_;exact xi 2 _ (eC _ _ _ _ (by omega) ⟨(i+1),cd,rfl,rfl,cx.pk [0,0,0,0],(by omega),(by omega),af4⟩)
   refine xh 9 (decide ((j:Int)<(an:Int))) (fun qd=>?_) (fun qd=>?_)
   . refine xy 4 bD [] [] (LJ:=[]) (by kernel_rfl) fun jT fE=>?_;refine xm [(0,none),(1,none),(2,none),(3,none),(4,none),(5,none),(6,none),(7,none),(8,none),(9,none),(10,none),(11,none),(12,none),(13,none),(14,none)] Sx.sn<|xw ?_;have RO:=of_decide_eq_true qd;refine Sx.vi 4 ((j:Int)+(1:Int)) ((j+1:Nat):Int) (Gx.bq (by omega) (by omega)) ?_;exact xi 2 _ (nj _ _ _ _ (by omega) ⟨(j+1),true,rfl,rfl,fE.pk [0,0,0,0,0,0],(by omega),(by rw[Gy (by omega),hb];rfl)⟩)
   have RO:=of_decide_eq_false qd;have hin:Oe (Nd.mk bO aL aI bQ bz).nm all=true:=by rw[List.take_of_length_le (by omega)] at hb;exact hb
   rw[if_pos hin] at Fc;refine y0 21 (fun z l' w'=>∃(j:Nat) (cd:Ck),l'=[(0,.p bc),(2,.slice Aa an ac),(4,.p k1),(7,.n i),(10,.n j)]/\z=i-j/\Hs w L0 w' [Sx.cB bc bg eA en ec oA on oc cd.fk cd.fa,fK Q ks nA nc,bw Sa Aa all,.ar k1 (.cells #[.n kd,.n na,.string nm,.int .i64 nn,.slice nA ks.length nc] 62),eO Q (a3.add (i*5)) 5 (Sx.nC bO aL aI bQ B3 bz jn),fK Q bz B3 jn]/\(2<=j)/\(j<=i)/\(((ks.take i).drop j).foldl (sd (Nd.mk bO aL aI bQ bz)) cd=c3)) _ _ ⟨2,cc,rfl,rfl,bD.pk [0,0,0,0,0,0],(Nat.le_refl _),HM,Fc⟩ (fun b5 z5 l5 jZ hI5 K5 UI=>?_);obtain⟨j,cd,rfl,rfl,fG,hj2,N_,Fc⟩:=hI5;refine xh 8 (decide ((j:Int)<(i:Int))) (fun qj=>?_) (fun qj=>?_)
   . have RP:=of_decide_eq_true qj;obtain⟨dV,RQ⟩:=dW (l:=ks) (i:=j) (by omega);obtain⟨GA,GB,kH,GC,GD⟩:=dV;obtain⟨B5,ox,a6,No,eU⟩:=aM (Q:=Q) (ks:=ks) (A:=nA) (c:=nc) (i:=j) fG 1 (by kernel_rfl) RQ;have uF:=Eg Fc (by omega) RQ;refine xy 5 eU [3,6,4] [] (LJ:=[.ar k1 (.cells #[.n kd,.n na,.string nm,.int .i64 nn,.slice nA ks.length nc] 62),eO Q (a6.add (j*5)) 5 (Sx.nC GA GB kH GC B5 GD ox),eO Q (a3.add (i*5)) 5 (Sx.nC bO aL aI bQ B3 bz jn)]) (by kernel_rfl) fun mn fj=>xm [(0,none),(1,some (0,[])),(2,none)] (fj.sb [3,5,3])<|yj 3 [] a6 j 5 ks.length nc No (aw RQ) (fj.sb [3,5,3])<|yp 4 [] (a6.add (j*5)) 2 (fj.sb [3,5,3])<|yh (c:=1) (t:=9) 5 [] [.string kH] (.string kH) (fun w' hs=>(aa (i:=2) (m:=1) (hU (Q:=Q) (a:=a6.add (j*5)) (n:=5) (cs:=(Sx.nC GA GB kH GC B5 GD ox)) hs 1) (by decide))) (fj.sb [3,5,3])<|xm [(6,none),(7,some (0,[])),(8,none)] (fj.sb [3,5,3]) ?_;refine yj 9 [] a3 i 5 ks.length nc Ao (aw oU) (fj.sb [3,5,3])<|yp 10 [] (a3.add (i*5)) 2 (fj.sb [3,5,3])<|yh (c:=1) (t:=9) 11 [] [.string aI] (.string aI) (fun w' hs=>(aa (i:=2) (m:=1) (hU (Q:=Q) (a:=a3.add (i*5)) (n:=5) (cs:=(Sx.nC bO aL aI bQ B3 bz jn)) hs 2) (by decide))) (fj.sb [3,5,3])<|xm [(12,none)] (fj.sb [3,5,3])<|xw ?_;refine xh 1 (kH.toList==aI.toList) (fun AO=>?_) (fun AO=>?_)
     . have he:dh kH (Nd.mk bO aL aI bQ bz).nm=true:=by rw[eD];exact AO
       rw[if_pos he] at uF;refine xb 3 3 fj<|xv 1 a3 i 5 ks.length nc Ao (aw oU)<|xz 0 (a3.add (i*5)) 1<|xt (c:=1) (t:=3) 0 [.n aL] (.n aL) (aa (i:=1) (m:=1) (aG (Q:=Q) (a:=a3.add (i*5)) (n:=5) (cs:=(Sx.nC bO aL aI bQ B3 bz jn)) fj 4) (by decide)) ?_;refine xd 0 [0] fj (fun Hp R hZ=>j5 bc bg eA en ec oA on oc cd.fk cd.fa 7 (aL:Int) mn R Hp  (fun mq G6=>hZ _ _ _ G6 fun gM=>?_));rw[<- (eY (c:=cd) (kd:=7) (a:=(aL:Int))).1,<-(eY (c:=cd) (kd:=7) (a:=(aL:Int))).2.1] at gM;refine Sx.vi 5 ((j:Int)+(1:Int)) ((j+1:Nat):Int) (Gx.bq (by omega) (by omega)) ?_;exact xi 2 _ (UI _ _ _ _ (by omega) ⟨(j+1),(Ck.no cd 7 (aL:Int)),rfl,rfl,gM.pk [0,0,0,0,0,0],(by omega),(by omega),uF⟩)
     have he:dh kH (Nd.mk bO aL aI bQ bz).nm=false:=by rw[eD];exact AO
     rw[if_neg (by rw[he];decide)] at uF;refine Sx.vi 5 ((j:Int)+(1:Int)) ((j+1:Nat):Int) (Gx.bq (by omega) (by omega)) ?_;exact xi 2 _ (UI _ _ _ _ (by omega) ⟨(j+1),cd,rfl,rfl,fj.pk [0,0,0,0,0,0],(by omega),(by omega),uF⟩)
   have RP:=of_decide_eq_false qj;obtain rfl:=Eh Fc (by omega);refine Sx.vi 8 ((i:Int)+(1:Int)) ((i+1:Nat):Int) (Gx.bq (by omega) (by omega)) ?_;exact xi 2 _ (eC _ _ _ _ (by omega) ⟨(i+1),cd,rfl,rfl,fG.pk [0,0,0,0],(by omega),(by omega),af4⟩)
 have zM:=of_decide_eq_false kY;have Io:=Gw hra (by omega);rw[<- Io] at pj;obtain⟨cQ,cp,cg,cS,ch⟩:=dB;obtain⟨B6,Jb,a7,ha7,jV⟩:=aM (Q:=Q) (ks:=ks) (A:=nA) (c:=nc) (i:=1) bp 1 (by kernel_rfl) IF;refine xb 8 3 jV<|xv 0 a7 1 5 ks.length nc ha7 (aw IF)<|xt (c:=5) (t:=62) 0 (Sx.nC cQ cp cg cS B6 ch Jb) (Sx.nA cQ cp cg cS B6 ch Jb) (aG (Q:=Q) (a:=a7.add (1*5)) (n:=5) (cs:=(Sx.nC cQ cp cg cS B6 ch Jb)) jV 4) ?_;refine xd 1 [0,4,1] jV (fun Hp R hZ=>ih bc bg eA en ec oA on oc Q cQ cp cg cS ch B6 Jb Sa Aa an ac all cc w6 R Hp c' pj u9 YQ (fun lW G7=>hZ _ _ _ G7 fun mr=>?_));refine xf 1 [] mr (.tuple #[]) ?_;subst aq;exact hK _ (mr.pk [0,2,1])
theorem AP(k:Nat):qz k:=by
 induction k with
 |zero=>intro bc bg eA en ec oA on oc Q kd na nm nn ks nA nc Sa Aa an ac all c w K H0 c' hf;exact absurd hf (by simp[cF])
 |succ k ih=>exact Ei k ih
end Go.Proofs.YtdmdecgoebnamaaGreat
namespace Go.aR
open Go.RowKit Go.Sx Go.Gx Go.dy
theorem WV{s:List Nat}{n:Nat}(h:s.contains n=false):add s n=s++[n]:=by unfold add;rw[if_neg (by rw[h];decide)]
abbrev V3:=List Nat×List Nat×List Nat
def VC(k:Nat)(g:G)(u kd:Nat)(s t r s' t' r':List Nat):Prop:=
 (kd≠6->s=s'/\t=t'/\r=r')/\(kd=6->∃q l v,g.row[u]?=some q/\whole k g q []=some (l,v)/\(v=0->s=s'/\t=t'/\r=r')/\(v≠0->s=s'/\t=t'/\add r v=r'))
def VB(k:Nat)(g:G)(u kd:Nat)(s t r s' t' r':List Nat):Prop:=
 ∃y,g.b[u]?=some y/\(y=none->VC k g u kd s t r s' t' r')/\∀p,y=some p->∃s2 t2 r2,vars k g p s t r=some (s2,t2,r2)/\VC k g u kd s2 t2 r2 s' t' r'
def VA(k:Nat)(g:G)(u kd:Nat)(s t r s' t' r':List Nat):Prop:=
 ∃y,g.a[u]?=some y/\(y=none->VB k g u kd s t r s' t' r')/\∀p,y=some p->∃s2 t2 r2,vars k g p s t r=some (s2,t2,r2)/\VB k g u kd s2 t2 r2 s' t' r'
theorem Jd{k n : Nat}{g : G}{s t r s' t' r' : List Nat}(h : vars (k + 1) g n s t r = some (s', t', r')) :
   ∃u,find k g n=some u/\(s.contains u=true->s=s'/\t=t'/\r=r')/\(s.contains u=false->∃kd,g.kind[u]?=some kd/\(kd=0->s++[u]=s'/\add t u=t'/\r=r')/\(kd≠0->VA k g u kd (s++[u]) t r s' t' r')):=by
 unfold vars at h;split at h<;>try contradiction
 rename_i u hu;refine⟨u,hu,fun e=>?_,fun e=>?_⟩
 . rw[if_pos e] at h;cases h;exact⟨rfl,rfl,rfl⟩
 . rw[if_neg (by rw[e];decide)] at h;simp only at h;cases hk:g.kind[u]? with
   |none=>simp[hk] at h
   |some kd=>
     refine⟨kd,rfl,fun e0=>?_,fun e0=>?_⟩
     . subst e0;simp only[hk,Option.some.injEq,Prod.mk.injEq] at h;exact h
     . rw[hk] at h
       have h:(match(match g.a[u]? with|some none=>some ((s++[u],t,r):V3)|some (some m)=>vars k g m (s++[u]) t r|none=>none) with
         |some q=>(match(match g.b[u]? with|some none=>some q|some (some m)=>vars k g m q.1 q.2.1 q.2.2|none=>none) with
           |some z=>if kd=6 then(match g.row[u]? with
             |some rr=>(match whole k g rr [] with
               |some (_,0)=>some z
               |some (_,v+1)=>some (z.1,z.2.1,add z.2.2 (v+1))
               |none=>none)
             |none=>none) else some z
           |none=>none)
         |none=>none)=some (s',t',r'):=by
         cases kd with
         |zero=>exact absurd rfl e0
         |succ kd=>exact h
       have hC : ∀ z : V3, (if kd = 6 then (match g.row[u]? with
             |some rr=>(match whole k g rr [] with
               |some (_,0)=>some z
               |some (_,v+1)=>some (z.1,z.2.1,add z.2.2 (v+1))
               |none=>none)
             |none=>none) else some z)=some (s',t',r')->VC k g u kd z.1 z.2.1 z.2.2 s' t' r':=by
         intro z hz
         refine⟨fun e6=>?_,fun e6=>?_⟩
         . rw[if_neg e6] at hz;cases hz;exact⟨rfl,rfl,rfl⟩
         . rw[if_pos e6] at hz
           split at hz<;>try contradiction
           rename_i rr hr
           split at hz<;>try contradiction
           . rename_i l hw;cases hz;exact⟨rr,l,0,hr,hw,fun _=>⟨rfl,rfl,rfl⟩,fun q=>absurd rfl q⟩
           . rename_i l v hw;cases hz;exact⟨rr,l,v+1,hr,hw,fun q=>by omega,fun _=>⟨rfl,rfl,rfl⟩⟩
       have hB : ∀ q : V3, (match (match g.b[u]? with | some none => some q | some (some m) => vars k g m q.1 q.2.1 q.2.2 | none => none) with
           |some z=>if kd=6 then(match g.row[u]? with
             |some rr=>(match whole k g rr [] with
               |some (_,0)=>some z
               |some (_,v+1)=>some (z.1,z.2.1,add z.2.2 (v+1))
               |none=>none)
             |none=>none) else some z
           |none=>none)=some (s',t',r')->VB k g u kd q.1 q.2.1 q.2.2 s' t' r':=by
         intro q hq
         cases hb:g.b[u]? with
         |none=>simp[hb] at hq
         |some y=>
           cases y with
           |none=>rw[hb] at hq;exact⟨none,hb,fun _=>hC q hq,fun p e=>by cases e⟩
           |some p=>
             rw[hb] at hq
             cases hv:vars k g p q.1 q.2.1 q.2.2 with
             |none=>simp[hv] at hq
             |some z=>simp only[hv] at hq;exact⟨some p,hb,fun e=>(by cases e),fun p' e=>by cases e;exact⟨z.1,z.2.1,z.2.2,hv,hC z hq⟩⟩
       cases ha:g.a[u]? with
       |none=>simp[ha] at h
       |some y=>
         cases y with
         |none=>rw[ha] at h;exact⟨none,ha,fun _=>hB (s++[u],t,r) h,fun p e=>by cases e⟩
         |some p=>
           rw[ha] at h;cases hv:vars k g p (s++[u]) t r with
           |none=>simp[hv] at h
           |some z=>simp only[hv] at h;exact⟨some p,ha,fun e=>(by cases e),fun p' e=>by cases e;exact⟨z.1,z.2.1,z.2.2,hv,hB z h⟩⟩
def MF(a x:List Nat)(t:List Nat):List Nat:=(a.filter fun n=>!x.contains n).foldl add t
theorem BS{l:List Nat}{t:List Nat}{n:Nat}:n∈l.foldl add t↔n∈t∨n∈l:=by
 induction l generalizing t with
 |nil=>simp
 |cons y l ih=>rw[List.foldl_cons,ih,yE,List.mem_cons];exact or_assoc
theorem abu{a x t:List Nat}{n:Nat}:n∈MF a x t↔n∈t∨(n∈a/\n∉x):=by
 unfold MF;rw[BS,List.mem_filter];simp
def Lf(x left now a t:List Nat):Prop:=∀n,(n∈now∨(n∈left/\n∉x))↔n∈MF a x t
theorem Lf.init{x l a t:List Nat}(h:lV l a):Lf x l t a t:=fun n=>by rw[abu,h n]
theorem Lf.rP{x left lf now a t:List Nat}{q:Nat}(h:Lf x left now a t)(p:left.Perm (q::lf))(hq:(!x.contains q)=true):Lf x lf (add now q) a t:=fun n=>by
 rw[<- h n,yE,p.mem_iff,List.mem_cons];have Oq:q∉x:=by simpa using hq
 constructor
 . rintro((h1|rfl)|h2)
   . exact .inl h1
   . exact .inr ⟨.inl rfl,Oq⟩
   . exact .inr ⟨.inr h2.1,h2.2⟩
 . rintro(h1|⟨rfl|h1,h2⟩)
   . exact .inl (.inl h1)
   . exact .inl (.inr rfl)
   . exact .inr ⟨h1,h2⟩
theorem Lf.af6{x left lf now a t:List Nat}{q:Nat}(h:Lf x left now a t)(p:left.Perm (q::lf))(hq:(!x.contains q)=false):Lf x lf now a t:=fun n=>by
 rw[<- h n,p.mem_iff,List.mem_cons];have Oq:q∈x:=by simpa using hq
 constructor
 . rintro(h1|h2)
   . exact .inl h1
   . exact .inr ⟨.inr h2.1,h2.2⟩
 . rintro(h1|⟨rfl|h1,h2⟩)
   . exact .inl h1
   . exact absurd Oq h2
   . exact .inr ⟨h1,h2⟩
theorem Lf.done{x now a t left:List Nat}(h:Lf x left now a t)(e:left=[]):lV now (MF a x t):=fun n=>by rw[<- h n,e];simp
def Wo(a t:List Nat):List Nat:=t.filter fun v=>!a.contains v
def AQ(left now a t:List Nat):Prop:=∀n,(n∈now/\n∉left)↔n∈Wo a t
theorem abv{a t:List Nat}{n:Nat}:n∈Wo a t↔n∈t/\n∉a:=by unfold Wo;rw[List.mem_filter];simp
theorem AQ.init{l a t:List Nat}(h:lV l a):AQ l t a t:=fun n=>by rw[abv,h n]
theorem AQ.step{left lf now a t:List Nat}{q:Nat}(h:AQ left now a t)(p:left.Perm (q::lf)):AQ lf (now.filter fun n=>n != q) a t:=fun n=>by
 rw[<- h n,List.mem_filter,p.mem_iff,List.mem_cons];constructor
 . rintro⟨⟨h1,h2⟩,h3⟩;exact⟨h1,fun h=>h.elim (by simpa using h2) h3⟩
 . rintro⟨h1,h2⟩;exact⟨⟨h1,by have:n≠q:=fun e=>h2 (.inl e);simpa using this⟩,fun h=>h2 (.inr h)⟩
theorem AQ.done{now a t left:List Nat}(h:AQ left now a t)(e:left=[]):lV now (Wo a t):=fun n=>by rw[<- h n,e];simp
theorem Ej{k : Nat}{g : G}{x : jw}{e : List jw}{s t r t' r' : List Nat}(h : eS k g (x :: e) s t r = some (t', r')) :
   (x.all=true->∃z a b,vars k g x.t [] [] []=some (z,a,b)/\eS k g e s (MF a x.tv t) (MF b x.rv r)=some (t',r'))/\
   (x.all=false->∃s2 t2 r2,vars k g x.t s t r=some (s2,t2,r2)/\eS k g e s2 t2 r2=some (t',r')):=by
 unfold eS at h;refine⟨fun e1=>?_,fun e1=>?_⟩
 . rw[if_pos e1] at h;split at h<;>try contradiction
   rename_i z a b hv;exact⟨z,a,b,hv,h⟩
 . rw[if_neg (by rw[e1];decide)] at h;split at h<;>try contradiction
   rename_i s2 t2 r2 hv;exact⟨s2,t2,r2,hv,h⟩
theorem RS{k i:Nat}{g:G}{el:List Nv}{x:Nv}{s t r t' r':List Nat}(h:eS k g ((el.drop i).map (·.1)) s t r=some (t',r'))(hx:el[i]?=some x):eS k g (x.1::(el.drop (i+1)).map (·.1)) s t r=some (t',r'):=by
 obtain⟨hi,e⟩:=List.getElem?_eq_some_iff.1 hx;rw[List.drop_eq_getElem_cons hi,List.map_cons,e] at h;exact h
theorem BT{k n : Nat}{c : Ck}{nm : Nm}{x : jw}(h : c.gC k nm n = some x) :
   ∃it ir z tv rv,eS k c.g c.env [] [] []=some (it,ir)/\vars k c.g n [] [] []=some (z,tv,rv)/\(⟨nm,n,true,Wo it tv,Wo ir rv,true⟩:jw)=x:=by
 unfold Ck.gC at h;split at h<;>try contradiction
 rename_i it ir z tv rv h1 h2;cases h;exact⟨it,ir,z,tv,rv,h1,h2,rfl⟩
section
variable {w0 w:Ψ} {L0 L:List Sx.Item}
theorem uG(H:Hs w0 L0 w L)(j:Nat){S:Nat->Prop}{l:List Nv}(hi:L[j]?=some (bf S l)):∀x∈l,AM w S x:=(H.at j hi).1
theorem GF(H:Hs w0 L0 w L)(j:Nat){S:Nat->Prop}{l m:List Nv}(hi:L[j]?=some (bf S l))(h:∀x∈m,x∈l):Hs w0 L0 w (L++[bf S m]):=
 H.ro j (S:=S) (A:=fun w=>∀x∈l,AM w S x) (B:=fun w=>∀x∈m,AM w S x) hi (fun x hx=>uG H j hi x (h x hx)) (nM _ _)
theorem fH{nm:Nm}{t:Nat}{o:Bool}:∀{w:Ψ},(bf (fun _=>False) [(⟨nm,t,false,[],[],o⟩,none,none)]).holds w:=
 ⟨fun x hx=>by rw[List.mem_singleton.1 hx];exact⟨rfl,rfl⟩,fun _ h=>h.elim,nM _ _⟩
theorem Ns(H:Hs w0 L0 w L)(I:List Nat){nm:Nm}{n b1 b2:Nat}{a o:Bool}{t r:List Nat}(hp:bB I L=some [dv b1 t,dv b2 r]):∃S,Hs w0 L0 w (bf S [(⟨nm,n,a,t,r,o⟩,some b1,some b2)]::rest I L):=by
 refine⟨_,H.fz I hp (fun s x hx=>?_) (nM _ _)⟩;rw[List.mem_singleton.1 hx];have h0:=s.all _ (.head _);have h1:=s.all _ (.tail _ (.head _));exact⟨⟨⟨_,.head _,rfl⟩,h0.1⟩,⟨⟨_,.tail _ (.head _),rfl⟩,h1.1⟩⟩
theorem Nt(H:Hs w0 L0 w L)(i j:Nat){S S2:Nat->Prop}{l m:List Nv}(hi:L[i]?=some (bf S l))(hj:L[j]?=some (bf S2 m)):Hs w0 L0 w (L++[bf (fun c=>S c∨S2 c) (l++m)]):=by
 have h1:=H.at i hi;have h2:=H.at j hj;have mi:=List.mem_of_getElem? hi;have mj:=List.mem_of_getElem? hj;have hh:(bf (fun c=>S c∨S2 c) (l++m)).holds w:=by
   refine⟨fun x hx=>?_,fun c hc=>hc.elim (h1.2.1 c) (h2.2.1 c),nM _ _⟩;rcases List.mem_append.1 hx with q|q
   . exact(h1.1 x q).mono fun c h=>.inl h
   . exact(h2.1 x q).mono fun c h=>.inr h
 refine⟨H.kp,⟨fun it rP=>?_,List.pairwise_append.2 ⟨H.sp.Bm,List.pairwise_singleton _ _,fun x hx y hy=>?_⟩⟩,fun it rP c hc hl=>?_,fun it rP hw c hc hl=>?_⟩
 . rcases List.mem_append.1 rP with q|q
   . exact H.sp.all it q
   . rw[List.mem_singleton.1 q];exact hh
 . rw[List.mem_singleton.1 hy];intro hw c hc Io;have HA:x.wr=true:=by simpa[bf,Sx.Item.wr] using hw
   have ap:∀(y:Sx.Item),y∈L->y.wr=false->∀c,x.fp c->¬y.fp c:=by
     intro y hy hyw c h3 h4;obtain⟨a,ha,ea⟩:=List.mem_iff_getElem.1 hx;obtain⟨b,hb,eb⟩:=List.mem_iff_getElem.1 hy;have pw:=List.pairwise_iff_getElem.1 H.sp.Bm;rcases Nat.lt_trichotomy a b with q|q|q
     . have:=pw a b ha hb q;rw[ea,eb] at this;exact this (by rw[HA];rfl) c h3 h4
     . subst q;rw[ea] at eb;subst eb;rw[HA] at hyw;cases hyw
     . have:=pw b a hb ha q;rw[ea,eb] at this;exact this (by rw[HA];simp) c h4 h3
   rcases Io with q|q
   . exact ap _ mi rfl c hc q
   . exact ap _ mj rfl c hc q
 . rcases List.mem_append.1 rP with q|q
   . exact H.E0 it q c hc hl
   . rw[List.mem_singleton.1 q] at hc;rcases hc with q'|q'
     . exact H.E0 _ mi c q' hl
     . exact H.E0 _ mj c q' hl
 . rcases List.mem_append.1 rP with q|q
   . exact H.J8 it q hw c hc hl
   . rw[List.mem_singleton.1 q] at hw;cases hw
end
end Go.aR
namespace Go.Proofs.YtdmdecgoebnamaaGreat
open Go.RowKit Go.Sx Go.aR Go.dy
attribute [local irreducible] Go.wpOps Go.Code.wp Go.wpOp Go.wpAnyH Go.Calls Go.Sx.Goal
set_option maxRecDepth 20000
def Ek(k : Nat) : Prop := ∀(bc bg : Nat)(eA : Ω)(en ec : Nat)(oA : Ω)(on oc : Nat)(fk : Nat)(fa : Int)(S : Φ)(g : G)(n : Nat)(bs : Nat)(s : List Nat)(bt : Nat)(t : List Nat)(br : Nat)(r : List Nat)(w : Ψ)(K : Ending -> Ψ -> Prop)(H0 : Sp w [Sx.cB bc bg eA en ec oA on oc fk fa, GI S bg g, dv bs s, dv bt t, dv br r])(s' t' r' : List Nat)(hf : vars k g n s t r = some (s', t', r'))(hK : ∀ (S' : Φ) w', Hs w [Sx.cB bc bg eA en ec oA on oc fk fa, GI S bg g, dv bs s, dv bt t, dv br r] w' [Sx.cB bc bg eA en ec oA on oc fk fa, GI S' bg g, dv bs s', dv bt t', dv br r'] -> K (.returned (.tuple #[])) w'),
   Calls Tryz.prog 93 #[.p bc,.n n,.map (some bs),.map (some bt),.map (some br)] w K
set_option maxHeartbeats 8000000 in
theorem RT(k:Nat)(ih:Ek k):Ek (k+1):=by
 intro bc bg eA en ec oA on oc fk fa S g n bs s bt t br r w K H0 s' t' r' hf hK;obtain⟨L0,aq,H⟩:=Sx.cw H0;refine xu (vs:=[.p bc,.n n,.map (some bs),.map (some bt),.map (some br)]) 121 Tryz.func93 ?_;obtain⟨u1,hn,F4,xL⟩:=Jd hf;refine xb 5 0 H ?_;refine xd 1 [1] H (fun Hp R hZ=>p_ S bg g n w R Hp _ u1 hn (fun S1 w1 G1=>hZ _ _ _ G1 fun H1=>?_));refine lkb (t:=120) (kt:=3) (et:=4) 8 2 bs u1 s H1 (by kernel_rfl) ?_;refine xh 2 (List.contains s u1) (fun jI=>?_) (fun jI=>?_)
 . obtain⟨rfl,rfl,rfl⟩:=F4 jI;refine xf 2 [] H1 (.tuple #[]) ?_;subst aq;exact Gx.ah (v':=.tuple #[]) (by rfl) (hK S1 _ (H1.pk [1,0,0,0,0]))
 obtain⟨kd,gy,CV,Ru⟩:=xL jI;refine mub (t:=120) (kt:=3) (et:=4) 6 2 bs u1 s H1 (by kernel_rfl) fun w2 H2=>?_;have H3:=zJ H2 2 (b:=bs) (s:=add s u1) (t:=(s++[u1])) (by kernel_rfl) (by rw[WV jI];exact lV.rfl');obtain⟨⟨⟨CU,oq⟩,⟨xR,xS⟩,⟨BN,mL⟩,⟨xT,xU⟩,⟨xV,xW⟩,⟨xX,xY⟩,⟨xZ,x_⟩,jK,j6,lq,Aw,fU,vJ⟩,H4⟩:=bl H3 0 (S:=S1) (bg:=bg) (g:=g);obtain⟨D8,I0,oO,I1,I2,I3,I4,I5⟩:=cf H4;simp only at D8 I0 oO I1 I2 I3 I4 I5;have Ot:u1<fU:=by rw[<- D8];exact aw gy
 obtain⟨Bu,rfl⟩:=H4.row 1 (A:=CU) (e:=3) (sz:=1) (cap:=oq) (n:=fU) (xs:=(b_ (g.kind))) (by kernel_rfl) (by omega);refine xb 8 11 H4<|xb 2 0 H4<|yf 1 Bu u1 1 fU oq (by omega)<|yd 0 1 3 1 3 Bu oq fU (u1*1) (b_ (g.kind)) H4 (.n kd) (cE gy) ?_;refine xh 3 ((kd:Int)==(0:Int)) (fun RU=>?_) (fun RU=>?_)
 . have af8:=Gx.k1 RU;obtain⟨S2,H5⟩:=au H4 [0,0,0,0,0,0,0,0,0,0,0] (bg:=bg) (g:=g) ⟨((Χ Bu),oq),(xR,xS),(BN,mL),(xT,xU),(xV,xW),(xX,xY),(xZ,x_),jK,j6,lq,Aw,fU,vJ⟩;obtain⟨rfl,rfl,rfl⟩:=CV (by omega);refine mub (t:=120) (kt:=3) (et:=4) 4 3 bt u1 t H5 (by kernel_rfl) fun w3 H6=>xf 4 [] H6 (.tuple #[]) ?_;subst aq;exact Gx.ah (v':=.tuple #[]) (by rfl) (hK S2 _ (H6.pk [1,0,0,0,0]))
 have af8:=Gx.k0 RU;obtain⟨S3,H7⟩:=au H4 [0,0,0,0,0,0,0,0,0,0,0] (bg:=bg) (g:=g) ⟨((Χ Bu),oq),(xR,xS),(BN,mL),(xT,xU),(xV,xW),(xX,xY),(xZ,x_),jK,j6,lq,Aw,fU,vJ⟩;obtain⟨y,hy,Gp,D9⟩:=Ru (by omega);refine yg 2 (fun l' w'=>∃(S1:Φ) (s1:List Nat) (t1:List Nat) (r1:List Nat),l'=[(0,.p bc),(1,.n u1),(2,.map (some bs)),(3,.map (some bt)),(4,.map (some br))]/\Hs w L0 w' [Sx.cB bc bg eA en ec oA on oc fk fa,GI S1 bg g,dv bs s1,dv bt t1,dv br r1]/\(VB k g u1 kd s1 t1 r1 s' t' r')) (fun K1 aU=>?_) (fun b1 l1 w4 cm=>?_)
 . obtain⟨⟨⟨D_,rE⟩,⟨Ea,ot⟩,⟨Ax,wH⟩,⟨BO,r_⟩,⟨Ay,AA⟩,⟨AB,AD⟩,⟨yM,AE⟩,ly,j7,ow,Eb,eW,vK⟩,H8⟩:=bl H7 0 (S:=S3) (bg:=bg) (g:=g);obtain⟨I8,HO,KO,KP,Nf,Ng,Nh,Ni⟩:=cf H8;simp only at I8 HO KO KP Nf Ng Nh Ni;have Ot:u1<eW:=by rw[<- HO];exact aw hy
   obtain⟨Bv,rfl⟩:=H8.row 2 (A:=Ea) (e:=3) (sz:=1) (cap:=ot) (n:=eW) (xs:=(ay (g.a))) (by kernel_rfl) (by omega);refine xb 5 11 H8<|xb 2 0 H8<|yf 1 Bv u1 1 eW ot (by omega)<|yd 0 2 3 1 3 Bv ot eW (u1*1) (ay (g.a)) H8 (.int .i64 (eI y)) (bM hy) ?_;refine xh 3 (decide ((eI y)>=(0:Int))) (fun RV=>?_) (fun RV=>?_)
   . obtain⟨p,rfl⟩:=fX RV;obtain⟨s2,t2,r2,nK,iq⟩:=D9 p rfl;refine xb 5 11 H8<|xb 2 0 H8<|yf 1 Bv u1 1 eW ot (by omega)<|yd 0 2 3 1 3 Bv ot eW (u1*1) (ay (g.a)) H8 (.n p) (aW hy) ?_;obtain⟨S4,H9⟩:=au H8 [0,0,0,0,0,0,0,0,0,0,0] (bg:=bg) (g:=g) ⟨(D_,rE),((Χ Bv),ot),(Ax,wH),(BO,r_),(Ay,AA),(AB,AD),(yM,AE),ly,j7,ow,Eb,eW,vK⟩;refine xd 3 [1,0,0,0,0] H9 (fun Hp R hZ=>ih bc bg eA en ec oA on oc fk fa S4 g p bs (s++[u1]) bt t br r w2 R Hp s2 t2 r2 nK (fun S5 w5 G2=>hZ _ _ _ G2 fun bh=>?_));exact xi 1 _ (aU _ _ _ ⟨S5,s2,t2,r2,rfl,bh,iq⟩)
   have iO:=fY RV;obtain⟨S6,bp⟩:=au H8 [0,0,0,0,0,0,0,0,0,0,0] (bg:=bg) (g:=g) ⟨(D_,rE),((Χ Bv),ot),(Ax,wH),(BO,r_),(Ay,AA),(AB,AD),(yM,AE),ly,j7,ow,Eb,eW,vK⟩;exact xi 1 _ (aU _ _ _ ⟨S6,(s++[u1]),t,r,rfl,bp.pk [1,0,0,0,0],(Gp iO)⟩)
 obtain⟨S1,s1,t1,r1,rfl,bS,hB⟩:=cm;obtain⟨y,hy,Gp,D9⟩:=hB;obtain⟨⟨⟨KT,KU⟩,⟨KW,KX⟩,⟨RF,yt⟩,⟨Nn,BQ⟩,⟨KY,KZ⟩,⟨K0,K7⟩,⟨K8,K9⟩,uC,te,AJ,RG,kM,Gq⟩,bD⟩:=bl bS 1 (S:=S1) (bg:=bg) (g:=g);obtain⟨WH,WI,RH,RI,WJ,WK,WL,WM⟩:=cf bD;simp only at WH WI RH RI WJ WK WL WM;have Ot:u1<kM:=by rw[<- RH];exact aw hy
 obtain⟨Je,rfl⟩:=bD.row 3 (A:=RF) (e:=3) (sz:=1) (cap:=yt) (n:=kM) (xs:=(ay (g.b))) (by kernel_rfl) (by omega);refine yg 0 (fun l' w'=>∃(S2:Φ) (s3:List Nat) (t3:List Nat) (r3:List Nat),l'=[(0,.p bc),(1,.n u1),(4,.map (some br))]/\Hs w L0 w' [Sx.cB bc bg eA en ec oA on oc fk fa,GI S2 bg g,dv bs s3,dv bt t3,dv br r3]/\(VC k g u1 kd s3 t3 r3 s' t' r')) (fun K2 eC=>?_) (fun b2 l2 w6 iw=>?_)
 . refine xb 5 11 bD ?_;refine xb 2 0 bD<|yf 1 Je u1 1 kM yt (by omega)<|yd 0 3 3 1 3 Je yt kM (u1*1) (ay (g.b)) bD (.int .i64 (eI y)) (bM hy) ?_;refine xh 3 (decide ((eI y)>=(0:Int))) (fun CQ=>?_) (fun CQ=>?_)
   . obtain⟨p,rfl⟩:=fX CQ;obtain⟨s2,t2,r2,nK,iq⟩:=D9 p rfl;refine xb 5 11 bD<|xb 2 0 bD<|yf 1 Je u1 1 kM yt (by omega)<|yd 0 3 3 1 3 Je yt kM (u1*1) (ay (g.b)) bD (.n p) (aW hy) ?_;obtain⟨S7,bG⟩:=au bD [0,0,0,0,0,0,0,0,0,0,0] (bg:=bg) (g:=g) ⟨(KT,KU),(KW,KX),((Χ Je),yt),(Nn,BQ),(KY,KZ),(K0,K7),(K8,K9),uC,te,AJ,RG,kM,Gq⟩;refine xd 3 [1,0,0,0,0] bG (fun Hp R hZ=>ih bc bg eA en ec oA on oc fk fa S7 g p bs s1 bt t1 br r1 w4 R Hp s2 t2 r2 nK (fun S8 w7 G3=>hZ _ _ _ G3 fun cC=>?_));exact xi 1 _ (eC _ _ _ ⟨S8,s2,t2,r2,rfl,cC,iq⟩)
   have iO:=fY CQ;obtain⟨S9,bL⟩:=au bD [0,0,0,0,0,0,0,0,0,0,0] (bg:=bg) (g:=g) ⟨(KT,KU),(KW,KX),((Χ Je),yt),(Nn,BQ),(KY,KZ),(K0,K7),(K8,K9),uC,te,AJ,RG,kM,Gq⟩;exact xi 1 _ (eC _ _ _ ⟨S9,s1,t1,r1,rfl,bL.pk [1,0,0,0,0],(Gp iO)⟩)
 obtain⟨S2,s3,t3,r3,rfl,cx,hC⟩:=iw;obtain⟨Jf,zN⟩:=hC;obtain⟨⟨⟨WW,El⟩,⟨Ow,GG⟩,⟨Ox,Fe⟩,⟨RW,BU⟩,⟨Nu,Ny⟩,⟨Nz,NA⟩,⟨NB,NC⟩,vO,vP,BV,UN,jy,HP⟩,cM⟩:=bl cx 1 (S:=S2) (bg:=bg) (g:=g);obtain⟨WX,YV,YW,WY,ll4,lo4,ln4,ls4⟩:=cf cM;simp only at WX YV YW WY ll4 lo4 ln4 ls4;have Ot:u1<jy:=by rw[<- WX];exact aw gy
 obtain⟨RX,rfl⟩:=cM.row 1 (A:=WW) (e:=3) (sz:=1) (cap:=El) (n:=jy) (xs:=(b_ (g.kind))) (by kernel_rfl) (by omega);refine xb 5 11 cM<|xb 2 0 cM<|yf 1 RX u1 1 jy El (by omega)<|yd 0 1 3 1 3 RX El jy (u1*1) (b_ (g.kind)) cM (.n kd) (cE gy) ?_;refine xh 3 ((kd:Int)==(6:Int)) (fun RY=>?_) (fun RY=>?_)
 . have af9:=Gx.k1 RY;obtain⟨q,l,v,hq,hw,yK,YP⟩:=zN (by omega);have at3:u1<jy:=by rw[<- WY];exact aw hq
   obtain⟨RZ,rfl⟩:=cM.row 4 (A:=RW) (e:=3) (sz:=1) (cap:=BU) (n:=jy) (xs:=(b_ (g.row))) (by kernel_rfl) (by omega);refine xy 1 cM [11,0,4] [14] (LJ:=[Sx.cB bc bg eA en ec oA on oc fk fa,.ar bg (.cells #[.slice (Χ RX) jy El,.slice Ow jy GG,.slice Ox jy Fe,.slice (Χ RZ) jy BU,.slice Nu jy Ny,.slice Nz HP NA,.slice NB HP NC,.map (some vO),.map (some vP)] 154),.own 3 1 (Χ RZ) BU jy (b_ (g.row))]) (by kernel_rfl) fun w8 dt=>xm [(0,none),(1,none),(2,none),(3,some (0,[14,15,16,17,18,19])),(4,none),(5,none),(6,none),(7,some (0,[8,9,10,12,13,14,15,16,17,18,19])),(8,none),(9,none),(10,some (1,[12,13,14,15,16,17,18,19])),(11,none)] (dt.sb [11,0,3])<|ym 12 [13,14,15,16,17,18,19] RZ u1 1 jy BU (by omega) (dt.sb [11,0,3])<|yq 13 [14,15,16,17,18,19] 2 3 1 3 RZ BU jy (u1*1) (b_ (g.row)) (.n q) (cE hq) (dt.sb [11,0,3])<|xl ?_;intro iU;refine xp 14 ?_;obtain⟨uz,ep⟩:=au dt [0,0,0,0,0,0,0,0,0,0,0] (bg:=bg) (g:=g) ⟨((Χ RX),El),(Ow,GG),(Ox,Fe),((Χ RZ),BU),(Nu,Ny),(Nz,NA),(NB,NC),vO,vP,BV,UN,jy,HP⟩;refine xd 0 [0] ep (fun Hp R hZ=>my uz bg g q w8 R Hp _ v l hw (fun wG Fb A1 n1 c1 w9 G4 vI nX=>hZ _ _ _ G4 fun fi=>?_));refine xj (x:=iU) 14 Sx.np<|xm [(15,none),(16,none),(17,none),(18,none),(19,none)] Sx.np<|xw ?_;refine xh 7 (decide ((v:Int)>(0:Int))) (fun Jg=>?_) (fun Jg=>?_)
   . have abA:=of_decide_eq_true Jg;obtain⟨rfl,rfl,rfl⟩:=YP (by omega);refine mub (t:=120) (kt:=3) (et:=4) 3 5 br v r3 fi (by kernel_rfl) fun df dI=>xf 1 [] dI (.tuple #[]) ?_;subst aq;exact Gx.ah (v':=.tuple #[]) (by rfl) (hK wG _ (dI.pk [2,0,1,1,1]))
   have abA:=of_decide_eq_false Jg;obtain⟨rfl,rfl,rfl⟩:=yK (by omega);refine xf 1 [] fi (.tuple #[]) ?_;subst aq;exact Gx.ah (v':=.tuple #[]) (by rfl) (hK wG _ (fi.pk [2,0,1,1,1]))
 have af9:=Gx.k0 RY;obtain⟨rfl,rfl,rfl⟩:=Jf (by omega);refine xf 1 [] cM (.tuple #[]) ?_;obtain⟨Ec,dp⟩:=au cM [0,0,0,0,0,0,0,0,0,0,0] (bg:=bg) (g:=g) ⟨((Χ RX),El),(Ow,GG),(Ox,Fe),(RW,BU),(Nu,Ny),(Nz,NA),(NB,NC),vO,vP,BV,UN,jy,HP⟩;subst aq;exact Gx.ah (v':=.tuple #[]) (by rfl) (hK Ec _ (dp.pk [1,0,0,0,0]))
theorem Jh(k:Nat):Ek k:=by
 induction k with
 |zero=>intro bc bg eA en ec oA on oc fk fa S g n bs s bt t br r w K H0 s' t' r' hf;exact absurd hf (by simp[vars])
 |succ k ih=>exact RT k ih
theorem abB(bc bg : Nat)(eA : Ω)(en ec : Nat)(oA : Ω)(on oc : Nat)(fk : Nat)(fa : Int)(S : Φ)(g : G)(n : Nat)(bs : Nat)(bt : Nat)(t : List Nat)(br : Nat)(r : List Nat)(Sv : Φ)(x : Nv)(w : Ψ)(K : Ending -> Ψ -> Prop)(H0 : Sp w [Sx.cB bc bg eA en ec oA on oc fk fa, GI S bg g, dv bt t, dv br r, bf Sv ([x])])(k : Nat)(z a b : List Nat)(hf : vars k g n [] [] [] = some (z, a, b))(hK : ∀(S' : Φ) w', Hs w [Sx.cB bc bg eA en ec oA on oc fk fa, GI S bg g, dv bt t, dv br r, bf Sv ([x])] w' [Sx.cB bc bg eA en ec oA on oc fk fa, GI S' bg g, dv bt (MF a x.1.tv t), dv br (MF b x.1.rv r), bf Sv ([x])] -> K (.returned (.tuple #[])) w') :
   Calls Tryz.prog 121 #[.p bc,.n n,.map (some bs),.map (some bt),.map (some br),.agg #[.string x.1.nm,.n x.1.t,.bool x.1.all,.map x.2.1,.map x.2.2,.bool x.1.eR]] w K:=by
 obtain⟨L0,aq,H⟩:=Sx.cw H0;refine xu (vs:=[.p bc,.n n,.map (some bs),.map (some bt),.map (some br),.agg #[.string x.1.nm,.n x.1.t,.bool x.1.all,.map x.2.1,.map x.2.2,.bool x.1.eR]]) 50 Tryz.func121<|xg 2 H fun k1 w1 H1=>xg 4 H1 fun k2 w2 H2=>?_;have H3:=kE (b:=k2) H2 6 (by kernel_rfl);refine xg 5 H3 fun k3 w3 H4=>?_;have H5:=kE (b:=k3) H4 7 (by kernel_rfl);refine xg 7 H5 fun k4 w4 H6=>?_;have H7:=kE (b:=k4) H6 8 (by kernel_rfl);refine xd 2 [0,0,6,4,4] H7 (fun Hp R hZ=>(Jh _) bc bg eA en ec oA on oc fk fa S g n k4 ([]) k2 ([]) k3 ([]) w4 R Hp z a b hf (fun S1 w5 G1=>hZ _ _ _ G1 fun H8=>?_));refine rgb (t:=120) (kt:=3) (et:=4) 6 3 k2 a H8 (by kernel_rfl) fun l1 r1 w6 Br H9=>?_;refine y0 3 (fun z l' w'=>∃(left:List Nat) (cur:Option Nat) (now:List Nat),l'=[(3,.map (some bt)),(4,.map (some br)),(11,.p k1),(13,.map (some k3)),(25,.p r1)]/\z=left.length/\Hs w L0 w' [Sx.cB bc bg eA en ec oA on oc fk fa,GI S1 bg g,bf Sv ([x]),.ar k1 (.cells #[.string x.1.nm,.n x.1.t,.bool x.1.all,.map x.2.1,.map x.2.2,.bool x.1.eR] 122),dv br r,dv k3 b,Yl k2 r1 l1 left cur,dv bt now]/\(Lf x.1.tv left now a t)) _ _ ⟨l1,none,t,rfl,rfl,H9.pk [0,0,5,5,4,2,1,1],(Lf.init Br)⟩ (fun b1 z1 l2 w7 cm K1 aU=>?_);obtain⟨left,cur,now,rfl,rfl,bp,vQ⟩:=cm;refine ntb (bt:=k2) (r:=r1) (l:=l1) (left:=left) (cur:=cur) 2 6 bp (by kernel_rfl) (fun wE=>?_) (fun q1 lf1 w8 hp1 aV=>?_)
 . have bS:=zJ bp 7 (b:=bt) (s:=now) (t:=(MF a x.1.tv t)) (by kernel_rfl) (vQ.done wE);refine rgb (t:=120) (kt:=3) (et:=4) 13 5 k3 b bS (by kernel_rfl) fun l3 r2 w9 yw bD=>?_;refine y0 3 (fun z l' w'=>∃(left:List Nat) (cur:Option Nat) (now:List Nat),l'=[(4,.map (some br)),(11,.p k1),(38,.p r2)]/\z=left.length/\Hs w L0 w' [Sx.cB bc bg eA en ec oA on oc fk fa,GI S1 bg g,bf Sv ([x]),.ar k1 (.cells #[.string x.1.nm,.n x.1.t,.bool x.1.all,.map x.2.1,.map x.2.2,.bool x.1.eR] 122),dv bt (MF a x.1.tv t),Yl k3 r2 l3 left cur,dv br now]/\(Lf x.1.rv left now b r)) _ _ ⟨l3,none,r,rfl,rfl,bD.pk [0,0,0,0,3,1,0],(Lf.init yw)⟩ (fun b2 z2 l4 df iw K2 eC=>?_);obtain⟨left,cur,now,rfl,rfl,cC,vQ⟩:=iw;refine ntb (bt:=k3) (r:=r2) (l:=l3) (left:=left) (cur:=cur) 2 5 cC (by kernel_rfl) (fun BM=>?_) (fun q2 lf2 gV WZ bL=>?_)
   . have dG:=zJ cC 6 (b:=br) (s:=now) (t:=(MF b x.1.rv r)) (by kernel_rfl) (vQ.done BM);refine xf 9 [] dG (.tuple #[]) ?_;subst aq;exact Gx.ah (v':=.tuple #[]) (by rfl) (hK S1 _ (dG.pk [0,0,2,3,0]))
   refine VN (bt:=k3) (r:=r2) (l:=l3) (left:=lf2) (q:=q2) 10 5 bL (by kernel_rfl)<|xb 7 3 bL<|lkr (S:=Sv) (t:=120) (kt:=3) (et:=4) (o:=x.2.2) 1 q2 x.1.rv (uG bL 2 (S:=Sv) (l:=[x]) (by kernel_rfl) _ (.head _)).2 ?_;refine xh 3 (!(List.contains x.1.rv q2)) (fun jJ=>?_) (fun jJ=>?_)
   . refine mub (t:=120) (kt:=3) (et:=4) 3 6 br q2 now bL (by kernel_rfl) fun jk cx=>?_;have R0:=jJ;try simp[-List.getD_eq_getElem?_getD] at R0
     exact xi 2 _ (eC _ _ _ _ (by have:=WZ.length_eq;simp at this;omega) ⟨lf2,(some q2),add now q2,rfl,rfl,cx.pk [0,0,0,0,0,0,0],(vQ.rP WZ jJ)⟩)
   have R0:=jJ;try simp[-List.getD_eq_getElem?_getD] at R0
   exact xi 2 _ (eC _ _ _ _ (by have:=WZ.length_eq;simp at this;omega) ⟨lf2,(some q2),now,rfl,rfl,bL.pk [0,0,0,0,0,0,0],(vQ.af6 WZ jJ)⟩)
 refine VN (bt:=k2) (r:=r1) (l:=l1) (left:=lf1) (q:=q1) 10 6 aV (by kernel_rfl)<|xb 7 3 aV<|lkr (S:=Sv) (t:=120) (kt:=3) (et:=4) (o:=x.2.1) 1 q1 x.1.tv (uG aV 2 (S:=Sv) (l:=[x]) (by kernel_rfl) _ (.head _)).1 ?_;refine xh 3 (!(List.contains x.1.tv q1)) (fun uy=>?_) (fun uy=>?_)
 . refine mub (t:=120) (kt:=3) (et:=4) 3 7 bt q1 now aV (by kernel_rfl) fun jT ep=>?_;have R1:=uy;try simp[-List.getD_eq_getElem?_getD] at R1
   exact xi 2 _ (aU _ _ _ _ (by have:=hp1.length_eq;simp at this;omega) ⟨lf1,(some q1),add now q1,rfl,rfl,ep.pk [0,0,0,0,0,0,0,0],(vQ.rP hp1 uy)⟩)
 have R1:=uy;try simp[-List.getD_eq_getElem?_getD] at R1
 exact xi 2 _ (aU _ _ _ _ (by have:=hp1.length_eq;simp at this;omega) ⟨lf1,(some q1),now,rfl,rfl,aV.pk [0,0,0,0,0,0,0,0],(vQ.af6 hp1 uy)⟩)
theorem ND(bc bg : Nat)(eA : Ω)(en ec : Nat)(oA : Ω)(on oc : Nat)(fk : Nat)(fa : Int)(S : Φ)(g : G)(el : List Nv)(Sm : Φ)(w : Ψ)(K : Ending -> Ψ -> Prop)(H0 : Sp w [Sx.cB bc bg eA en ec oA on oc fk fa, GI S bg g, .own 122 6 eA ec en (gi el), bf Sm el])(k : Nat)(t' r' : List Nat)(hf : eS k g (el.map (·.1)) [] [] [] = some (t', r'))(Lg : en < 1000000000)(hK : ∀(S' : Φ)(b1 : Nat)(b2 : Nat) w', Hs w [Sx.cB bc bg eA en ec oA on oc fk fa, GI S bg g, .own 122 6 eA ec en (gi el), bf Sm el] w' [Sx.cB bc bg eA en ec oA on oc fk fa, GI S' bg g, .own 122 6 eA ec en (gi el), bf Sm el, dv b1 t', dv b2 r'] -> K (.returned (.tuple #[.map (some b1), .map (some b2)])) w') :
   Calls Tryz.prog 92 #[.p bc] w K:=by
 obtain⟨L0,aq,H⟩:=Sx.cw H0;refine xu (vs:=[.p bc]) 63 Tryz.func92 ?_;have jX:=jx (e:=122) (n:=en) (cap:=ec) (A:=eA) (l:=el) H 2;refine xg 8 H fun k1 w1 H1=>?_;have H2:=kE (b:=k1) H1 4 (by kernel_rfl);refine xg 5 H2 fun k2 w2 H3=>?_;have H4:=kE (b:=k2) H3 5 (by kernel_rfl);refine xg 5 H4 fun k3 w3 H5=>?_;have H6:=kE (b:=k3) H5 6 (by kernel_rfl);refine y0 10 (fun z l' w'=>∃(i:Nat) (S1:Φ) (s1:List Nat) (t1:List Nat) (r1:List Nat),l'=[(0,.p bc),(4,.map (some k1)),(5,.map (some k2)),(6,.map (some k3)),(7,.n i)]/\z=el.length-i/\Hs w L0 w' [Sx.cB bc bg eA en ec oA on oc fk fa,GI S1 bg g,.own 122 6 eA ec en (gi el),bf Sm el,dv k1 t1,dv k2 r1,dv k3 s1]/\(i<=el.length)/\(eS k g ((el.drop i).map (·.1)) s1 t1 r1=some (t',r'))) _ _ ⟨0,S,[],[],[],rfl,rfl,H6.pk [0,0,0,0,0,0,0],(Nat.zero_le _),hf⟩ (fun b1 z1 l1 w4 cm K1 aU=>?_);obtain⟨i,S1,s1,t1,r1,rfl,rfl,H8,UA,hfi⟩:=cm;refine xb 7 0 H8 ?_;refine xh 4 (decide ((i:Int)<(en:Int))) (fun cK=>?_) (fun cK=>?_)
 . have Aj:=of_decide_eq_true cK;obtain⟨x,hx⟩:=dW (l:=el) (i:=i) (by omega);obtain⟨xL,hs2⟩:=Ej (RS hfi hx);obtain⟨lZ,rfl⟩:=H8.row 2 (A:=eA) (e:=122) (sz:=6) (cap:=ec) (n:=en) (xs:=(gi el)) (by kernel_rfl) (by omega);refine xb 10 0 H8<|yf 1 lZ i 6 en ec (by omega)<|yd 1 2 122 6 4 lZ ec en (i*6+2) (gi el) H8 (.bool x.1.all) (qu 2 oy hx (by decide) rfl) ?_;refine xh 2 x.1.all (fun nJ=>?_) (fun nJ=>?_)
   . obtain⟨z,a,b,hv,abD⟩:=xL nJ;have H9:=GF H8 3 (S:=Sm) (l:=el) (m:=[x]) (by kernel_rfl) (by intro y hy;rw[List.mem_singleton.1 hy];exact List.mem_of_getElem? hx);refine xy 1 H9 [0,2] [] (LJ:=[.ar bc (.cells #[.p bg,.slice (Χ lZ) en ec,.slice oA on oc,.n fk,.int .i64 fa] 115),.own 122 6 (Χ lZ) ec en (gi el)]) (by kernel_rfl) fun w5 bh=>xm [(0,none),(1,none),(2,none),(3,none),(4,some (0,[])),(5,none)] (bh.sb [0,1])<|ym 6 [] lZ i 6 en ec (by omega) (bh.sb [0,1])<|xm [(7,none)] (bh.sb [0,1])<|yq 8 [] 1 122 6 3 lZ ec en (i*6+1) (gi el) (.n x.1.t) (qu 1 oy hx (by decide) rfl) (bh.sb [0,1])<|xm [(9,none),(10,none),(11,none),(12,none),(13,none),(14,none),(15,some (0,[])),(16,none)] (bh.sb [0,1]) ?_;refine ym 17 [] lZ i 6 en ec (by omega) (bh.sb [0,1])<|yq 18 [] 1 122 6 122 lZ ec en (i*6) (gi el) (.agg #[.string x.1.nm,.n x.1.t,.bool x.1.all,.map x.2.1,.map x.2.2,.bool x.1.eR]) (Gt oy hx) (bh.sb [0,1])<|xl ?_;intro iU;refine xp 19 ?_;refine xd 0 [0,0,2,2,3] bh (fun Hp R hZ=>abB bc bg (Χ lZ) en ec oA on oc fk fa S1 g x.1.t k3 k1 t1 k2 r1 Sm x w5 R Hp _ z a b hv (fun S1 w6 G1=>hZ _ _ _ G1 fun bp=>?_));refine xj (x:=iU) 19 (bp.sb [0,4])<|xw<|Sx.vi 7 ((i:Int)+(1:Int)) ((i+1:Nat):Int) (Gx.bq (by omega) (by omega)) ?_;exact xi 2 _ (aU _ _ _ _ (by omega) ⟨(i+1),S1,s1,(MF a x.1.tv t1),(MF b x.1.rv r1),rfl,rfl,bp.pk [0,0,3,3,0,0,1],(by omega),abD⟩)
   obtain⟨s2,t2,r2,hv,abD⟩:=hs2 nJ;refine xb 7 0 H8<|yf 1 lZ i 6 en ec (by omega)<|yd 1 2 122 6 3 lZ ec en (i*6+1) (gi el) H8 (.n x.1.t) (qu 1 oy hx (by decide) rfl) ?_;refine xd 3 [0,0,4,2,2] H8 (fun Hp R hZ=>(Jh _) bc bg (Χ lZ) en ec oA on oc fk fa S1 g x.1.t k3 s1 k1 t1 k2 r1 w4 R Hp s2 t2 r2 hv (fun S2 w7 G2=>hZ _ _ _ G2 fun bS=>?_));refine Sx.vi 5 ((i:Int)+(1:Int)) ((i+1:Nat):Int) (Gx.bq (by omega) (by omega)) ?_;exact xi 2 _ (aU _ _ _ _ (by omega) ⟨(i+1),S2,s2,t2,r2,rfl,rfl,bS.pk [0,0,3,3,1,1,0],(by omega),abD⟩)
 have Aj:=of_decide_eq_false cK;have hd:=hfi;rw[List.drop_of_length_le (by omega)] at hd;obtain⟨rfl,rfl⟩:t1=t'/\r1=r':=by simpa[eS] using hd
 refine xf 14 [] H8 (.tuple #[.map (some k1),.map (some k2)]) ?_;subst aq;exact Gx.ah (v':=.tuple #[.map (some k1),.map (some k2)]) (by rfl) (hK S1 k1 k2 _ (H8.pk [0,0,0,0,0,0]))
theorem vR(bc bg : Nat)(eA : Ω)(en ec : Nat)(oA : Ω)(on oc : Nat)(S : Φ)(c : Ck)(el : List Nv)(Sm : Φ)(nm : Nm)(n : Nat)(w : Ψ)(K : Ending -> Ψ -> Prop)(H0 : Sp w [Sx.cB bc bg eA en ec oA on oc c.fk c.fa, GI S bg c.g, .own 122 6 eA ec en (gi el), bf Sm el])(k : Nat)(x : jw)(hf : c.gC k nm n = some x)(jX : el.map (·.1) = c.env)(Lg : en < 1000000000)(hK : ∀(S' : Φ)(S2 : Φ)(b1 : Nat)(b2 : Nat) w', Hs w [Sx.cB bc bg eA en ec oA on oc c.fk c.fa, GI S bg c.g, .own 122 6 eA ec en (gi el), bf Sm el] w' [Sx.cB bc bg eA en ec oA on oc c.fk c.fa, GI S' bg c.g, .own 122 6 eA ec en (gi el), bf Sm el, bf S2 ([(x, some b1, some b2)])] -> K (.returned (.agg (YT (x, some b1, some b2)).toArray)) w') :
   Calls Tryz.prog 59 #[.p bc,.string nm,.n n] w K:=by
 obtain⟨L0,aq,H⟩:=Sx.cw H0;refine xu (vs:=[.p bc,.string nm,.n n]) 47 Tryz.func59 ?_;obtain⟨it,ir,z,tv,rv,h1,h2,rfl⟩:=BT hf;rw[<- jX] at h1;refine xg 2 H fun k1 w1 H1=>?_;refine xd 5 [0,0,0,0] H1 (fun Hp R hZ=>ND bc bg eA en ec oA on oc c.fk c.fa S c.g el Sm w1 R Hp _ it ir h1 Lg (fun S1 b1 b2 w2 G1=>hZ _ _ _ G1 fun H2=>?_));refine xg 9 H2 fun k2 w3 H3=>?_;have H4:=kE (b:=k2) H3 7 (by kernel_rfl);refine xg 5 H4 fun k3 w4 H5=>?_;have H6:=kE (b:=k3) H5 8 (by kernel_rfl);refine xg 7 H6 fun k4 w5 H7=>?_;have H8:=kE (b:=k4) H7 9 (by kernel_rfl);refine xd 2 [0,0,7,5,5] H8 (fun Hp R hZ=>(Jh _) bc bg eA en ec oA on oc c.fk c.fa S1 c.g n k4 ([]) k2 ([]) k3 ([]) w5 R Hp z tv rv h2 (fun S2 w6 G2=>hZ _ _ _ G2 fun H9=>?_));refine rgb (t:=120) (kt:=3) (et:=4) 6 7 b1 it H9 (by kernel_rfl) fun l1 r1 w7 Br bh=>?_;refine y0 3 (fun z l' w'=>∃(left:List Nat) (cur:Option Nat) (now:List Nat),l'=[(1,.string nm),(2,.n n),(6,.p k1),(8,.map (some b2)),(9,.map (some k2)),(10,.map (some k3)),(27,.p r1)]/\z=left.length/\Hs w L0 w' [Sx.cB bc bg eA en ec oA on oc c.fk c.fa,GI S2 bg c.g,.own 122 6 eA ec en (gi el),bf Sm el,.ar k1 (.cells #[.string (bY []),.int .i64 0,.bool false,.map none,.map none,.bool false] 122),dv b2 ir,dv k3 rv,Yl b1 r1 l1 left cur,dv k2 now]/\(AQ left now it tv)) _ _ ⟨l1,none,tv,rfl,rfl,bh.pk [0,0,3,3,5,4,2,2,1],(AQ.init Br)⟩ (fun b3 z1 l2 w8 cm K1 aU=>?_);obtain⟨left,cur,now,rfl,rfl,aV,vQ⟩:=cm;refine ntb (bt:=b1) (r:=r1) (l:=l1) (left:=left) (cur:=cur) 2 7 aV (by kernel_rfl) (fun wE=>?_) (fun q1 lf1 w9 hp1 bS=>?_)
 . have bD:=zJ aV 8 (b:=k2) (s:=now) (t:=(Wo it tv)) (by kernel_rfl) (vQ.done wE);refine rgb (t:=120) (kt:=3) (et:=4) 14 5 b2 ir bD (by kernel_rfl) fun l3 r2 df yw bG=>?_;refine y0 3 (fun z l' w'=>∃(left:List Nat) (cur:Option Nat) (now:List Nat),l'=[(1,.string nm),(2,.n n),(6,.p k1),(9,.map (some k2)),(10,.map (some k3)),(35,.p r2)]/\z=left.length/\Hs w L0 w' [Sx.cB bc bg eA en ec oA on oc c.fk c.fa,GI S2 bg c.g,.own 122 6 eA ec en (gi el),bf Sm el,.ar k1 (.cells #[.string (bY []),.int .i64 0,.bool false,.map none,.map none,.bool false] 122),dv k2 (Wo it tv),Yl b2 r2 l3 left cur,dv k3 now]/\(AQ left now ir rv)) _ _ ⟨l3,none,rv,rfl,rfl,bG.pk [0,0,0,0,0,3,0,0],(AQ.init yw)⟩ (fun b4 z2 l4 gV iw K2 eC=>?_);obtain⟨left,cur,now,rfl,rfl,bL,vQ⟩:=iw;refine ntb (bt:=b2) (r:=r2) (l:=l3) (left:=left) (cur:=cur) 2 6 bL (by kernel_rfl) (fun BM=>?_) (fun q2 lf2 jk WZ dG=>?_)
   . have cx:=zJ bL 7 (b:=k3) (s:=now) (t:=(Wo ir rv)) (by kernel_rfl) (vQ.done BM);refine xe 17 4 cx fun jT cM=>xf 3 [4] cM (.agg #[.string nm,.n n,.bool true,.map (some k2),.map (some k3),.bool true]) ?_;obtain⟨S3,dt⟩:=Ns (nm:=nm) (n:=n) (b1:=k2) (b2:=k3) (a:=true) (o:=true) (t:=Wo it tv) (r:=Wo ir rv) cM [5,6] (by kernel_rfl);subst aq;exact Gx.ah (v':=.agg #[.string nm,.n n,.bool true,.map (some k2),.map (some k3),.bool true]) (by rfl) (hK S2 S3 k2 k3 _ (dt.pk [1,1,1,1,0]))
   refine VN (bt:=b2) (r:=r2) (l:=l3) (left:=lf2) (q:=q2) 10 6 dG (by kernel_rfl)<|deb (t:=120) (t':=3) (kt:=3) (et:=4) 7 7 k3 q2 now dG (by kernel_rfl) fun jZ ep=>?_;exact xi 2 _ (eC _ _ _ _ (by have:=WZ.length_eq;simp at this;omega) ⟨lf2,(some q2),now.filter fun n=>n != q2,rfl,rfl,ep.pk [0,0,0,0,0,0,0,0],(vQ.step WZ)⟩)
 refine VN (bt:=b1) (r:=r1) (l:=l1) (left:=lf1) (q:=q1) 10 7 bS (by kernel_rfl)<|deb (t:=120) (t':=3) (kt:=3) (et:=4) 7 8 k2 q1 now bS (by kernel_rfl) fun mn dI=>?_;exact xi 2 _ (aU _ _ _ _ (by have:=hp1.length_eq;simp at this;omega) ⟨lf1,(some q1),now.filter fun n=>n != q1,rfl,rfl,dI.pk [0,0,0,0,0,0,0,0,0],(vQ.step hp1)⟩)
end Go.Proofs.YtdmdecgoebnamaaGreat
namespace Go.aR
open Go.RowKit Go.Sx Go.Gx Go.dy
theorem CZ(s:Seen)(n:Nat):du (n:Int) (nB s)=s.get n:=by
 induction s with
 |nil=>rfl
 |cons p s ih=>
   obtain⟨m,v⟩:=p;rw[show nB ((m,v)::s)=((m:Int),v)::nB s from rfl,du,Seen.get,ih];by_cases e:m=n
   . subst e;simp
   . rw[if_neg (by omega),if_neg e]
theorem YX(v:Nat)(b:Bool):(v≠0&&b)=(decide ((v:Int)>(0:Int))&&b):=by
 congr 1;by_cases e:v=0
 . subst e;rfl
 . have:(v:Int)>0:=by omega
   have h2:0<v:=by omega
   simp[e,h2]
abbrev C4:=G×Nat×Seen×Seen
def CD(g:G)(u kd:Nat)(a b:Option Nat)(z:Nat)(d r:Seen)(R:C4):Prop:=∃g1 m,g.put kd a b z=some (g1,m)/\(g1,m,Seen.put d u m,r)=R
def CP(g:G)(l:List Nm)(v u kd:Nat)(a b:Option Nat)(d r:Seen)(R:C4):Prop:=∃g1 z,g.putRow l (some v)=some (g1,z)/\CD g1 u kd a b z d r R
def CC(k:Nat)(g:G)(u kd:Nat)(x:jw)(a b:Option Nat)(d r:Seen)(R:C4):Prop:=
 (kd≠6->CD g u kd a b 0 d r R)/\(kd=6->∃q l v,g.row[u]?=some q/\whole k g q []=some (l,v)/\
   ((v≠0&&x.rv.contains v)=false->CP g l v u kd a b d r R)/\
   ((v≠0&&x.rv.contains v)=true->(∀w,r.get v=some w->CP g l w u kd a b d r R)/\(r.get v=none->∃g0 w,g.eR=some (g0,w)/\CP g0 l w u kd a b d (Seen.put r v w) R)))
def CB(k:Nat)(g:G)(u kd:Nat)(x:jw)(a:Option Nat)(d r:Seen)(R:C4):Prop:=
 ∃y,g.b[u]?=some y/\(y=none->CC k g u kd x a none d r R)/\∀p,y=some p->∃g2 q d2 r2,copied k g p x d r=some (g2,q,d2,r2)/\CC k g2 u kd x a (some q) d2 r2 R
def CA(k:Nat)(g:G)(u kd:Nat)(x:jw)(d r:Seen)(R:C4):Prop:=
 ∃y,g.a[u]?=some y/\(y=none->CB k g u kd x none d r R)/\∀p,y=some p->∃g2 q d2 r2,copied k g p x d r=some (g2,q,d2,r2)/\CB k g2 u kd x (some q) d2 r2 R
theorem uH{k n : Nat}{g : G}{x : jw}{d r : Seen}{R : C4}(h : copied (k + 1) g n x d r = some R) :
   ∃u,find k g n=some u/\(∀q,d.get u=some q->(g,q,d,r)=R)/\(d.get u=none->∃kd,g.kind[u]?=some kd/\
     (kd=0->(x.tv.contains u=true->∃g1 m,g.var=some (g1,m)/\(g1,m,Seen.put d u m,r)=R)/\(x.tv.contains u=false->(g,u,Seen.put d u u,r)=R))/\(kd≠0->CA k g u kd x d r R)):=by
 unfold copied at h;split at h<;>try contradiction
 rename_i u hu;refine⟨u,hu,fun q e=>?_,fun e=>?_⟩
 . rw[e] at h;simpa using h
 . rw[e] at h;simp only at h;cases hk:g.kind[u]? with
   |none=>simp[hk] at h
   |some kd=>
     rw[hk] at h;refine⟨kd,rfl,fun e0=>?_,fun e0=>?_⟩
     . subst e0;simp only at h;refine⟨fun e1=>?_,fun e1=>?_⟩
       . rw[if_pos e1] at h;split at h<;>try contradiction
         rename_i g1 m hv;exact⟨g1,m,hv,by simpa using h⟩
       . rw[if_neg (by rw[e1];decide)] at h;simpa using h
     . let arg (y : G -> Option (Option Nat)) (s : G × Option Nat × Seen × Seen) : Option (G × Option Nat × Seen × Seen) := match y s.1 with
         |some none=>some (s.1,none,s.2.2.1,s.2.2.2)
         |some (some m)=>match copied k s.1 m x s.2.2.1 s.2.2.2 with
           |some (g,m,d,r)=>some (g,some m,d,r)
           |none=>none
         |none=>none
       have h:(match arg (fun g=>g.a[u]?) (g,none,d,r) with
         |some (g,a,d,r)=>(match arg (fun g=>g.b[u]?) (g,none,d,r) with
           |some (g,b,d,r)=>
             let rw:Option (G×Nat×Seen):=if kd=6 then(match g.row[u]? with
               |some q=>match whole k g q [] with
                 |some (ops,v)=>
                   let vv:Option (G×Nat×Seen):=if v≠0&&x.rv.contains v then(match r.get v with
                     |some p=>some (g,p,r)
                     |none=>match g.eR with
                       |some (g,w)=>some (g,w,Seen.put r v w)
                       |none=>none) else some (g,v,r)
                   match vv with
                   |some (g,v,r)=>match g.putRow ops (some v) with
                     |some (g,q)=>some (g,q,r)
                     |none=>none
                   |none=>none
                 |none=>none
               |none=>none) else some (g,0,r)
             (match rw with
             |some (g,q,r)=>match g.put kd a b q with
               |some (g,m)=>some (g,m,Seen.put d u m,r)
               |none=>none
             |none=>none)
           |none=>none)
         |none=>none)=some R:=by
         cases kd with
         |zero=>exact absurd rfl e0
         |succ kd=>exact h
       have hx : ∀(y : G -> Option (Option Nat))(g : G)(d r : Seen)(g2 : G)(a : Option Nat)(d2 r2 : Seen), arg y (g, none, d, r) = some (g2, a, d2, r2) ->
           ∃z,y g=some z/\(z=none->g=g2/\none=a/\d=d2/\r=r2)/\∀p,z=some p->∃q,copied k g p x d r=some (g2,q,d2,r2)/\some q=a:=by
         intro y g d r g2 a d2 r2 hh
         simp only[arg] at hh
         split at hh<;>try contradiction
         . rename_i hz;cases hh;exact⟨none,hz,fun _=>⟨rfl,rfl,rfl,rfl⟩,fun p e=>by cases e⟩
         . rename_i p hz
           split at hh<;>try contradiction
           rename_i g3 q d3 r3 hc
           cases hh
           exact⟨some p,hz,fun e=>(by cases e),fun p' e=>by cases e;exact⟨q,hc,rfl⟩⟩
       split at h<;>try contradiction
       rename_i g1 a d1 r1 hA;have hCB:CB k g1 u kd x a d1 r1 R:=by
         split at h<;>try contradiction
         rename_i g2 b d2 r2 hB;have hCC:CC k g2 u kd x a b d2 r2 R:=by
           refine⟨fun e6=>?_,fun e6=>?_⟩
           . simp only[if_neg e6] at h;split at h<;>try contradiction
             rename_i g3 m hp;exact⟨g3,m,hp,by simpa using h⟩
           . simp only[if_pos e6] at h;cases hr:g2.row[u]? with
             |none=>simp[hr] at h
             |some q=>
               simp only[hr] at h;cases hw:whole k g2 q [] with
               |none=>simp[hw] at h
               |some lv=>
                 obtain⟨l,v⟩:=lv;simp only[hw] at h
                 have fin : ∀(g3 : G)(v' : Nat)(r3 : Seen), (match (match g3.putRow l (some v') with
                     |some (g,q)=>some (g,q,r3)
                     |none=>(none:Option (G×Nat×Seen))) with
                   |some (g,q,r)=>(match g.put kd a b q with
                     |some (g,m)=>some (g,m,Seen.put d2 u m,r)
                     |none=>none)
                   |none=>none)=some R->CP g3 l v' u kd a b d2 r3 R:=by
                   intro g3 v' r3 hh
                   cases hp:g3.putRow l (some v') with
                   |none=>simp[hp] at hh
                   |some gz=>
                     obtain⟨g4,z⟩:=gz
                     simp only[hp] at hh
                     split at hh<;>try contradiction
                     rename_i g5 m WZ
                     exact⟨g4,z,hp,g5,m,WZ,by simpa using hh⟩
                 refine⟨q,l,v,rfl,hw,fun e=>?_,fun e=>⟨fun w ew=>?_,fun ew=>?_⟩⟩
                 . rw[e] at h;simp only[Bool.false_eq_true,if_false] at h;exact fin _ _ _ h
                 . rw[e] at h;simp only[if_true,ew] at h;exact fin _ _ _ h
                 . rw[e] at h;simp only[if_true,ew] at h;cases ho:g2.eR with
                   |none=>simp[ho] at h
                   |some gw=>
                     obtain⟨g0,w⟩:=gw;simp only[ho] at h;exact⟨g0,w,rfl,fin _ _ _ h⟩
         obtain⟨z,hz,h1,h2⟩:=hx (fun g=>g.b[u]?) _ _ _ _ _ _ _ hB;exact⟨z,hz,fun e=>by obtain⟨rfl,rfl,rfl,rfl⟩:=h1 e;exact hCC,fun p e=>by obtain⟨q,hq,rfl⟩:=h2 p e;exact⟨_,_,_,_,hq,hCC⟩⟩
       obtain⟨z,hz,h1,h2⟩:=hx (fun g=>g.a[u]?) _ _ _ _ _ _ _ hA;exact⟨z,hz,fun e=>by obtain⟨rfl,rfl,rfl,rfl⟩:=h1 e;exact hCB,fun p e=>by obtain⟨q,hq,rfl⟩:=h2 p e;exact⟨_,_,_,_,hq,hCB⟩⟩
def UO(g g':G):Prop:=∀i kd:Nat,g.kind[i]?=some kd->g'.kind[i]?=some kd
theorem UO.trans{a b c:G}(h:UO a b)(k:UO b c):UO a c:=fun i kd q=>k i kd (h i kd q)
theorem Lh{g g':G}{kd r n:Nat}{a b:Option Nat}(h:g.put kd a b r=some (g',n)):UO g g':=by
 unfold G.put at h;split at h
 . simp only[mf,jB,kj,Option.some.injEq,Prod.mk.injEq] at h;obtain⟨rfl,_⟩:=h;exact fun i k q=>by rw[List.getElem?_append_left (List.getElem?_eq_some_iff.1 q).1];exact q
 . cases h
theorem jq{g g':G}{l:List Nm}{nx:Option Nat}{n:Nat}(h:g.putRow l nx=some (g',n)):g'.kind=g.kind/\g'.a=g.a/\g'.b=g.b:=by
 unfold G.putRow at h;split at h
 . simp only[mf,jB,kj,Option.some.injEq,Prod.mk.injEq] at h;obtain⟨rfl,_⟩:=h;exact⟨rfl,rfl,rfl⟩
 . cases h
theorem R2{g:G}{u kd z:Nat}{a b:Option Nat}{d r:Seen}{R:C4}(h:CD g u kd a b z d r R):UO g R.1:=by
 obtain⟨g1,m,h1,rfl⟩:=h;exact Lh h1
theorem Ji{g:G}{l:List Nm}{v u kd:Nat}{a b:Option Nat}{d r:Seen}{R:C4}(h:CP g l v u kd a b d r R):UO g R.1:=by
 obtain⟨g1,z,h1,h2⟩:=h;exact fun i kd q=>R2 h2 i kd (by rw[(jq h1).1];exact q)
theorem oB:∀{k n:Nat}{g:G}{x:jw}{d r:Seen}{R:C4},copied k g n x d r=some R->UO g R.1
 |0,_,_,_,_,_,_,h=>by simp[copied] at h
 |k+1,n,g,x,d,r,R,h=>by
   obtain⟨u,_,h1,h2⟩:=uH h;cases hd:d.get u with
   |some q=>rw[<- h1 q hd];exact fun _ _ q=>q
   |none=>
     obtain⟨kd,_,h3,h4⟩:=h2 hd;by_cases e0:kd=0
     . obtain⟨h5,h6⟩:=h3 e0;cases ht:x.tv.contains u with
       |true=>obtain⟨g1,m,hv,rfl⟩:=h5 ht;exact Lh hv
       |false=>rw[<- h6 ht];exact fun _ _ q=>q
     . have hCC : ∀{g a b d r}, CC k g u kd x a b d r R -> UO g R.1 := by
         intro g a b d r hc;by_cases e6:kd=6
         . obtain⟨q,l,v,_,_,h7,h8⟩:=hc.2 e6;cases hb:(v≠0&&x.rv.contains v) with
           |false=>exact Ji (h7 hb)
           |true=>
             obtain⟨h9,h10⟩:=h8 hb;cases hr:r.get v with
             |some w=>exact Ji (h9 w hr)
             |none=>obtain⟨g0,w,ho,hp⟩:=h10 hr;exact fun i kd q=>Ji hp i kd (by rw[(jq ho).1];exact q)
         . exact R2 (hc.1 e6)
       have hCB:∀{g a d r},CB k g u kd x a d r R->UO g R.1:=by
         intro g a d r hc;obtain⟨y,_,h7,h8⟩:=hc;cases y with
         |none=>exact hCC (h7 rfl)
         |some p=>obtain⟨g2,q,d2,r2,hq,xH⟩:=h8 p rfl;exact(oB hq).trans (hCC xH)
       obtain⟨y,_,h7,h8⟩:=h4 e0;cases y with
       |none=>exact hCB (h7 rfl)
       |some p=>obtain⟨g2,q,d2,r2,hq,xH⟩:=h8 p rfl;exact(oB hq).trans (hCB xH)
theorem Em{k n : Nat}{g g' : G}{m : Nat}(h : opened (k + 1) g n = some (g', m)) :
   ∃u kd,find k g n=some u/\g.kind[u]?=some kd/\(kd≠6->g=g'/\u=m)/\(kd=6->∃p g1 b q l v g2 v2 g3 z a,g.b[u]?=some (some p)/\opened k g p=some (g1,b)/\g1.row[u]?=some q/\whole k g1 q []=some (l,v)/\
     ((v≠0/\g1=g2/\v=v2)∨(v=0/\g1.eR=some (g2,v2)))/\g2.putRow l (some v2)=some (g3,z)/\g3.a[u]?=some a/\g3.put 6 a (some b) z=some (g',m)):=by
 unfold opened at h;split at h<;>try contradiction
 rename_i u hu;split at h
 . rename_i hk;refine⟨u,6,hu,hk,fun e=>absurd rfl e,fun _=>?_⟩;split at h<;>try contradiction
   rename_i p hp;split at h<;>try contradiction
   rename_i g1 b ho;split at h<;>try contradiction
   rename_i q hq;split at h<;>try contradiction
   rename_i l v hw;simp only at h;split at h<;>try contradiction
   rename_i g2 v2 hv;split at h<;>try contradiction
   rename_i g3 z hr;split at h<;>try contradiction
   rename_i a ha;refine⟨p,g1,b,q,l,v,g2,v2,g3,z,a,hp,ho,hq,hw,?_,hr,ha,h⟩;by_cases e:v=0
   . rw[if_pos e] at hv;exact .inr ⟨e,hv⟩
   . rw[if_neg e] at hv;cases hv;exact .inl ⟨e,rfl,rfl⟩
 . rename_i kd hk h6;simp only[Option.some.injEq,Prod.mk.injEq] at h;exact⟨u,kd,hu,h6,fun _=>h,fun e=>absurd e (fun e=>hk e)⟩
 . cases h
theorem NF{k : Nat}{g g' : G}{x : jw}{m : Nat}(h : use k g x = some (g', m)) :
   ∃g1 n1,(x.all=true->∃d r,copied k g x.t x [] []=some (g1,n1,d,r))/\(x.all=false->g=g1/\x.t=n1)/\(x.eR=true->opened k g1 n1=some (g',m))/\(x.eR=false->g1=g'/\n1=m):=by
 unfold use at h;simp only at h;split at h<;>try contradiction
 rename_i g1 n1 hc;refine⟨g1,n1,fun e=>?_,fun e=>?_,fun e=>?_,fun e=>?_⟩
 . rw[if_pos e] at hc;split at hc<;>try contradiction
   rename_i g2 n2 d r hq;cases hc;exact⟨d,r,hq⟩
 . rw[if_neg (by rw[e];decide)] at hc;cases hc;exact⟨rfl,rfl⟩
 . rw[if_pos e] at h;exact h
 . rw[if_neg (by rw[e];decide)] at h;cases h;exact⟨rfl,rfl⟩
theorem R3{l:List Nv}{k:Nat}:(gi l).take (k*6)=gi (l.take k):=by
 unfold gi;induction l generalizing k with
 |nil=>simp
 |cons x l ih=>
   cases k with
   |zero=>simp
   |succ k=>
     rw[List.flatMap_cons,List.take_succ_cons,List.flatMap_cons,<-ih,List.take_append];rw[show(YT x).length=6 from rfl,List.take_of_length_le (by show(YT x).length<=_;rw[show(YT x).length=6 from rfl];omega),show(k+1)*6-6=k*6 by omega]
end Go.aR
