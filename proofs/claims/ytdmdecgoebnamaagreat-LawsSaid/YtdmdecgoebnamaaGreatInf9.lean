/- A part of the proof. -/
import Derived.Test.YtdmdecgoebnamaaGreatInfSet
import Derived.Test.YtdmdecgoebnamaaGreatRe6
import Derived.Test.YtdmdecgoebnamaaGreatSx7
import Derived.Test.YtdmdecgoebnamaaGreatYb
set_option linter.unusedVariables false
set_option linter.unusedSimpArgs false
namespace Go.Proofs.YtdmdecgoebnamaaGreat
open Go.RowKit Go.Sx Go.aS
attribute [local irreducible] Go.wpOps Go.Code.wp Go.wpOp Go.wpAnyH Go.Calls Go.Sx.Goal
set_option maxRecDepth 20000
theorem h_(bc bg : Nat)(eA : Option Addr)(en ec : Nat)(oA : Option Addr)(on oc : Nat)(fk : Nat)(fa : Int)(w : World)(K : Ending → World → Prop)(H0 : Sp w [Sx.cB bc bg eA en ec oA on oc fk fa])(hK : ∀ w', Hs w [Sx.cB bc bg eA en ec oA on oc fk fa] w' [Sx.cB bc bg eA en ec oA on oc fk fa] → K (.returned (.bool (fk == 0))) w') :
   Calls Tryz.prog 55 #[.p bc] w K:=by
 obtain⟨L0,ak,H⟩:=Sx.bX H0;refine xu (vs:=[.p bc]) 9 Tryz.func55<|xb 11 0 H<|xh 5 [] H (.bool ((fk:Int)==(0:Int))) ?_;subst ak;exact Gx.af (v':=.bool (fk==0)) (by rw[L5]) (hK  _ (H.pk [0]))
theorem jd(bc bg : Nat)(eA : Option Addr)(en ec : Nat)(oA : Option Addr)(on oc : Nat)(fk : Nat)(fa : Int)(kd : Nat)(at_ : Int)(w : World)(K : Ending → World → Prop)(H0 : Sp w [Sx.cB bc bg eA en ec oA on oc fk fa])(hK : ∀ w', Hs w [Sx.cB bc bg eA en ec oA on oc fk fa] w' [.al bc (.cells #[.p bg, .slice eA en ec, .slice oA on oc, .n (if fk = 0 then kd else fk), .int .i64 (if fk = 0 then at_ else fa)] 115)] → K (.returned (.tuple #[])) w') :
   Calls Tryz.prog 56 #[.p bc,.n kd,.int .i64 at_] w K:=by
 obtain⟨L0,ak,H⟩:=Sx.bX H0;refine xu (vs:=[.p bc,.n kd,.int .i64 at_]) 14 Tryz.func56 ?_;refine x0 3 [0] H (fun Hp R hZ=>h_ bc bg eA en ec oA on oc fk fa w R Hp  (fun w1 G1=>hZ _ _ _ G1 fun H1=>?_));refine xl 2 (fk==0) (fun lL=>?_) (fun lL=>?_)
 · have h0:fk=0:=by simpa using lL
   rw[if_pos h0,if_pos h0] at hK;refine xd 7 0 H1 fun w2 H2=>xh 1 [] H2 (.tuple #[]) ?_;subst ak;exact Gx.af (v':=.tuple #[]) (by rfl) (hK  _ (H2.pk [0]))
 have h0:fk≠0:=by simpa using lL
 rw[if_neg h0,if_neg h0] at hK;refine xh 1 [] H1 (.tuple #[]) ?_;subst ak;exact Gx.af (v':=.tuple #[]) (by rfl) (hK  _ (H1.pk [0]))
theorem UK(bc bg : Nat)(eA : Option Addr)(en ec : Nat)(oA : Option Addr)(on oc : Nat)(m n : Nat)(at_ : Int)(S : Nat → Prop)(c : Ck)(w : World)(K : Ending → World → Prop)(H0 : Sp w [Sx.cB bc bg eA en ec oA on oc c.fk c.fa, GI S bg c.g])(k : Nat)(c' : Ck)(hf : c.row k m n at_ = some c')(hK : ∀(S' : Nat → Prop) w', Hs w [Sx.cB bc bg eA en ec oA on oc c.fk c.fa, GI S bg c.g] w' [Sx.cB bc bg eA en ec oA on oc c'.fk c'.fa, GI S' bg c'.g] → K (.returned (.tuple #[])) w') :
   Calls Tryz.prog 125 #[.p bc,.n m,.n n,.int .i64 at_] w K:=by
 obtain⟨L0,ak,H⟩:=Sx.bX H0;refine xu (vs:=[.p bc,.n m,.n n,.int .i64 at_]) 24 Tryz.func125 ?_;obtain ⟨W9,m_⟩:=Mb hf;refine x0 4 [0] H (fun Hp R hZ=>h_ bc bg eA en ec oA on oc c.fk c.fa w R Hp  (fun w1 G1=>hZ _ _ _ G1 fun H1=>?_));refine xl 3 (!(c.fk==0)) (fun eU=>?_) (fun eU=>?_)
 · have h0:c.fk≠0:=by simpa using eU
   obtain rfl:=W9 h0;refine xh 2 [] H1 (.tuple #[]) ?_;subst ak;exact Gx.af (v':=.tuple #[]) (by rfl) (hK S _ (H1.pk [0,0]))
 have h0:c.fk=0:=by simpa using eU
 obtain⟨g2,s,W6,u9,NN⟩:=m_ h0;refine xb 7 0 H1 ?_;refine x0 2 [1] H1 (fun Hp R hZ=>Am S bg c.g m n w1 R Hp _ g2 s W6 (fun S1 w2 G2=>hZ _ _ _ G2 fun H2=>?_));refine xl 9 (!s) (fun iK=>?_) (fun iK=>?_)
 · have hs:s=false:=by simpa using iK
   obtain rfl:=u9 hs;refine x0 3 [1] H2 (fun Hp R hZ=>jd bc bg eA en ec oA on oc c.fk c.fa 9 at_ w2 R Hp  (fun w3 G3=>hZ _ _ _ G3 fun H4=>?_));rw [if_pos h0,if_pos h0] at H4;refine xh 1 [] H4 (.tuple #[]) ?_;subst ak;exact Gx.af (v':=.tuple #[]) (by rfl) (hK S1 _ (H4.pk [0,0]))
 have hs:s=true:=by simpa using iK
 obtain rfl:=NN hs;refine xh 1 [] H2 (.tuple #[]) ?_;subst ak;exact Gx.af (v':=.tuple #[]) (by rfl) (hK S1 _ (H2.pk [1,0]))
theorem gR(bc bg : Nat)(eA : Option Addr)(en ec : Nat)(oA : Option Addr)(on oc : Nat)(m n : Nat)(at_ : Int)(S : Nat → Prop)(c : Ck)(w : World)(K : Ending → World → Prop)(H0 : Sp w [Sx.cB bc bg eA en ec oA on oc c.fk c.fa, GI S bg c.g])(k : Nat)(c' : Ck)(hf : c.same k m n at_ = some c')(hK : ∀(S' : Nat → Prop) w', Hs w [Sx.cB bc bg eA en ec oA on oc c.fk c.fa, GI S bg c.g] w' [Sx.cB bc bg eA en ec oA on oc c'.fk c'.fa, GI S' bg c'.g] → K (.returned (.tuple #[])) w') :
   Calls Tryz.prog 90 #[.p bc,.n m,.n n,.int .i64 at_] w K:=by
 obtain⟨L0,ak,H⟩:=Sx.bX H0;refine xu (vs:=[.p bc,.n m,.n n,.int .i64 at_]) 40 Tryz.func90 ?_;obtain ⟨W9,m_⟩:=Hx hf;refine x0 4 [0] H (fun Hp R hZ=>h_ bc bg eA en ec oA on oc c.fk c.fa w R Hp  (fun w1 G1=>hZ _ _ _ G1 fun H1=>?_));refine xl 3 (!(c.fk==0)) (fun eU=>?_) (fun eU=>?_)
 · have h0:c.fk≠0:=by simpa using eU
   obtain rfl:=W9 h0;refine xh 2 [] H1 (.tuple #[]) ?_;subst ak;exact Gx.af (v':=.tuple #[]) (by rfl) (hK S _ (H1.pk [0,0]))
 have h0:c.fk=0:=by simpa using eU
 obtain⟨g2,s,gO,u9,NN⟩:=m_ h0;refine xb 7 0 H1 ?_;refine x0 2 [1] H1 (fun Hp R hZ=>(W7 _) S bg c.g m n w1 R Hp g2 s gO (fun S1 w2 G2=>hZ _ _ _ G2 fun H2=>?_));refine ye 8 21 (!s) (fun tW=>?_) (fun tW=>?_)
 · have hs:s=false:=by simpa using tW
   obtain rfl:=u9 hs;refine x0 21 [1] H2 (fun Hp R hZ=>jd bc bg eA en ec oA on oc c.fk c.fa 8 at_ w2 R Hp  (fun w3 G3=>hZ _ _ _ G3 fun H4=>?_));rw [if_pos h0,if_pos h0] at H4;refine xh 1 [] H4 (.tuple #[]) ?_;subst ak;exact Gx.af (v':=.tuple #[]) (by rfl) (hK S1 _ (H4.pk [0,0]))
 have hs:s=true:=by simpa using tW
 obtain⟨r1,z1,iE,hn3,Sr⟩:=NN hs;refine xb 3 1 H2 ?_;refine x0 1 [0] H2 (fun Hp R hZ=>HU S1 bg g2 m w2 R Hp _ r1 z1 iE (fun S2 w4 G4=>hZ _ _ _ G4 fun H5=>?_));refine ye 2 29 r1 (fun xT=>?_) (fun xT=>?_)
 · obtain rfl:=hn3 xT;refine x0 13 [1] H5 (fun Hp R hZ=>jd bc bg eA en ec oA on oc c.fk c.fa 8 at_ w4 R Hp  (fun w5 G5=>hZ _ _ _ G5 fun H7=>?_));rw [if_pos h0,if_pos h0] at H7;refine xh 1 [] H7 (.tuple #[]) ?_;subst ak;exact Gx.af (v':=.tuple #[]) (by rfl) (hK S2 _ (H7.pk [0,0]))
 obtain⟨r2,z2,rQ,Ss,hn6⟩:=Sr xT;refine xb 3 1 H5 ?_;refine x0 1 [0] H5 (fun Hp R hZ=>HU S2 bg g2 n w4 R Hp _ r2 z2 rQ (fun S3 w6 G6=>hZ _ _ _ G6 fun H8=>?_));refine xl 3 r2 (fun Ad=>?_) (fun Ad=>?_)
 · obtain rfl:=Ss Ad;refine x0 3 [1] H8 (fun Hp R hZ=>jd bc bg eA en ec oA on oc c.fk c.fa 8 at_ w6 R Hp  (fun w7 G7=>hZ _ _ _ G7 fun aY=>?_));rw [if_pos h0,if_pos h0] at aY;refine xh 1 [] aY (.tuple #[]) ?_;subst ak;exact Gx.af (v':=.tuple #[]) (by rfl) (hK S3 _ (aY.pk [0,0]))
 obtain rfl:=hn6 Ad;refine xh 1 [] H8 (.tuple #[]) ?_;subst ak;exact Gx.af (v':=.tuple #[]) (by rfl) (hK S3 _ (H8.pk [1,0]))
theorem Ii(bc bg : Nat)(eA : Option Addr)(en ec : Nat)(oA : Option Addr)(on oc : Nat)(n : Nat)(at_ : Int)(S : Nat → Prop)(c : Ck)(w : World)(K : Ending → World → Prop)(H0 : Sp w [Sx.cB bc bg eA en ec oA on oc c.fk c.fa, GI S bg c.g])(k : Nat)(c' : Ck)(hf : c.rm k n at_ = some c')(hK : ∀(S' : Nat → Prop) w', Hs w [Sx.cB bc bg eA en ec oA on oc c.fk c.fa, GI S bg c.g] w' [Sx.cB bc bg eA en ec oA on oc c'.fk c'.fa, GI S' bg c'.g] → K (.returned (.tuple #[])) w') :
   Calls Tryz.prog 58 #[.p bc,.n n,.int .i64 at_] w K:=by
 obtain⟨L0,ak,H⟩:=Sx.bX H0;refine xu (vs:=[.p bc,.n n,.int .i64 at_]) 20 Tryz.func58 ?_;obtain ⟨W9,m_⟩:=Mc hf;refine x0 3 [0] H (fun Hp R hZ=>h_ bc bg eA en ec oA on oc c.fk c.fa w R Hp  (fun w1 G1=>hZ _ _ _ G1 fun H1=>?_));refine ye 1 8 (c.fk==0) (fun W_=>?_) (fun W_=>?_)
 · have h0:c.fk=0:=by simpa using W_
   obtain⟨p,z,hp,u9,NN⟩:=m_ h0;refine xb 3 0 H1 ?_;refine x0 1 [1] H1 (fun Hp R hZ=>Sz S bg c.g n w1 R Hp _ p z hp (fun S1 w2 G2=>hZ _ _ _ G2 fun H2=>?_));refine xl 4 (decide ((p:Int)>(300:Int))) (fun cU=>?_) (fun cU=>?_)
   · have mP:=of_decide_eq_true cU;obtain rfl:=u9 (by omega);refine x0 3 [1] H2 (fun Hp R hZ=>jd bc bg eA en ec oA on oc c.fk c.fa 10 at_ w2 R Hp  (fun w3 G3=>hZ _ _ _ G3 fun H4=>?_));rw [if_pos h0,if_pos h0] at H4;refine xh 1 [] H4 (.tuple #[]) ?_;subst ak;exact Gx.af (v':=.tuple #[]) (by rfl) (hK S1 _ (H4.pk [0,0]))
   have mP:=of_decide_eq_false cU;obtain rfl:=NN (by omega);refine xh 1 [] H2 (.tuple #[]) ?_;subst ak;exact Gx.af (v':=.tuple #[]) (by rfl) (hK S1 _ (H2.pk [1,0]))
 have h0:c.fk≠0:=by simpa using W_
 obtain rfl:=W9 h0;refine xh 12 [] H1 (.tuple #[]) ?_;subst ak;exact Gx.af (v':=.tuple #[]) (by rfl) (hK S _ (H1.pk [0,0]))
def s7(k : Nat) : Prop := ∀(Sy : Nat → Prop)(kd u row : Nat)(ops : List Nm)(args : List Ty)(p : Tv)(w : World)(K : Ending → World → Prop)(H0 : Sp w [lV Sy p (Ty.mk kd u row ops args)])(m : Nat)(hf : jP k (Ty.mk kd u row ops args) = some m)(hK : ∀ w', Hs w [lV Sy p (Ty.mk kd u row ops args)] w' [lV Sy p (Ty.mk kd u row ops args)] → K (.returned (.int .i64 (m : Int))) w'),
   Calls Tryz.prog 86 #[.agg #[.n kd,.n u,.n row,.slice p.A p.na p.ca,.slice p.B p.nb p.cb]] w K
set_option maxHeartbeats 4000000 in
theorem F5(k:Nat)(ih:s7 k):s7 (k+1):=by
 intro Sy kd u row ops args p w K H0 m hf hK;obtain ⟨L0,ak,H⟩:=Sx.bX H0;refine xu (vs:=[.agg #[.n kd,.n u,.n row,.slice p.A p.na p.ca,.slice p.B p.nb p.cb]]) 25 Tryz.func86 ?_;obtain ⟨_,hna,hca,Zc,_⟩:=(kI (S:=Sy) (p:=p) (t:=Ty.mk kd u row ops args) H 0 (by kernel_rfl)).open;have hf0:=Js hf;refine xf 2 H fun k1 w1 H1=>xb 6 1 H1<|Sx.vi 1 ((1:Int)+(p.na:Int)) ((1+p.na:Nat):Int) (Gx.bj (by omega) (by omega)) ?_;refine xz 10 (fun z l' w'=>∃(i:Nat) (c:Nat),l'=[(1,.p k1),(3,.n c),(4,.n i)]∧z=args.length-i∧Hs w L0 w' [lV Sy p (Ty.mk kd u row ops args),.al k1 (.cells #[.n kd,.n u,.n row,.slice p.A p.na p.ca,.slice p.B p.nb p.cb] 96)]∧(i≤args.length)∧((args.drop i).foldl (pF k) (some c)=some m)) _ _ ⟨0,(1+p.na),rfl,rfl,H1,(Nat.zero_le _),(by rw[hna];exact hf0)⟩ (fun b1 z1 l1 w2 bQ K1 aN=>?_);obtain ⟨i,c,rfl,rfl,H2,hi,sj⟩:=bQ;refine xb 5 1 H2 ?_;refine xl 4 (decide ((i:Int)<(p.nb:Int))) (fun eR=>?_) (fun eR=>?_)
 · have rR:=of_decide_eq_true eR;obtain ⟨t,j,ht,hpj,hle,ag0⟩:=Rm sj (by omega);obtain ⟨nr,u1,eM,jZ,fi⟩:=t;refine xb 7 1 H2 ?_;obtain ⟨q1,a1,fY,m_,zm⟩:=(kI (S:=Sy) (p:=p) (t:=Ty.mk kd u row ops args) H2 0 (by kernel_rfl)).open.2.2.2.2 i _ ht;refine xv 1 a1 i 5 p.nb p.cb fY (by omega)<|xr (c:=5) (t:=96) 0 [.n nr,.n u1,.n eM,.slice q1.A q1.na q1.ca,.slice q1.B q1.nb q1.cb] (.agg #[.n nr,.n u1,.n eM,.slice q1.A q1.na q1.ca,.slice q1.B q1.nb q1.cb]) m_ ?_;have H3:=H2.ro 0 (S:=Sy) (A:=fun w=>cO w Sy p (Ty.mk kd u row ops args)) (B:=fun w=>cO w Sy q1 (Ty.mk nr u1 eM jZ fi)) (by kernel_rfl) zm (eQ _ _ _);refine x0 0 [2] H3 (fun Hp R hZ=>ih Sy nr u1 eM jZ fi q1 w2 R Hp j hpj (fun w3 G1=>hZ _ _ _ G1 fun H4=>?_));refine Sx.vi 0 ((c:Int)+(j:Int)) ((c+j:Nat):Int) (Gx.bj (by omega) (by omega))<|Sx.vi 6 ((i:Int)+(1:Int)) ((i+1:Nat):Int) (Gx.bj (by omega) (by omega)) ?_;exact xj 2 _ (aN _ _ _ _ (by omega) ⟨(i+1),(c+j),rfl,rfl,H4.pk [1,1],(by omega),ag0⟩)
 have rR:=of_decide_eq_false eR;rw [List.drop_of_length_le (by omega)] at sj;obtain rfl:c=m:=by simpa using sj
 refine xh 12 [] H2 (.n c) ?_;subst ak;exact Gx.af (v':=.n c) (by rfl) (hK  _ (H2.pk [0]))
theorem DR(k:Nat):s7 k:=by
 induction k with
 |zero=>intro Sy kd u row ops args p w K H0 m hf;exact absurd hf (by simp[jP])
 |succ k ih=>exact F5 k ih
end Go.Proofs.YtdmdecgoebnamaaGreat
namespace Go.Proofs.YtdmdecgoebnamaaGreat
open Go.RowKit Go.Sx Go.aS Go.fO
attribute [local irreducible] Go.wpOps Go.Code.wp Go.wpOp Go.wpAnyH Go.Calls Go.Sx.Goal
set_option maxRecDepth 20000
theorem SJ(kd na : Nat)(nm : Nm)(nn : Int)(ks : List Nd)(nA : Option Addr)(nc : Nat)(w : World)(K : Ending → World → Prop)(H0 : Sp w [])(hK : ∀ w', Hs w [] w' [] → K (.returned (.bool (value (.mk kd na nm nn ks)))) w') :
   Calls Tryz.prog 126 #[Sx.nA kd na nm nn nA ks nc] w K:=by
 obtain⟨L0,ak,H⟩:=Sx.bX H0;refine xu (vs:=[Sx.nA kd na nm nn nA ks nc]) 31 Tryz.func126<|xf 2 H fun k1 w1 H1=>?_;refine yd 3 (fun l' w'=>l'=[(2,.bool (((((((kd:Int)==(3:Int))||((kd:Int)==(4:Int)))||((kd:Int)==(5:Int)))||((kd:Int)==(15:Int)))||((kd:Int)==(6:Int)))||((kd:Int)==(7:Int))))]∧w1=w') (fun K1 aN=>?_) (fun b1 l1 w2 bQ=>?_)
 · refine xb 2 0 H1 ?_;refine ye 2 6 ((kd:Int)==(3:Int)) (fun F6=>?_) (fun F6=>?_)
   · exact xj 26 _ (aN _ _ _ ⟨rfl,rfl⟩) (h2:=(by rw[F6];try kernel_rfl))
   refine xb 1 0 H1 ?_;refine ye 3 11 ((kd:Int)==(4:Int)) (fun gm=>?_) (fun gm=>?_)
   · exact xj 21 _ (aN _ _ _ ⟨rfl,rfl⟩) (h2:=(by rw[F6,gm];try kernel_rfl))
   refine xb 1 0 H1 ?_;refine ye 3 16 ((kd:Int)==(5:Int)) (fun rK=>?_) (fun rK=>?_)
   · exact xj 16 _ (aN _ _ _ ⟨rfl,rfl⟩) (h2:=(by rw[F6,gm,rK];try kernel_rfl))
   refine xb 1 0 H1 ?_;refine ye 3 21 ((kd:Int)==(15:Int)) (fun tW=>?_) (fun tW=>?_)
   · exact xj 11 _ (aN _ _ _ ⟨rfl,rfl⟩) (h2:=(by rw[F6,gm,rK,tW];try kernel_rfl))
   refine xb 1 0 H1 ?_;refine ye 3 26 ((kd:Int)==(6:Int)) (fun N3=>?_) (fun N3=>?_)
   · exact xj 6 _ (aN _ _ _ ⟨rfl,rfl⟩) (h2:=(by rw[F6,gm,rK,tW,N3];try kernel_rfl))
   refine xb 1 0 H1 ?_;exact xj 4 _ (aN _ _ _ ⟨rfl,rfl⟩) (h2:=(by rw[F6,gm,rK,tW,N3];try kernel_rfl))
 obtain⟨rfl,rfl⟩:=bQ;refine xh 1 [] H1 (.bool (((((((kd:Int)==(3:Int))||((kd:Int)==(4:Int)))||((kd:Int)==(5:Int)))||((kd:Int)==(15:Int)))||((kd:Int)==(6:Int)))||((kd:Int)==(7:Int)))) ?_;subst ak;exact Gx.af (v':=.bool (value (.mk kd na nm nn ks))) (by show Value.bool (kd==3||kd==4||kd==5||kd==15||kd==6||kd==7)=_;rw[Jt kd 3 3 rfl,Jt kd 4 4 rfl,Jt kd 5 5 rfl,Jt kd 15 15 rfl,Jt kd 6 6 rfl,Jt kd 7 7 rfl]) (hK _ (H1.pk []))
def BP(k : Nat) : Prop := ∀(Q : Nat → Prop)(kd na : Nat)(nm : Nm)(nn : Int)(ks : List Nd)(nA : Option Addr)(nc : Nat)(w : World)(K : Ending → World → Prop)(H0 : Sp w [eK Q ks nA nc])(t : Ty)(hf : qQ k (.mk kd na nm nn ks) = some t)(hK : ∀ (Sy : Nat → Prop) (p : Tv) w', Hs w [eK Q ks nA nc] w' [eK Q ks nA nc, lV Sy p t] → K (.returned (.agg (Fk t p).toArray)) w'),
   Calls Tryz.prog 85 #[Sx.nA kd na nm nn nA ks nc] w K
set_option maxHeartbeats 8000000 in
theorem N4(k:Nat)(ih:BP k):BP (k+1):=by
 intro Q kd na nm nn ks nA nc w K H0 t hf hK;obtain ⟨L0,ak,H⟩:=Sx.bX H0;refine xu (vs:=[Sx.nA kd na nm nn nA ks nc]) 69 Tryz.func85 ?_;obtain ⟨BI,hy2,hy3,hy4,hy5⟩:=Ju hf;refine xf 2 H fun k1 w1 H1=>xf 0 H1 fun k2 w2 H2=>xb 6 1 H2 ?_;refine xl 9 ((kd:Int)==(24:Int)) (fun lL=>?_) (fun lL=>?_)
 · have N5:=Gx.k1 lL;obtain rfl:=BI (by omega);refine xd 3 2 H2 fun w3 H3=>xh 5 [2] H3 (.agg #[.int .i64 1,.int .i64 0,.int .i64 0,.slice none 0 0,.slice none 0 0]) ?_;have H4:=H3.add (Gx.Ext.refl _) (it:=.own 96 5 none 0 0 []) (World.ownsRow_nil _ _ _ _) (fun _ h=>by cases h);have H5:=H4.add (Gx.Ext.refl _) (it:=bf (fun _=>False) none []) dw (fun _ h=>h.elim);obtain ⟨S1,H6⟩:=cZ (e:=96) (cap:=0) (n:=0) (A:=none) (B:=none) (Sa:=(fun _=>False)) (l:=[]) (ops:=[]) (na:=0) (ca:=0) H5 [3,3] 1 0 0 (by kernel_rfl) rfl ⟨Nat.le_refl _,by simp,by simp⟩ rfl;subst ak;exact Gx.af (by rfl) (hK S1 ⟨none,0,0,none,0,0⟩ _ (H6.pk [1,0]))
 refine xl 6 ((kd:Int)==(25:Int)) (fun iI=>?_) (fun iI=>?_)
 · have N5:=Gx.k0 lL;have gX:=Gx.k1 iI;obtain rfl:=hy2 (by omega);refine xd 3 2 H2 fun w4 H7=>xh 5 [2] H7 (.agg #[.int .i64 2,.int .i64 0,.int .i64 0,.slice none 0 0,.slice none 0 0]) ?_;have H8:=H7.add (Gx.Ext.refl _) (it:=.own 96 5 none 0 0 []) (World.ownsRow_nil _ _ _ _) (fun _ h=>by cases h);have H9:=H8.add (Gx.Ext.refl _) (it:=bf (fun _=>False) none []) dw (fun _ h=>h.elim);obtain ⟨S2,aY⟩:=cZ (e:=96) (cap:=0) (n:=0) (A:=none) (B:=none) (Sa:=(fun _=>False)) (l:=[]) (ops:=[]) (na:=0) (ca:=0) H9 [3,3] 2 0 0 (by kernel_rfl) rfl ⟨Nat.le_refl _,by simp,by simp⟩ rfl;subst ak;exact Gx.af (by rfl) (hK S2 ⟨none,0,0,none,0,0⟩ _ (aY.pk [1,0]))
 refine xl 6 ((kd:Int)==(26:Int)) (fun eR=>?_) (fun eR=>?_)
 · have N5:=Gx.k0 lL;have gX:=Gx.k0 iI;have rR:=Gx.k1 eR;obtain rfl:=hy3 (by omega);refine xd 3 2 H2 fun w5 aZ=>xh 5 [2] aZ (.agg #[.int .i64 3,.int .i64 0,.int .i64 0,.slice none 0 0,.slice none 0 0]) ?_;have aP:=aZ.add (Gx.Ext.refl _) (it:=.own 96 5 none 0 0 []) (World.ownsRow_nil _ _ _ _) (fun _ h=>by cases h);have bF:=aP.add (Gx.Ext.refl _) (it:=bf (fun _=>False) none []) dw (fun _ h=>h.elim);obtain ⟨S3,bq⟩:=cZ (e:=96) (cap:=0) (n:=0) (A:=none) (B:=none) (Sa:=(fun _=>False)) (l:=[]) (ops:=[]) (na:=0) (ca:=0) bF [3,3] 3 0 0 (by kernel_rfl) rfl ⟨Nat.le_refl _,by simp,by simp⟩ rfl;subst ak;exact Gx.af (by rfl) (hK S3 ⟨none,0,0,none,0,0⟩ _ (bq.pk [1,0]))
 refine xl 6 ((kd:Int)==(27:Int)) (fun cU=>?_) (fun cU=>?_)
 · have N5:=Gx.k0 lL;have gX:=Gx.k0 iI;have rR:=Gx.k0 eR;have mP:=Gx.k1 cU;obtain ⟨dP,tX,Ij,SK,rfl⟩:=hy4 (by omega) (by omega) (by omega) (by omega);obtain ⟨kW,kX,eN,kY,kZ⟩:=dP;obtain ⟨B1,d_,a1,fY,bu⟩:=aJ (Q:=Q) (ks:=ks) (A:=nA) (c:=nc) (i:=0) H2 0 (by kernel_rfl) Ij;obtain ⟨oV,oW,oX,yQ,yR⟩:=tX;refine xb 3 1 bu<|xv 0 a1 0 5 ks.length nc fY (ar Ij)<|xr (c:=5) (t:=62) 0 (Sx.nC kW kX eN kY B1 kZ d_) (Sx.nA kW kX eN kY B1 kZ d_) (aD (Q:=Q) (a:=a1.add (0*5)) (n:=5) (cs:=(Sx.nC kW kX eN kY B1 kZ d_)) bu 3 (by kernel_rfl)) ?_;refine x0 0 [4] bu (fun Hp R hZ=>ih Q kW kX eN kY kZ B1 d_ w2 R Hp _ SK (fun S4 p1 w6 G1=>hZ _ _ _ G1 fun bS=>?_));refine xf 0 bS fun k3 w7 bx=>xd 1 4 bx fun w8 cV=>xh 5 [4] cV (.agg #[.int .i64 4,.int .i64 0,.int .i64 0,.slice none 0 0,.slice (some ⟨k3,0,none⟩) 1 1]) ?_;have bZ:=Hs.tI (k:=k3) (e:=96) (cs:=#[.n oV,.n oW,.n oX,.slice p1.A p1.na p1.ca,.slice p1.B p1.nb p1.cb]) cV 6 5 1 (by kernel_rfl) (by rfl) (by omega);have cj:=bZ.add (Gx.Ext.refl _) (it:=bf (fun _=>False) none []) dw (fun _ h=>h.elim);obtain ⟨S5,cC⟩:=cZ (e:=96) (cap:=1) (n:=1) (A:=none) (B:=(some ⟨k3,0,none⟩)) (Sa:=(fun _=>False)) (l:=[(p1,Ty.mk oV oW oX yQ yR,S4)]) (ops:=[]) (na:=0) (ca:=0) cj [6,6,1] 4 0 0 (by kernel_rfl) rfl ⟨Nat.le_refl _,by simp,by simp⟩ rfl;subst ak;exact Gx.af (by rfl) (hK S5 ⟨none,0,0,(some ⟨k3,0,none⟩),1,1⟩ _ (cC.pk [2,0]))
 refine xl 6 ((kd:Int)==(28:Int)) (fun jt=>?_) (fun jt=>?_)
 · have N5:=Gx.k0 lL;have gX:=Gx.k0 iI;have rR:=Gx.k0 eR;have mP:=Gx.k0 cU;have Dr:=Gx.k1 jt;obtain ⟨dP,dR,tX,tY,Ij,Ik,SK,SL,hp5,hp6⟩:=hy5 (by omega) (by omega) (by omega) (by omega);obtain ⟨kW,kX,eN,kY,kZ⟩:=dP;obtain ⟨B2,fM,a2,jM,c_⟩:=aJ (Q:=Q) (ks:=ks) (A:=nA) (c:=nc) (i:=0) H2 0 (by kernel_rfl) Ij;obtain ⟨jg,f_,jh,ji,jk⟩:=dR;obtain ⟨B3,ib,a3,xE,dJ⟩:=aJ (Q:=Q) (ks:=ks) (A:=nA) (c:=nc) (i:=1) c_ 0 (by kernel_rfl) Ik;obtain ⟨oV,oW,oX,yQ,yR⟩:=tX;obtain ⟨qF,qG,qH,Ap,Ar⟩:=tY;obtain rfl:=hp5 (by omega);refine xw 1 dJ [1,3,5] [] (LJ:=[.al k1 (.cells #[.n kd,.n na,.string nm,.int .i64 nn,.slice nA ks.length nc] 62),dI Q (a2.add (0*5)) 5 (Sx.nC kW kX eN kY B2 kZ fM),dI Q (a3.add (1*5)) 5 (Sx.nC jg f_ jh ji B3 jk ib)]) (by kernel_rfl) fun w9 cW=>xm [(0,none),(1,some (0,[]))] (cW.sb [1,2,3])<|yi 2 [] a2 0 5 ks.length nc jM (ar Ij) (cW.sb [1,2,3])<|yg (c:=5) (t:=62) 3 [] (Sx.nC kW kX eN kY B2 kZ fM) (Sx.nA kW kX eN kY B2 kZ fM) (fun w' hs=>(fZ (Q:=Q) (a:=a2.add (0*5)) (n:=5) (cs:=(Sx.nC kW kX eN kY B2 kZ fM)) hs 1 (by kernel_rfl))) (cW.sb [1,2,3])<|xm [(5,none),(6,some (0,[]))] (cW.sb [1,2,3])<|yi 7 [] a3 1 5 ks.length nc xE (ar Ik) (cW.sb [1,2,3]) ?_;refine yg (c:=5) (t:=62) 8 [] (Sx.nC jg f_ jh ji B3 jk ib) (Sx.nA jg f_ jh ji B3 jk ib) (fun w' hs=>(fZ (Q:=Q) (a:=a3.add (1*5)) (n:=5) (cs:=(Sx.nC jg f_ jh ji B3 jk ib)) hs 2 (by kernel_rfl))) (cW.sb [1,2,3])<|xg ?_;intro gy;refine xi 4 ?_;refine x0 0 [4] cW (fun Hp R hZ=>ih Q kW kX eN kY kZ B2 fM w9 R Hp _ SK (fun S6 p2 cJ G2=>hZ _ _ _ G2 fun cK=>?_));refine xe (x:=gy) 4 (cK.sb [3,4,4])<|xg ?_;intro im;refine xi 9 ?_;refine x0 0 [7] cK (fun Hp R hZ=>ih Q jg f_ jh ji jk B3 ib cJ R Hp _ SL (fun S7 p3 fU G3=>hZ _ _ _ G3 fun ef=>?_));refine xe (x:=im) 9 (ef.sb [5,6,6])<|xg ?_;intro kc;refine xi 10<|xf 0 ef fun k4 gV eL=>xe (x:=kc) 10 (eL.sb [5,6,6])<|xm [(11,none)] (eL.sb [5,6,6])<|xg ?_;intro o5;refine xi 12<|xd 0 6 eL fun iq iU=>xe (x:=o5) 12 (iU.sb [5,6,6])<|xt<|xh 4 [6] iU (.agg #[.int .i64 5,.int .i64 0,.int .i64 0,.slice none 0 0,.slice (some ⟨k4,0,none⟩) 2 2]) ?_;have eC:=Hs.tI (k:=k4) (e:=96) (cs:=#[.n oV,.n oW,.n oX,.slice p2.A p2.na p2.ca,.slice p2.B p2.nb p2.cb,.n qF,.n qG,.n qH,.slice p3.A p3.na p3.ca,.slice p3.B p3.nb p3.cb]) iU 9 5 2 (by kernel_rfl) (by rfl) (by omega);have dz:=eC.add (Gx.Ext.refl _) (it:=bf (fun _=>False) none []) dw (fun _ h=>h.elim);obtain ⟨S8,dS⟩:=cZ (e:=96) (cap:=2) (n:=2) (A:=none) (B:=(some ⟨k4,0,none⟩)) (Sa:=(fun _=>False)) (l:=[(p2,Ty.mk oV oW oX yQ yR,S6),(p3,Ty.mk qF qG qH Ap Ar,S7)]) (ops:=[]) (na:=0) (ca:=0) dz [9,9,3,1] 5 0 0 (by kernel_rfl) rfl ⟨Nat.le_refl _,by simp,by simp⟩ rfl;subst ak;exact Gx.af (by rfl) (hK S8 ⟨none,0,0,(some ⟨k4,0,none⟩),2,2⟩ _ (dS.pk [3,0]))
 have N5:=Gx.k0 lL;have gX:=Gx.k0 iI;have rR:=Gx.k0 eR;have mP:=Gx.k0 cU;have Dr:=Gx.k0 jt;obtain ⟨dP,dR,tX,tY,Ij,Ik,SK,SL,hp5,hp6⟩:=hy5 (by omega) (by omega) (by omega) (by omega);obtain ⟨kW,kX,eN,kY,kZ⟩:=dP;obtain ⟨B4,lN,a4,CE,fy⟩:=aJ (Q:=Q) (ks:=ks) (A:=nA) (c:=nc) (i:=0) H2 0 (by kernel_rfl) Ij;obtain ⟨jg,f_,jh,ji,jk⟩:=dR;obtain ⟨B5,my,a5,Qo,kv⟩:=aJ (Q:=Q) (ks:=ks) (A:=nA) (c:=nc) (i:=1) fy 0 (by kernel_rfl) Ik;obtain ⟨oV,oW,oX,yQ,yR⟩:=tX;obtain ⟨qF,qG,qH,Ap,Ar⟩:=tY;obtain ⟨Mz,rfl⟩:=hp6 (by omega);refine yd 3 (fun l' w'=>∃(b3:Nat) (ab:Nat) (SX:Nat→Prop) (pX:Tv) (SY:Nat→Prop) (pY:Tv),l'=[(1,.p k1),(2,.p k2),(3,.p b3)]∧Hs w L0 w' [eK Q ks nA nc,.al k1 (.cells #[.n kd,.n na,.string nm,.int .i64 nn,.slice nA ks.length nc] 62),.al k2 (.cells #[.int .i64 0,.int .i64 0,.int .i64 0,.slice none 0 0,.slice none 0 0] 96),.al ab (.cells #[.n oV,.n oW,.n oX,.slice pX.A pX.na pX.ca,.slice pX.B pX.nb pX.cb,.n qF,.n qG,.n qH,.slice pY.A pY.na pY.ca,.slice pY.B pY.nb pY.cb] 96),lV SX pX (Ty.mk oV oW oX yQ yR),lV SY pY (Ty.mk qF qG qH Ap Ar),.al b3 (.cells #[.int .i64 6,.int .i64 0,.int .i64 0,.slice none 0 0,.slice (some ⟨ab,0,none⟩) 2 2] 96)]) (fun K1 aN=>?_) (fun b1 l1 iF bQ=>?_)
 · refine xw 0 kv [1,3,5] [] (LJ:=[.al k1 (.cells #[.n kd,.n na,.string nm,.int .i64 nn,.slice nA ks.length nc] 62),dI Q (a4.add (0*5)) 5 (Sx.nC kW kX eN kY B4 kZ lN),dI Q (a5.add (1*5)) 5 (Sx.nC jg f_ jh ji B5 jk my)]) (by kernel_rfl) fun kr gi=>?_;refine xm [(0,none),(1,some (0,[]))] (gi.sb [1,2,3])<|yi 2 [] a4 0 5 ks.length nc CE (ar Ij) (gi.sb [1,2,3])<|yg (c:=5) (t:=62) 3 [] (Sx.nC kW kX eN kY B4 kZ lN) (Sx.nA kW kX eN kY B4 kZ lN) (fun w' hs=>(fZ (Q:=Q) (a:=a4.add (0*5)) (n:=5) (cs:=(Sx.nC kW kX eN kY B4 kZ lN)) hs 1 (by kernel_rfl))) (gi.sb [1,2,3])<|xm [(5,none),(6,some (0,[]))] (gi.sb [1,2,3])<|yi 7 [] a5 1 5 ks.length nc Qo (ar Ik) (gi.sb [1,2,3])<|yg (c:=5) (t:=62) 8 [] (Sx.nC jg f_ jh ji B5 jk my) (Sx.nA jg f_ jh ji B5 jk my) (fun w' hs=>(fZ (Q:=Q) (a:=a5.add (1*5)) (n:=5) (cs:=(Sx.nC jg f_ jh ji B5 jk my)) hs 2 (by kernel_rfl))) (gi.sb [1,2,3]) ?_;refine xg ?_;intro tO;refine yp 4 12 ?_ ?_
   · refine x0 0 [4] gi (fun Hp R hZ=>ih Q kW kX eN kY kZ B4 lN kr R Hp _ SK (fun S9 p4 ku G4=>hZ _ _ _ G4 fun fP=>?_));refine xe (x:=tO) 4 (fP.sb [3,4,4])<|xg ?_;intro zX;refine yp 9 12 ?_ ?_
     · refine x0 0 [7] fP (fun Hp R hZ=>ih Q jg f_ jh ji jk B5 my ku R Hp _ SL (fun rO p5 ke G5=>hZ _ _ _ G5 fun hP=>?_));refine xe (x:=zX) 9 (hP.sb [5,6,6])<|xg ?_;intro Cu;refine yp 10 12 ?_ ?_
       · refine xf 0 hP fun k5 mm jQ=>?_;refine xe (x:=Cu) 10 (jQ.sb [5,6,6])<|xm [(11,none)] (jQ.sb [5,6,6])<|xg ?_;intro Dn;refine xi 12<|xf 0 jQ fun k6 nX iV=>xe (x:=Dn) 12 (iV.sb [5,6,6])<|xg ?_;intro Cv;refine xi 13<|xd 0 10 iV fun o4 kK=>xe (x:=Cv) 13 (kK.sb [5,6,6])<|xt ?_;exact xj 0 _ (aN _ _ _ ⟨k6,k5,S9,p4,rO,p5,rfl,kK.pk [4,4,4,6,3,1,4]⟩)
       refine xf 0 hP fun k7 kR hU=>xe (x:=Cu) 12 (hU.sb [5,6,6])<|xg ?_;intro rD;refine xi 10<|xf 0 hU fun k8 ry ky=>xe (x:=rD) 10 (ky.sb [5,6,6])<|xm [(11,none)] (ky.sb [5,6,6])<|xg ?_;intro wK;refine xi 13<|xd 0 9 ky fun tK nD=>xe (x:=wK) 13 (nD.sb [5,6,6])<|xt ?_;exact xj 0 _ (aN _ _ _ ⟨k7,k8,S9,p4,rO,p5,rfl,nD.pk [4,4,4,7,3,1,4]⟩)
     refine xf 0 fP fun k9 qB lW=>xe (x:=zX) 12 (lW.sb [3,4,4])<|xg ?_;intro wM;refine xi 9 ?_;refine x0 0 [7] lW (fun Hp R hZ=>ih Q jg f_ jh ji jk B5 my qB R Hp _ SL (fun tU p6 um G6=>hZ _ _ _ G6 fun o6=>?_));refine xe (x:=wM) 9 (o6.sb [5,6,6])<|xg ?_;intro wP;refine xi 10<|xf 0 o6 fun nY pK qC=>xe (x:=wP) 10 (qC.sb [5,6,6])<|xm [(11,none)] (qC.sb [5,6,6])<|xg ?_;intro wQ;refine xi 13<|xd 0 9 qC fun tL o7=>xe (x:=wQ) 13 (o7.sb [5,6,6])<|xt ?_;exact xj 0 _ (aN _ _ _ ⟨k9,nY,S9,p4,tU,p6,rfl,o7.pk [4,4,4,7,3,1,4]⟩)
   refine xf 0 gi fun KN tM tP=>xe (x:=tO) 12 (tP.sb [1,2,3])<|xg ?_;intro wR;refine xi 4 ?_;refine x0 0 [4] tP (fun Hp R hZ=>ih Q kW kX eN kY kZ B4 lN tM R Hp _ SK (fun CF p7 zd G7=>hZ _ _ _ G7 fun nZ=>?_));refine xe (x:=wR) 4 (nZ.sb [3,4,4])<|xg ?_;intro uD;refine xi 9 ?_;refine x0 0 [7] nZ (fun Hp R hZ=>ih Q jg f_ jh ji jk B5 my zd R Hp _ SL (fun BN p8 zY G8=>hZ _ _ _ G8 fun pM=>?_));refine xe (x:=uD) 9 (pM.sb [5,6,6])<|xg ?_;intro uE;refine xi 10<|xf 0 pM fun MC zZ sR=>xe (x:=uE) 10 (sR.sb [5,6,6])<|xm [(11,none)] (sR.sb [5,6,6])<|xg ?_;intro wS;refine xi 13<|xd 0 9 sR fun ze sq=>xe (x:=wS) 13 (sq.sb [5,6,6])<|xt ?_;exact xj 0 _ (aN _ _ _ ⟨KN,MC,CF,p7,BN,p8,rfl,sq.pk [4,4,4,7,3,1,4]⟩)
 obtain⟨b3,ab,SX,pX,SY,pY,rfl,ss⟩:=bQ;have uv:=ss.add (Gx.Ext.refl _) (it:=bf (fun _=>False) none []) dw (fun _ h=>h.elim);refine xz 7 (fun z l' w'=>∃(i:Nat) (A4:Option Addr) (n4:Nat) (c4:Nat) (S4:Nat→Prop) (acc:List Nm),l'=[(1,.p k1),(2,.p k2),(3,.p b3),(4,.n i)]∧z=ks.length-i∧Hs w L0 w' [eK Q ks nA nc,.al k1 (.cells #[.n kd,.n na,.string nm,.int .i64 nn,.slice nA ks.length nc] 62),.al k2 (.cells #[.int .i64 0,.int .i64 0,.int .i64 0,.slice none 0 0,.slice none 0 0] 96),.al ab (.cells #[.n oV,.n oW,.n oX,.slice pX.A pX.na pX.ca,.slice pX.B pX.nb pX.cb,.n qF,.n qG,.n qH,.slice pY.A pY.na pY.ca,.slice pY.B pY.nb pY.cb] 96),lV SX pX (Ty.mk oV oW oX yQ yR),lV SY pY (Ty.mk qF qG qH Ap Ar),.al b3 (.cells #[.int .i64 6,.int .i64 0,.int .i64 0,.slice A4 n4 c4,.slice (some ⟨ab,0,none⟩) 2 2] 96),bf S4 A4 acc]∧(2≤i)∧(i≤ks.length)∧(n4=acc.length)∧(n4≤c4)∧(acc.length+2≤i)∧((ks.drop i).foldl Fm acc=(ks.drop 2).foldl Fm [])) _ _ ⟨2,none,0,0,(fun _=>False),[],rfl,rfl,uv.pk [0,0,0,0,0,0,0,0],(Nat.le_refl _),(ar Ik),rfl,(Nat.le_refl _),(by decide),rfl⟩ (fun b2 z1 l2 Dp gA K2 dH=>?_);obtain ⟨i,A4,n4,c4,S4,acc,rfl,rfl,qM,EK,P7,Sr,Zb,hal,QI⟩:=gA;refine xb 5 1 qM ?_;refine xl 4 (decide ((i:Int)<(ks.length:Int))) (fun oq=>?_) (fun oq=>?_)
 · have DS:=of_decide_eq_true oq;obtain ⟨dZ,mQ⟩:=dj (l:=ks) (i:=i) (by omega);obtain ⟨bD,aI,aE,bE,bl⟩:=dZ;obtain ⟨B6,F7,a6,J7,zf⟩:=aJ (Q:=Q) (ks:=ks) (A:=nA) (c:=nc) (i:=i) qM 0 (by kernel_rfl) mQ;refine xw 4 zf [6,1,8] [10] (LJ:=[.al b3 (.cells #[.int .i64 6,.int .i64 0,.int .i64 0,.slice A4 n4 c4,.slice (some ⟨ab,0,none⟩) 2 2] 96),.al k1 (.cells #[.n kd,.n na,.string nm,.int .i64 nn,.slice nA ks.length nc] 62),dI Q (a6.add (i*5)) 5 (Sx.nC bD aI aE bE B6 bl F7)]) (by kernel_rfl) fun Cx kS=>xm [(0,none),(1,some (0,[8,9,10])),(2,none),(3,some (1,[5,6,7,8,9,10])),(4,none)] (kS.sb [6,1,6])<|yi 5 [6,7,8,9,10] a6 i 5 ks.length nc J7 (ar mQ) (kS.sb [6,1,6])<|ym 6 [7,8,9,10] (a6.add (i*5)) 2 (kS.sb [6,1,6])<|yg (c:=1) (t:=9) 7 [8,9,10] [.string aE] (.string aE) (fun w' hs=>(aa (i:=2) (m:=1) (fZ (Q:=Q) (a:=a6.add (i*5)) (n:=5) (cs:=(Sx.nC bD aI aE bE B6 bl F7)) hs 2 (by kernel_rfl)) (by decide))) (kS.sb [6,1,6])<|xg ?_;intro Br;refine xi 8 ?_;refine x0 0 [7] kS (fun Hp R hZ=>NL S4 A4 n4 c4 acc aE Cx R Hp (by omega) (by omega) (by omega) (fun HT A1 n1 c1 EF G9 u9 m_=>hZ _ _ _ G9 fun wy=>?_));refine xe (x:=Br) 8 (wy.sb [8,3,7])<|xm [(9,none)] (wy.sb [8,3,7])<|xg ?_;intro Bs;refine xi 10<|xd 0 8 wy fun EG u6=>xe (x:=Bs) 10 Sx.np<|xt<|Sx.vi 4 ((i:Int)+(1:Int)) ((i+1:Nat):Int) (Gx.bj (by omega) (by omega)) ?_;exact xj 2 _ (dH _ _ _ _ (by omega) ⟨(i+1),A1,n1,c1,HT,(iY acc aE),rfl,rfl,u6.pk [2,2,2,2,2,2,2,1],(by omega),(by omega),u9,m_,(by rw[nS];omega),(by rw[← Jw mQ];exact QI)⟩)
 refine xb 7 6 qM<|xd 0 2 qM fun MM su=>xh 3 [2] su (.agg #[.int .i64 6,.int .i64 0,.int .i64 0,.slice A4 n4 c4,.slice (some ⟨ab,0,none⟩) 2 2]) ?_;have z6:=Hs.tI (k:=ab) (e:=96) (cs:=#[.n oV,.n oW,.n oX,.slice pX.A pX.na pX.ca,.slice pX.B pX.nb pX.cb,.n qF,.n qG,.n qH,.slice pY.A pY.na pY.ca,.slice pY.B pY.nb pY.cb]) su 3 5 2 (by kernel_rfl) (by rfl) (by omega);have DS:=of_decide_eq_false oq;have ag1:acc=(ks.drop 2).foldl Fm []:=by have:=QI;rw[List.drop_of_length_le (by omega)] at this;exact this
 rw[← ag1] at hK;obtain ⟨KY,Bi⟩:=cZ (e:=96) (cap:=2) (n:=2) (A:=A4) (B:=(some ⟨ab,0,none⟩)) (Sa:=S4) (l:=[(pX,Ty.mk oV oW oX yQ yR,SX),(pY,Ty.mk qF qG qH Ap Ar,SY)]) (ops:=acc) (na:=n4) (ca:=c4) z6 [3,6,3,3] 6 0 0 (by kernel_rfl) Sr ⟨Zb,by omega,by simp⟩ rfl;subst ak;exact Gx.af (by rfl) (hK KY ⟨A4,n4,c4,(some ⟨ab,0,none⟩),2,2⟩ _ (Bi.pk [1,0]))
theorem xU(k:Nat):BP k:=by
 induction k with
 |zero=>intro Q kd na nm nn ks nA nc w K H0 t hf;exact absurd hf (by simp[qQ])
 |succ k ih=>exact N4 k ih
end Go.Proofs.YtdmdecgoebnamaaGreat
namespace Go.aS
open Go.RowKit Go.Sx Go.Gx Go.fO
theorem bs{α β:Type}{x:Option α}{f:α→Option β}{r:β}(h:(x >>= f)=some r):∃a,x=some a∧f a=some r:=by
 cases x with
 |none=>cases h
 |some a=>exact⟨a,rfl,h⟩
theorem N6{c c1:Ck}{kd r n:Nat}{a b:Option Nat}(h:c.put kd a b r=some (c1,n)):∃g,c.g.put kd a b r=some (g,n)∧{ c with g:=g }=c1:=by
 unfold Ck.put at h;split at h<;>try contradiction
 rename_i g m hg;cases h;exact ⟨g,hg,rfl⟩
theorem Xa{c c1:Ck}{n:Nat}(h:c.var=some (c1,n)):∃g,c.g.var=some (g,n)∧{ c with g:=g }=c1:=N6 h
theorem At{c c1:Ck}{l:List Nm}{nx:Option Nat}{n:Nat}(h:c.putRow l nx=some (c1,n)):∃g,c.g.putRow l nx=some (g,n)∧{ c with g:=g }=c1:=by
 unfold Ck.putRow at h;split at h<;>try contradiction
 rename_i g m hg;cases h;exact ⟨g,hg,rfl⟩
theorem Xb{c c1:Ck}{n:Nat}(h:c.gu=some (c1,n)):∃g,c.g.gu=some (g,n)∧{ c with g:=g }=c1:=At h
theorem Xc{k:Nat}{c c1:Ck}{t:Ty}{n:Nat}(h:c.tG k t=some (c1,n)):∃g,aS.tG k c.g t=some (g,n)∧{ c with g:=g }=c1:=by
 unfold Ck.tG at h;split at h<;>try contradiction
 rename_i g m hg;cases h;exact ⟨g,hg,rfl⟩
theorem dW{c:Ck}{kd:Nat}{a:Int}:(c.no kd a).fk=(if c.fk=0 then kd else c.fk)∧(c.no kd a).fa=(if c.fk=0 then a else c.fa)∧(c.no kd a).g=c.g∧(c.no kd a).env=c.env∧(c.no kd a).ops=c.ops:=by
 unfold Ck.no;split<;>simp_all
theorem oY{k m n:Nat}{c c':Ck}{a:Int}(h:c.row k m n a=some c'):c'.env=c.env∧c'.ops=c.ops:=by
 have q:=Mb h;by_cases e:c.fk=0
 · obtain⟨g,s,_,h1,h2⟩:=q.2 e;cases s with
   |false=>rw[← h1 rfl];exact⟨rfl,rfl⟩
   |true=>rw[← h2 rfl];exact⟨rfl,rfl⟩
 · rw[q.1 e];exact⟨rfl,rfl⟩
theorem aH{k m n:Nat}{c c':Ck}{a:Int}(h:c.same k m n a=some c'):c'.env=c.env∧c'.ops=c.ops:=by
 have q:=Hx h;by_cases e:c.fk=0
 · obtain⟨g,s,_,h1,h2⟩:=q.2 e;cases s with
   |false=>rw[← h1 rfl];exact⟨rfl,rfl⟩
   |true=>
     obtain⟨r1,z1,_,h3,h4⟩:=h2 rfl;cases r1 with
     |true=>rw[← h3 rfl];exact⟨rfl,rfl⟩
     |false=>
       obtain⟨r2,z2,_,h5,h6⟩:=h4 rfl;cases r2 with
       |true=>rw[← h5 rfl];exact⟨rfl,rfl⟩
       |false=>rw[← h6 rfl];exact⟨rfl,rfl⟩
 · rw[q.1 e];exact⟨rfl,rfl⟩
theorem dv{k n:Nat}{c c':Ck}{a:Int}(h:c.rm k n a=some c'):c'.g=c.g∧c'.env=c.env∧c'.ops=c.ops:=by
 have q:=Mc h;by_cases e:c.fk=0
 · obtain⟨p,z,_,h1,h2⟩:=q.2 e;rcases Nat.lt_or_ge 300 p with r|r
   · rw[← h1 r];exact⟨rfl,rfl,rfl⟩
   · rw[← h2 r];exact⟨rfl,rfl,rfl⟩
 · rw[q.1 e];exact⟨rfl,rfl,rfl⟩
theorem ot{w0 w:World}{L0 L:List Sx.Item}{Q:Nat→Prop}{ks:List Nd}{A:Option Addr}{c:Nat}(H:Hs w0 L0 w L)(j:Nat)(hi:L[j]?=some (eK Q ks A c)):ks.length≤9223372036854775807:=by
 cases (H.at j hi).1 with
 | mk As cs _ hl _ _ _ => have : maxLen ≤ 9223372036854775807 := by decide
                          omega
abbrev Nv:=sL×Option Nat×Option Nat
def UL(x:Nv):List Value:=[.string x.1.nm,.int .i64 (x.1.t:Int),.bool x.1.all,.map x.2.1,.map x.2.2,.bool x.1.gu]
def fj(l:List Nv):List Value:=l.flatMap UL
def xV(w:World)(S:Nat→Prop)(x:Nv):Prop:=Ba w S x.2.1 x.1.tv∧Ba w S x.2.2 x.1.rv
theorem xV.hO{w w':World}{S:Nat→Prop}{x:Nv}(h:xV w S x)(k:∀c,S c→w'.heap[c]?=w.heap[c]?):xV w' S x:=⟨h.1.hO k,h.2.hO k⟩
theorem xV.mono{w:World}{S S':Nat→Prop}{x:Nv}(h:xV w S x)(k:∀c,S c→S' c):xV w S' x:=⟨h.1.mono k,h.2.mono k⟩
def aX(S:Nat→Prop)(l:List Nv):Sx.Item:=.ro S (fun w=>∀x∈l,xV w S x)
theorem lO(S:Nat→Prop)(l:List Nv):Sx.Loc S (fun w=>∀x∈l,xV w S x):=fun _ _ _ hk h x hx=>(h x hx).hO hk
theorem BQ{α:Type}(f:α→List Value)(m:Nat)(hf:∀x,(f x).length=m):∀(l:List α)(i:Nat)(x:α),l[i]?=some x→((l.flatMap f).drop (i*m)).take m=f x
 |[],i,x,h=>by simp at h
 |y::l,0,x,h=>by
   simp at h;subst h;rw [List.flatMap_cons,Nat.zero_mul,List.drop_zero,←hf y,List.take_left' rfl]
 |y::l,i+1,x,h=>by
   rw[List.flatMap_cons,show(i+1)*m=(f y).length+i*m by rw[hf];rw[Nat.add_mul];omega,List.drop_append,List.drop_of_length_le (by omega),List.nil_append];rw [show (f y).length+i*m-(f y).length=i*m by omega];exact BQ f m hf l i x (by simpa using h)
theorem ve{α:Type}(f:α→List Value)(m:Nat)(hf:∀x,(f x).length=m)(l:List α):(l.flatMap f).length=l.length*m:=by
 induction l with
 |nil=>simp
 |cons y l ih=>rw[List.flatMap_cons,List.length_append,hf,ih,List.length_cons,Nat.add_mul];omega
theorem J8{α:Type}(f:α→List Value)(m:Nat)(hf:∀x,(f x).length=m){l:List α}{i j:Nat}{x:α}(h:l[i]?=some x)(hj:j<m):(l.flatMap f)[i*m+j]?=(f x)[j]?:=by
 have e:=BQ f m hf l i x h;rw [← e,List.getElem?_take,if_pos hj,List.getElem?_drop]
theorem mz(x:Nv):(UL x).length=6:=rfl
theorem iu{w0 w:World}{L0 L:List Sx.Item}(H:Hs w0 L0 w L)(j:Nat){e n cap:Nat}{A:Option Addr}{l:List Nv}(hi:L[j]?=some (.own e 6 A cap n (fj l))):l.length=n:=by
 have:=(H.at j hi).1;unfold fj at this;rw [ve UL 6 mz] at this;omega
def vf(P:Program)(t:TypeId)(m:Nat):Bool:=match P.underlying t with
 |some (.struct _)=>match P.info? t with
   |some inf=>Nat.beq inf.size m
   |none=>false
 |_=>false
def N7(P:Program)(t:TypeId):Bool:=match P.underlying t with
 |some (.struct _)=>false
 |some (.array _ _)=>false
 |some _=>true
 |none=>false
section
variable {α:Type} {f:α→List Value} {m:Nat} {P:Program} {t:TypeId} {l:List α} {i:Nat} {x:α}
theorem DT(hf:∀x,(f x).length=m)(h:l[i]?=some x)(hs:vf P t m=true:=by kernel_rfl):eP P t (l.flatMap f) (i*m) (.agg (f x).toArray):=by
 unfold vf at hs;split at hs<;>try contradiction
 rename_i fs hu;split at hs<;>try contradiction
 rename_i inf hi;have e:=Nat.eq_of_beq_eq_true hs;unfold eP;rw [hu];refine ⟨inf,hi,?_,?_⟩
 · rw [ve f m hf, e];have := (List.getElem?_eq_some_iff.1 h).1;calc i * m + m = (i + 1) * m := by rw [Nat.add_mul]; omega
     _≤l.length*m:=Nat.mul_le_mul_right _ this
 · rw[e,BQ f m hf l i x h]
theorem rS(j q:Nat)(hf:∀x,(f x).length=m)(h:l[i]?=some x)(hj:j+q≤m){cs:List Value}(hc:((f x).drop j).take q=cs)(hs:vf P t q=true:=by kernel_rfl):eP P t (l.flatMap f) (i*m+j) (.agg cs.toArray):=by
 unfold vf at hs;split at hs<;>try contradiction
 rename_i fs hu;split at hs<;>try contradiction
 rename_i inf hi;have e:=Nat.eq_of_beq_eq_true hs;unfold eP;rw [hu];refine ⟨inf,hi,?_,?_⟩
 · rw [ve f m hf, e];have := (List.getElem?_eq_some_iff.1 h).1;calc i * m + j + q ≤ i * m + m := by omega
     _=(i+1)*m:=by rw[Nat.add_mul];omega
     _≤l.length*m:=Nat.mul_le_mul_right _ this
 · rw[e,←hc];have q1:=BQ f m hf l i x h;rw [← q1,List.drop_take,List.take_take,List.drop_drop,Nat.min_eq_left (by omega)]
theorem ow(j:Nat)(hf:∀x,(f x).length=m)(h:l[i]?=some x)(hj:j<m){v:Value}(hc:(f x)[j]?=some v)(hs:N7 P t=true:=by kernel_rfl):eP P t (l.flatMap f) (i*m+j) v:=by
 have e:=(J8 f m hf h hj).trans hc;unfold N7 at hs;unfold eP;split at hs<;>simp_all
end
theorem vg{α:Type}(f:α→List Value)(l:List α)(x:α):l.flatMap f++f x=(l++[x]).flatMap f:=by simp
abbrev Ov:=Fl×Tv×Tv
def Xd(x:Ov):List Value:=.string x.1.nm::(Fk x.1.i x.2.1++Fk x.1.o x.2.2++[.int .i64 (x.1.n:Int)])
theorem oZ(x:Ov):(Xd x).length=12:=by unfold Xd;simp[rn]
def iO(l:List Ov):List Value:=l.flatMap Xd
def UM(w:World)(S:Nat→Prop)(x:Ov):Prop:=cO w S x.2.1 x.1.i∧cO w S x.2.2 x.1.o
def uS(S:Nat→Prop)(l:List Ov):Sx.Item:=.ro S (fun w=>∀x∈l,UM w S x)
theorem DU(S:Nat→Prop)(l:List Ov):Sx.Loc S (fun w=>∀x∈l,UM w S x):=fun _ _ _ hk h x hx=>⟨(h x hx).1.hO hk,(h x hx).2.hO hk⟩
theorem Il{w0 w:World}{L0 L:List Sx.Item}(H:Hs w0 L0 w L)(j:Nat){e n cap:Nat}{A:Option Addr}{l:List Ov}(hi:L[j]?=some (.own e 12 A cap n (iO l))):l.length=n:=by
 have:=(H.at j hi).1;unfold iO at this;rw [ve Xd 12 oZ] at this;omega
def zo(nm:Nm):List Ov→Option Nat
 |[]=>none
 |o::r=>if ee o.1.nm nm then some 0 else(zo nm r).map (·+1)
def opV(A:Option Addr):Option Nat→Value
 |none=>.pointer none
 |some k=>match A with
   |some a=>.pointer (some ⟨a.block,k*12,none⟩)
   |none=>.pointer none
theorem vh{nm:Nm}:∀{l:List Ov},mg nm (l.map (·.1))=none→zo nm l=none
 |[],_=>rfl
 |o::r,h=>by
   simp only[List.map_cons,mg] at h;unfold zo;split at h
   · cases h
   · rename_i e;rw[if_neg e,vh h];rfl
theorem lP{nm:Nm}{o:Fl}:∀{l:List Ov},mg nm (l.map (·.1))=some o→∃k x,zo nm l=some k∧l[k]?=some x∧x.1=o
 |[],h=>by simp[mg] at h
 |y::r,h=>by
   simp only[List.map_cons,mg] at h;unfold zo;split at h
   · rename_i e;cases h;exact⟨0,y,by rw[if_pos e],rfl,rfl⟩
   · rename_i e;obtain ⟨k,x,h1,h2,h3⟩:=lP h;exact ⟨k+1,x,by rw[if_neg e,h1];rfl,by simpa using h2,h3⟩
theorem J9{nm:Nm}{l:List Ov}{i:Nat}{x:Ov}{o:Option Nat}(h:(zo nm (l.drop i)).map (·+i)=o)(hx:l[i]?=some x):if ee x.1.nm nm then some i=o else(zo nm (l.drop (i+1))).map (·+(i+1))=o:=by
 obtain⟨hi,e⟩:=List.getElem?_eq_some_iff.1 hx;rw [List.drop_eq_getElem_cons hi,e] at h;unfold zo at h;split
 · rename_i q;rw[if_pos q] at h;simpa using h
 · rename_i q;rw[if_neg q,Option.map_map] at h;rw[← h];congr 1;funext z;simp only[Function.comp];omega
abbrev rF(k:Nat)(all:List Nm)(s:Option Ck)(d:Nd):Option Ck:=match s with
 |some c=>cf k c d all
 |none=>none
theorem Im(k:Nat)(all:List Nm)(l:List Nd):l.foldl (rF k all) none=none:=by
 induction l with
 |nil=>rfl
 |cons t l ih=>rw[List.foldl_cons];exact ih
theorem ox{k kd na : Nat}{nm : Nm}{nn : Int}{ks : List Nd}{c c' : Ck}{all : List Nm}(h : cf (k + 1) c (.mk kd na nm nn ks) all = some c') :
   (c.fk≠0→c=c')∧(c.fk=0→(kd≠29→ks.foldl (rF k all) (some c)=some c')∧(kd=29→∃a b c1,ks[0]?=some a∧ks[1]?=some b∧cf k c a all=some c1∧cf k (gI c1 all [] (ks.drop 2)) b all=some c')):=by
 unfold cf at h;split at h
 · rename_i e;cases h;exact⟨fun _=>rfl,fun q=>absurd q e⟩
 · rename_i e;have e:c.fk=0:=by simpa using e
   refine⟨fun q=>absurd e q,fun _=>⟨fun q=>?_,fun q=>?_⟩⟩
   · have q:(Nd.mk kd na nm nn ks).k≠29:=q;rw [if_pos q] at h;exact h
   · subst q;have q:¬(Nd.mk 29 na nm nn ks).k≠29:=by simp[Nd.k]
     rw[if_neg q] at h;simp only[Nd.ks] at h;split at h<;>try contradiction
     rename_i a b r;split at h<;>try contradiction
     rename_i c1 h1;exact ⟨a,b,c1,rfl,rfl,h1,h⟩
theorem SM{k i:Nat}{all:List Nm}{ks:List Nd}{c c':Ck}(h:(ks.drop i).foldl (rF k all) (some c)=some c'){d:Nd}(hd:ks[i]?=some d):∃c1,cf k c d all=some c1∧(ks.drop (i+1)).foldl (rF k all) (some c1)=some c':=by
 obtain⟨hi,e⟩:=List.getElem?_eq_some_iff.1 hd;rw [List.drop_eq_getElem_cons hi,List.foldl_cons,e] at h;cases hr:cf k c d all with
 |none=>simp only[rF,hr] at h;rw[Im] at h;cases h
 |some c1=>simp only[rF,hr] at h;exact⟨c1,rfl,h⟩
theorem SN{k i:Nat}{all:List Nm}{ks:List Nd}{c c':Ck}(h:(ks.drop i).foldl (rF k all) (some c)=some c')(hi:ks.length≤i):c=c':=by
 rw[List.drop_of_length_le hi] at h;simpa using h
abbrev vj(d:Nd)(c:Ck)(e:Nd):Ck:=if ee e.nm d.nm then c.no 7 d.a else c
theorem DV{c : Ck}{all : List Nm}{ks : List Nd}{i : Nat}{d : Nd}{R : Ck}(h : gI c all ((ks.take i).drop 2) (ks.drop i) = R)(EK : 2 ≤ i)(hd : ks[i]? = some d) :
   ∃c1,((ks.take i).drop 2).foldl (vj d) (if KK d.nm all then c else c.no 6 d.a)=c1∧gI c1 all ((ks.take (i+1)).drop 2) (ks.drop (i+1))=R:=by
 obtain⟨hi,e⟩:=List.getElem?_eq_some_iff.1 hd;rw [List.drop_eq_getElem_cons hi,e] at h;unfold gI at h;refine ⟨_,rfl,?_⟩;have e2:(ks.take i).drop 2++[d]=(ks.take (i+1)).drop 2:=by
   rw[List.take_add_one,hd,List.drop_append,List.length_take];rw [show 2-min i ks.length=0 by omega];rfl
 rw[← e2];exact h
theorem DW{c:Ck}{all:List Nm}{ks b:List Nd}{i:Nat}{R:Ck}(h:gI c all b (ks.drop i)=R)(hi:ks.length≤i):c=R:=by
 rw[List.drop_of_length_le hi] at h;unfold gI at h;exact h
theorem DX{s:Nm}{all:List Nm}{j:Nat}(hj:j<all.length):KK s (all.take (j+1))=(KK s (all.take j)||ee (gn all j) s):=by
 unfold KK;rw [List.take_add_one,List.any_append,jq hj];simp
theorem BR{ks:List Nd}{i j:Nat}{d:Nd}{c R:Ck}(h:((ks.take i).drop j).foldl (vj d) c=R)(hj:j<i){kd na:Nat}{nm:Nm}{nn:Int}{k2:List Nd}(hd:ks[j]?=some (.mk kd na nm nn k2)):((ks.take i).drop (j+1)).foldl (vj d) (if ee nm d.nm then c.no 7 d.a else c)=R:=by
 obtain⟨hi,e⟩:=List.getElem?_eq_some_iff.1 hd;have hl:j<(ks.take i).length:=by rw[List.length_take];omega
 rw[List.drop_eq_getElem_cons hl,List.foldl_cons,List.getElem_take,e] at h;exact h
theorem BS{ks:List Nd}{i j:Nat}{d:Nd}{c R:Ck}(h:((ks.take i).drop j).foldl (vj d) c=R)(hj:i≤j):c=R:=by
 rw[List.drop_of_length_le (by rw[List.length_take];omega)] at h;exact h
theorem DY{all:List Nm}:∀{r b:List Nd}{c:Ck},(gI c all b r).g=c.g∧(gI c all b r).env=c.env∧(gI c all b r).ops=c.ops
 |[],b,c=>⟨rfl,rfl,rfl⟩
 |d::r,b,c=>by
   unfold gI;have h1:∀(l:List Nd)(c:Ck),(l.foldl (vj d) c).g=c.g∧(l.foldl (vj d) c).env=c.env∧(l.foldl (vj d) c).ops=c.ops:=by
     intro l;induction l with
     |nil=>intro c;exact⟨rfl,rfl,rfl⟩
     |cons e l ih=>
       intro c;rw [List.foldl_cons];have h2:=ih (vj d c e);have h3:(vj d c e).g=c.g∧(vj d c e).env=c.env∧(vj d c e).ops=c.ops:=by
         unfold vj;split
         · exact dW.2.2
         · exact⟨rfl,rfl,rfl⟩
       exact⟨h2.1.trans h3.1,h2.2.1.trans h3.2.1,h2.2.2.trans h3.2.2⟩
   have h4:(sM c all b d).g=c.g∧(sM c all b d).env=c.env∧(sM c all b d).ops=c.ops:=by
     unfold sM;have h5:=h1 b (if KK d.nm all then c else c.no 6 d.a);have h6:(if KK d.nm all then c else c.no 6 d.a).g=c.g∧(if KK d.nm all then c else c.no 6 d.a).env=c.env∧(if KK d.nm all then c else c.no 6 d.a).ops=c.ops:=by
       split
       · exact⟨rfl,rfl,rfl⟩
       · exact dW.2.2
     exact⟨h5.1.trans h6.1,h5.2.1.trans h6.2.1,h5.2.2.trans h6.2.2⟩
   have h7:=DY (all:=all) (r:=r) (b:=b++[d]) (c:=sM c all b d);exact ⟨h7.1.trans h4.1,h7.2.1.trans h4.2.1,h7.2.2.trans h4.2.2⟩
end Go.aS
namespace Go.Sx
open Go.aS Go.fO
abbrev cX(b g:Nat)(A:Option Addr)(n c:Nat)(B:Option Addr)(m d k:Nat)(a:Int)(S:Nat→Prop)(G:Go.aS.G)(el:List Nv)(Sm:Nat→Prop)(ol:List Ov)(So Q:Nat→Prop)(ks:List Nd)(nA:Option Addr)(nc:Nat):List Item:=[cB b g A n c B m d k a,GI S g G,.own 122 6 A c n (fj el),aX Sm el,.own 160 12 B d m (iO ol),uS So ol,eK Q ks nA nc]
end Go.Sx
namespace Go.Proofs.YtdmdecgoebnamaaGreat
open Go.RowKit Go.Sx Go.aS Go.fO
attribute [local irreducible] Go.wpOps Go.Code.wp Go.wpOp Go.wpAnyH Go.Calls Go.Sx.Goal
set_option maxRecDepth 20000
theorem F8(bc bg : Nat)(eA : Option Addr)(en ec : Nat)(oA : Option Addr)(on oc : Nat)(fk : Nat)(fa : Int)(ol : List Ov)(nm : Nm)(w : World)(K : Ending → World → Prop)(H0 : Sp w [Sx.cB bc bg eA en ec oA on oc fk fa, .own 160 12 oA oc on (iO ol)])(o : Option Nat)(ho : zo nm ol = o)(fB : on < 1000000000)(hK : ∀ w', Hs w [Sx.cB bc bg eA en ec oA on oc fk fa, .own 160 12 oA oc on (iO ol)] w' [Sx.cB bc bg eA en ec oA on oc fk fa, .own 160 12 oA oc on (iO ol)] → K (.returned (opV oA o)) w') :
   Calls Tryz.prog 83 #[.p bc,.string nm] w K:=by
 obtain⟨L0,ak,H⟩:=Sx.bX H0;refine xu (vs:=[.p bc,.string nm]) 31 Tryz.func83 ?_;have fL:=Il (e:=160) (n:=on) (cap:=oc) (A:=oA) (l:=ol) H 1 (by kernel_rfl);refine xz 12 (fun z l' w'=>∃(i:Nat),l'=[(0,.p bc),(1,.string nm),(5,.n i)]∧z=ol.length-i∧w=w'∧(i≤ol.length)∧((zo nm (ol.drop i)).map (·+i)=o)) _ _ ⟨0,rfl,rfl,rfl,(Nat.zero_le _),(by simpa using ho)⟩ (fun b1 z1 l1 w1 bQ K1 aN=>?_);obtain ⟨i,rfl,rfl,rfl,P7,hix⟩:=bQ;refine xb 7 0 H ?_;refine xl 4 (decide ((i:Int)<(on:Int))) (fun fh=>?_) (fun fh=>?_)
 · have rI:=of_decide_eq_true fh;obtain ⟨x,hx⟩:=dj (l:=ol) (i:=i) (by omega);have cw:=J9 hix hx;obtain ⟨kB,rfl⟩:=H.row 1 (A:=oA) (e:=160) (sz:=12) (cap:=oc) (n:=on) (xs:=(iO ol)) (by kernel_rfl) (by omega);refine xb 9 0 H<|yf 1 kB i 12 on oc (by omega)<|y0 1 1 160 12 9 kB oc on (i*12) (iO ol) H (.string x.1.nm) (ow 0 oZ hx (by decide) rfl) ?_;refine xl 4 (x.1.nm.toList==nm.toList) (fun xW=>?_) (fun xW=>?_)
   · rw[if_pos (by rw[dx];exact xW)] at cw;subst cw;refine xb 5 0 H<|yf 1 kB i 12 on oc (by omega)<|xh 9 [] H (.pointer (some (⟨kB,i*12,none⟩))) ?_;subst ak;exact hK _ (H.pk [0,0])
   rw[if_neg (by rw[dx,xW];decide)] at cw;refine Sx.vi 5 ((i:Int)+(1:Int)) ((i+1:Nat):Int) (Gx.bj (by omega) (by omega)) ?_;exact xj 2 _ (aN _ _ _ _ (by omega) ⟨(i+1),rfl,rfl,rfl,(by omega),cw⟩)
 have rI:=of_decide_eq_false fh;rw [List.drop_of_length_le (by omega)] at hix;obtain rfl:none=o:=hix;refine xh 11 [] H (.pointer none) ?_;subst ak;exact hK _ (H.pk [0,0])
def oy(k : Nat) : Prop := ∀(bc bg : Nat)(eA : Option Addr)(en ec : Nat)(oA : Option Addr)(on oc : Nat)(Q : Nat → Prop)(kd na : Nat)(nm : Nm)(nn : Int)(ks : List Nd)(nA : Option Addr)(nc : Nat)(Sa : Nat → Prop)(Aa : Option Addr)(an ac : Nat)(all : List Nm)(c : Ck)(w : World)(K : Ending → World → Prop)(H0 : Sp w [Sx.cB bc bg eA en ec oA on oc c.fk c.fa, eK Q ks nA nc, bf Sa Aa all])(c' : Ck)(hf : cf k c (.mk kd na nm nn ks) all = some c')(sy : an = all.length)(UI : all.length < 1000000000)(hK : ∀ w', Hs w [Sx.cB bc bg eA en ec oA on oc c.fk c.fa, eK Q ks nA nc, bf Sa Aa all] w' [Sx.cB bc bg eA en ec oA on oc c'.fk c'.fa, eK Q ks nA nc, bf Sa Aa all] → K (.returned (.tuple #[])) w'),
   Calls Tryz.prog 84 #[.p bc,Sx.nA kd na nm nn nA ks nc,.slice Aa an ac] w K
set_option maxHeartbeats 8000000 in
theorem BT(k:Nat)(ih:oy k):oy (k+1):=by
 intro bc bg eA en ec oA on oc Q kd na nm nn ks nA nc Sa Aa an ac all c w K H0 c' hf sy UI hK;obtain ⟨L0,ak,H⟩:=Sx.bX H0;refine xu (vs:=[.p bc,Sx.nA kd na nm nn nA ks nc,.slice Aa an ac]) 109 Tryz.func84 ?_;have SO:=ot (Q:=Q) (ks:=ks) (A:=nA) (c:=nc) H 1 (by kernel_rfl);obtain ⟨W9,m_⟩:=ox hf;refine xf 2 H fun k1 w1 H1=>?_;refine x0 6 [0] H1 (fun Hp R hZ=>h_ bc bg eA en ec oA on oc c.fk c.fa w1 R Hp  (fun w2 G1=>hZ _ _ _ G1 fun H2=>?_));refine xl 3 (!(c.fk==0)) (fun eR=>?_) (fun eR=>?_)
 · have h0:c.fk≠0:=by simpa using eR
   obtain rfl:=W9 h0;refine xh 2 [] H2 (.tuple #[]) ?_;subst ak;exact hK _ (H2.pk [0,0,0])
 have h0:c.fk=0:=by simpa using eR
 obtain⟨hn,hy⟩:=m_ h0;refine xb 6 3 H2 ?_;refine xl 3 ((kd:Int) != (29:Int)) (fun cU=>?_) (fun cU=>?_)
 · have mP:=cU;try simp[-List.getD_eq_getElem?_getD] at mP
   have sj:=hn (by omega);refine xz 7 (fun z l' w'=>∃(i:Nat) (cc:Ck),l'=[(0,.p bc),(2,.slice Aa an ac),(4,.p k1),(6,.n i)]∧z=ks.length-i∧Hs w L0 w' [Sx.cB bc bg eA en ec oA on oc cc.fk cc.fa,eK Q ks nA nc,bf Sa Aa all,.al k1 (.cells #[.n kd,.n na,.string nm,.int .i64 nn,.slice nA ks.length nc] 62)]∧(i≤ks.length)∧((ks.drop i).foldl (rF k all) (some cc)=some c')) _ _ ⟨0,c,rfl,rfl,H2.pk [0,0,0,0],(Nat.zero_le _),sj⟩ (fun b1 z1 l1 w3 bQ K1 aN=>?_);obtain ⟨i,cc,rfl,rfl,H4,P7,sj⟩:=bQ;refine xb 5 3 H4 ?_;refine xl 4 (decide ((i:Int)<(ks.length:Int))) (fun Ae=>?_) (fun Ae=>?_)
   · have aa9:=of_decide_eq_true Ae;obtain ⟨dZ,mQ⟩:=dj (l:=ks) (i:=i) (by omega);obtain ⟨c2,hq,ag3⟩:=SM sj mQ;obtain ⟨bD,aI,aE,bE,bl⟩:=dZ;obtain ⟨B1,d_,a1,fY,H5⟩:=aJ (Q:=Q) (ks:=ks) (A:=nA) (c:=nc) (i:=i) H4 1 (by kernel_rfl) mQ;refine xb 7 3 H5<|xv 1 a1 i 5 ks.length nc fY (ar mQ)<|xr (c:=5) (t:=62) 0 (Sx.nC bD aI aE bE B1 bl d_) (Sx.nA bD aI aE bE B1 bl d_) (aD (Q:=Q) (a:=a1.add (i*5)) (n:=5) (cs:=(Sx.nC bD aI aE bE B1 bl d_)) H5 4 (by kernel_rfl)) ?_;refine x0 1 [0,4,1] H5 (fun Hp R hZ=>ih bc bg eA en ec oA on oc Q bD aI aE bE bl B1 d_ Sa Aa an ac all cc w3 R Hp c2 hq sy UI (fun w4 G2=>hZ _ _ _ G2 fun H6=>?_));refine Sx.vi 5 ((i:Int)+(1:Int)) ((i+1:Nat):Int) (Gx.bj (by omega) (by omega)) ?_;exact xj 2 _ (aN _ _ _ _ (by omega) ⟨(i+1),c2,rfl,rfl,H6.pk [0,2,1,1],(by omega),ag3⟩)
   have aa9:=of_decide_eq_false Ae;obtain rfl:=SN sj (by omega);refine xh 7 [] H4 (.tuple #[]) ?_;subst ak;exact hK _ (H4.pk [0,0,0])
 have mP:=cU;try simp[-List.getD_eq_getElem?_getD] at mP
 obtain⟨dA,dB,c1,hd0,Wm,iE,rQ⟩:=hy (by omega);obtain ⟨aU,aM,aV,aW,aR⟩:=dA;obtain ⟨B2,fM,a2,jM,H8⟩:=aJ (Q:=Q) (ks:=ks) (A:=nA) (c:=nc) (i:=0) H2 1 (by kernel_rfl) hd0;refine xb 6 3 H8<|xv 0 a2 0 5 ks.length nc jM (ar hd0)<|xr (c:=5) (t:=62) 0 (Sx.nC aU aM aV aW B2 aR fM) (Sx.nA aU aM aV aW B2 aR fM) (aD (Q:=Q) (a:=a2.add (0*5)) (n:=5) (cs:=(Sx.nC aU aM aV aW B2 aR fM)) H8 4 (by kernel_rfl)) ?_;refine x0 1 [0,4,1] H8 (fun Hp R hZ=>ih bc bg eA en ec oA on oc Q aU aM aV aW aR B2 fM Sa Aa an ac all c w2 R Hp c1 iE sy UI (fun w5 G3=>hZ _ _ _ G3 fun H9=>?_));refine xz 9 (fun z l' w'=>∃(i:Nat) (cc:Ck),l'=[(0,.p bc),(2,.slice Aa an ac),(4,.p k1),(7,.n i)]∧z=ks.length-i∧Hs w L0 w' [Sx.cB bc bg eA en ec oA on oc cc.fk cc.fa,eK Q ks nA nc,bf Sa Aa all,.al k1 (.cells #[.n kd,.n na,.string nm,.int .i64 nn,.slice nA ks.length nc] 62)]∧(2≤i)∧(i≤ks.length)∧(gI cc all ((ks.take i).drop 2) (ks.drop i)=gI c1 all [] (ks.drop 2))) _ _ ⟨2,c1,rfl,rfl,H9.pk [0,2,1,1],(Nat.le_refl _),(ar Wm),(by rw[List.drop_of_length_le (by rw[List.length_take];omega)])⟩ (fun b2 z2 l2 w6 gA K2 dH=>?_);obtain ⟨i,cc,rfl,rfl,aZ,EK,P7,hra⟩:=gA;refine xb 5 3 aZ ?_;refine xl 4 (decide ((i:Int)<(ks.length:Int))) (fun jR=>?_) (fun jR=>?_)
 · have v_:=of_decide_eq_true jR;obtain ⟨dZ,mQ⟩:=dj (l:=ks) (i:=i) (by omega);obtain ⟨c3,J_,aa_⟩:=DV hra EK mQ;obtain ⟨bD,aI,aE,bE,bl⟩:=dZ;obtain ⟨B3,ib,a3,xE,aP⟩:=aJ (Q:=Q) (ks:=ks) (A:=nA) (c:=nc) (i:=i) aZ 1 (by kernel_rfl) mQ;refine xz 16 (fun z l' w'=>∃(j:Nat) (b:Bool),l'=[(0,.p bc),(2,.slice Aa an ac),(4,.p k1),(7,.n i),(8,.bool b),(9,.n j)]∧z=all.length-j∧Hs w L0 w' [Sx.cB bc bg eA en ec oA on oc cc.fk cc.fa,eK Q ks nA nc,bf Sa Aa all,.al k1 (.cells #[.n kd,.n na,.string nm,.int .i64 nn,.slice nA ks.length nc] 62),dI Q (a3.add (i*5)) 5 (Sx.nC bD aI aE bE B3 bl ib),eK Q bl B3 ib]∧(j≤all.length)∧(KK aE (all.take j)=b)) _ _ ⟨0,false,rfl,rfl,aP.pk [0,0,0,0,0,0],(Nat.zero_le _),rfl⟩ (fun b3 z3 l3 w7 uB K3 lX=>?_);obtain ⟨j,b,rfl,rfl,bq,hjl,hb⟩:=uB;rcases b with _|_
   · refine xl 9 (decide ((j:Int)<(an:Int))) (fun oh=>?_) (fun oh=>?_)
     · refine xw 4 bq [2,3,4] [] (LJ:=[bf Sa Aa all,.al k1 (.cells #[.n kd,.n na,.string nm,.int .i64 nn,.slice nA ks.length nc] 62),dI Q (a3.add (i*5)) 5 (Sx.nC bD aI aE bE B3 bl ib)]) (by kernel_rfl) fun w8 bu=>?_;have N8:=of_decide_eq_true oh;obtain ⟨a4,CE,_,m_⟩:=(bu.at 2 (it:=bf Sa Aa all) (by kernel_rfl)).1 j _ (jq (l:=all) (by omega));refine xm [(0,none),(1,none),(2,none),(3,none)] (bu.sb [2,2,2])<|yi 4 [] a4 j 1 an ac CE (by omega) (bu.sb [2,2,2])<|yg (c:=1) (t:=9) 5 [] [.string (gn all j)] (.string (gn all j)) (fun w' hs=>(cQ hs 0 (it:=bf Sa Aa all) (by kernel_rfl)).1.one CE (jq (by omega))) (bu.sb [2,2,2])<|xm [(6,none),(7,some (1,[])),(8,none)] (bu.sb [2,2,2])<|yi 9 [] a3 i 5 ks.length nc xE (ar mQ) (bu.sb [2,2,2])<|ym 10 [] (a3.add (i*5)) 2 (bu.sb [2,2,2]) ?_;refine yg (c:=1) (t:=9) 11 [] [.string aE] (.string aE) (fun w' hs=>(aa (i:=2) (m:=1) (fZ (Q:=Q) (a:=a3.add (i*5)) (n:=5) (cs:=(Sx.nC bD aI aE bE B3 bl ib)) hs 2 (by kernel_rfl)) (by decide))) (bu.sb [2,2,2])<|xm [(12,none),(13,none),(14,none)] (bu.sb [2,2,2])<|xt<|Sx.vi 4 ((j:Int)+(1:Int)) ((j+1:Nat):Int) (Gx.bj (by omega) (by omega)) ?_;exact xj 2 _ (lX _ _ _ _ (by omega) ⟨(j+1),((gn all j).toList==aE.toList),rfl,rfl,bu.pk [0,0,0,0,0,0],(by omega),(by rw[DX (by omega),hb,dx];rfl)⟩)
     have N8:=of_decide_eq_false oh;have hin:KK (Nd.mk bD aI aE bE bl).nm all=false:=by rw[List.take_of_length_le (by omega)] at hb;exact hb
     rw[if_neg (by rw[hin];decide)] at J_;refine xb 16 3 bq<|xv 1 a3 i 5 ks.length nc xE (ar mQ)<|xy 0 (a3.add (i*5)) 1<|xr (c:=1) (t:=3) 0 [.n aI] (.n aI) (aa (i:=1) (m:=1) (aD (Q:=Q) (a:=a3.add (i*5)) (n:=5) (cs:=(Sx.nC bD aI aE bE B3 bl ib)) bq 4 (by kernel_rfl)) (by decide)) ?_;refine x0 0 [0] bq (fun Hp R hZ=>jd bc bg eA en ec oA on oc cc.fk cc.fa 6 (aI:Int) w7 R Hp  (fun w9 G4=>hZ _ _ _ G4 fun bx=>?_));rw [← (dW (c:=cc) (kd:=6) (a:=(aI:Int))).1,←(dW (c:=cc) (kd:=6) (a:=(aI:Int))).2.1] at bx;refine xz 8 (fun z l' w'=>∃(j:Nat) (cd:Ck),l'=[(0,.p bc),(2,.slice Aa an ac),(4,.p k1),(7,.n i),(10,.n j)]∧z=i-j∧Hs w L0 w' [Sx.cB bc bg eA en ec oA on oc cd.fk cd.fa,eK Q ks nA nc,bf Sa Aa all,.al k1 (.cells #[.n kd,.n na,.string nm,.int .i64 nn,.slice nA ks.length nc] 62),dI Q (a3.add (i*5)) 5 (Sx.nC bD aI aE bE B3 bl ib),eK Q bl B3 ib]∧(2≤j)∧(j≤i)∧(((ks.take i).drop j).foldl (vj (Nd.mk bD aI aE bE bl)) cd=c3)) _ _ ⟨2,(Ck.no cc 6 (aI:Int)),rfl,rfl,bx.pk [0,0,0,0,0,0],(Nat.le_refl _),EK,J_⟩ (fun b4 z4 l4 cJ Dy K4 nh=>?_);obtain ⟨j,cd,rfl,rfl,bZ,hj2,KF,J_⟩:=Dy;refine xl 8 (decide ((j:Int)<(i:Int))) (fun om=>?_) (fun om=>?_)
     · have N9:=of_decide_eq_true om;obtain ⟨dV,N_⟩:=dj (l:=ks) (i:=j) (by omega);obtain ⟨DZ,D0,jC,D1,D2⟩:=dV;obtain ⟨B4,lN,a5,Qo,cj⟩:=aJ (Q:=Q) (ks:=ks) (A:=nA) (c:=nc) (i:=j) bZ 1 (by kernel_rfl) N_;have rU:=BR J_ (by omega) N_;refine xw 5 cj [3,6,4] [] (LJ:=[.al k1 (.cells #[.n kd,.n na,.string nm,.int .i64 nn,.slice nA ks.length nc] 62),dI Q (a5.add (j*5)) 5 (Sx.nC DZ D0 jC D1 B4 D2 lN),dI Q (a3.add (i*5)) 5 (Sx.nC bD aI aE bE B3 bl ib)]) (by kernel_rfl) fun fU cC=>xm [(0,none),(1,some (0,[])),(2,none)] (cC.sb [3,5,3])<|yi 3 [] a5 j 5 ks.length nc Qo (ar N_) (cC.sb [3,5,3])<|ym 4 [] (a5.add (j*5)) 2 (cC.sb [3,5,3])<|yg (c:=1) (t:=9) 5 [] [.string jC] (.string jC) (fun w' hs=>(aa (i:=2) (m:=1) (fZ (Q:=Q) (a:=a5.add (j*5)) (n:=5) (cs:=(Sx.nC DZ D0 jC D1 B4 D2 lN)) hs 1 (by kernel_rfl)) (by decide))) (cC.sb [3,5,3])<|xm [(6,none),(7,some (0,[])),(8,none)] (cC.sb [3,5,3]) ?_;refine yi 9 [] a3 i 5 ks.length nc xE (ar mQ) (cC.sb [3,5,3])<|ym 10 [] (a3.add (i*5)) 2 (cC.sb [3,5,3])<|yg (c:=1) (t:=9) 11 [] [.string aE] (.string aE) (fun w' hs=>(aa (i:=2) (m:=1) (fZ (Q:=Q) (a:=a3.add (i*5)) (n:=5) (cs:=(Sx.nC bD aI aE bE B3 bl ib)) hs 2 (by kernel_rfl)) (by decide))) (cC.sb [3,5,3])<|xm [(12,none)] (cC.sb [3,5,3])<|xt ?_;refine xl 1 (jC.toList==aE.toList) (fun xX=>?_) (fun xX=>?_)
       · have he:ee jC (Nd.mk bD aI aE bE bl).nm=true:=by rw[dx];exact xX
         rw[if_pos he] at rU;refine xb 3 3 cC<|xv 1 a3 i 5 ks.length nc xE (ar mQ)<|xy 0 (a3.add (i*5)) 1<|xr (c:=1) (t:=3) 0 [.n aI] (.n aI) (aa (i:=1) (m:=1) (aD (Q:=Q) (a:=a3.add (i*5)) (n:=5) (cs:=(Sx.nC bD aI aE bE B3 bl ib)) cC 4 (by kernel_rfl)) (by decide)) ?_;refine x0 0 [0] cC (fun Hp R hZ=>jd bc bg eA en ec oA on oc cd.fk cd.fa 7 (aI:Int) fU R Hp  (fun gV G5=>hZ _ _ _ G5 fun c_=>?_));rw [← (dW (c:=cd) (kd:=7) (a:=(aI:Int))).1,←(dW (c:=cd) (kd:=7) (a:=(aI:Int))).2.1] at c_;refine Sx.vi 5 ((j:Int)+(1:Int)) ((j+1:Nat):Int) (Gx.bj (by omega) (by omega)) ?_;exact xj 2 _ (nh _ _ _ _ (by omega) ⟨(j+1),(Ck.no cd 7 (aI:Int)),rfl,rfl,c_.pk [0,0,0,0,0,0],(by omega),(by omega),rU⟩)
       have he:ee jC (Nd.mk bD aI aE bE bl).nm=false:=by rw[dx];exact xX
       rw[if_neg (by rw[he];decide)] at rU;refine Sx.vi 5 ((j:Int)+(1:Int)) ((j+1:Nat):Int) (Gx.bj (by omega) (by omega)) ?_;exact xj 2 _ (nh _ _ _ _ (by omega) ⟨(j+1),cd,rfl,rfl,cC.pk [0,0,0,0,0,0],(by omega),(by omega),rU⟩)
     have N9:=of_decide_eq_false om;obtain rfl:=BS J_ (by omega);refine Sx.vi 8 ((i:Int)+(1:Int)) ((i+1:Nat):Int) (Gx.bj (by omega) (by omega)) ?_;exact xj 2 _ (dH _ _ _ _ (by omega) ⟨(i+1),cd,rfl,rfl,bZ.pk [0,0,0,0],(by omega),(by omega),aa_⟩)
   refine xl 9 (decide ((j:Int)<(an:Int))) (fun oh=>?_) (fun oh=>?_)
   · refine xw 4 bq [] [] (LJ:=[]) (by kernel_rfl) fun iq ef=>?_;refine xm [(0,none),(1,none),(2,none),(3,none),(4,none),(5,none),(6,none),(7,none),(8,none),(9,none),(10,none),(11,none),(12,none),(13,none),(14,none)] Sx.sn<|xt ?_;have N8:=of_decide_eq_true oh;refine Sx.vi 4 ((j:Int)+(1:Int)) ((j+1:Nat):Int) (Gx.bj (by omega) (by omega)) ?_;exact xj 2 _ (lX _ _ _ _ (by omega) ⟨(j+1),true,rfl,rfl,ef.pk [0,0,0,0,0,0],(by omega),(by rw[DX (by omega),hb];rfl)⟩)
   have N8:=of_decide_eq_false oh;have hin:KK (Nd.mk bD aI aE bE bl).nm all=true:=by rw[List.take_of_length_le (by omega)] at hb;exact hb
   rw[if_pos hin] at J_;refine xz 21 (fun z l' w'=>∃(j:Nat) (cd:Ck),l'=[(0,.p bc),(2,.slice Aa an ac),(4,.p k1),(7,.n i),(10,.n j)]∧z=i-j∧Hs w L0 w' [Sx.cB bc bg eA en ec oA on oc cd.fk cd.fa,eK Q ks nA nc,bf Sa Aa all,.al k1 (.cells #[.n kd,.n na,.string nm,.int .i64 nn,.slice nA ks.length nc] 62),dI Q (a3.add (i*5)) 5 (Sx.nC bD aI aE bE B3 bl ib),eK Q bl B3 ib]∧(2≤j)∧(j≤i)∧(((ks.take i).drop j).foldl (vj (Nd.mk bD aI aE bE bl)) cd=c3)) _ _ ⟨2,cc,rfl,rfl,bq.pk [0,0,0,0,0,0],(Nat.le_refl _),EK,J_⟩ (fun b5 z5 l5 iF WM K5 wH=>?_);obtain ⟨j,cd,rfl,rfl,eC,hj2,KF,J_⟩:=WM;refine xl 8 (decide ((j:Int)<(i:Int))) (fun om=>?_) (fun om=>?_)
   · have N9:=of_decide_eq_true om;obtain ⟨dV,N_⟩:=dj (l:=ks) (i:=j) (by omega);obtain ⟨DZ,D0,jC,D1,D2⟩:=dV;obtain ⟨B5,my,a6,J7,dz⟩:=aJ (Q:=Q) (ks:=ks) (A:=nA) (c:=nc) (i:=j) eC 1 (by kernel_rfl) N_;have rU:=BR J_ (by omega) N_;refine xw 5 dz [3,6,4] [] (LJ:=[.al k1 (.cells #[.n kd,.n na,.string nm,.int .i64 nn,.slice nA ks.length nc] 62),dI Q (a6.add (j*5)) 5 (Sx.nC DZ D0 jC D1 B5 D2 my),dI Q (a3.add (i*5)) 5 (Sx.nC bD aI aE bE B3 bl ib)]) (by kernel_rfl) fun kr dS=>xm [(0,none),(1,some (0,[])),(2,none)] (dS.sb [3,5,3])<|yi 3 [] a6 j 5 ks.length nc J7 (ar N_) (dS.sb [3,5,3])<|ym 4 [] (a6.add (j*5)) 2 (dS.sb [3,5,3])<|yg (c:=1) (t:=9) 5 [] [.string jC] (.string jC) (fun w' hs=>(aa (i:=2) (m:=1) (fZ (Q:=Q) (a:=a6.add (j*5)) (n:=5) (cs:=(Sx.nC DZ D0 jC D1 B5 D2 my)) hs 1 (by kernel_rfl)) (by decide))) (dS.sb [3,5,3])<|xm [(6,none),(7,some (0,[])),(8,none)] (dS.sb [3,5,3]) ?_;refine yi 9 [] a3 i 5 ks.length nc xE (ar mQ) (dS.sb [3,5,3])<|ym 10 [] (a3.add (i*5)) 2 (dS.sb [3,5,3])<|yg (c:=1) (t:=9) 11 [] [.string aE] (.string aE) (fun w' hs=>(aa (i:=2) (m:=1) (fZ (Q:=Q) (a:=a3.add (i*5)) (n:=5) (cs:=(Sx.nC bD aI aE bE B3 bl ib)) hs 2 (by kernel_rfl)) (by decide))) (dS.sb [3,5,3])<|xm [(12,none)] (dS.sb [3,5,3])<|xt ?_;refine xl 1 (jC.toList==aE.toList) (fun xX=>?_) (fun xX=>?_)
     · have he:ee jC (Nd.mk bD aI aE bE bl).nm=true:=by rw[dx];exact xX
       rw[if_pos he] at rU;refine xb 3 3 dS<|xv 1 a3 i 5 ks.length nc xE (ar mQ)<|xy 0 (a3.add (i*5)) 1<|xr (c:=1) (t:=3) 0 [.n aI] (.n aI) (aa (i:=1) (m:=1) (aD (Q:=Q) (a:=a3.add (i*5)) (n:=5) (cs:=(Sx.nC bD aI aE bE B3 bl ib)) dS 4 (by kernel_rfl)) (by decide)) ?_;refine x0 0 [0] dS (fun Hp R hZ=>jd bc bg eA en ec oA on oc cd.fk cd.fa 7 (aI:Int) kr R Hp  (fun ku G6=>hZ _ _ _ G6 fun fy=>?_));rw [← (dW (c:=cd) (kd:=7) (a:=(aI:Int))).1,←(dW (c:=cd) (kd:=7) (a:=(aI:Int))).2.1] at fy;refine Sx.vi 5 ((j:Int)+(1:Int)) ((j+1:Nat):Int) (Gx.bj (by omega) (by omega)) ?_;exact xj 2 _ (wH _ _ _ _ (by omega) ⟨(j+1),(Ck.no cd 7 (aI:Int)),rfl,rfl,fy.pk [0,0,0,0,0,0],(by omega),(by omega),rU⟩)
     have he:ee jC (Nd.mk bD aI aE bE bl).nm=false:=by rw[dx];exact xX
     rw[if_neg (by rw[he];decide)] at rU;refine Sx.vi 5 ((j:Int)+(1:Int)) ((j+1:Nat):Int) (Gx.bj (by omega) (by omega)) ?_;exact xj 2 _ (wH _ _ _ _ (by omega) ⟨(j+1),cd,rfl,rfl,dS.pk [0,0,0,0,0,0],(by omega),(by omega),rU⟩)
   have N9:=of_decide_eq_false om;obtain rfl:=BS J_ (by omega);refine Sx.vi 8 ((i:Int)+(1:Int)) ((i+1:Nat):Int) (Gx.bj (by omega) (by omega)) ?_;exact xj 2 _ (dH _ _ _ _ (by omega) ⟨(i+1),cd,rfl,rfl,eC.pk [0,0,0,0],(by omega),(by omega),aa_⟩)
 have v_:=of_decide_eq_false jR;have Ff:=DW hra (by omega);rw [← Ff] at rQ;obtain ⟨cp,bT,bN,cr,bO⟩:=dB;obtain ⟨B6,F7,a7,ha7,hP⟩:=aJ (Q:=Q) (ks:=ks) (A:=nA) (c:=nc) (i:=1) aZ 1 (by kernel_rfl) Wm;refine xb 8 3 hP<|xv 0 a7 1 5 ks.length nc ha7 (ar Wm)<|xr (c:=5) (t:=62) 0 (Sx.nC cp bT bN cr B6 bO F7) (Sx.nA cp bT bN cr B6 bO F7) (aD (Q:=Q) (a:=a7.add (1*5)) (n:=5) (cs:=(Sx.nC cp bT bN cr B6 bO F7)) hP 4 (by kernel_rfl)) ?_;refine x0 1 [0,4,1] hP (fun Hp R hZ=>ih bc bg eA en ec oA on oc Q cp bT bN cr bO B6 F7 Sa Aa an ac all cc w6 R Hp c' rQ sy UI (fun ke G7=>hZ _ _ _ G7 fun jQ=>?_));refine xh 1 [] jQ (.tuple #[]) ?_;subst ak;exact hK _ (jQ.pk [0,2,1])
theorem xY(k:Nat):oy k:=by
 induction k with
 |zero=>intro bc bg eA en ec oA on oc Q kd na nm nn ks nA nc Sa Aa an ac all c w K H0 c' hf;exact absurd hf (by simp[cf])
 |succ k ih=>exact BT k ih
end Go.Proofs.YtdmdecgoebnamaaGreat
namespace Go.aS
open Go.RowKit Go.Sx Go.Gx Go.fO
theorem SP{s:List Nat}{n:Nat}(h:s.contains n=false):add s n=s++[n]:=by unfold add;rw[if_neg (by rw[h];decide)]
abbrev V3:=List Nat×List Nat×List Nat
def VC(k:Nat)(g:G)(u kd:Nat)(s t r s' t' r':List Nat):Prop:=
 (kd≠6→s=s'∧t=t'∧r=r')∧(kd=6→∃q l v,g.row[u]?=some q∧whole k g q []=some (l,v)∧(v=0→s=s'∧t=t'∧r=r')∧(v≠0→s=s'∧t=t'∧add r v=r'))
def VB(k:Nat)(g:G)(u kd:Nat)(s t r s' t' r':List Nat):Prop:=
 ∃y,g.b[u]?=some y∧(y=none→VC k g u kd s t r s' t' r')∧∀p,y=some p→∃s2 t2 r2,vars k g p s t r=some (s2,t2,r2)∧VC k g u kd s2 t2 r2 s' t' r'
def VA(k:Nat)(g:G)(u kd:Nat)(s t r s' t' r':List Nat):Prop:=
 ∃y,g.a[u]?=some y∧(y=none→VB k g u kd s t r s' t' r')∧∀p,y=some p→∃s2 t2 r2,vars k g p s t r=some (s2,t2,r2)∧VB k g u kd s2 t2 r2 s' t' r'
theorem F9{k n : Nat}{g : G}{s t r s' t' r' : List Nat}(h : vars (k + 1) g n s t r = some (s', t', r')) :
   ∃u,find k g n=some u∧(s.contains u=true→s=s'∧t=t'∧r=r')∧(s.contains u=false→∃kd,g.kind[u]?=some kd∧(kd=0→s++[u]=s'∧add t u=t'∧r=r')∧(kd≠0→VA k g u kd (s++[u]) t r s' t' r')):=by
 unfold vars at h;split at h<;>try contradiction
 rename_i u hu;refine ⟨u,hu,fun e=>?_,fun e=>?_⟩
 · rw[if_pos e] at h;cases h;exact⟨rfl,rfl,rfl⟩
 · rw[if_neg (by rw[e];decide)] at h;simp only at h;cases hk:g.kind[u]? with
   |none=>simp[hk] at h
   |some kd=>
     refine⟨kd,rfl,fun e0=>?_,fun e0=>?_⟩
     · subst e0;simp only[hk,Option.some.injEq,Prod.mk.injEq] at h;exact h
     · rw[hk] at h
       have h:(match (match g.a[u]? with|some none=>some ((s++[u],t,r):V3)|some (some m)=>vars k g m (s++[u]) t r|none=>none) with
         |some q=>(match (match g.b[u]? with|some none=>some q|some (some m)=>vars k g m q.1 q.2.1 q.2.2|none=>none) with
           |some z=>if kd=6 then(match g.row[u]? with
             |some rr=>(match whole k g rr [] with
               |some (_,0)=>some z
               |some (_,v+1)=>some (z.1,z.2.1,add z.2.2 (v+1))
               |none=>none)
             |none=>none) else some z
           |none=>none)
         |none=>none)=some (s',t',r'):=by
         cases kd with
         |zero=>exact absurd rfl e0
         |succ kd=>exact h
       have hC : ∀ z : V3, (if kd = 6 then (match g.row[u]? with
             |some rr=>(match whole k g rr [] with
               |some (_,0)=>some z
               |some (_,v+1)=>some (z.1,z.2.1,add z.2.2 (v+1))
               |none=>none)
             |none=>none) else some z)=some (s',t',r')→VC k g u kd z.1 z.2.1 z.2.2 s' t' r':=by
         intro z hz
         refine⟨fun e6=>?_,fun e6=>?_⟩
         · rw[if_neg e6] at hz;cases hz;exact⟨rfl,rfl,rfl⟩
         · rw[if_pos e6] at hz
           split at hz<;>try contradiction
           rename_i rr hr
           split at hz<;>try contradiction
           · rename_i l hw;cases hz;exact⟨rr,l,0,hr,hw,fun _=>⟨rfl,rfl,rfl⟩,fun q=>absurd rfl q⟩
           · rename_i l v hw;cases hz;exact⟨rr,l,v+1,hr,hw,fun q=>by omega,fun _=>⟨rfl,rfl,rfl⟩⟩
       have hB : ∀ q : V3, (match (match g.b[u]? with | some none => some q | some (some m) => vars k g m q.1 q.2.1 q.2.2 | none => none) with
           |some z=>if kd=6 then(match g.row[u]? with
             |some rr=>(match whole k g rr [] with
               |some (_,0)=>some z
               |some (_,v+1)=>some (z.1,z.2.1,add z.2.2 (v+1))
               |none=>none)
             |none=>none) else some z
           |none=>none)=some (s',t',r')→VB k g u kd q.1 q.2.1 q.2.2 s' t' r':=by
         intro q hq
         cases hb:g.b[u]? with
         |none=>simp[hb] at hq
         |some y=>
           cases y with
           |none=>rw[hb] at hq;exact⟨none,hb,fun _=>hC q hq,fun p e=>by cases e⟩
           |some p=>
             rw[hb] at hq
             cases hv:vars k g p q.1 q.2.1 q.2.2 with
             |none=>simp[hv] at hq
             |some z=>simp only[hv] at hq;exact⟨some p,hb,fun e=>(by cases e),fun p' e=>by cases e;exact⟨z.1,z.2.1,z.2.2,hv,hC z hq⟩⟩
       cases ha:g.a[u]? with
       |none=>simp[ha] at h
       |some y=>
         cases y with
         |none=>rw[ha] at h;exact⟨none,ha,fun _=>hB (s++[u],t,r) h,fun p e=>by cases e⟩
         |some p=>
           rw[ha] at h;cases hv:vars k g p (s++[u]) t r with
           |none=>simp[hv] at h
           |some z=>simp only[hv] at h;exact⟨some p,ha,fun e=>(by cases e),fun p' e=>by cases e;exact⟨z.1,z.2.1,z.2.2,hv,hB z h⟩⟩
def MF(a x:List Nat)(t:List Nat):List Nat:=(a.filter fun n=>!x.contains n).foldl add t
theorem zp{l:List Nat}{t:List Nat}{n:Nat}:n∈l.foldl add t↔n∈t∨n∈l:=by
 induction l generalizing t with
 |nil=>simp
 |cons y l ih=>rw[List.foldl_cons,ih,uY,List.mem_cons];exact or_assoc
theorem Xe{a x t:List Nat}{n:Nat}:n∈MF a x t↔n∈t∨(n∈a∧n∉x):=by
 unfold MF;rw[zp,List.mem_filter];simp
def Io(x left now a t:List Nat):Prop:=∀n,(n∈now∨(n∈left∧n∉x))↔n∈MF a x t
theorem Io.init{x l a t:List Nat}(h:kq l a):Io x l t a t:=fun n=>by rw[Xe,h n]
theorem Io.pG{x left lf now a t:List Nat}{q:Nat}(h:Io x left now a t)(p:left.Perm (q::lf))(hq:(!x.contains q)=true):Io x lf (add now q) a t:=fun n=>by
 rw[← h n,uY,p.mem_iff,List.mem_cons];have KU:q∉x:=by simpa using hq
 constructor
 · rintro((h1|rfl)|h2)
   · exact .inl h1
   · exact .inr ⟨.inl rfl,KU⟩
   · exact .inr ⟨.inr h2.1,h2.2⟩
 · rintro(h1|⟨rfl|h1,h2⟩)
   · exact .inl (.inl h1)
   · exact .inl (.inr rfl)
   · exact .inr ⟨h1,h2⟩
theorem Io.abb{x left lf now a t:List Nat}{q:Nat}(h:Io x left now a t)(p:left.Perm (q::lf))(hq:(!x.contains q)=false):Io x lf now a t:=fun n=>by
 rw[← h n,p.mem_iff,List.mem_cons];have KU:q∈x:=by simpa using hq
 constructor
 · rintro(h1|h2)
   · exact .inl h1
   · exact .inr ⟨.inr h2.1,h2.2⟩
 · rintro(h1|⟨rfl|h1,h2⟩)
   · exact .inl h1
   · exact absurd KU h2
   · exact .inr ⟨h1,h2⟩
theorem Io.done{x now a t left:List Nat}(h:Io x left now a t)(e:left=[]):kq now (MF a x t):=fun n=>by rw[← h n,e];simp
def Wo(a t:List Nat):List Nat:=t.filter fun v=>!a.contains v
def xZ(left now a t:List Nat):Prop:=∀n,(n∈now∧n∉left)↔n∈Wo a t
theorem Xf{a t:List Nat}{n:Nat}:n∈Wo a t↔n∈t∧n∉a:=by unfold Wo;rw[List.mem_filter];simp
theorem xZ.init{l a t:List Nat}(h:kq l a):xZ l t a t:=fun n=>by rw[Xf,h n]
theorem xZ.step{left lf now a t:List Nat}{q:Nat}(h:xZ left now a t)(p:left.Perm (q::lf)):xZ lf (now.filter fun n=>n != q) a t:=fun n=>by
 rw[← h n,List.mem_filter,p.mem_iff,List.mem_cons];constructor
 · rintro⟨⟨h1,h2⟩,h3⟩;exact ⟨h1,fun h=>h.elim (by simpa using h2) h3⟩
 · rintro⟨h1,h2⟩;exact ⟨⟨h1,by have:n≠q:=fun e=>h2 (.inl e);simpa using this⟩,fun h=>h2 (.inr h)⟩
theorem xZ.done{now a t left:List Nat}(h:xZ left now a t)(e:left=[]):kq now (Wo a t):=fun n=>by rw[← h n,e];simp
theorem BU{k : Nat}{g : G}{x : sL}{e : List sL}{s t r t' r' : List Nat}(h : fE k g (x :: e) s t r = some (t', r')) :
   (x.all=true→∃z a b,vars k g x.t [] [] []=some (z,a,b)∧fE k g e s (MF a x.tv t) (MF b x.rv r)=some (t',r'))∧
   (x.all=false→∃s2 t2 r2,vars k g x.t s t r=some (s2,t2,r2)∧fE k g e s2 t2 r2=some (t',r')):=by
 unfold fE at h;refine ⟨fun e1=>?_,fun e1=>?_⟩
 · rw[if_pos e1] at h;split at h<;>try contradiction
   rename_i z a b hv;exact ⟨z,a,b,hv,h⟩
 · rw[if_neg (by rw[e1];decide)] at h;split at h<;>try contradiction
   rename_i s2 t2 r2 hv;exact ⟨s2,t2,r2,hv,h⟩
theorem Oa{k i:Nat}{g:G}{el:List Nv}{x:Nv}{s t r t' r':List Nat}(h:fE k g ((el.drop i).map (·.1)) s t r=some (t',r'))(hx:el[i]?=some x):fE k g (x.1::(el.drop (i+1)).map (·.1)) s t r=some (t',r'):=by
 obtain⟨hi,e⟩:=List.getElem?_eq_some_iff.1 hx;rw [List.drop_eq_getElem_cons hi,List.map_cons,e] at h;exact h
theorem zq{k n : Nat}{c : Ck}{nm : Nm}{x : sL}(h : c.il k nm n = some x) :
   ∃it ir z tv rv,fE k c.g c.env [] [] []=some (it,ir)∧vars k c.g n [] [] []=some (z,tv,rv)∧(⟨nm,n,true,Wo it tv,Wo ir rv,true⟩:sL)=x:=by
 unfold Ck.il at h;split at h<;>try contradiction
 rename_i it ir z tv rv h1 h2;cases h;exact ⟨it,ir,z,tv,rv,h1,h2,rfl⟩
section
variable {w0 w:World} {L0 L:List Sx.Item}
theorem rV(H:Hs w0 L0 w L)(j:Nat){S:Nat→Prop}{l:List Nv}(hi:L[j]?=some (aX S l)):∀x∈l,xV w S x:=(H.at j hi).1
theorem D3(H:Hs w0 L0 w L)(j:Nat){S:Nat→Prop}{l m:List Nv}(hi:L[j]?=some (aX S l))(h:∀x∈m,x∈l):Hs w0 L0 w (L++[aX S m]):=
 H.ro j (S:=S) (A:=fun w=>∀x∈l,xV w S x) (B:=fun w=>∀x∈m,xV w S x) hi (fun x hx=>rV H j hi x (h x hx)) (lO _ _)
theorem eH{nm:Nm}{t:Nat}{o:Bool}:∀{w:World},(aX (fun _=>False) [(⟨nm,t,false,[],[],o⟩,none,none)]).holds w:=
 ⟨fun x hx=>by rw[List.mem_singleton.1 hx];exact⟨rfl,rfl⟩,fun _ h=>h.elim,lO _ _⟩
theorem Ka(H:Hs w0 L0 w L)(I:List Nat){nm:Nm}{n b1 b2:Nat}{a o:Bool}{t r:List Nat}(hp:bp I L=some [cS b1 t,cS b2 r]):∃S,Hs w0 L0 w (aX S [(⟨nm,n,a,t,r,o⟩,some b1,some b2)]::rest I L):=by
 refine⟨_,H.fz I hp (fun s x hx=>?_) (lO _ _)⟩;rw [List.mem_singleton.1 hx];have h0:=s.all _ (.head _);have h1:=s.all _ (.tail _ (.head _));exact ⟨⟨⟨_,.head _,rfl⟩,h0.1⟩,⟨⟨_,.tail _ (.head _),rfl⟩,h1.1⟩⟩
theorem Kb(H:Hs w0 L0 w L)(i j:Nat){S S2:Nat→Prop}{l m:List Nv}(hi:L[i]?=some (aX S l))(hj:L[j]?=some (aX S2 m)):Hs w0 L0 w (L++[aX (fun c=>S c∨S2 c) (l++m)]):=by
 have h1:=H.at i hi;have h2:=H.at j hj;have mi:=List.mem_of_getElem? hi;have mj:=List.mem_of_getElem? hj;have hh:(aX (fun c=>S c∨S2 c) (l++m)).holds w:=by
   refine⟨fun x hx=>?_,fun c hc=>hc.elim (h1.2.1 c) (h2.2.1 c),lO _ _⟩;rcases List.mem_append.1 hx with q|q
   · exact(h1.1 x q).mono fun c h=>.inl h
   · exact(h2.1 x q).mono fun c h=>.inr h
 refine⟨H.kp,⟨fun it pG=>?_,List.pairwise_append.2 ⟨H.sp.yN,List.pairwise_singleton _ _,fun x hx y hy=>?_⟩⟩,fun it pG c hc hl=>?_,fun it pG hw c hc hl=>?_⟩
 · rcases List.mem_append.1 pG with q|q
   · exact H.sp.all it q
   · rw[List.mem_singleton.1 q];exact hh
 · rw[List.mem_singleton.1 hy];intro hw c hc Ff;have Ey:x.wr=true:=by simpa [aX,Sx.Item.wr] using hw
   have ap:∀(y:Sx.Item),y∈L→y.wr=false→∀c,x.fp c→¬y.fp c:=by
     intro y hy hyw c h3 h4;obtain ⟨a,ha,ea⟩:=List.mem_iff_getElem.1 hx;obtain ⟨b,hb,eb⟩:=List.mem_iff_getElem.1 hy;have pw:=List.pairwise_iff_getElem.1 H.sp.yN;rcases Nat.lt_trichotomy a b with q|q|q
     · have:=pw a b ha hb q;rw[ea,eb] at this;exact this (by rw[Ey];rfl) c h3 h4
     · subst q;rw[ea] at eb;subst eb;rw[Ey] at hyw;cases hyw
     · have:=pw b a hb ha q;rw[ea,eb] at this;exact this (by rw[Ey];simp) c h4 h3
   rcases Ff with q|q
   · exact ap _ mi rfl c hc q
   · exact ap _ mj rfl c hc q
 · rcases List.mem_append.1 pG with q|q
   · exact H.Cs it q c hc hl
   · rw[List.mem_singleton.1 q] at hc;rcases hc with q'|q'
     · exact H.Cs _ mi c q' hl
     · exact H.Cs _ mj c q' hl
 · rcases List.mem_append.1 pG with q|q
   · exact H.Hd it q hw c hc hl
   · rw[List.mem_singleton.1 q] at hw;cases hw
end
end Go.aS
namespace Go.Proofs.YtdmdecgoebnamaaGreat
open Go.RowKit Go.Sx Go.aS Go.fO
attribute [local irreducible] Go.wpOps Go.Code.wp Go.wpOp Go.wpAnyH Go.Calls Go.Sx.Goal
set_option maxRecDepth 20000
def BV(k : Nat) : Prop := ∀(bc bg : Nat)(eA : Option Addr)(en ec : Nat)(oA : Option Addr)(on oc : Nat)(fk : Nat)(fa : Int)(S : Nat → Prop)(g : G)(n : Nat)(bs : Nat)(s : List Nat)(bt : Nat)(t : List Nat)(br : Nat)(r : List Nat)(w : World)(K : Ending → World → Prop)(H0 : Sp w [Sx.cB bc bg eA en ec oA on oc fk fa, GI S bg g, cS bs s, cS bt t, cS br r])(s' t' r' : List Nat)(hf : vars k g n s t r = some (s', t', r'))(hK : ∀ (S' : Nat → Prop) w', Hs w [Sx.cB bc bg eA en ec oA on oc fk fa, GI S bg g, cS bs s, cS bt t, cS br r] w' [Sx.cB bc bg eA en ec oA on oc fk fa, GI S' bg g, cS bs s', cS bt t', cS br r'] → K (.returned (.tuple #[])) w'),
   Calls Tryz.prog 93 #[.p bc,.n n,.map (some bs),.map (some bt),.map (some br)] w K
set_option maxHeartbeats 8000000 in
theorem Ob(k:Nat)(ih:BV k):BV (k+1):=by
 intro bc bg eA en ec oA on oc fk fa S g n bs s bt t br r w K H0 s' t' r' hf hK;obtain ⟨L0,ak,H⟩:=Sx.bX H0;refine xu (vs:=[.p bc,.n n,.map (some bs),.map (some bt),.map (some br)]) 121 Tryz.func93 ?_;obtain ⟨u1,hn,Dt,uy⟩:=F9 hf;refine xb 5 0 H ?_;refine x0 1 [1] H (fun Hp R hZ=>oe S bg g n w R Hp _ u1 hn (fun S1 w1 G1=>hZ _ _ _ G1 fun H1=>?_));refine lkb (t:=120) (kt:=3) (et:=4) 8 2 bs u1 s H1 (by kernel_rfl) ?_;refine xl 2 (List.contains s u1) (fun iK=>?_) (fun iK=>?_)
 · obtain⟨rfl,rfl,rfl⟩:=Dt iK;refine xh 2 [] H1 (.tuple #[]) ?_;subst ak;exact Gx.af (v':=.tuple #[]) (by rfl) (hK S1 _ (H1.pk [1,0,0,0,0]))
 obtain⟨kd,fC,HV,Su⟩:=uy iK;refine mub (t:=120) (kt:=3) (et:=4) 6 2 bs u1 s H1 (by kernel_rfl) fun w2 H2=>?_;have H3:=vY H2 2 (b:=bs) (s:=add s u1) (t:=(s++[u1])) (by kernel_rfl) (by rw[SP iK];exact kq.rfl');obtain ⟨⟨⟨Ao,mr⟩,⟨uH,uI⟩,⟨zk,kV⟩,⟨uJ,uK⟩,⟨uL,uM⟩,⟨uN,uO⟩,⟨uP,uQ⟩,iM,je,jX,xH,eV,sZ⟩,H4⟩:=ba H3 0 (S:=S1) (bg:=bg) (g:=g) (by kernel_rfl);obtain ⟨BH,FV,mJ,FW,FX,FY,FZ,F0⟩:=bM H4;simp only at BH FV mJ FW FX FY FZ F0;have KX:u1<eV:=by rw[← BH];exact ar fC
 obtain⟨yS,rfl⟩:=H4.row 1 (A:=Ao) (e:=3) (sz:=1) (cap:=mr) (n:=eV) (xs:=(bL (g.kind))) (by kernel_rfl) (by omega);refine xb 8 11 H4<|xb 2 0 H4<|yf 1 yS u1 1 eV mr (by omega)<|y0 0 1 3 1 3 yS mr eV (u1*1) (bL (g.kind)) H4 (.n kd) (b_ fC) ?_;refine xl 3 ((kd:Int)==(0:Int)) (fun Oc=>?_) (fun Oc=>?_)
 · have abd:=Gx.k1 Oc;obtain ⟨S2,H5⟩:=aq H4 [0,0,0,0,0,0,0,0,0,0,0] (bg:=bg) (g:=g) ⟨((some ⟨yS,0,none⟩),mr),(uH,uI),(zk,kV),(uJ,uK),(uL,uM),(uN,uO),(uP,uQ),iM,je,jX,xH,eV,sZ⟩ (by kernel_rfl);obtain ⟨rfl,rfl,rfl⟩:=HV (by omega);refine mub (t:=120) (kt:=3) (et:=4) 4 3 bt u1 t H5 (by kernel_rfl) fun w3 H6=>xh 4 [] H6 (.tuple #[]) ?_;subst ak;exact Gx.af (v':=.tuple #[]) (by rfl) (hK S2 _ (H6.pk [1,0,0,0,0]))
 have abd:=Gx.k0 Oc;obtain ⟨S3,H7⟩:=aq H4 [0,0,0,0,0,0,0,0,0,0,0] (bg:=bg) (g:=g) ⟨((some ⟨yS,0,none⟩),mr),(uH,uI),(zk,kV),(uJ,uK),(uL,uM),(uN,uO),(uP,uQ),iM,je,jX,xH,eV,sZ⟩ (by kernel_rfl);obtain ⟨y,hy,DP,BI⟩:=Su (by omega);refine yd 2 (fun l' w'=>∃(S1:Nat→Prop) (s1:List Nat) (t1:List Nat) (r1:List Nat),l'=[(0,.p bc),(1,.n u1),(2,.map (some bs)),(3,.map (some bt)),(4,.map (some br))]∧Hs w L0 w' [Sx.cB bc bg eA en ec oA on oc fk fa,GI S1 bg g,cS bs s1,cS bt t1,cS br r1]∧(VB k g u1 kd s1 t1 r1 s' t' r')) (fun K1 aN=>?_) (fun b1 l1 w4 bQ=>?_)
 · obtain⟨⟨⟨BJ,pd⟩,⟨BL,mv⟩,⟨xI,tV⟩,⟨zl,pS⟩,⟨xJ,xK⟩,⟨xL,xM⟩,⟨vc,xN⟩,jY,jf,mw,BM,dN,s5⟩,H8⟩:=ba H7 0 (S:=S3) (bg:=bg) (g:=g) (by kernel_rfl);obtain ⟨F3,EP,HR,HS,J0,J1,J2,J3⟩:=bM H8;simp only at F3 EP HR HS J0 J1 J2 J3;have KX:u1<dN:=by rw[← EP];exact ar hy
   obtain⟨yT,rfl⟩:=H8.row 2 (A:=BL) (e:=3) (sz:=1) (cap:=mv) (n:=dN) (xs:=(aw (g.a))) (by kernel_rfl) (by omega);refine xb 5 11 H8<|xb 2 0 H8<|yf 1 yT u1 1 dN mv (by omega)<|y0 0 2 3 1 3 yT mv dN (u1*1) (aw (g.a)) H8 (.int .i64 (eI y)) (bB hy) ?_;refine xl 3 (decide ((eI y)≥(0:Int))) (fun Od=>?_) (fun Od=>?_)
   · obtain⟨p,rfl⟩:=e_ Od;obtain ⟨s2,t2,r2,gO,iE⟩:=BI p rfl;refine xb 5 11 H8<|xb 2 0 H8<|yf 1 yT u1 1 dN mv (by omega)<|y0 0 2 3 1 3 yT mv dN (u1*1) (aw (g.a)) H8 (.n p) (aQ hy) ?_;obtain ⟨S4,H9⟩:=aq H8 [0,0,0,0,0,0,0,0,0,0,0] (bg:=bg) (g:=g) ⟨(BJ,pd),((some ⟨yT,0,none⟩),mv),(xI,tV),(zl,pS),(xJ,xK),(xL,xM),(vc,xN),jY,jf,mw,BM,dN,s5⟩ (by kernel_rfl);refine x0 3 [1,0,0,0,0] H9 (fun Hp R hZ=>ih bc bg eA en ec oA on oc fk fa S4 g p bs (s++[u1]) bt t br r w2 R Hp s2 t2 r2 gO (fun S5 w5 G2=>hZ _ _ _ G2 fun aY=>?_));exact xj 1 _ (aN _ _ _ ⟨S5,s2,t2,r2,rfl,aY,iE⟩)
   have gP:=ff Od;obtain ⟨S6,aZ⟩:=aq H8 [0,0,0,0,0,0,0,0,0,0,0] (bg:=bg) (g:=g) ⟨(BJ,pd),((some ⟨yT,0,none⟩),mv),(xI,tV),(zl,pS),(xJ,xK),(xL,xM),(vc,xN),jY,jf,mw,BM,dN,s5⟩ (by kernel_rfl);exact xj 1 _ (aN _ _ _ ⟨S6,(s++[u1]),t,r,rfl,aZ.pk [1,0,0,0,0],(DP gP)⟩)
 obtain⟨S1,s1,t1,r1,rfl,bF,hB⟩:=bQ;obtain ⟨y,hy,DP,BI⟩:=hB;obtain ⟨⟨⟨HX,HY⟩,⟨HZ,H_⟩,⟨NZ,uR⟩,⟨J6,zn⟩,⟨Ia,Ib⟩,⟨Ic,Ie⟩,⟨Ig,Ih⟩,rP,qE,xS,N0,jH,DQ⟩,bq⟩:=ba bF 1 (S:=S1) (bg:=bg) (g:=g) (by kernel_rfl);obtain ⟨SA,SD,N1,N2,SE,SF,SG,SH⟩:=bM bq;simp only at SA SD N1 N2 SE SF SG SH;have KX:u1<jH:=by rw[← N1];exact ar hy
 obtain⟨F_,rfl⟩:=bq.row 3 (A:=NZ) (e:=3) (sz:=1) (cap:=uR) (n:=jH) (xs:=(aw (g.b))) (by kernel_rfl) (by omega);refine yd 0 (fun l' w'=>∃(S2:Nat→Prop) (s3:List Nat) (t3:List Nat) (r3:List Nat),l'=[(0,.p bc),(1,.n u1),(4,.map (some br))]∧Hs w L0 w' [Sx.cB bc bg eA en ec oA on oc fk fa,GI S2 bg g,cS bs s3,cS bt t3,cS br r3]∧(VC k g u1 kd s3 t3 r3 s' t' r')) (fun K2 dH=>?_) (fun b2 l2 w6 gA=>?_)
 · refine xb 5 11 bq ?_;refine xb 2 0 bq<|yf 1 F_ u1 1 jH uR (by omega)<|y0 0 3 3 1 3 F_ uR jH (u1*1) (aw (g.b)) bq (.int .i64 (eI y)) (bB hy) ?_;refine xl 3 (decide ((eI y)≥(0:Int))) (fun Aj=>?_) (fun Aj=>?_)
   · obtain⟨p,rfl⟩:=e_ Aj;obtain ⟨s2,t2,r2,gO,iE⟩:=BI p rfl;refine xb 5 11 bq<|xb 2 0 bq<|yf 1 F_ u1 1 jH uR (by omega)<|y0 0 3 3 1 3 F_ uR jH (u1*1) (aw (g.b)) bq (.n p) (aQ hy) ?_;obtain ⟨S7,bu⟩:=aq bq [0,0,0,0,0,0,0,0,0,0,0] (bg:=bg) (g:=g) ⟨(HX,HY),(HZ,H_),((some ⟨F_,0,none⟩),uR),(J6,zn),(Ia,Ib),(Ic,Ie),(Ig,Ih),rP,qE,xS,N0,jH,DQ⟩ (by kernel_rfl);refine x0 3 [1,0,0,0,0] bu (fun Hp R hZ=>ih bc bg eA en ec oA on oc fk fa S7 g p bs s1 bt t1 br r1 w4 R Hp s2 t2 r2 gO (fun S8 w7 G3=>hZ _ _ _ G3 fun bS=>?_));exact xj 1 _ (dH _ _ _ ⟨S8,s2,t2,r2,rfl,bS,iE⟩)
   have gP:=ff Aj;obtain ⟨S9,bx⟩:=aq bq [0,0,0,0,0,0,0,0,0,0,0] (bg:=bg) (g:=g) ⟨(HX,HY),(HZ,H_),((some ⟨F_,0,none⟩),uR),(J6,zn),(Ia,Ib),(Ic,Ie),(Ig,Ih),rP,qE,xS,N0,jH,DQ⟩ (by kernel_rfl);exact xj 1 _ (dH _ _ _ ⟨S9,s1,t1,r1,rfl,bx.pk [1,0,0,0,0],(DP gP)⟩)
 obtain⟨S2,s3,t3,r3,rfl,bZ,hC⟩:=gA;obtain ⟨Ga,wg⟩:=hC;obtain ⟨⟨⟨SQ,BW⟩,⟨KZ,D4⟩,⟨K0,CG⟩,⟨Oe,zr⟩,⟨Kc,Ke⟩,⟨Kf,Kg⟩,⟨Kh,Ki⟩,s8,s9,zt,Qp,iv,ER⟩,cj⟩:=ba bZ 1 (S:=S2) (bg:=bg) (g:=g) (by kernel_rfl);obtain ⟨SR,UN,UO,SS,Xg,Xh,Xi,Xj⟩:=bM cj;simp only at SR UN UO SS Xg Xh Xi Xj;have KX:u1<iv:=by rw[← SR];exact ar fC
 obtain⟨Of,rfl⟩:=cj.row 1 (A:=SQ) (e:=3) (sz:=1) (cap:=BW) (n:=iv) (xs:=(bL (g.kind))) (by kernel_rfl) (by omega);refine xb 5 11 cj<|xb 2 0 cj<|yf 1 Of u1 1 iv BW (by omega)<|y0 0 1 3 1 3 Of BW iv (u1*1) (bL (g.kind)) cj (.n kd) (b_ fC) ?_;refine xl 3 ((kd:Int)==(6:Int)) (fun Og=>?_) (fun Og=>?_)
 · have abe:=Gx.k1 Og;obtain ⟨q,l,v,hq,hw,KW,Qm⟩:=wg (by omega);have apH:u1<iv:=by rw[← SS];exact ar hq
   obtain⟨Oh,rfl⟩:=cj.row 4 (A:=Oe) (e:=3) (sz:=1) (cap:=zr) (n:=iv) (xs:=(bL (g.row))) (by kernel_rfl) (by omega);refine xw 1 cj [11,0,4] [14] (LJ:=[Sx.cB bc bg eA en ec oA on oc fk fa,.al bg (.cells #[.slice (some ⟨Of,0,none⟩) iv BW,.slice KZ iv D4,.slice K0 iv CG,.slice (some ⟨Oh,0,none⟩) iv zr,.slice Kc iv Ke,.slice Kf ER Kg,.slice Kh ER Ki,.map (some s8),.map (some s9)] 154),.own 3 1 (some ⟨Oh,0,none⟩) zr iv (bL (g.row))]) (by kernel_rfl) fun w8 cC=>xm [(0,none),(1,none),(2,none),(3,some (0,[14,15,16,17,18,19])),(4,none),(5,none),(6,none),(7,some (0,[8,9,10,12,13,14,15,16,17,18,19])),(8,none),(9,none),(10,some (1,[12,13,14,15,16,17,18,19])),(11,none)] (cC.sb [11,0,3])<|yj 12 [13,14,15,16,17,18,19] Oh u1 1 iv zr (by omega) (cC.sb [11,0,3])<|yq 13 [14,15,16,17,18,19] 2 3 1 3 Oh zr iv (u1*1) (bL (g.row)) (.n q) (b_ hq) (cC.sb [11,0,3])<|xg ?_;intro gy;refine xi 14 ?_;obtain ⟨rO,c_⟩:=aq cC [0,0,0,0,0,0,0,0,0,0,0] (bg:=bg) (g:=g) ⟨((some ⟨Of,0,none⟩),BW),(KZ,D4),(K0,CG),((some ⟨Oh,0,none⟩),zr),(Kc,Ke),(Kf,Kg),(Kh,Ki),s8,s9,zt,Qp,iv,ER⟩ (by kernel_rfl);refine x0 0 [0] c_ (fun Hp R hZ=>kM rO bg g q w8 R Hp _ v l hw (fun tU CF A1 n1 c1 w9 G4 u9 m_=>hZ _ _ _ G4 fun dJ=>?_));refine xe (x:=gy) 14 Sx.np<|xm [(15,none),(16,none),(17,none),(18,none),(19,none)] Sx.np<|xt ?_;refine xl 7 (decide ((v:Int)>(0:Int))) (fun Gb=>?_) (fun Gb=>?_)
   · have Xk:=of_decide_eq_true Gb;obtain ⟨rfl,rfl,rfl⟩:=Qm (by omega);refine mub (t:=120) (kt:=3) (et:=4) 3 5 br v r3 dJ (by kernel_rfl) fun cJ cW=>xh 1 [] cW (.tuple #[]) ?_;subst ak;exact Gx.af (v':=.tuple #[]) (by rfl) (hK tU _ (cW.pk [2,0,1,1,1]))
   have Xk:=of_decide_eq_false Gb;obtain ⟨rfl,rfl,rfl⟩:=KW (by omega);refine xh 1 [] dJ (.tuple #[]) ?_;subst ak;exact Gx.af (v':=.tuple #[]) (by rfl) (hK tU _ (dJ.pk [2,0,1,1,1]))
 have abe:=Gx.k0 Og;obtain ⟨rfl,rfl,rfl⟩:=Ga (by omega);refine xh 1 [] cj (.tuple #[]) ?_;obtain ⟨BN,cK⟩:=aq cj [0,0,0,0,0,0,0,0,0,0,0] (bg:=bg) (g:=g) ⟨((some ⟨Of,0,none⟩),BW),(KZ,D4),(K0,CG),(Oe,zr),(Kc,Ke),(Kf,Kg),(Kh,Ki),s8,s9,zt,Qp,iv,ER⟩ (by kernel_rfl);subst ak;exact Gx.af (v':=.tuple #[]) (by rfl) (hK BN _ (cK.pk [1,0,0,0,0]))
theorem Gc(k:Nat):BV k:=by
 induction k with
 |zero=>intro bc bg eA en ec oA on oc fk fa S g n bs s bt t br r w K H0 s' t' r' hf;exact absurd hf (by simp[vars])
 |succ k ih=>exact Ob k ih
theorem Xl(bc bg : Nat)(eA : Option Addr)(en ec : Nat)(oA : Option Addr)(on oc : Nat)(fk : Nat)(fa : Int)(S : Nat → Prop)(g : G)(n : Nat)(bs : Nat)(bt : Nat)(t : List Nat)(br : Nat)(r : List Nat)(Sv : Nat → Prop)(x : Nv)(w : World)(K : Ending → World → Prop)(H0 : Sp w [Sx.cB bc bg eA en ec oA on oc fk fa, GI S bg g, cS bt t, cS br r, aX Sv ([x])])(k : Nat)(z a b : List Nat)(hf : vars k g n [] [] [] = some (z, a, b))(hK : ∀(S' : Nat → Prop) w', Hs w [Sx.cB bc bg eA en ec oA on oc fk fa, GI S bg g, cS bt t, cS br r, aX Sv ([x])] w' [Sx.cB bc bg eA en ec oA on oc fk fa, GI S' bg g, cS bt (MF a x.1.tv t), cS br (MF b x.1.rv r), aX Sv ([x])] → K (.returned (.tuple #[])) w') :
   Calls Tryz.prog 121 #[.p bc,.n n,.map (some bs),.map (some bt),.map (some br),.agg #[.string x.1.nm,.n x.1.t,.bool x.1.all,.map x.2.1,.map x.2.2,.bool x.1.gu]] w K:=by
 obtain⟨L0,ak,H⟩:=Sx.bX H0;refine xu (vs:=[.p bc,.n n,.map (some bs),.map (some bt),.map (some br),.agg #[.string x.1.nm,.n x.1.t,.bool x.1.all,.map x.2.1,.map x.2.2,.bool x.1.gu]]) 50 Tryz.func121<|xf 2 H fun k1 w1 H1=>xf 4 H1 fun k2 w2 H2=>?_;have H3:=jA (b:=k2) H2 6 (by kernel_rfl);refine xf 5 H3 fun k3 w3 H4=>?_;have H5:=jA (b:=k3) H4 7 (by kernel_rfl);refine xf 7 H5 fun k4 w4 H6=>?_;have H7:=jA (b:=k4) H6 8 (by kernel_rfl);refine x0 2 [0,0,6,4,4] H7 (fun Hp R hZ=>(Gc _) bc bg eA en ec oA on oc fk fa S g n k4 ([]) k2 ([]) k3 ([]) w4 R Hp z a b hf (fun S1 w5 G1=>hZ _ _ _ G1 fun H8=>?_));refine rgb (t:=120) (kt:=3) (et:=4) 6 3 k2 a H8 (by kernel_rfl) fun l1 r1 w6 EM H9=>?_;refine xz 3 (fun z l' w'=>∃(left:List Nat) (cur:Option Nat) (now:List Nat),l'=[(3,.map (some bt)),(4,.map (some br)),(11,.p k1),(13,.map (some k3)),(25,.p r1)]∧z=left.length∧Hs w L0 w' [Sx.cB bc bg eA en ec oA on oc fk fa,GI S1 bg g,aX Sv ([x]),.al k1 (.cells #[.string x.1.nm,.n x.1.t,.bool x.1.all,.map x.2.1,.map x.2.2,.bool x.1.gu] 122),cS br r,cS k3 b,Ud k2 r1 l1 left cur,cS bt now]∧(Io x.1.tv left now a t)) _ _ ⟨l1,none,t,rfl,rfl,H9.pk [0,0,5,5,4,2,1,1],(Io.init EM)⟩ (fun b1 z1 l2 w7 bQ K1 aN=>?_);obtain ⟨left,cur,now,rfl,rfl,aZ,s_⟩:=bQ;refine ntb (bt:=k2) (r:=r1) (l:=l1) (left:=left) (cur:=cur) 2 6 aZ (by kernel_rfl) (fun tS=>?_) (fun q1 Ze w8 Aw aP=>?_)
 · have bF:=vY aZ 7 (b:=bt) (s:=now) (t:=(MF a x.1.tv t)) (by kernel_rfl) (s_.done tS);refine rgb (t:=120) (kt:=3) (et:=4) 13 5 k3 b bF (by kernel_rfl) fun l3 r2 w9 Zf bq=>?_;refine xz 3 (fun z l' w'=>∃(left:List Nat) (cur:Option Nat) (now:List Nat),l'=[(4,.map (some br)),(11,.p k1),(38,.p r2)]∧z=left.length∧Hs w L0 w' [Sx.cB bc bg eA en ec oA on oc fk fa,GI S1 bg g,aX Sv ([x]),.al k1 (.cells #[.string x.1.nm,.n x.1.t,.bool x.1.all,.map x.2.1,.map x.2.2,.bool x.1.gu] 122),cS bt (MF a x.1.tv t),Ud k3 r2 l3 left cur,cS br now]∧(Io x.1.rv left now b r)) _ _ ⟨l3,none,r,rfl,rfl,bq.pk [0,0,0,0,3,1,0],(Io.init Zf)⟩ (fun b2 z2 l4 cJ gA K2 dH=>?_);obtain ⟨left,cur,now,rfl,rfl,bS,s_⟩:=gA;refine ntb (bt:=k3) (r:=r2) (l:=l3) (left:=left) (cur:=cur) 2 5 bS (by kernel_rfl) (fun zj=>?_) (fun q2 Zg fU yU bx=>?_)
   · have cV:=vY bS 6 (b:=br) (s:=now) (t:=(MF b x.1.rv r)) (by kernel_rfl) (s_.done zj);refine xh 9 [] cV (.tuple #[]) ?_;subst ak;exact Gx.af (v':=.tuple #[]) (by rfl) (hK S1 _ (cV.pk [0,0,2,3,0]))
   refine Rt (bt:=k3) (r:=r2) (l:=l3) (left:=Zg) (q:=q2) 10 5 bx (by kernel_rfl)<|xb 7 3 bx<|lkr (S:=Sv) (t:=120) (kt:=3) (et:=4) (o:=x.2.2) 1 q2 x.1.rv (rV bx 2 (S:=Sv) (l:=[x]) (by kernel_rfl) _ (.head _)).2 ?_;refine xl 3 (!(List.contains x.1.rv q2)) (fun iL=>?_) (fun iL=>?_)
   · refine mub (t:=120) (kt:=3) (et:=4) 3 6 br q2 now bx (by kernel_rfl) fun gV bZ=>?_;have Oi:=iL;try simp[-List.getD_eq_getElem?_getD] at Oi
     exact xj 2 _ (dH _ _ _ _ (by have:=yU.length_eq;simp at this;omega) ⟨Zg,(some q2),add now q2,rfl,rfl,bZ.pk [0,0,0,0,0,0,0],(s_.pG yU iL)⟩)
   have Oi:=iL;try simp[-List.getD_eq_getElem?_getD] at Oi
   exact xj 2 _ (dH _ _ _ _ (by have:=yU.length_eq;simp at this;omega) ⟨Zg,(some q2),now,rfl,rfl,bx.pk [0,0,0,0,0,0,0],(s_.abb yU iL)⟩)
 refine Rt (bt:=k2) (r:=r1) (l:=l1) (left:=Ze) (q:=q1) 10 6 aP (by kernel_rfl)<|xb 7 3 aP<|lkr (S:=Sv) (t:=120) (kt:=3) (et:=4) (o:=x.2.1) 1 q1 x.1.tv (rV aP 2 (S:=Sv) (l:=[x]) (by kernel_rfl) _ (.head _)).1 ?_;refine xl 3 (!(List.contains x.1.tv q1)) (fun rN=>?_) (fun rN=>?_)
 · refine mub (t:=120) (kt:=3) (et:=4) 3 7 bt q1 now aP (by kernel_rfl) fun iq c_=>?_;have Oj:=rN;try simp[-List.getD_eq_getElem?_getD] at Oj
   exact xj 2 _ (aN _ _ _ _ (by have:=Aw.length_eq;simp at this;omega) ⟨Ze,(some q1),add now q1,rfl,rfl,c_.pk [0,0,0,0,0,0,0,0],(s_.pG Aw rN)⟩)
 have Oj:=rN;try simp[-List.getD_eq_getElem?_getD] at Oj
 exact xj 2 _ (aN _ _ _ _ (by have:=Aw.length_eq;simp at this;omega) ⟨Ze,(some q1),now,rfl,rfl,aP.pk [0,0,0,0,0,0,0,0],(s_.abb Aw rN)⟩)
theorem Kj(bc bg : Nat)(eA : Option Addr)(en ec : Nat)(oA : Option Addr)(on oc : Nat)(fk : Nat)(fa : Int)(S : Nat → Prop)(g : G)(el : List Nv)(Sm : Nat → Prop)(w : World)(K : Ending → World → Prop)(H0 : Sp w [Sx.cB bc bg eA en ec oA on oc fk fa, GI S bg g, .own 122 6 eA ec en (fj el), aX Sm el])(k : Nat)(t' r' : List Nat)(hf : fE k g (el.map (·.1)) [] [] [] = some (t', r'))(Kk : en < 1000000000)(hK : ∀(S' : Nat → Prop)(b1 : Nat)(b2 : Nat) w', Hs w [Sx.cB bc bg eA en ec oA on oc fk fa, GI S bg g, .own 122 6 eA ec en (fj el), aX Sm el] w' [Sx.cB bc bg eA en ec oA on oc fk fa, GI S' bg g, .own 122 6 eA ec en (fj el), aX Sm el, cS b1 t', cS b2 r'] → K (.returned (.tuple #[.map (some b1), .map (some b2)])) w') :
   Calls Tryz.prog 92 #[.p bc] w K:=by
 obtain⟨L0,ak,H⟩:=Sx.bX H0;refine xu (vs:=[.p bc]) 63 Tryz.func92 ?_;have iZ:=iu (e:=122) (n:=en) (cap:=ec) (A:=eA) (l:=el) H 2 (by kernel_rfl);refine xf 8 H fun k1 w1 H1=>?_;have H2:=jA (b:=k1) H1 4 (by kernel_rfl);refine xf 5 H2 fun k2 w2 H3=>?_;have H4:=jA (b:=k2) H3 5 (by kernel_rfl);refine xf 5 H4 fun k3 w3 H5=>?_;have H6:=jA (b:=k3) H5 6 (by kernel_rfl);refine xz 10 (fun z l' w'=>∃(i:Nat) (S1:Nat→Prop) (s1:List Nat) (t1:List Nat) (r1:List Nat),l'=[(0,.p bc),(4,.map (some k1)),(5,.map (some k2)),(6,.map (some k3)),(7,.n i)]∧z=el.length-i∧Hs w L0 w' [Sx.cB bc bg eA en ec oA on oc fk fa,GI S1 bg g,.own 122 6 eA ec en (fj el),aX Sm el,cS k1 t1,cS k2 r1,cS k3 s1]∧(i≤el.length)∧(fE k g ((el.drop i).map (·.1)) s1 t1 r1=some (t',r'))) _ _ ⟨0,S,[],[],[],rfl,rfl,H6.pk [0,0,0,0,0,0,0],(Nat.zero_le _),hf⟩ (fun b1 z1 l1 w4 bQ K1 aN=>?_);obtain ⟨i,S1,s1,t1,r1,rfl,rfl,H8,P7,YO⟩:=bQ;refine xb 7 0 H8 ?_;refine xl 4 (decide ((i:Int)<(en:Int))) (fun cT=>?_) (fun cT=>?_)
 · have DI:=of_decide_eq_true cT;obtain ⟨x,hx⟩:=dj (l:=el) (i:=i) (by omega);obtain ⟨uy,W5⟩:=BU (Oa YO hx);obtain ⟨kB,rfl⟩:=H8.row 2 (A:=eA) (e:=122) (sz:=6) (cap:=ec) (n:=en) (xs:=(fj el)) (by kernel_rfl) (by omega);refine xb 10 0 H8<|yf 1 kB i 6 en ec (by omega)<|y0 1 2 122 6 4 kB ec en (i*6+2) (fj el) H8 (.bool x.1.all) (ow 2 mz hx (by decide) rfl) ?_;refine xl 2 x.1.all (fun lM=>?_) (fun lM=>?_)
   · obtain⟨z,a,b,hv,Xm⟩:=uy lM;have H9:=D3 H8 3 (S:=Sm) (l:=el) (m:=[x]) (by kernel_rfl) (by intro y hy;rw[List.mem_singleton.1 hy];exact List.mem_of_getElem? hx);refine xw 1 H9 [0,2] [] (LJ:=[.al bc (.cells #[.p bg,.slice (some ⟨kB,0,none⟩) en ec,.slice oA on oc,.n fk,.int .i64 fa] 115),.own 122 6 (some ⟨kB,0,none⟩) ec en (fj el)]) (by kernel_rfl) fun w5 aY=>xm [(0,none),(1,none),(2,none),(3,none),(4,some (0,[])),(5,none)] (aY.sb [0,1])<|yj 6 [] kB i 6 en ec (by omega) (aY.sb [0,1])<|xm [(7,none)] (aY.sb [0,1])<|yq 8 [] 1 122 6 3 kB ec en (i*6+1) (fj el) (.n x.1.t) (ow 1 mz hx (by decide) rfl) (aY.sb [0,1])<|xm [(9,none),(10,none),(11,none),(12,none),(13,none),(14,none),(15,some (0,[])),(16,none)] (aY.sb [0,1]) ?_;refine yj 17 [] kB i 6 en ec (by omega) (aY.sb [0,1])<|yq 18 [] 1 122 6 122 kB ec en (i*6) (fj el) (.agg #[.string x.1.nm,.n x.1.t,.bool x.1.all,.map x.2.1,.map x.2.2,.bool x.1.gu]) (DT mz hx) (aY.sb [0,1])<|xg ?_;intro gy;refine xi 19 ?_;refine x0 0 [0,0,2,2,3] aY (fun Hp R hZ=>Xl bc bg (some ⟨kB,0,none⟩) en ec oA on oc fk fa S1 g x.1.t k3 k1 t1 k2 r1 Sm x w5 R Hp _ z a b hv (fun S1 w6 G1=>hZ _ _ _ G1 fun aZ=>?_));refine xe (x:=gy) 19 (aZ.sb [0,4])<|xt<|Sx.vi 7 ((i:Int)+(1:Int)) ((i+1:Nat):Int) (Gx.bj (by omega) (by omega)) ?_;exact xj 2 _ (aN _ _ _ _ (by omega) ⟨(i+1),S1,s1,(MF a x.1.tv t1),(MF b x.1.rv r1),rfl,rfl,aZ.pk [0,0,3,3,0,0,1],(by omega),Xm⟩)
   obtain⟨s2,t2,r2,hv,Xm⟩:=W5 lM;refine xb 7 0 H8<|yf 1 kB i 6 en ec (by omega)<|y0 1 2 122 6 3 kB ec en (i*6+1) (fj el) H8 (.n x.1.t) (ow 1 mz hx (by decide) rfl) ?_;refine x0 3 [0,0,4,2,2] H8 (fun Hp R hZ=>(Gc _) bc bg (some ⟨kB,0,none⟩) en ec oA on oc fk fa S1 g x.1.t k3 s1 k1 t1 k2 r1 w4 R Hp s2 t2 r2 hv (fun S2 w7 G2=>hZ _ _ _ G2 fun bF=>?_));refine Sx.vi 5 ((i:Int)+(1:Int)) ((i+1:Nat):Int) (Gx.bj (by omega) (by omega)) ?_;exact xj 2 _ (aN _ _ _ _ (by omega) ⟨(i+1),S2,s2,t2,r2,rfl,rfl,bF.pk [0,0,3,3,1,1,0],(by omega),Xm⟩)
 have DI:=of_decide_eq_false cT;have hd:=YO;rw[List.drop_of_length_le (by omega)] at hd;obtain⟨rfl,rfl⟩:t1=t'∧r1=r':=by simpa [fE] using hd
 refine xh 14 [] H8 (.tuple #[.map (some k1),.map (some k2)]) ?_;subst ak;exact Gx.af (v':=.tuple #[.map (some k1),.map (some k2)]) (by rfl) (hK S1 k1 k2 _ (H8.pk [0,0,0,0,0,0]))
theorem td(bc bg : Nat)(eA : Option Addr)(en ec : Nat)(oA : Option Addr)(on oc : Nat)(S : Nat → Prop)(c : Ck)(el : List Nv)(Sm : Nat → Prop)(nm : Nm)(n : Nat)(w : World)(K : Ending → World → Prop)(H0 : Sp w [Sx.cB bc bg eA en ec oA on oc c.fk c.fa, GI S bg c.g, .own 122 6 eA ec en (fj el), aX Sm el])(k : Nat)(x : sL)(hf : c.il k nm n = some x)(iZ : el.map (·.1) = c.env)(Kk : en < 1000000000)(hK : ∀(S' : Nat → Prop)(S2 : Nat → Prop)(b1 : Nat)(b2 : Nat) w', Hs w [Sx.cB bc bg eA en ec oA on oc c.fk c.fa, GI S bg c.g, .own 122 6 eA ec en (fj el), aX Sm el] w' [Sx.cB bc bg eA en ec oA on oc c.fk c.fa, GI S' bg c.g, .own 122 6 eA ec en (fj el), aX Sm el, aX S2 ([(x, some b1, some b2)])] → K (.returned (.agg (UL (x, some b1, some b2)).toArray)) w') :
   Calls Tryz.prog 59 #[.p bc,.string nm,.n n] w K:=by
 obtain⟨L0,ak,H⟩:=Sx.bX H0;refine xu (vs:=[.p bc,.string nm,.n n]) 47 Tryz.func59 ?_;obtain ⟨it,ir,z,tv,rv,h1,h2,rfl⟩:=zq hf;rw [← iZ] at h1;refine xf 2 H fun k1 w1 H1=>?_;refine x0 5 [0,0,0,0] H1 (fun Hp R hZ=>Kj bc bg eA en ec oA on oc c.fk c.fa S c.g el Sm w1 R Hp _ it ir h1 Kk (fun S1 b1 b2 w2 G1=>hZ _ _ _ G1 fun H2=>?_));refine xf 9 H2 fun k2 w3 H3=>?_;have H4:=jA (b:=k2) H3 7 (by kernel_rfl);refine xf 5 H4 fun k3 w4 H5=>?_;have H6:=jA (b:=k3) H5 8 (by kernel_rfl);refine xf 7 H6 fun k4 w5 H7=>?_;have H8:=jA (b:=k4) H7 9 (by kernel_rfl);refine x0 2 [0,0,7,5,5] H8 (fun Hp R hZ=>(Gc _) bc bg eA en ec oA on oc c.fk c.fa S1 c.g n k4 ([]) k2 ([]) k3 ([]) w5 R Hp z tv rv h2 (fun S2 w6 G2=>hZ _ _ _ G2 fun H9=>?_));refine rgb (t:=120) (kt:=3) (et:=4) 6 7 b1 it H9 (by kernel_rfl) fun l1 r1 w7 EM aY=>?_;refine xz 3 (fun z l' w'=>∃(left:List Nat) (cur:Option Nat) (now:List Nat),l'=[(1,.string nm),(2,.n n),(6,.p k1),(8,.map (some b2)),(9,.map (some k2)),(10,.map (some k3)),(27,.p r1)]∧z=left.length∧Hs w L0 w' [Sx.cB bc bg eA en ec oA on oc c.fk c.fa,GI S2 bg c.g,.own 122 6 eA ec en (fj el),aX Sm el,.al k1 (.cells #[.string (bY []),.int .i64 0,.bool false,.map none,.map none,.bool false] 122),cS b2 ir,cS k3 rv,Ud b1 r1 l1 left cur,cS k2 now]∧(xZ left now it tv)) _ _ ⟨l1,none,tv,rfl,rfl,aY.pk [0,0,3,3,5,4,2,2,1],(xZ.init EM)⟩ (fun b3 z1 l2 w8 bQ K1 aN=>?_);obtain ⟨left,cur,now,rfl,rfl,aP,s_⟩:=bQ;refine ntb (bt:=b1) (r:=r1) (l:=l1) (left:=left) (cur:=cur) 2 7 aP (by kernel_rfl) (fun tS=>?_) (fun q1 Ze w9 Aw bF=>?_)
 · have bq:=vY aP 8 (b:=k2) (s:=now) (t:=(Wo it tv)) (by kernel_rfl) (s_.done tS);refine rgb (t:=120) (kt:=3) (et:=4) 14 5 b2 ir bq (by kernel_rfl) fun l3 r2 cJ Zf bu=>?_;refine xz 3 (fun z l' w'=>∃(left:List Nat) (cur:Option Nat) (now:List Nat),l'=[(1,.string nm),(2,.n n),(6,.p k1),(9,.map (some k2)),(10,.map (some k3)),(35,.p r2)]∧z=left.length∧Hs w L0 w' [Sx.cB bc bg eA en ec oA on oc c.fk c.fa,GI S2 bg c.g,.own 122 6 eA ec en (fj el),aX Sm el,.al k1 (.cells #[.string (bY []),.int .i64 0,.bool false,.map none,.map none,.bool false] 122),cS k2 (Wo it tv),Ud b2 r2 l3 left cur,cS k3 now]∧(xZ left now ir rv)) _ _ ⟨l3,none,rv,rfl,rfl,bu.pk [0,0,0,0,0,3,0,0],(xZ.init Zf)⟩ (fun b4 z2 l4 fU gA K2 dH=>?_);obtain ⟨left,cur,now,rfl,rfl,bx,s_⟩:=gA;refine ntb (bt:=b2) (r:=r2) (l:=l3) (left:=left) (cur:=cur) 2 6 bx (by kernel_rfl) (fun zj=>?_) (fun q2 Zg gV yU cV=>?_)
   · have bZ:=vY bx 7 (b:=k3) (s:=now) (t:=(Wo ir rv)) (by kernel_rfl) (s_.done zj);refine xd 17 4 bZ fun iq cj=>xh 3 [4] cj (.agg #[.string nm,.n n,.bool true,.map (some k2),.map (some k3),.bool true]) ?_;obtain ⟨S3,cC⟩:=Ka (nm:=nm) (n:=n) (b1:=k2) (b2:=k3) (a:=true) (o:=true) (t:=Wo it tv) (r:=Wo ir rv) cj [5,6] (by kernel_rfl);subst ak;exact Gx.af (v':=.agg #[.string nm,.n n,.bool true,.map (some k2),.map (some k3),.bool true]) (by rfl) (hK S2 S3 k2 k3 _ (cC.pk [1,1,1,1,0]))
   refine Rt (bt:=b2) (r:=r2) (l:=l3) (left:=Zg) (q:=q2) 10 6 cV (by kernel_rfl)<|deb (t:=120) (t':=3) (kt:=3) (et:=4) 7 7 k3 q2 now cV (by kernel_rfl) fun iF c_=>?_;exact xj 2 _ (dH _ _ _ _ (by have:=yU.length_eq;simp at this;omega) ⟨Zg,(some q2),now.filter fun n=>n != q2,rfl,rfl,c_.pk [0,0,0,0,0,0,0,0],(s_.step yU)⟩)
 refine Rt (bt:=b1) (r:=r1) (l:=l1) (left:=Ze) (q:=q1) 10 7 bF (by kernel_rfl)<|deb (t:=120) (t':=3) (kt:=3) (et:=4) 7 8 k2 q1 now bF (by kernel_rfl) fun kr cW=>?_;exact xj 2 _ (aN _ _ _ _ (by have:=Aw.length_eq;simp at this;omega) ⟨Ze,(some q1),now.filter fun n=>n != q1,rfl,rfl,cW.pk [0,0,0,0,0,0,0,0,0],(s_.step Aw)⟩)
end Go.Proofs.YtdmdecgoebnamaaGreat
namespace Go.aS
open Go.RowKit Go.Sx Go.Gx Go.fO
theorem Ax(s:Seen)(n:Nat):c0 (n:Int) (lH s)=s.get n:=by
 induction s with
 |nil=>rfl
 |cons p s ih=>
   obtain⟨m,v⟩:=p;rw [show lH ((m,v)::s)=((m:Int),v)::lH s from rfl,c0,Seen.get,ih];by_cases e:m=n
   · subst e;simp
   · rw[if_neg (by omega),if_neg e]
theorem UP(v:Nat)(b:Bool):(v≠0&&b)=(decide ((v:Int)>(0:Int))&&b):=by
 congr 1;by_cases e:v=0
 · subst e;rfl
 · have:(v:Int)>0:=by omega
   have h2:0<v:=by omega
   simp[e,h2]
abbrev C4:=G×Nat×Seen×Seen
def CD(g:G)(u kd:Nat)(a b:Option Nat)(z:Nat)(d r:Seen)(R:C4):Prop:=∃g1 m,g.put kd a b z=some (g1,m)∧(g1,m,Seen.put d u m,r)=R
def CP(g:G)(l:List Nm)(v u kd:Nat)(a b:Option Nat)(d r:Seen)(R:C4):Prop:=∃g1 z,g.putRow l (some v)=some (g1,z)∧CD g1 u kd a b z d r R
def CC(k:Nat)(g:G)(u kd:Nat)(x:sL)(a b:Option Nat)(d r:Seen)(R:C4):Prop:=
 (kd≠6→CD g u kd a b 0 d r R)∧(kd=6→∃q l v,g.row[u]?=some q∧whole k g q []=some (l,v)∧
   ((v≠0&&x.rv.contains v)=false→CP g l v u kd a b d r R)∧
   ((v≠0&&x.rv.contains v)=true→(∀w,r.get v=some w→CP g l w u kd a b d r R)∧(r.get v=none→∃g0 w,g.gu=some (g0,w)∧CP g0 l w u kd a b d (Seen.put r v w) R)))
def CB(k:Nat)(g:G)(u kd:Nat)(x:sL)(a:Option Nat)(d r:Seen)(R:C4):Prop:=
 ∃y,g.b[u]?=some y∧(y=none→CC k g u kd x a none d r R)∧∀p,y=some p→∃g2 q d2 r2,copied k g p x d r=some (g2,q,d2,r2)∧CC k g2 u kd x a (some q) d2 r2 R
def CA(k:Nat)(g:G)(u kd:Nat)(x:sL)(d r:Seen)(R:C4):Prop:=
 ∃y,g.a[u]?=some y∧(y=none→CB k g u kd x none d r R)∧∀p,y=some p→∃g2 q d2 r2,copied k g p x d r=some (g2,q,d2,r2)∧CB k g2 u kd x (some q) d2 r2 R
theorem rW{k n : Nat}{g : G}{x : sL}{d r : Seen}{R : C4}(h : copied (k + 1) g n x d r = some R) :
   ∃u,find k g n=some u∧(∀q,d.get u=some q→(g,q,d,r)=R)∧(d.get u=none→∃kd,g.kind[u]?=some kd∧
     (kd=0→(x.tv.contains u=true→∃g1 m,g.var=some (g1,m)∧(g1,m,Seen.put d u m,r)=R)∧(x.tv.contains u=false→(g,u,Seen.put d u u,r)=R))∧(kd≠0→CA k g u kd x d r R)):=by
 unfold copied at h;split at h<;>try contradiction
 rename_i u hu;refine ⟨u,hu,fun q e=>?_,fun e=>?_⟩
 · rw[e] at h;simpa using h
 · rw[e] at h;simp only at h;cases hk:g.kind[u]? with
   |none=>simp[hk] at h
   |some kd=>
     rw[hk] at h;refine ⟨kd,rfl,fun e0=>?_,fun e0=>?_⟩
     · subst e0;simp only at h;refine ⟨fun e1=>?_,fun e1=>?_⟩
       · rw[if_pos e1] at h;split at h<;>try contradiction
         rename_i g1 m hv;exact ⟨g1,m,hv,by simpa using h⟩
       · rw[if_neg (by rw[e1];decide)] at h;simpa using h
     · let arg (y : G → Option (Option Nat)) (s : G × Option Nat × Seen × Seen) : Option (G × Option Nat × Seen × Seen) := match y s.1 with
         |some none=>some (s.1,none,s.2.2.1,s.2.2.2)
         |some (some m)=>match copied k s.1 m x s.2.2.1 s.2.2.2 with
           |some (g,m,d,r)=>some (g,some m,d,r)
           |none=>none
         |none=>none
       have h:(match arg (fun g=>g.a[u]?) (g,none,d,r) with
         |some (g,a,d,r)=>(match arg (fun g=>g.b[u]?) (g,none,d,r) with
           |some (g,b,d,r)=>
             let rw:Option (G×Nat×Seen):=if kd=6 then(match g.row[u]? with
               |some q=>match whole k g q [] with
                 |some (ops,v)=>
                   let vv:Option (G×Nat×Seen):=if v≠0&&x.rv.contains v then(match r.get v with
                     |some p=>some (g,p,r)
                     |none=>match g.gu with
                       |some (g,w)=>some (g,w,Seen.put r v w)
                       |none=>none) else some (g,v,r)
                   match vv with
                   |some (g,v,r)=>match g.putRow ops (some v) with
                     |some (g,q)=>some (g,q,r)
                     |none=>none
                   |none=>none
                 |none=>none
               |none=>none) else some (g,0,r)
             (match rw with
             |some (g,q,r)=>match g.put kd a b q with
               |some (g,m)=>some (g,m,Seen.put d u m,r)
               |none=>none
             |none=>none)
           |none=>none)
         |none=>none)=some R:=by
         cases kd with
         |zero=>exact absurd rfl e0
         |succ kd=>exact h
       have hx : ∀(y : G → Option (Option Nat))(g : G)(d r : Seen)(g2 : G)(a : Option Nat)(d2 r2 : Seen), arg y (g, none, d, r) = some (g2, a, d2, r2) →
           ∃z,y g=some z∧(z=none→g=g2∧none=a∧d=d2∧r=r2)∧∀p,z=some p→∃q,copied k g p x d r=some (g2,q,d2,r2)∧some q=a:=by
         intro y g d r g2 a d2 r2 hh
         simp only[arg] at hh
         split at hh<;>try contradiction
         · rename_i hz;cases hh;exact⟨none,hz,fun _=>⟨rfl,rfl,rfl,rfl⟩,fun p e=>by cases e⟩
         · rename_i p hz
           split at hh<;>try contradiction
           rename_i g3 q d3 r3 hc
           cases hh
           exact⟨some p,hz,fun e=>(by cases e),fun p' e=>by cases e;exact⟨q,hc,rfl⟩⟩
       split at h<;>try contradiction
       rename_i g1 a d1 r1 hA;have hCB:CB k g1 u kd x a d1 r1 R:=by
         split at h<;>try contradiction
         rename_i g2 b d2 r2 hB;have hCC:CC k g2 u kd x a b d2 r2 R:=by
           refine⟨fun e6=>?_,fun e6=>?_⟩
           · simp only[if_neg e6] at h;split at h<;>try contradiction
             rename_i g3 m hp;exact ⟨g3,m,hp,by simpa using h⟩
           · simp only[if_pos e6] at h;cases hr:g2.row[u]? with
             |none=>simp[hr] at h
             |some q=>
               simp only[hr] at h;cases hw:whole k g2 q [] with
               |none=>simp[hw] at h
               |some lv=>
                 obtain⟨l,v⟩:=lv;simp only[hw] at h
                 have fin : ∀(g3 : G)(v' : Nat)(r3 : Seen), (match (match g3.putRow l (some v') with
                     |some (g,q)=>some (g,q,r3)
                     |none=>(none:Option (G×Nat×Seen))) with
                   |some (g,q,r)=>(match g.put kd a b q with
                     |some (g,m)=>some (g,m,Seen.put d2 u m,r)
                     |none=>none)
                   |none=>none)=some R→CP g3 l v' u kd a b d2 r3 R:=by
                   intro g3 v' r3 hh
                   cases hp:g3.putRow l (some v') with
                   |none=>simp[hp] at hh
                   |some gz=>
                     obtain⟨g4,z⟩:=gz
                     simp only[hp] at hh
                     split at hh<;>try contradiction
                     rename_i g5 m yU
                     exact⟨g4,z,hp,g5,m,yU,by simpa using hh⟩
                 refine⟨q,l,v,rfl,hw,fun e=>?_,fun e=>⟨fun w ew=>?_,fun ew=>?_⟩⟩
                 · rw[e] at h;simp only[Bool.false_eq_true,if_false] at h;exact fin _ _ _ h
                 · rw[e] at h;simp only[if_true,ew] at h;exact fin _ _ _ h
                 · rw[e] at h;simp only[if_true,ew] at h;cases ho:g2.gu with
                   |none=>simp[ho] at h
                   |some gw=>
                     obtain⟨g0,w⟩:=gw;simp only[ho] at h;exact ⟨g0,w,rfl,fin _ _ _ h⟩
         obtain⟨z,hz,h1,h2⟩:=hx (fun g=>g.b[u]?) _ _ _ _ _ _ _ hB;exact ⟨z,hz,fun e=>by obtain⟨rfl,rfl,rfl,rfl⟩:=h1 e;exact hCC,fun p e=>by obtain⟨q,hq,rfl⟩:=h2 p e;exact⟨_,_,_,_,hq,hCC⟩⟩
       obtain⟨z,hz,h1,h2⟩:=hx (fun g=>g.a[u]?) _ _ _ _ _ _ _ hA;exact ⟨z,hz,fun e=>by obtain⟨rfl,rfl,rfl,rfl⟩:=h1 e;exact hCB,fun p e=>by obtain⟨q,hq,rfl⟩:=h2 p e;exact⟨_,_,_,_,hq,hCB⟩⟩
def Qq(g g':G):Prop:=∀i kd:Nat,g.kind[i]?=some kd→g'.kind[i]?=some kd
theorem Qq.trans{a b c:G}(h:Qq a b)(k:Qq b c):Qq a c:=fun i kd q=>k i kd (h i kd q)
theorem Ip{g g':G}{kd r n:Nat}{a b:Option Nat}(h:g.put kd a b r=some (g',n)):Qq g g':=by
 unfold G.put at h;split at h
 · simp only[nP,lD,mH,Option.some.injEq,Prod.mk.injEq] at h;obtain⟨rfl,_⟩:=h;exact fun i k q=>by rw[List.getElem?_append_left (List.getElem?_eq_some_iff.1 q).1];exact q
 · cases h
theorem ic{g g':G}{l:List Nm}{nx:Option Nat}{n:Nat}(h:g.putRow l nx=some (g',n)):g'.kind=g.kind∧g'.a=g.a∧g'.b=g.b:=by
 unfold G.putRow at h;split at h
 · simp only[nP,lD,mH,Option.some.injEq,Prod.mk.injEq] at h;obtain⟨rfl,_⟩:=h;exact⟨rfl,rfl,rfl⟩
 · cases h
theorem Ol{g:G}{u kd z:Nat}{a b:Option Nat}{d r:Seen}{R:C4}(h:CD g u kd a b z d r R):Qq g R.1:=by
 obtain⟨g1,m,h1,rfl⟩:=h;exact Ip h1
theorem Gd{g:G}{l:List Nm}{v u kd:Nat}{a b:Option Nat}{d r:Seen}{R:C4}(h:CP g l v u kd a b d r R):Qq g R.1:=by
 obtain⟨g1,z,h1,h2⟩:=h;exact fun i kd q=>Ol h2 i kd (by rw[(ic h1).1];exact q)
theorem mA:∀{k n:Nat}{g:G}{x:sL}{d r:Seen}{R:C4},copied k g n x d r=some R→Qq g R.1
 |0,_,_,_,_,_,_,h=>by simp[copied] at h
 |k+1,n,g,x,d,r,R,h=>by
   obtain⟨u,_,h1,h2⟩:=rW h;cases hd:d.get u with
   |some q=>rw[← h1 q hd];exact fun _ _ q=>q
   |none=>
     obtain⟨kd,_,h3,h4⟩:=h2 hd;by_cases e0:kd=0
     · obtain⟨h5,h6⟩:=h3 e0;cases ht:x.tv.contains u with
       |true=>obtain⟨g1,m,hv,rfl⟩:=h5 ht;exact Ip hv
       |false=>rw[← h6 ht];exact fun _ _ q=>q
     · have hCC : ∀{g a b d r}, CC k g u kd x a b d r R → Qq g R.1 := by
         intro g a b d r hc;by_cases e6:kd=6
         · obtain⟨q,l,v,_,_,h7,h8⟩:=hc.2 e6;cases hb:(v≠0&&x.rv.contains v) with
           |false=>exact Gd (h7 hb)
           |true=>
             obtain⟨h9,h10⟩:=h8 hb;cases hr:r.get v with
             |some w=>exact Gd (h9 w hr)
             |none=>obtain⟨g0,w,ho,hp⟩:=h10 hr;exact fun i kd q=>Gd hp i kd (by rw[(ic ho).1];exact q)
         · exact Ol (hc.1 e6)
       have hCB:∀{g a d r},CB k g u kd x a d r R→Qq g R.1:=by
         intro g a d r hc;obtain ⟨y,_,h7,h8⟩:=hc;cases y with
         |none=>exact hCC (h7 rfl)
         |some p=>obtain⟨g2,q,d2,r2,hq,uZ⟩:=h8 p rfl;exact(mA hq).trans (hCC uZ)
       obtain⟨y,_,h7,h8⟩:=h4 e0;cases y with
       |none=>exact hCB (h7 rfl)
       |some p=>obtain⟨g2,q,d2,r2,hq,uZ⟩:=h8 p rfl;exact(mA hq).trans (hCB uZ)
theorem BX{k n : Nat}{g g' : G}{m : Nat}(h : opened (k + 1) g n = some (g', m)) :
   ∃u kd,find k g n=some u∧g.kind[u]?=some kd∧(kd≠6→g=g'∧u=m)∧(kd=6→∃p g1 b q l v g2 v2 g3 z a,g.b[u]?=some (some p)∧opened k g p=some (g1,b)∧g1.row[u]?=some q∧whole k g1 q []=some (l,v)∧
     ((v≠0∧g1=g2∧v=v2)∨(v=0∧g1.gu=some (g2,v2)))∧g2.putRow l (some v2)=some (g3,z)∧g3.a[u]?=some a∧g3.put 6 a (some b) z=some (g',m)):=by
 unfold opened at h;split at h<;>try contradiction
 rename_i u hu;split at h
 · rename_i hk;refine ⟨u,6,hu,hk,fun e=>absurd rfl e,fun _=>?_⟩;split at h<;>try contradiction
   rename_i p hp;split at h<;>try contradiction
   rename_i g1 b ho;split at h<;>try contradiction
   rename_i q hq;split at h<;>try contradiction
   rename_i l v hw;simp only at h;split at h<;>try contradiction
   rename_i g2 v2 hv;split at h<;>try contradiction
   rename_i g3 z hr;split at h<;>try contradiction
   rename_i a ha;refine ⟨p,g1,b,q,l,v,g2,v2,g3,z,a,hp,ho,hq,hw,?_,hr,ha,h⟩;by_cases e:v=0
   · rw[if_pos e] at hv;exact .inr ⟨e,hv⟩
   · rw[if_neg e] at hv;cases hv;exact .inl ⟨e,rfl,rfl⟩
 · rename_i kd hk h6;simp only[Option.some.injEq,Prod.mk.injEq] at h;exact ⟨u,kd,hu,h6,fun _=>h,fun e=>absurd e (fun e=>hk e)⟩
 · cases h
theorem Kl{k : Nat}{g g' : G}{x : sL}{m : Nat}(h : use k g x = some (g', m)) :
   ∃g1 n1,(x.all=true→∃d r,copied k g x.t x [] []=some (g1,n1,d,r))∧(x.all=false→g=g1∧x.t=n1)∧(x.gu=true→opened k g1 n1=some (g',m))∧(x.gu=false→g1=g'∧n1=m):=by
 unfold use at h;simp only at h;split at h<;>try contradiction
 rename_i g1 n1 hc;refine ⟨g1,n1,fun e=>?_,fun e=>?_,fun e=>?_,fun e=>?_⟩
 · rw[if_pos e] at hc;split at hc<;>try contradiction
   rename_i g2 n2 d r hq;cases hc;exact ⟨d,r,hq⟩
 · rw[if_neg (by rw[e];decide)] at hc;cases hc;exact⟨rfl,rfl⟩
 · rw[if_pos e] at h;exact h
 · rw[if_neg (by rw[e];decide)] at h;cases h;exact⟨rfl,rfl⟩
theorem Om{l:List Nv}{k:Nat}:(fj l).take (k*6)=fj (l.take k):=by
 unfold fj;induction l generalizing k with
 |nil=>simp
 |cons x l ih=>
   cases k with
   |zero=>simp
   |succ k=>
     rw[List.flatMap_cons,List.take_succ_cons,List.flatMap_cons,←ih,List.take_append];rw [show (UL x).length=6 from rfl,List.take_of_length_le (by show(UL x).length≤_;rw[show (UL x).length=6 from rfl];omega),show(k+1)*6-6=k*6 by omega]
end Go.aS
