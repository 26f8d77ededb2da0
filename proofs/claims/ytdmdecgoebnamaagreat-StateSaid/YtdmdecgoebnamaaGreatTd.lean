/- What stands for each node: no type is round, its parts, its variables, copies, written types, what is told (plain). -/
import Derived.Test.YtdmdecgoebnamaaGreatYb
import Derived.Test.YtdmdecgoebnamaaGreatLexSplit
import Derived.Test.YtdmdecgoebnamaaGreatInf23
import Derived.Test.YtdmdecgoebnamaaGreatInfSet
import Derived.Test.YtdmdecgoebnamaaGreatInf25
set_option linter.unusedVariables false
set_option linter.unusedSimpArgs false
namespace Go.Tc
open Go.aR Go.dy
theorem zc(s:Seen)(n v m:Nat):(s.put n v).at m=if m=n then v else s.at m:=by
 induction s with
 |nil=>simp only[Seen.put,Seen.at];by_cases h:m=n<;>simp[h,Ne.symm]
 |cons p s ih=>
   obtain⟨i,u⟩:=p;unfold Seen.put;by_cases h:i=n
   . subst h;simp only[if_true,Seen.at];by_cases q:i=m
     . subst q;simp
     . simp[q,Ne.symm q]
   . simp only[if_neg h,Seen.at,ih];by_cases q:i=m
     . subst q;simp[h]
     . simp[q]
theorem Hq(s:Seen)(n v m:Nat):(s.put n v).get m=if m=n then some v else s.get m:=by
 induction s with
 |nil=>simp only[Seen.put,Seen.get];by_cases h:m=n<;>simp[h,Ne.symm]
 |cons p s ih=>
   obtain⟨i,u⟩:=p;unfold Seen.put;by_cases h:i=n
   . subst h;simp only[if_true,Seen.get];by_cases q:i=m
     . subst q;simp
     . simp[q,Ne.symm q]
   . simp only[if_neg h,Seen.get,ih];by_cases q:i=m
     . subst q;simp[h]
     . simp[q]
def RdR(w:Wd)(n:Nat)(s:Seen):Prop:=∃s',Ev (fun k=>round k w.g n s) (false,s')/\∀x,s'.at x=1->s.at x=1
theorem Hr{w:Wd}{N:Nat}(h:w.ok N):∀(τ:GT){n:Nat}{s:Seen},w.has n τ->(∀x,s.at x=1->τ.sz<(w.t x).sz)->RdR w n s:=fun τ=>by
 have pre : ∀{τ : GT}{n : Nat}{s : Seen}, w.has n τ -> (∀ x, s.at x = 1 -> τ.sz < (w.t x).sz) -> (∀(e kd : Nat)(a b : Option Nat)(j : Nat), w.t e = τ -> At w e kd a b j -> T_ w.t w.r w.g.kind.length w.g.ops.length kd a b j τ -> (∀ σ : GT, σ.sz < τ.sz -> ∀ s' : Seen, (∀ x, s'.at x = 1 -> (s.put e 1).at x = 1) -> ∀ x, s'.at x = 1 -> σ.sz < (w.t x).sz) ->
     ∃(s':Seen) (P:Φ),cY P/\(∀x,s'.at x=1->(s.put e 1).at x=1)/\∀k,P k->find k w.g n=some e->¬0<s.at e->round (k+1) w.g n s=some (false,s'.put e 2))->RdR w n s:=fun{τ n s} hn hs K=>by
   obtain⟨e,kd,a,b,j,ee,he,_,ae,ve⟩:=oK h hn
   by_cases q:0<s.at e
   . refine⟨s,ee.of (F:=fun k=>find k w.g n) (f:=fun k=>round (k+1) w.g n s) (fun k g=>?_) |>.step fun k=>rfl,fun _ h=>h⟩
     rw[round,g]
     have:s.at e≠1:=fun q=>by have:=hs e q;rw[he.2] at this;omega
     simp[q,this]
   have fin:∀s':Seen,(∀x,s'.at x=1->(s.put e 1).at x=1)->∀x,(s'.put e 2).at x=1->s.at x=1:=fun s' h' x hx=>by
     rw[zc] at hx;split at hx
     . cases hx
     . rename_i jQ;have:=h' x hx;rw[zc,if_neg jQ] at this;exact this
   rcases ve with⟨rfl,rfl,rfl⟩|ve
   . exact⟨(s.put e 1).put e 2,ee.of (F:=fun k=>find k w.g n) (f:=fun k=>round (k+1) w.g n s) (fun k g=>by rw[round,g];simp[q,ae.a,ae.b]) |>.step fun k=>rfl,fin _ fun _ h=>h⟩
   . obtain ⟨s', P, hP, h1, h2⟩ := K e kd a b j he.2 ae ve (fun σ hσ s' h' x hx => by
       have:=h' x hx;rw[zc] at this;split at this
       . rename_i e';subst e';rw[he.2];exact hσ
       . exact Nat.lt_trans hσ (hs x this))
     exact⟨s'.put e 2,(cY.and ee hP).st fun k g=>h2 k g.2 g.1 q,fin s' h1⟩
 induction τ with
 |int|bool|unit=>
   intro n s hn hs;refine pre hn hs fun e kd a b j he ae ve _=>?_;obtain⟨rfl,rfl,rfl⟩:=ve;exact⟨s.put e 1,_,.t,fun _ h=>h,fun k _ g q=>by rw[round,g];simp[q,ae.a,ae.b]⟩
 |list α ih=>
   intro n s hn hs;refine pre hn hs fun e kd a b j he ae ve hc=>?_;obtain⟨rfl,p,rfl,rfl,hp⟩:=ve;obtain⟨s1,e1,k1⟩:=ih (n:=p) hp (hc α (Nat.lt_succ_self _) _ fun _ h=>h);exact⟨s1,_,e1,k1,fun k h1 g q=>by rw[round,g];simp[q,ae.a,ae.b,h1]⟩
 |pair α β tx ss=>
   intro n s hn hs;refine pre hn hs fun e kd a b j he ae ve hc=>?_;obtain⟨rfl,p,p',rfl,rfl,hp,sP⟩:=ve;obtain⟨s1,e1,k1⟩:=tx (n:=p) hp (hc α (by show _<α.sz+β.sz+1;omega) _ fun _ h=>h);obtain⟨s2,e2,k2⟩:=ss (n:=p') sP (hc β (by show _<α.sz+β.sz+1;omega) _ k1);exact⟨s2,_,cY.and e1 e2,fun x hx=>k1 x (k2 x hx),fun k h1 g q=>by rw[round,g];simp[q,ae.a,ae.b,h1.1,h1.2]⟩
 |fn α β ρ tx ss=>
   intro n s hn hs;refine pre hn hs fun e kd a b j he ae ve hc=>?_;obtain⟨rfl,p,p',rfl,rfl,hp,sP,_⟩:=ve;obtain⟨s1,e1,k1⟩:=tx (n:=p) hp (hc α (by show _<α.sz+β.sz+9;omega) _ fun _ h=>h);obtain⟨s2,e2,k2⟩:=ss (n:=p') sP (hc β (by show _<α.sz+β.sz+9;omega) _ k1);exact⟨s2,_,cY.and e1 e2,fun x hx=>k1 x (k2 x hx),fun k h1 g q=>by rw[round,g];simp[q,ae.a,ae.b,h1.1,h1.2]⟩
def PtR(w:Wd)(n:Nat)(s:Seen)(z:Nat):Prop:=∃c s',Ev (fun k=>parts k w.g n s) (c,s')/\c<=z/\∀x,s'.at x<=(w.t x).sz
theorem Ua{w:Wd}{N:Nat}(h:w.ok N):∀(τ:GT){n:Nat}{s:Seen},τ.sz<=1000000->w.has n τ->(∀x,s.at x<=(w.t x).sz)->PtR w n s τ.sz:=fun τ=>by
 have pre : ∀{τ : GT}{n : Nat}{s : Seen}, τ.sz <= 1000000 -> w.has n τ -> (∀ x, s.at x <= (w.t x).sz) -> (∀(e kd : Nat)(a b : Option Nat)(j : Nat), At w e kd a b j -> T_ w.t w.r w.g.kind.length w.g.ops.length kd a b j τ ->
     ∃(c:Nat) (s':Seen) (P:Φ),cY P/\c<=τ.sz/\(∀x,s'.at x<=(w.t x).sz)/\∀k,P k->find k w.g n=some e->¬0<s.at e->parts (k+1) w.g n s=some (min c 1000000,s'.put e (min c 1000000)))->PtR w n s τ.sz:=fun{τ n s} hz hn hs K=>by
   obtain⟨e,kd,a,b,j,ee,he,_,ae,ve⟩:=oK h hn
   by_cases q:0<s.at e
   . exact⟨s.at e,s,ee.of (F:=fun k=>find k w.g n) (f:=fun k=>parts (k+1) w.g n s) (fun k g=>by rw[parts,g];simp[q]) |>.step fun k=>rfl,by have:=hs e;rw[he.2] at this;exact this,hs⟩
   have fin:∀(c:Nat)(s':Seen),c<=τ.sz->(∀x,s'.at x<=(w.t x).sz)->∀x,(s'.put e (min c 1000000)).at x<=(w.t x).sz:=fun c s' h1 h2 x=>by
     rw[zc];split
     . rename_i e';subst e';rw[he.2];omega
     . exact h2 x
   rcases ve with⟨rfl,rfl,rfl⟩|ve
   . exact⟨1,s.put e 1,ee.of (F:=fun k=>find k w.g n) (f:=fun k=>parts (k+1) w.g n s) (fun k g=>by rw[parts,g];simp[q,ae.a,ae.b,ae.k]) |>.step fun k=>rfl,τ.pos,fin 1 s τ.pos hs⟩
   . obtain⟨c,s',P,hP,h1,h2,h3⟩:=K e kd a b j ae ve
     exact⟨_,_,(cY.and ee hP).st fun k g=>h3 k g.2 g.1 q,by omega,fin c s' h1 h2⟩
 induction τ with
 |int|bool|unit=>
   intro n s hz hn hs;refine pre hz hn hs fun e kd a b j ae ve=>?_;obtain⟨rfl,rfl,rfl⟩:=ve;exact⟨1,s,_,.t,Nat.le_refl _,hs,fun k _ g q=>by rw[parts,g];simp[q,ae.a,ae.b,ae.k]⟩
 |list α ih=>
   intro n s hz hn hs;refine pre hz hn hs fun e kd a b j ae ve=>?_;obtain⟨rfl,p,rfl,rfl,hp⟩:=ve;have hz:α.sz+1<=1000000:=hz;obtain⟨c,s1,e1,k1,k2⟩:=ih (n:=p) (by omega) hp hs;exact⟨1+c,s1,_,e1,by show _<=α.sz+1;omega,k2,fun k h1 g q=>by rw[parts,g];simp[q,ae.a,ae.b,ae.k,h1];omega⟩
 |pair α β tx ss=>
   intro n s hz hn hs;refine pre hz hn hs fun e kd a b j ae ve=>?_;obtain⟨rfl,p,p',rfl,rfl,hp,sP⟩:=ve;have hz:α.sz+β.sz+1<=1000000:=hz;obtain⟨c,s1,e1,k1,k2⟩:=tx (n:=p) (by omega) hp hs;obtain⟨c',s2,e2,k1',k2'⟩:=ss (n:=p') (by omega) sP k2;exact⟨1+c+c',s2,_,cY.and e1 e2,by show _<=α.sz+β.sz+1;omega,k2',fun k h1 g q=>by rw[parts,g];simp[q,ae.a,ae.b,ae.k,h1.1,h1.2];omega⟩
 |fn α β ρ tx ss=>
   intro n s hz hn hs;refine pre hz hn hs fun e kd a b j ae ve=>?_;obtain⟨rfl,p,p',rfl,rfl,hp,sP,hj⟩:=ve;have hz:α.sz+β.sz+9<=1000000:=hz;obtain⟨c,s1,e1,k1,k2⟩:=tx (n:=p) (by omega) hp hs;obtain⟨c',s2,e2,k1',k2'⟩:=ss (n:=p') (by omega) sP k2;obtain⟨L,v,e3,_,_,_,hL⟩:=lP h hj;exact⟨1+c+c'+L.length,s2,_,cY.and e1 (cY.and e2 e3),by show _<=α.sz+β.sz+9;omega,k2',fun k h1 g q=>by rw[parts,g];simp[q,ae.a,ae.b,ae.k,ae.r,h1.1,h1.2.1,h1.2.2];omega⟩
theorem EV{w:Wd}{N:Nat}(h:w.ok N):∀(τ:GT){n:Nat}(s tv rv:List Nat),w.has n τ->∃r,Ev (fun k=>vars k w.g n s tv rv) r:=fun τ=>by
 have pre : ∀{τ : GT}{n : Nat}{s tv rv : List Nat}, w.has n τ -> (∀(e kd : Nat)(a b : Option Nat)(j : Nat), At w e kd a b j -> kd ≠ 0 -> T_ w.t w.r w.g.kind.length w.g.ops.length kd a b j τ ->
     ∃(r:_) (P:Φ),cY P/\∀k,P k->find k w.g n=some e->¬s.contains e=true->vars (k+1) w.g n s tv rv=some r)->∃r,Ev (fun k=>vars k w.g n s tv rv) r:=fun{τ n s tv rv} hn K=>by
   obtain⟨e,kd,a,b,j,ee,he,_,ae,ve⟩:=oK h hn
   by_cases q:s.contains e=true
   . exact⟨_,cY.st ee fun k g=>by rw[vars,show find k w.g n=some e from g];simp only[if_pos q];rfl⟩
   rcases ve with⟨rfl,rfl,rfl⟩|ve
   . exact⟨_,cY.st ee fun k g=>by rw[vars,show find k w.g n=some e from g];simp only[if_neg q,ae.k];rfl⟩
   . obtain⟨r,P,hP,h1⟩:=K e kd a b j ae ve.kd.2 ve
     exact⟨r,(cY.and ee hP).st fun k g=>h1 k g.2 g.1 q⟩
 induction τ with
 |int|bool|unit=>
   intro n s tv rv hn;refine pre hn fun e kd a b j ae z ve=>?_;obtain⟨rfl,rfl,rfl⟩:=ve;exact⟨_,_,.t,fun k _ g q=>by rw[vars,g];simp only[if_neg q,ae.k,ae.a,ae.b];rfl⟩
 |list α ih=>
   intro n s tv rv hn;refine pre hn fun e kd a b j ae z ve=>?_;obtain⟨rfl,p,rfl,rfl,hp⟩:=ve;obtain⟨⟨s1,t1,r1⟩,e1⟩:=ih (n:=p) (s++[e]) tv rv hp;exact⟨_,_,e1,fun k h1 g q=>by rw[vars,g];simp only[if_neg q,ae.k,ae.a,ae.b,h1];rfl⟩
 |pair α β tx ss=>
   intro n s tv rv hn;refine pre hn fun e kd a b j ae z ve=>?_;obtain⟨rfl,p,p',rfl,rfl,hp,sP⟩:=ve;obtain⟨⟨s1,t1,r1⟩,e1⟩:=tx (n:=p) (s++[e]) tv rv hp;obtain⟨⟨s2,t2,r2⟩,e2⟩:=ss (n:=p') s1 t1 r1 sP;exact⟨_,_,cY.and e1 e2,fun k h1 g q=>by rw[vars,g];simp only[if_neg q,ae.k,ae.a,ae.b,h1.1,h1.2];rfl⟩
 |fn α β ρ tx ss=>
   intro n s tv rv hn;refine pre hn fun e kd a b j ae z ve=>?_;obtain⟨rfl,p,p',rfl,rfl,hp,sP,hj⟩:=ve;obtain⟨⟨s1,t1,r1⟩,e1⟩:=tx (n:=p) (s++[e]) tv rv hp;obtain⟨⟨s2,t2,r2⟩,e2⟩:=ss (n:=p') s1 t1 r1 sP;obtain⟨L,v,e3,_⟩:=lP h hj;cases v with
   |zero=>exact⟨_,_,cY.and e1 (cY.and e2 e3),fun k h1 g q=>by rw[vars,g];simp only[if_neg q,ae.k,ae.a,ae.b,ae.r,h1.1,h1.2.1,h1.2.2,if_true];rfl⟩
   |succ v=>exact⟨_,_,cY.and e1 (cY.and e2 e3),fun k h1 g q=>by rw[vars,g];simp only[if_neg q,ae.k,ae.a,ae.b,ae.r,h1.1,h1.2.1,h1.2.2,if_true];rfl⟩
inductive iC (w:Wd):List (Nm×GT)->List jw->Prop
 |nil:iC w [] []
 |cons {γ:Nm×GT} {x:jw} {Γ:List (Nm×GT)} {env:List jw} (h:x.nm=γ.1) (k:w.has x.t γ.2) (r:iC w Γ env):iC w (γ::Γ) (x::env)
theorem iC.le{w w':Wd}{Γ:List (Nm×GT)}{env:List jw}(h:iC w Γ env)(k:Le w w'):iC w' Γ env:=by
 induction h with
 |nil=>exact .nil
 |cons h q _ ih=>exact .cons h (q.le k) ih
theorem Ub{w:Wd}{N:Nat}(h:w.ok N){Γ:List (Nm×GT)}{env:List jw}(he:iC w Γ env):∀s tv rv,∃r,Ev (fun k=>eS k w.g env s tv rv) r:=by
 induction he with
 |nil=>exact fun s tv rv=>⟨(tv,rv),0,fun k _=>rfl⟩
 |@cons γ x Γ env _ hx _ ih=>
   intro s tv rv;by_cases q:x.all=true
   . obtain⟨⟨s1,a,b⟩,e1⟩:=EV h γ.2 [] [] [] hx;obtain⟨r,e2⟩:=ih s ((a.filter fun n=>!x.tv.contains n).foldl aR.add tv) ((b.filter fun n=>!x.rv.contains n).foldl aR.add rv);exact⟨r,e1.ZC e2 fun k h1 h2=>by rw[eS];simp only[if_pos q,h1];exact h2⟩
   . obtain⟨⟨s1,a,b⟩,e1⟩:=EV h γ.2 s tv rv hx;obtain⟨r,e2⟩:=ih s1 a b;exact⟨r,e1.ZC e2 fun k h1 h2=>by rw[eS];simp only[if_neg q,h1];exact h2⟩
theorem JW{c:Ck}{w:Wd}{N n:Nat}{τ:GT}(hc:c.g=w.g)(h:w.ok N){Γ:List (Nm×GT)}(he:iC w Γ c.env)(hn:w.has n τ)(nm:Nm):∃x,Ev (fun k=>c.gC k nm n) x/\x.nm=nm/\x.t=n:=by
 obtain⟨⟨a,b⟩,e1⟩:=Ub h he [] [] [];obtain⟨⟨s,tv,rv⟩,e2⟩:=EV h τ [] [] [] hn;exact⟨_,e1.ZC e2 fun k h1 h2=>by unfold Ck.gC;rw[hc,h1,h2],rfl,rfl⟩
def U5(w:Wd)(d:List (Nat×Nat)):Prop:=∀p q,Seen.get d p=some q->p<w.g.kind.length/\w.has q (w.t p)
def Uc(w:Wd)(d:List (Nat×Nat)):Prop:=∀p q,Seen.get d p=some q->p<w.g.ops.length/\w.aH q (w.r p)
theorem U5.le{w w':Wd}{d:List (Nat×Nat)}(h:U5 w d)(k:Le w w'):U5 w' d:=fun p q hq=>by
 obtain⟨a,b⟩:=h p q hq;exact⟨Nat.lt_of_lt_of_le a k.k,by rw[k.t p a];exact b.le k⟩
theorem Uc.le{w w':Wd}{d:List (Nat×Nat)}(h:Uc w d)(k:Le w w'):Uc w' d:=fun p q hq=>by
 obtain⟨a,b⟩:=h p q hq;exact⟨Nat.lt_of_lt_of_le a k.o,by rw[k.r p a];exact b.le k⟩
theorem U5.put{w:Wd}{d:List (Nat×Nat)}(h:U5 w d){n m:Nat}{τ:GT}(hn:w.has n τ)(hm:w.has m τ):U5 w (Seen.put d n m):=fun p q hq=>by
 rw[Hq] at hq;split at hq
 . rename_i e;subst e;cases hq;exact⟨hn.1,by rw[hn.2];exact hm⟩
 . exact h p q hq
theorem Uc.put{w:Wd}{d:List (Nat×Nat)}(h:Uc w d){n m:Nat}(hn:n<w.g.ops.length)(hm:w.aH m (w.r n)):Uc w (Seen.put d n m):=fun p q hq=>by
 rw[Hq] at hq;split at hq
 . rename_i e;subst e;cases hq;exact⟨hn,hm⟩
 . exact h p q hq
def CpR(w:Wd)(N n:Nat)(x:jw)(d r:List (Nat×Nat))(τ:GT):Prop:=∃w' m d' r',Ev (fun k=>copied k w.g n x d r) (w'.g,m,d',r')/\w'.ok (N+3*τ.sz)/\Le w w'/\w'.has m τ/\U5 w' d'/\Uc w' r'
theorem NU(x:jw):∀(τ:GT){w:Wd}{N n:Nat}{d r:List (Nat×Nat)},w.ok N->N+3*τ.sz<=eQ->w.has n τ->U5 w d->Uc w r->CpR w N n x d r τ:=fun τ=>by
 have pre : ∀{τ : GT}{w : Wd}{N n : Nat}{d r : List (Nat × Nat)}, w.ok N -> N + 3 * τ.sz <= eQ -> w.has n τ -> U5 w d -> Uc w r -> (∀(e kd : Nat)(a b : Option Nat)(j : Nat), At w e kd a b j -> kd ≠ 0 -> T_ w.t w.r w.g.kind.length w.g.ops.length kd a b j τ ->
     ∃(w1:Wd) (N1 q:Nat) (a' b':Option Nat) (d1 r1:List (Nat×Nat)) (P:Φ),cY P/\w1.ok N1/\N1<N+3*τ.sz/\Le w w1/\U5 w1 d1/\Uc w1 r1/\Nk w1.t w1.r w1.g.kind.length w1.g.ops.length kd a' b' q τ/\
       ∀k g' m,P k->find k w.g n=some e->Seen.get d e=none->w1.g.put kd a' b' q=some (g',m)->copied (k+1) w.g n x d r=some (g',m,Seen.put d1 e m,r1))->CpR w N n x d r τ:=fun{τ w N n d r} h hN hn hd hr K=>by
   have hp:=τ.pos
   obtain⟨e,kd,a,b,j,ee,he,_,ae,ve⟩:=oK h hn
   cases hg:Seen.get d e with
   |some p=>
     have:=hd e p hg
     rw[he.2] at this
     exact⟨w,p,d,r,cY.st ee fun k g=>by rw[copied,show find k w.g n=some e from g];simp only[hg],h.mono (by omega),Le.refl w,this.2,hd,hr⟩
   |none=>
     rcases ve with⟨rfl,rfl,rfl⟩|ve
     . by_cases q:x.tv.contains e=true
       . obtain⟨w1,m,e1,k1,l1,hm⟩:=T9 τ h (by omega)
         exact⟨w1,m,_,r,cY.st ee fun k g=>by rw[copied,show find k w.g n=some e from g];simp only[hg,ae.k,if_pos q,e1],k1.mono (by omega),l1,hm,(hd.le l1).put (he.le l1) hm,hr.le l1⟩
       . exact⟨w,e,_,r,cY.st ee fun k g=>by rw[copied,show find k w.g n=some e from g];simp only[hg,ae.k,if_neg q],h.mono (by omega),Le.refl w,he,hd.put he he,hr⟩
     . obtain⟨w1,N1,q,a',b',d1,r1,P,hP,k1,hz,l1,IF,iq,hk,hf⟩:=K e kd a b j ae ve.kd.2 ve
       obtain⟨w2,m,e2,k2,l2,hm⟩:=qJ k1 (by omega) hk
       exact⟨w2,m,_,r1,(cY.and ee hP).st fun k g=>hf k _ _ g.2 g.1 hg e2,k2.mono (by omega),l1.trans l2,hm,(IF.le l2).put (he.le (l1.trans l2)) hm,iq.le l2⟩
 induction τ with
 |int|bool|unit=>
   intro w N n d r h hN hn hd hr;refine pre h hN hn hd hr fun e kd a b j ae z ve=>?_;obtain⟨rfl,rfl,rfl⟩:=ve;exact⟨w,N,0,none,none,d,r,_,.t,h,Nat.lt_add_of_pos_right (by decide),Le.refl w,hd,hr,by first|exact .int|exact .bool|exact .unit,fun k g' m _ g q h3=>by rw[copied,g];simp[q,ae.k,ae.a,ae.b,h3]⟩
 |list α ih=>
   intro w N n d r h hN hn hd hr;refine pre h hN hn hd hr fun e kd a b j ae z ve=>?_;obtain⟨rfl,p,rfl,rfl,hp⟩:=ve;have hN:N+3*(α.sz+1)<=eQ:=hN;obtain⟨w1,m,d1,r1,e1,k1,l1,hm,IF,iq⟩:=ih (n:=p) h (by omega) hp hd hr;exact⟨w1,_,0,some m,none,d1,r1,_,e1,k1,(by show _<N+3*(α.sz+1);omega),l1,IF,iq,by have:=Nk.list (t:=w1.t) (r:=w1.r) (M:=w1.g.ops.length) (j:=0) hm.1;rwa [hm.2] at this,fun k g' m' h1 g q h3=>by rw[copied,g];simp[q,ae.k,ae.a,(ae.le l1).b,h1,h3]⟩
 |pair α β tx ss=>
   intro w N n d r h hN hn hd hr;refine pre h hN hn hd hr fun e kd a b j ae z ve=>?_;obtain⟨rfl,p,p',rfl,rfl,hp,sP⟩:=ve;have hN:N+3*(α.sz+β.sz+1)<=eQ:=hN;obtain⟨w1,m,d1,r1,e1,k1,l1,hm,IF,iq⟩:=tx (n:=p) h (by omega) hp hd hr;obtain⟨w2,m2,d2,r2,e2,k2,l2,yw,KB,pj⟩:=ss (n:=p') k1 (by omega) (Wd.has.le sP l1) IF iq;have Br:=hm.le l2;exact⟨w2,_,0,some m,some m2,d2,r2,_,cY.and e1 e2,k2,(by show _<N+3*(α.sz+β.sz+1);omega),l1.trans l2,KB,pj,by have:=Nk.pair (t:=w2.t) (r:=w2.r) (M:=w2.g.ops.length) (j:=0) Br.1 yw.1;rwa [Br.2,yw.2] at this,fun k g' m' h1 g q h3=>by rw[copied,g];simp[q,ae.k,ae.a,(ae.le l1).b,h1.1,h1.2,h3]⟩
 |fn α β ρ tx ss=>
   intro w N n d r h hN hn hd hr;refine pre h hN hn hd hr fun e kd a b j ae z ve=>?_;obtain⟨rfl,p,p',rfl,rfl,hp,sP,hj⟩:=ve;have hN:N+3*(α.sz+β.sz+9)<=eQ:=hN;obtain⟨w1,m,d1,r1,e1,k1,l1,hm,IF,iq⟩:=tx (n:=p) h (by omega) hp hd hr;obtain⟨w2,m2,d2,r2,e2,k2,l2,yw,KB,pj⟩:=ss (n:=p') k1 (by omega) (Wd.has.le sP l1) IF iq;have L2:=l1.trans l2;obtain⟨L,v,e3,XJ,hv,U4,hL⟩:=lP k2 (Wd.aH.le hj L2);have sm:Small ρ:=Wd.aH.sm (j:=j) hj h;have vv:∃w3 u r3,(((decide (v≠0)&&x.rv.contains v)=true/\Seen.get r2 v=some u/\w3=w2/\r3=r2)∨((decide (v≠0)&&x.rv.contains v)=true/\Seen.get r2 v=none/\w2.g.eR=some (w3.g,u)/\r3=Seen.put r2 v u)∨((decide (v≠0)&&x.rv.contains v)=false/\w3=w2/\u=v/\r3=r2))/\w3.ok (N+3*α.sz+3*β.sz+1)/\Le w2 w3/\w3.aH u (w2.r v)/\Uc w3 r3:=by
     cases hc:(decide (v≠0)&&x.rv.contains v) with
     |true=>
       cases hg:Seen.get r2 v with
       |some u=>exact⟨w2,u,r2,.inl ⟨rfl,rfl,rfl,rfl⟩,k2.mono (by omega),Le.refl _,(pj v u hg).2,pj⟩
       |none=>
         obtain⟨w3,u,e3,k3,l3,hu,_⟩:=EU (ρ:=w2.r v) k2 (by omega) (k2.v.sm v U4);exact⟨w3,u,Seen.put r2 v u,.inr (.inl ⟨rfl,rfl,e3,rfl⟩),k3,l3,hu,(pj.le l3).put (Nat.lt_of_lt_of_le U4 l3.o) (by rw[l3.r v U4];exact hu)⟩
     |false=>exact⟨w2,v,r2,.inr (.inr ⟨rfl,rfl,rfl,rfl⟩),k2.mono (by omega),Le.refl _,⟨U4,rfl⟩,pj⟩
   obtain⟨w3,u,r3,e4,k3,l3,hu,hr3⟩:=vv;obtain⟨w4,q',e5,k4,l4,hq,_⟩:=rp (l:=L) (nx:=some u) (ρ:=ρ) k3 (by omega) sm ⟨hu.1,by rw[hu.2];exact XJ⟩;have L4:=l3.trans l4;have Br:=hm.le (l2.trans L4);have hm3:=yw.le L4
   exact⟨w4,_,q',some m,some m2,d2,r3,_,cY.and e1 (cY.and e2 e3),k4,(by show _<N+3*(α.sz+β.sz+9);omega),L2.trans L4,KB.le L4,hr3.le l4,by have:=Nk.fn (t:=w4.t) (r:=w4.r) Br.1 hm3.1 hq.1;rwa [Br.2,hm3.2,hq.2] at this,fun k g' m' h1 g q h3=>by
     rw[copied,g];rcases e4 with⟨c,g4,rfl,rfl⟩|⟨c,g4,g5,rfl⟩|⟨c,rfl,rfl,rfl⟩
     . simp only[q,ae.k,ae.a,(ae.le l1).b,(ae.le L2).r,h1.1,h1.2.1,h1.2.2,if_true,c,g4,e5,h3]
     . simp only[q,ae.k,ae.a,(ae.le l1).b,(ae.le L2).r,h1.1,h1.2.1,h1.2.2,if_true,c,g4,g5,e5,h3]
     . simp only[q,ae.k,ae.a,(ae.le l1).b,(ae.le L2).r,h1.1,h1.2.1,h1.2.2,if_true,c,Bool.false_eq_true,if_false,e5,h3]⟩
theorem Da:∀(τ:GT){w:Wd}{N n:Nat},w.ok N->N+3*τ.sz<=eQ->w.has n τ->∃w' m,Ev (fun k=>opened k w.g n) (w'.g,m)/\w'.ok (N+3*τ.sz)/\Le w w'/\w'.has m τ:=fun τ=>by
 have oth:∀{τ:GT}{w:Wd}{N n:Nat},w.ok N->w.has n τ->(∀α β ρ,τ≠.fn α β ρ)->∃w' m,Ev (fun k=>opened k w.g n) (w'.g,m)/\w'.ok (N+3*τ.sz)/\Le w w'/\w'.has m τ:=fun{τ w N n} h hn jQ=>by
   obtain⟨e,kd,a,b,j,ee,he,_,ae,ve⟩:=oK h hn;have h6:kd≠6:=by
     rintro rfl;rcases ve with⟨q,_⟩|ve
     . cases q
     . cases τ with
       |fn α β ρ=>exact jQ _ _ _ rfl
       |_=>have:=ve.1;cases this
   refine⟨w,e,cY.st ee fun k g=>?_,h.mono (by omega),Le.refl w,he⟩;rw[opened.eq_def];simp only[show find k w.g n=some e from g,ae.k]
 induction τ with
 |int|bool|unit|list|pair=>exact fun h _ hn=>oth h hn (fun _ _ _ q=>by cases q)
 |fn α β ρ _ ih=>
   intro w N n h hN hn;have hN:N+3*(α.sz+β.sz+9)<=eQ:=hN;obtain⟨e,kd,a,b,j,ee,he,_,ae,ve⟩:=oK h hn;rcases ve with⟨rfl,rfl,rfl⟩|ve
   . exact⟨w,e,cY.st ee fun k g=>by rw[opened,show find k w.g n=some e from g];simp only[ae.k],h.mono (by omega),Le.refl w,he⟩
   . obtain ⟨rfl, p, p', rfl, rfl, hp, sP, hj⟩ := ve;obtain ⟨w1, m, e1, k1, l1, hm⟩ := ih (n := p') h (by omega) sP;obtain ⟨L, v, e2, XJ, hv, U4, hL⟩ := lP k1 (Wd.aH.le hj l1);have sm : Small ρ := Wd.aH.sm (j := j) hj h;have vv : ∃ w3 u, (if v = 0 then w1.g.eR else some (w1.g, v)) = some (w3.g, u) /\ w3.ok (N + 3 * β.sz + 1) /\ Le w1 w3 /\ w3.aH u (w1.r v) := by
       split
       . rename_i q;obtain⟨w3,u,e3,k3,l3,hu,_⟩:=EU (ρ:=zb) k1 (by omega) Small.zb;exact⟨w3,u,e3,k3,l3,by rw[q,k1.v.z0];exact hu⟩
       . exact⟨w1,v,rfl,k1.mono (by omega),Le.refl _,U4,rfl⟩
     obtain⟨w3,u,e3,k3,l3,hu⟩:=vv;obtain⟨w4,q',e5,k4,l4,hq,_⟩:=rp (l:=L) (nx:=some u) (ρ:=ρ) k3 (by omega) sm ⟨hu.1,by rw[hu.2];exact XJ⟩;have hp4:=Wd.has.le (n:=p) hp (l1.trans (l3.trans l4));have hm4:=hm.le (l3.trans l4);obtain⟨w5,m5,e6,k5,l5,h5⟩:=qJ (kd:=6) (a:=some p) (b:=some m) (j:=q') (τ:=.fn α β ρ) k4 (by omega) (by have:=Nk.fn (t:=w4.t) (r:=w4.r) hp4.1 hm4.1 hq.1;rwa [hp4.2,hm4.2,hq.2] at this)
     exact⟨w5,m5,(cY.and ee (cY.and e1 e2)).st fun k g=>by
       rw[opened,show find k w.g n=some e from g.1];simp only[ae.k,ae.b,g.2.1,(ae.le l1).r,g.2.2];rw[e3]
       simp only[e5,(ae.le (l1.trans (l3.trans l4))).a,e6],k5.mono (by show _<=N+3*(α.sz+β.sz+9);omega),l1.trans (l3.trans (l4.trans l5)),h5⟩
theorem adi{w:Wd}{N:Nat}{x:jw}{τ:GT}(h:w.ok N)(hN:N+6*τ.sz<=eQ)(hx:w.has x.t τ):∃w' m,Ev (fun k=>use k w.g x) (w'.g,m)/\w'.ok (N+6*τ.sz)/\Le w w'/\w'.has m τ:=by
 by_cases q:x.all=true
 . obtain⟨w1,m,d,r,e1,k1,l1,hm,_⟩:=NU x τ (d:=[]) (r:=[]) h (by omega) hx (fun _ _ h=>by cases h) (fun _ _ h=>by cases h);by_cases q2:x.eR=true
   . obtain⟨w2,m2,e2,k2,l2,yw⟩:=Da τ k1 (by omega) hm;exact⟨w2,m2,e1.ZC e2 fun k h1 h2=>by unfold use;simp only[if_pos q,h1,if_pos q2];exact h2,k2.mono (by omega),l1.trans l2,yw⟩
   . exact⟨w1,m,e1.of fun k h1=>by unfold use;simp only[if_pos q,h1,if_neg q2],k1.mono (by omega),l1,hm⟩
 . by_cases q2:x.eR=true
   . obtain⟨w2,m2,e2,k2,l2,yw⟩:=Da τ h (by omega) hx;exact⟨w2,m2,e2.of fun k h2=>by unfold use;simp only[if_neg q,if_pos q2];exact h2,k2.mono (by omega),l2,yw⟩
   . exact⟨w,x.t,⟨0,fun k _=>by unfold use;simp only[if_neg q,if_neg q2]⟩,h.mono (by omega),Le.refl w,hx⟩
inductive Tg:aR.Ty->GT->Prop
 |int:Tg (.mk 1 0 0 [] []) .int
 |bool:Tg (.mk 2 0 0 [] []) .bool
 |unit:Tg (.mk 3 0 0 [] []) .unit
 |list {a α} (h:Tg a α):Tg (.mk 4 0 0 [] [a]) (.list α)
 |pair {a b α β} (h:Tg a α) (k:Tg b β):Tg (.mk 5 0 0 [] [a,b]) (.pair α β)
 |fn {a b α β l} (h:Tg a α) (k:Tg b β) (hl:l.length<=8) (hb:∀x∈l,x.size<=100):Tg (.mk 6 0 0 l [a,b]) (.fn α β (eJ l))
theorem adj{T:aR.Ty}{τ:GT}(h:Tg T τ):∀{w:Wd}{N:Nat},w.ok N->N+3*τ.sz<=eQ->∃w' m,Ev (fun k=>pI k w.g T) (w'.g,m)/\w'.ok (N+3*τ.sz)/\Le w w'/\w'.has m τ:=by
 have leaf:∀{w:Wd}{N kd:Nat}{τ:GT},kd≠0->kd≠6->Nk w.t w.r w.g.kind.length w.g.ops.length kd none none 0 τ->w.ok N->N+3*τ.sz<=eQ->∃w' m,Ev (fun k=>pI k w.g (.mk kd 0 0 [] [])) (w'.g,m)/\w'.ok (N+3*τ.sz)/\Le w w'/\w'.has m τ:=fun{w N kd τ} h0 h6 hk h hN=>by
   have hp:=τ.pos;obtain⟨w1,m,e1,k1,l1,hm⟩:=qJ h (by omega) hk;exact⟨w1,m,cY.st .t fun k _=>by rw[pI];simp only[if_neg h0,if_neg h6,List.getElem?_nil];exact e1,k1.mono (by omega),l1,hm⟩
 induction h with
 |int=>exact fun h hN=>leaf (by decide) (by decide) .int h hN
 |bool=>exact fun h hN=>leaf (by decide) (by decide) .bool h hN
 |unit=>exact fun h hN=>leaf (by decide) (by decide) .unit h hN
 |@list a α _ ih=>
   intro w N h hN;have hN:N+3*(α.sz+1)<=eQ:=hN;obtain⟨w1,m,e1,k1,l1,hm⟩:=ih h (by omega);obtain⟨w2,m2,e2,k2,l2,yw⟩:=qJ (kd:=4) (a:=some m) (b:=none) (j:=0) (τ:=.list α) k1 (by omega) (by have:=Nk.list (t:=w1.t) (r:=w1.r) (M:=w1.g.ops.length) (j:=0) hm.1;rwa [hm.2] at this);exact⟨w2,m2,cY.st e1 fun k g=>by rw[pI];simp[show pI k w.g a=some (w1.g,m) from g,e2],k2.mono (by show _<=N+3*(α.sz+1);omega),l1.trans l2,yw⟩
 |@pair a b α β _ _ tx ss=>
   intro w N h hN;have hN:N+3*(α.sz+β.sz+1)<=eQ:=hN;obtain⟨w1,m,e1,k1,l1,hm⟩:=tx h (by omega);obtain⟨w2,m2,e2,k2,l2,yw⟩:=ss k1 (by omega);have hm:=hm.le l2;obtain⟨w3,m3,e3,k3,l3,hm3⟩:=qJ (kd:=5) (a:=some m) (b:=some m2) (j:=0) (τ:=.pair α β) k2 (by omega) (by have:=Nk.pair (t:=w2.t) (r:=w2.r) (M:=w2.g.ops.length) (j:=0) hm.1 yw.1;rwa [hm.2,yw.2] at this);exact⟨w3,m3,(cY.and e1 e2).st fun k g=>by rw[pI];simp[g.1,g.2,e3],k3.mono (by show _<=N+3*(α.sz+β.sz+1);omega),l1.trans (l2.trans l3),hm3⟩
 |@fn a b α β l _ _ hl hb tx ss=>
   intro w N h hN;have hN:N+3*(α.sz+β.sz+9)<=eQ:=hN;obtain⟨w1,m,e1,k1,l1,hm⟩:=tx h (by omega);obtain⟨w2,m2,e2,k2,l2,yw⟩:=ss k1 (by omega);obtain⟨w3,q,e3,k3,l3,hq,_⟩:=rp (l:=l) (nx:=some 0) (ρ:=eJ l) k2 (by omega) (Small.eJ hl hb) ⟨by rw[<- k2.v.lo];exact bJ k2.v.r0,by rw[k2.v.z0,T8]⟩;have hm:=hm.le (l2.trans l3);have yw:=yw.le l3;obtain⟨w4,m4,e4,k4,l4,hm4⟩:=qJ (kd:=6) (a:=some m) (b:=some m2) (j:=q) (τ:=.fn α β (eJ l)) k3 (by omega) (by have:=Nk.fn (t:=w3.t) (r:=w3.r) hm.1 yw.1 hq.1;rwa [hm.2,yw.2,hq.2] at this);exact⟨w4,m4,(cY.and e1 e2).st fun k g=>by rw[pI];simp[g.1,g.2,e3,e4],k4.mono (by show _<=N+3*(α.sz+β.sz+9);omega),l1.trans (l2.trans (l3.trans l4)),hm4⟩
def U6(m:List (Int×Nat)):Prop:=∀p∈m,p.2<=eQ
theorem LW{m:List (Int×Nat)}(h:U6 m)(hl:m.length<eQ)(n:Nat):(fJ m n).1.length<=m.length+1/\U6 (fJ m n).1/\(fJ m n).2<=eQ:=by
 unfold fJ;split
 . rename_i k e;refine⟨Nat.le_succ _,h,?_⟩;clear hl;induction m with
   |nil=>cases e
   |cons p m ih=>
     unfold du at e;split at e
     . cases e;exact h _ (.head _)
     . exact ih (fun q hq=>h q (.tail _ hq)) e
 . exact ⟨by simp, fun p hp => by
     rcases List.mem_append.1 hp with q|q
     . exact h p q
     . rw[List.mem_singleton.1 q];exact hl,hl⟩
structure ToR (w:Wd) (n:Nat) (l:gJ) (z:Nat):Prop where
 ex:∃s l' m,cY (fun k=>told k w.g n l=some (s,l')/\rI k s=some m)/\l'.t.length<=l.t.length+z/\l'.r.length<=l.r.length+z/\m<=1000*z/\U6 l'.t/\U6 l'.r
theorem sh0{kd c k:Nat}(hk:kd<=6)(hc:c<=eQ):rI (k+1) (.mk kd c 0 [] [])=some 30:=by
 unfold eQ at hc;rw[rI,if_pos ⟨by omega,by omega,by decide,by decide,rfl⟩]
theorem sh1{kd k m:Nat}{x:aR.Ty}(hk:kd<=6)(h:rI k x=some m):rI (k+1) (.mk kd 0 0 [] [x])=some (m+10):=by
 rw[rI,if_pos ⟨by omega,by decide,by decide,by decide,rfl⟩];simp only[h]
theorem sh2{kd k m m' c:Nat}{x y:aR.Ty}{o:List Nm}(hk:kd<=6)(hc:c<=eQ)(ho:o.length<=8)(hz:∀x∈o,x.size<=100)(h:rI k x=some m)(h':rI k y=some m'):rI (k+1) (.mk kd 0 c o [x,y])=some (m+m'+(o.map fun s=>s.size+2).sum+60)/\(o.map fun s=>s.size+2).sum<=102*o.length:=by
 unfold eQ at hc;refine⟨by rw[rI,if_pos ⟨by omega,by decide,by omega,by omega,by rw[List.all_eq_true];intro x hx;have:=hz x hx;simp;omega⟩];simp only[h,h'],?_⟩;clear ho;induction o with
 |nil=>simp
 |cons s o ih=>have:=ih (fun x hx=>hz x (.tail _ hx));have:=hz s (.head _);simp only[List.map_cons,List.sum_cons,List.length_cons];omega
theorem LX{w:Wd}{N:Nat}(h:w.ok N):∀(τ:GT){n:Nat}{l:gJ},w.has n τ->l.t.length+τ.sz<eQ->l.r.length+τ.sz<eQ->U6 l.t->U6 l.r->ToR w n l τ.sz:=fun τ=>by
 have pre : ∀{τ : GT}{n : Nat}{l : gJ}, w.has n τ -> l.t.length + τ.sz < eQ -> U6 l.t -> U6 l.r -> (∀(e kd : Nat)(a b : Option Nat)(j : Nat), At w e kd a b j -> kd ≠ 0 -> T_ w.t w.r w.g.kind.length w.g.ops.length kd a b j τ ->
     ∃(s:aR.Ty) (l':gJ) (m:Nat) (P:Φ),cY P/\l'.t.length<=l.t.length+τ.sz/\l'.r.length<=l.r.length+τ.sz/\m<=1000*τ.sz/\U6 l'.t/\U6 l'.r/\∀k,P k->find k w.g n=some e->told (k+1) w.g n l=some (s,l')/\rI (k+1) s=some m)->ToR w n l τ.sz:=fun{τ n l} hn hl ht hr K=>by
   have hp:=τ.pos
   have st:∀{P Q:Nat->Prop},cY P->(∀k,P k->Q (k+1))->cY Q:=fun{P Q} h k=>by
     obtain⟨a,h⟩:=h;refine⟨a+1,fun i hi=>?_⟩;obtain⟨j,rfl⟩:∃j,i=j+1:=⟨i-1,by omega⟩;exact k j (h j (by omega))
   obtain⟨e,kd,a,b,j,ee,he,_,ae,ve⟩:=oK h hn
   rcases ve with⟨rfl,rfl,rfl⟩|ve
   . obtain⟨n1,n2,n3⟩:=LW ht (by omega) e
     exact⟨_,⟨(fJ l.t e).1,l.r⟩,_,st ee fun k g=>⟨by rw[told,show find k w.g n=some e from g];simp only[ae.k,if_pos (show l.t.length<eQ by omega)];rfl,sh0 (by decide) n3⟩,by show(fJ l.t e).1.length<=_;omega,Nat.le_add_right _ _,by omega,n2,hr⟩
   . obtain⟨s,l',m,P,hP,h1,h2,h3,h4,h5,h6⟩:=K e kd a b j ae ve.kd.2 ve
     exact⟨s,l',m,st (cY.and ee hP) fun k g=>h6 k g.2 g.1,h1,h2,h3,h4,h5⟩
 induction τ with
 |int|bool|unit=>
   intro n l hn h1 h2 ht hr;refine pre hn h1 ht hr fun e kd a b j ae z ve=>?_;obtain⟨rfl,rfl,rfl⟩:=ve;exact⟨_,l,_,_,.t,Nat.le_add_right _ _,Nat.le_add_right _ _,(by decide:30<=1000),ht,hr,fun k _ g=>⟨by rw[told,g];simp only[ae.k,ae.a,ae.b];rfl,sh0 (by decide) (by decide)⟩⟩
 |list α ih=>
   intro n l hn h1 h2 ht hr;refine pre hn h1 ht hr fun e kd a b j ae z ve=>?_;obtain⟨rfl,p,rfl,rfl,hp⟩:=ve;have h1:l.t.length+(α.sz+1)<eQ:=h1;have h2:l.r.length+(α.sz+1)<eQ:=h2;obtain⟨s,l1,m,e1,g1,g2,g3,g4,g5⟩:=ih (n:=p) (l:=l) hp (by omega) (by omega) ht hr;exact⟨_,l1,_,_,e1,(by show _<=_+(α.sz+1);omega),(by show _<=_+(α.sz+1);omega),(by show _<=1000*(α.sz+1);omega:m+10<=_),g4,g5,fun k h1 g=>⟨by rw[told,g];simp only[ae.k,ae.a,ae.b,h1.1,if_neg (show ¬4=6 by decide)];rfl,sh1 (by decide) h1.2⟩⟩
 |pair α β tx ss=>
   intro n l hn h1 h2 ht hr;refine pre hn h1 ht hr fun e kd a b j ae z ve=>?_;obtain⟨rfl,p,p',rfl,rfl,hp,sP⟩:=ve;have h1:l.t.length+(α.sz+β.sz+1)<eQ:=h1;have h2:l.r.length+(α.sz+β.sz+1)<eQ:=h2;obtain⟨s,l1,m,e1,g1,g2,g3,g4,g5⟩:=tx (n:=p) (l:=l) hp (by omega) (by omega) ht hr;obtain⟨s2,l2,m2,e2,i1,i2,i3,i4,i5⟩:=ss (n:=p') (l:=l1) sP (by omega) (by omega) g4 g5;exact⟨_,l2,_,_,cY.and e1 e2,(by show _<=_+(α.sz+β.sz+1);omega),(by show _<=_+(α.sz+β.sz+1);omega),(by show _<=1000*(α.sz+β.sz+1);omega:m+m2+0+60<=_),i4,i5,fun k h1 g=>⟨by rw[told,g];simp only[ae.k,ae.a,ae.b,h1.1.1,h1.2.1,if_neg (show ¬5=6 by decide)];rfl,(sh2 (o:=[]) (by decide) (by decide) (by decide) (fun _ h=>by cases h) h1.1.2 h1.2.2).1⟩⟩
 |fn α β ρ tx ss=>
   intro n l hn h1 h2 ht hr;refine pre hn h1 ht hr fun e kd a b j ae z ve=>?_;obtain⟨rfl,p,p',rfl,rfl,hp,sP,hj⟩:=ve;have h1:l.t.length+(α.sz+β.sz+9)<eQ:=h1;have h2:l.r.length+(α.sz+β.sz+9)<eQ:=h2;obtain⟨s,l1,m,e1,g1,g2,g3,g4,g5⟩:=tx (n:=p) (l:=l) hp (by omega) (by omega) ht hr;obtain⟨L,v,e3,XJ,_,_,hL⟩:=lP h hj;have sm:Small ρ:=Wd.aH.sm (j:=j) hj h
   have hz:∀x∈L,x.size<=100:=fun x hx=>sm.2 x (by
     rw[XJ];show 0<eJ L x+_;have:0<eJ L x:=List.countP_pos_iff.2 ⟨x,hx,ey.2 rfl⟩
     omega)
   cases v with
   |zero=>
     obtain⟨s2,l2,m2,e2,i1,i2,i3,i4,i5⟩:=ss (n:=p') (l:=l1) sP (by omega) (by omega) g4 g5;have hh:=fun k (h1:rI k s=some m) (h2:rI k s2=some m2)=>sh2 (c:=0) (kd:=6) (by decide) (by decide) hL hz h1 h2;obtain⟨k0,CV⟩:=cY.and e1 e2;have hs:=(hh k0 (CV k0 (Nat.le_refl _)).1.2 (CV k0 (Nat.le_refl _)).2.2).2;exact⟨_,l2,m+m2+(L.map fun s=>s.size+2).sum+60,_,cY.and e1 (cY.and e2 e3),(by show _<=_+(α.sz+β.sz+9);omega),(by show _<=_+(α.sz+β.sz+9);omega),(by show _<=1000*(α.sz+β.sz+9);omega),i4,i5,fun k h1 g=>⟨by rw[told,g];simp only[ae.k,ae.a,ae.b,ae.r,h1.1.1,h1.2.1.1,h1.2.2,if_true];rfl,(hh k h1.1.2 h1.2.1.2).1⟩⟩
   |succ v=>
     obtain⟨n1,n2,n3⟩:=LW g5 (by omega) (v+1);obtain⟨s2,l2,m2,e2,i1,i2,i3,i4,i5⟩:=ss (n:=p') (l:=⟨l1.t,(fJ l1.r (v+1)).1⟩) sP (by show l1.t.length+_<_;omega) (by show(fJ l1.r (v+1)).1.length+_<_;omega) g4 n2;have i1:l2.t.length<=l1.t.length+β.sz:=i1;have i2:l2.r.length<=(fJ l1.r (v+1)).1.length+β.sz:=i2;have hh:=fun k (h1:rI k s=some m) (h2:rI k s2=some m2)=>sh2 (c:=(fJ l1.r (v+1)).2) (kd:=6) (by decide) n3 hL hz h1 h2;obtain⟨k0,CV⟩:=cY.and e1 e2;have hs:=(hh k0 (CV k0 (Nat.le_refl _)).1.2 (CV k0 (Nat.le_refl _)).2.2).2;exact⟨_,l2,m+m2+(L.map fun s=>s.size+2).sum+60,_,cY.and e1 (cY.and e2 e3),(by show _<=_+(α.sz+β.sz+9);omega),(by show _<=_+(α.sz+β.sz+9);omega),(by show _<=1000*(α.sz+β.sz+9);omega),i4,i5,fun k h1 g=>⟨by rw[told,g];simp only[ae.k,ae.a,ae.b,ae.r,h1.1.1,h1.2.1.1,h1.2.2,if_true,if_pos (show l1.r.length<eQ by omega)];rfl,(hh k h1.1.2 h1.2.1.2).1⟩⟩
section
variable {w:Wd} {N:Nat} {env:List jw} {ol:List o_} {fa:Int}
theorem kN{m n:Nat}{τ:GT}(at_:Int)(h:w.ok N)(hN:N+τ.sz<=eQ)(hm:w.has m τ)(hn:w.has n τ):∃w',Ev (fun k=>Ck.same k ⟨w.g,env,ol,0,fa⟩ m n at_) ⟨w'.g,env,ol,0,fa⟩/\w'.ok (N+τ.sz)/\Le w w':=by
 obtain⟨w1,e1,k1,l1⟩:=XI τ h hN hm hn;obtain⟨s,e2,_⟩:=Hr k1 τ (s:=[]) (hm.le l1) (fun x h=>by cases h);obtain⟨t,e3,_⟩:=Hr k1 τ (s:=[]) (hn.le l1) (fun x h=>by cases h);exact⟨w1,e1.of3 e2 e3 fun k h1 h2 h3=>by simp[Ck.same,h1,h2,h3],k1,l1⟩
theorem Ht{i j:Nat}{ρ:nS}(at_:Int)(h:w.ok N)(hN:N+1<=eQ)(hi:w.aH i ρ)(hj:w.aH j ρ):∃w',Ev (fun k=>Ck.row k ⟨w.g,env,ol,0,fa⟩ i j at_) ⟨w'.g,env,ol,0,fa⟩/\w'.ok (N+1)/\Le w w':=by
 obtain⟨w1,e1,k1,l1⟩:=Bh h hN hi hj;exact⟨w1,e1.of fun k h1=>by simp[Ck.row,h1],k1,l1⟩
theorem Bi{n:Nat}{τ:GT}(at_:Int)(h:w.ok N)(hz:τ.sz<=300)(hn:w.has n τ):Ev (fun k=>Ck.ry k ⟨w.g,env,ol,0,fa⟩ n at_) ⟨w.g,env,ol,0,fa⟩:=by
 obtain⟨c,s,e1,h1,_⟩:=Ua h τ (s:=[]) (by omega) hn (fun x=>by simp[Seen.at]);exact e1.of fun k h2=>by simp[Ck.ry,h2];omega
theorem Bj(τ:GT)(h:w.ok N)(hN:N+1<=eQ):∃w' m,Ck.var ⟨w.g,env,ol,0,fa⟩=some (⟨w'.g,env,ol,0,fa⟩,m)/\w'.ok (N+1)/\Le w w'/\w'.has m τ:=by
 obtain⟨w1,m,e1,r⟩:=T9 τ h hN;exact⟨w1,m,by rw[G.var] at e1;simp[Ck.var,Ck.put,e1],r⟩
theorem gu{kd j:Nat}{a b:Option Nat}{τ:GT}(h:w.ok N)(hN:N+1<=eQ)(hk:Nk w.t w.r w.g.kind.length w.g.ops.length kd a b j τ):∃w' m,Ck.put ⟨w.g,env,ol,0,fa⟩ kd a b j=some (⟨w'.g,env,ol,0,fa⟩,m)/\w'.ok (N+1)/\Le w w'/\w'.has m τ:=by
 obtain⟨w1,m,e1,r⟩:=qJ h hN hk;exact⟨w1,m,by simp[Ck.put,e1],r⟩
theorem Db{l:List Nm}{q:Nat}{σ:nS}(h:w.ok N)(hN:N+1<=eQ)(hq:w.aH q σ)(hs:Small (add (eJ l) σ)):∃w' m,Ck.putRow ⟨w.g,env,ol,0,fa⟩ l (some q)=some (⟨w'.g,env,ol,0,fa⟩,m)/\w'.ok (N+1)/\Le w w'/\w'.aH m (add (eJ l) σ):=by
 obtain⟨w1,m,e1,k1,l1,h1,_⟩:=rp (l:=l) (nx:=some q) h hN hs ⟨hq.1,by rw[hq.2]⟩;exact⟨w1,m,by simp[Ck.putRow,e1],k1,l1,h1⟩
theorem uX{ρ:nS}(h:w.ok N)(hN:N+1<=eQ)(hs:Small ρ):∃w' m,Ck.eR ⟨w.g,env,ol,0,fa⟩=some (⟨w'.g,env,ol,0,fa⟩,m)/\w'.ok (N+1)/\Le w w'/\w'.aH m ρ:=by
 obtain⟨w1,m,e1,k1,l1,h1,_⟩:=EU h hN hs;exact⟨w1,m,by rw[G.eR] at e1;simp[Ck.eR,Ck.putRow,e1],k1,l1,h1⟩
theorem zd{T:aR.Ty}{τ:GT}(hT:Tg T τ)(h:w.ok N)(hN:N+3*τ.sz<=eQ):∃w' m,Ev (fun k=>Ck.pI k ⟨w.g,env,ol,0,fa⟩ T) (⟨w'.g,env,ol,0,fa⟩,m)/\w'.ok (N+3*τ.sz)/\Le w w'/\w'.has m τ:=by
 obtain⟨w1,m,e1,r⟩:=adj hT h hN;exact⟨w1,m,e1.of fun k h1=>by simp[Ck.pI,h1],r⟩
end
section
variable {w:Wd}
theorem Wd.air{p q:Nat}{α β:GT}(h:w.has p α)(k:w.has q β):Nk w.t w.r w.g.kind.length w.g.ops.length 5 (some p) (some q) 0 (.pair α β):=by have:=Nk.pair (t:=w.t) (r:=w.r) (M:=w.g.ops.length) (j:=0) h.1 k.1;rwa [h.2,k.2] at this
theorem Wd.kFn{p q j:Nat}{α β:GT}{ρ:nS}(h:w.has p α)(k:w.has q β)(l:w.aH j ρ):Nk w.t w.r w.g.kind.length w.g.ops.length 6 (some p) (some q) j (.fn α β ρ):=by have:=Nk.fn (t:=w.t) (r:=w.r) h.1 k.1 l.1;rwa [h.2,k.2,l.2] at this
theorem iC.app{Γ Δ:List (Nm×GT)}{e f:List jw}(h:iC w Γ e)(k:iC w Δ f):iC w (Γ++Δ) (e++f):=by
 induction h with
 |nil=>exact k
 |cons h q _ ih=>exact .cons h q ih
theorem iC.rev{Γ:List (Nm×GT)}{e:List jw}(h:iC w Γ e):iC w Γ.reverse e.reverse:=by
 induction h with
 |nil=>exact .nil
 |cons h q _ ih=>rw[List.reverse_cons,List.reverse_cons];exact ih.app (.cons h q .nil)
theorem iC.snoc{Γ:List (Nm×GT)}{e:List jw}(h:iC w Γ e){x:jw}{τ:GT}(k:w.has x.t τ):iC w (Γ++[(x.nm,τ)]) (e++[x]):=h.app (.cons rfl k .nil)
end
def look(Γ:List (Nm×GT))(nm:Nm):Option GT:=(Γ.reverse.find? fun x=>dh x.1 nm).map (·.2)
theorem XK{w:Wd}{Γ:List (Nm×GT)}{e:List jw}(h:iC w Γ e){nm:Nm}{τ:GT}(hl:look Γ nm=some τ):∃x,gE nm e=some x/\w.has x.t τ:=by
 unfold look at hl;unfold gE;have hr:=h.rev;generalize Γ.reverse=LY at hl hr;generalize e.reverse=e' at hr;clear h;induction hr with
 |nil=>cases hl
 |@cons γ x LY e' h q _ ih=>
   rw[List.find?_cons] at hl ⊢;rw[h];cases hc:dh γ.1 nm with
   |true=>rw[hc] at hl;cases hl;exact⟨x,rfl,q⟩
   |false=>rw[hc] at hl;exact ih hl
def Bk(nm:Nm):Bool:=dh nm ⟨#[60]⟩||dh nm ⟨#[61,61]⟩
mutual
inductive Tj (ol:List o_):List (Nm×GT)->nS->Nd->GT->Nat->Prop
 |int {Γ ρ a nm n ks}:Tj ol Γ ρ (.mk 3 a nm n ks) .int 1
 |unit {Γ ρ a nm n ks}:Tj ol Γ ρ (.mk 5 a nm n ks) .unit 1
 |var {Γ ρ a nm n ks τ} (h:look Γ nm=some τ):Tj ol Γ ρ (.mk 6 a nm n ks) τ (6*τ.sz)
 |fn {Γ ρ a nm n b α β σ c} (hs:Small σ) (h:Tj ol (Γ++[(nm,α)]) σ b β c):Tj ol Γ ρ (.mk 7 a nm n [b]) (.fn α β σ) (c+3)
 |app {Γ ρ a nm n f x α β c1 c2} (h:Tj ol Γ ρ f (.fn α β ρ) c1) (k:Tj ol Γ ρ x α c2):Tj ol Γ ρ (.mk 8 a nm n [f,x]) β (c1+c2+(2*α.sz+β.sz+14))
 |MV {Γ ρ a nm d b α β c1 c2} (h:Tj ol Γ ρ d α c1) (hz:α.sz<=300) (k:Tj ol (Γ++[(nm,α)]) ρ b β c2):Tj ol Γ ρ (.mk 9 a nm 0 [d,b]) β (c1+c2)
 |seq {Γ ρ a nm n d b α β c1 c2} (h:Tj ol Γ ρ d α c1) (k:Tj ol Γ ρ b β c2):Tj ol Γ ρ (.mk 10 a nm n [d,b]) β (c1+c2)
 |pair {Γ ρ a nm n x y α β c1 c2} (h:Tj ol Γ ρ x α c1) (k:Tj ol Γ ρ y β c2):Tj ol Γ ρ (.mk 12 a nm n [x,y]) (.pair α β) (c1+c2+1)
 |op {Γ ρ a nm n x y c1 c2} (h:Tj ol Γ ρ x .int c1) (k:Tj ol Γ ρ y .int c2):Tj ol Γ ρ (.mk 18 a nm n [x,y]) (if Bk nm then .bool else .int) (c1+c2+5)
 |Ud {Γ ρ a nm n x o α β c} (ho:iJ nm ol=some o) (hi:Tg o.i α) (hr:Tg o.o β) (XJ:0<ρ nm) (h:Tj ol Γ ρ x α c):Tj ol Γ ρ (.mk 19 a nm n [x]) β (c+(4*α.sz+3*β.sz+3))
 | handle {Γ ρ a nm n d k2 a2 tG n2 rb cl τ β c1 c2 c3} (hl : cl.length < 1000) (hn : ∀ c : Ck, ji ol cl [] c = c) (hs : Small (add (eJ (cl.map fun d => d.nm)) ρ)) (h : Tj ol Γ (add (eJ (cl.map fun d => d.nm)) ρ) d τ c1) (k : Tj ol (Γ ++ [(tG, τ)]) ρ rb β c2)
     (l:Tc ol Γ ρ n τ (add (eJ (cl.map fun d=>d.nm)) ρ) β cl c3):Tj ol Γ ρ (.mk 20 a nm n (d::.mk k2 a2 tG n2 [rb]::cl)) β (c1+c2+c3+1)
inductive Tc (ol:List o_):List (Nm×GT)->nS->Int->GT->nS->GT->List Nd->Nat->Prop
 |nil {Γ ρ n τ σ β}:Tc ol Γ ρ n τ σ β [] 0
 |cons {Γ ρ n τ σ β k a nm m p q e l o α ω c1 c2} (ho:iJ nm ol=some o) (hi:Tg o.i α) (hr:Tg o.o ω) (h:Tj ol ((Γ++[(p.nm,α)])++[(q.nm,if n=1 then .fn ω τ σ else .fn ω β ρ)]) ρ e β c1) (r:Tc ol Γ ρ n τ σ β l c2):Tc ol Γ ρ n τ σ β (.mk k a nm m [p,q,e]::l) (c1+c2+(3*α.sz+3*ω.sz+β.sz+2))
end
def uY(ol:List o_)(Γ:List (Nm×GT))(ρ:nS)(e:Nd)(τ:GT)(c:Nat):Prop:=0<c/\∀{w:Wd}{N:Nat}{env:List jw}{fa:Int}{row:Nat},w.ok N->N+c<=eQ->iC w Γ env->w.aH row ρ->
 ∃w' m,cY (fun z=>∀k,c<=k->expr z k ⟨w.g,env,ol,0,fa⟩ e row=some (⟨w'.g,env,ol,0,fa⟩,m))/\w'.ok (N+c)/\Le w w'/\w'.has m τ
theorem uZ{g:G}{env:List jw}{ol:List o_}{fa:Int}(x:jw):Ck.out ⟨g,env++[x],ol,0,fa⟩ 1=⟨g,env,ol,0,fa⟩:=by
 unfold Ck.out;simp only[List.length_append,List.length_cons,List.length_nil];rw[Nat.zero_add,Nat.add_sub_cancel,List.take_left' rfl]
theorem NV{g:G}{env:List jw}{ol:List o_}{fa:Int}(x y:jw):Ck.out ⟨g,(env++[x])++[y],ol,0,fa⟩ 2=⟨g,env,ol,0,fa⟩:=by
 unfold Ck.out;simp only[List.append_assoc,List.length_append,List.length_cons,List.length_nil];rw[show env.length+(0+1+(0+1))-2=env.length by omega,List.take_left' rfl]
def ClR(ol:List o_)(Γ:List (Nm×GT))(ρ:nS)(n:Int)(τ:GT)(σ:nS)(β:GT)(l:List Nd)(c:Nat):Prop:=∀{w:Wd}{N:Nat}{env:List jw}{fa:Int}{row inner t b:Nat}(nd:Nd),nd.n=n->w.ok N->N+c<=eQ->iC w Γ env->w.aH row ρ->w.aH inner σ->w.has t τ->w.has b β->
 ∃w',cY (fun z=>∀k,c<=k->fZ (expr z k) z nd row inner t b l ⟨w.g,env,ol,0,fa⟩=some ⟨w'.g,env,ol,0,fa⟩)/\w'.ok (N+c)/\Le w w'
theorem wj{k a nm n ks}:(Nd.mk k a nm n ks).k=k:=rfl
theorem su{k a nm n ks}:(Nd.mk k a nm n ks).nm=nm:=rfl
theorem adk{k a nm n ks}:(Nd.mk k a nm n ks).n=n:=rfl
theorem nU{k a nm n ks}:(Nd.mk k a nm n ks).ks=ks:=rfl
theorem OH{c k:Nat}(h:c<=k)(hc:0<c):∃j,k=j+1:=⟨k-1,by omega⟩
section
variable {ol:List o_} {Γ:List (Nm×GT)} {ρ:nS}
theorem ait{a nm n ks}:uY ol Γ ρ (.mk 3 a nm n ks) .int 1:=by
 refine⟨by omega,fun{w N env fa row} hw hN he hr=>?_⟩;obtain⟨w1,m,e1,r⟩:=gu (env:=env) (ol:=ol) (fa:=fa) hw hN (.int (j:=0));exact⟨w1,m,cY.to .t fun z _ k hk=>by obtain⟨k,rfl⟩:=OH hk (by omega);simpa[expr,wj] using e1,r⟩
theorem adl{a nm n ks}:uY ol Γ ρ (.mk 5 a nm n ks) .unit 1:=by
 refine⟨by omega,fun{w N env fa row} hw hN he hr=>?_⟩;obtain⟨w1,m,e1,r⟩:=gu (env:=env) (ol:=ol) (fa:=fa) hw hN (.unit (j:=0));exact⟨w1,m,cY.to .t fun z _ k hk=>by obtain⟨k,rfl⟩:=OH hk (by omega);simpa[expr,wj] using e1,r⟩
theorem aiu{a nm n ks τ}(h:look Γ nm=some τ):uY ol Γ ρ (.mk 6 a nm n ks) τ (6*τ.sz):=by
 refine⟨by have:=τ.pos;omega,fun{w N env fa row} hw hN he hr=>?_⟩;obtain⟨x,e1,hx⟩:=XK he h;obtain⟨w1,m,e2,r⟩:=adi hw hN hx;exact⟨w1,m,cY.to e2 fun z g k hk=>by have:=τ.pos;obtain⟨k,rfl⟩:=OH hk (by omega);simp[expr,wj,su,e1,show use z w.g x=some (w1.g,m) from g],r⟩
theorem aoK{a nm n b α β σ c}(hs:Small σ)(h:uY ol (Γ++[(nm,α)]) σ b β c):uY ol Γ ρ (.mk 7 a nm n [b]) (.fn α β σ) (c+3):=by
 obtain⟨p,h⟩:=h;refine⟨by omega,fun{w N env fa row} hw hN he hr=>?_⟩;obtain⟨w1,v,e1,k1,l1,h1⟩:=Bj (env:=env) (ol:=ol) (fa:=fa) α hw (by omega);obtain⟨w2,r,e2,k2,l2,h2⟩:=uX (env:=env) (ol:=ol) (fa:=fa) k1 (by omega) hs;obtain⟨w3,m,e3,k3,l3,h3⟩:=h (w:=w2) (N:=N+1+1) (env:=env++[mono nm v]) (fa:=fa) k2 (by omega) ((he.le (l1.trans l2)).snoc (x:=mono nm v) (h1.le l2)) h2;obtain⟨w4,q,e4,k4,l4,h4⟩:=gu (env:=env) (ol:=ol) (fa:=fa) k3 (by omega) (Wd.kFn (h1.le (l2.trans l3)) h3 (h2.le l3));exact⟨w4,q,cY.to e3 fun z g k hk=>by obtain⟨k,rfl⟩:=OH hk (by omega);simp[expr,wj,nU,su,e1,e2,Ck.with,show expr z k _ b r=some _ from g k (by omega),uZ,e4],k4.mono (by omega),l1.trans (l2.trans (l3.trans l4)),h4⟩
theorem aiv{a nm n f x α β c1 c2}(h:uY ol Γ ρ f (.fn α β ρ) c1)(h':uY ol Γ ρ x α c2):uY ol Γ ρ (.mk 8 a nm n [f,x]) β (c1+c2+(2*α.sz+β.sz+14)):=by
 obtain⟨p,h⟩:=h;obtain⟨p',h'⟩:=h';refine⟨by omega,fun{w N env fa row} hw hN he hr=>?_⟩;obtain⟨w1,f',e1,k1,l1,h1⟩:=h (fa:=fa) hw (by omega) he hr;obtain⟨w2,x',e2,k2,l2,h2⟩:=h' (fa:=fa) k1 (by omega) (he.le l1) (hr.le l1);obtain⟨w3,p,e3,k3,l3,h3⟩:=Bj (env:=env) (ol:=ol) (fa:=fa) α k2 (by omega);obtain⟨w4,b,e4,k4,l4,h4⟩:=Bj (env:=env) (ol:=ol) (fa:=fa) β k3 (by omega);obtain⟨w5,q,e5,k5,l5,h5⟩:=uX (ρ:=ρ) (env:=env) (ol:=ol) (fa:=fa) k4 (by omega) (hr.sm hw);obtain⟨w6,t,e6,k6,l6,h6⟩:=gu (env:=env) (ol:=ol) (fa:=fa) k5 (by omega) (Wd.kFn (h3.le (l4.trans l5)) (h4.le l5) h5);have L6:=l3.trans (l4.trans (l5.trans l6));obtain⟨w7,e7,k7,l7⟩:=kN (env:=env) (ol:=ol) (fa:=fa) f.a k6 (by show _+(α.sz+β.sz+9)<=eQ;omega) (h1.le (l2.trans L6)) h6;have k7:w7.ok (N+c1+c2+1+1+1+1+(α.sz+β.sz+9)):=k7;obtain⟨w8,e8,k8,l8⟩:=kN (env:=env) (ol:=ol) (fa:=fa) x.a k7 (by omega) (h3.le (l4.trans (l5.trans (l6.trans l7)))) (h2.le (L6.trans l7));obtain⟨w9,e9,k9,l9⟩:=Ht (env:=env) (ol:=ol) (fa:=fa) ((Nd.mk 8 a nm n [f,x]).a:Int) k8 (by omega) (h5.le (l6.trans (l7.trans l8))) (hr.le (l1.trans (l2.trans (L6.trans (l7.trans l8)))));exact⟨w9,b,(cY.and (cY.and e1 e2) (cY.and e7 (cY.and e8 e9))).to fun z g k hk=>by obtain⟨k,rfl⟩:=OH hk (by omega);simp[expr,wj,nU,(g.1.1 k (by omega)),(g.1.2 k (by omega)),e3,e4,e5,e6,g.2.1,g.2.2.1,g.2.2.2],k9.mono (by omega),l1.trans (l2.trans (L6.trans (l7.trans (l8.trans l9)))),h4.le (l5.trans (l6.trans (l7.trans (l8.trans l9))))⟩
theorem Ue{w:Wd}{N:Nat}{env:List jw}{fa:Int}{t:Nat}{α:GT}(h:w.ok N)(he:iC w Γ env)(ht:w.has t α)(nm:Nm):∃x,Ev (fun k=>Ck.gC k ⟨w.g,env,ol,0,fa⟩ nm t) x/\x.nm=nm/\w.has x.t α:=by
 obtain⟨x,e1,h1,h2⟩:=JW (c:=⟨w.g,env,ol,0,fa⟩) rfl h he ht nm;exact⟨x,e1,h1,by rw[h2];exact ht⟩
theorem adm{a nm d b α β c1 c2}(h:uY ol Γ ρ d α c1)(hz:α.sz<=300)(h':uY ol (Γ++[(nm,α)]) ρ b β c2):uY ol Γ ρ (.mk 9 a nm 0 [d,b]) β (c1+c2):=by
 obtain⟨p,h⟩:=h;obtain⟨p',h'⟩:=h';refine⟨by omega,fun{w N env fa row} hw hN he hr=>?_⟩;obtain⟨w1,t,e1,k1,l1,h1⟩:=h (fa:=fa) hw (by omega) he hr;have e2:=Bi (env:=env) (ol:=ol) (fa:=fa) ((Nd.mk 9 a nm 0 [d,b]).a:Int) k1 hz h1;obtain⟨x,e3,hx,hx2⟩:=Ue (ol:=ol) (fa:=fa) k1 (he.le l1) h1 nm;obtain⟨y,hy,hy2,hy3⟩:∃y:jw,(y=if value d=true then x else mono nm t)/\y.nm=nm/\w1.has y.t α:=by
   refine⟨_,rfl,?_⟩;split
   . exact⟨hx,hx2⟩
   . exact⟨rfl,h1⟩
 obtain⟨w2,m,e4,k2,l2,h2⟩:=h' (env:=env++[y]) (fa:=fa) k1 (by omega) (by have:=(he.le l1).snoc (x:=y) hy3;rwa [hy2] at this) (hr.le l1);refine⟨w2,m,(cY.and (cY.and e1 e2) (cY.and e3 e4)).to fun z g k hk=>?_,k2.mono (by omega),l1.trans l2,h2⟩;obtain⟨k,rfl⟩:=OH hk (by omega);cases hv:value d with
 |true=>rw[hv,if_pos rfl] at hy;subst hy;simp[expr,wj,nU,adk,su,(g.1.1 k (by omega)),g.1.2,hv,g.2.1,Ck.with,(g.2.2 k (by omega)),uZ]
 |false=>rw[hv,if_neg (by decide)] at hy;subst hy;simp[expr,wj,nU,adk,su,(g.1.1 k (by omega)),g.1.2,hv,Ck.with,(g.2.2 k (by omega)),uZ]
theorem NW{d0 : Nd}{kk ka : Nat}{nm : Nm}{ks : List Nd}{α : GT}{σ : nS}{c : Nat}(hs : Small σ)(h : uY ol Γ σ d0 α c){w : Wd}{N : Nat}{env : List jw}{fa : Int}(hw : w.ok N)(hN : N + (c + 1) <= eQ)(he : iC w Γ env) :
   ∃w' t,cY (fun z=>∀k,c<=k->mH (expr z k) z ⟨w.g,env,ol,0,fa⟩ (.mk kk ka nm 0 (d0::ks))=some (⟨w'.g,env,ol,0,fa⟩,t))/\w'.ok (N+(c+1))/\Le w w'/\w'.has t α:=by
 obtain⟨_,h⟩:=h;obtain⟨w1,r,e1,k1,l1,h1⟩:=uX (env:=env) (ol:=ol) (fa:=fa) hw (by omega) hs;obtain⟨w3,t,e3,k3,l3,h3⟩:=h (fa:=fa) k1 (by omega) (he.le l1) h1;exact⟨w3,t,cY.to e3 fun z g k hk=>by simp[mH,nU,adk,e1,g k hk],k3.mono (by omega),l1.trans l3,h3⟩
theorem aiw{a nm n d b α β c1 c2}(h:uY ol Γ ρ d α c1)(h':uY ol Γ ρ b β c2):uY ol Γ ρ (.mk 10 a nm n [d,b]) β (c1+c2):=by
 obtain⟨p,h⟩:=h;obtain⟨p',h'⟩:=h';refine⟨by omega,fun{w N env fa row} hw hN he hr=>?_⟩;obtain⟨w1,t,e1,k1,l1,h1⟩:=h (fa:=fa) hw (by omega) he hr;obtain⟨w2,m,e2,k2,l2,h2⟩:=h' (fa:=fa) k1 (by omega) (he.le l1) (hr.le l1);exact⟨w2,m,(cY.and e1 e2).to fun z g k hk=>by obtain⟨k,rfl⟩:=OH hk (by omega);simp[expr,wj,nU,(g.1 k (by omega)),(g.2 k (by omega))],k2.mono (by omega),l1.trans l2,h2⟩
theorem adn{a nm n x y α β c1 c2}(h:uY ol Γ ρ x α c1)(h':uY ol Γ ρ y β c2):uY ol Γ ρ (.mk 12 a nm n [x,y]) (.pair α β) (c1+c2+1):=by
 obtain⟨p,h⟩:=h;obtain⟨p',h'⟩:=h';refine⟨by omega,fun{w N env fa row} hw hN he hr=>?_⟩;obtain⟨w1,t,e1,k1,l1,h1⟩:=h (fa:=fa) hw (by omega) he hr;obtain⟨w2,m,e2,k2,l2,h2⟩:=h' (fa:=fa) k1 (by omega) (he.le l1) (hr.le l1);obtain⟨w3,q,e3,k3,l3,h3⟩:=gu (env:=env) (ol:=ol) (fa:=fa) k2 (by omega) (Wd.air (h1.le l2) h2);exact⟨w3,q,(cY.and e1 e2).to fun z g k hk=>by obtain⟨k,rfl⟩:=OH hk (by omega);simp[expr,wj,nU,(g.1 k (by omega)),(g.2 k (by omega)),e3],k3.mono (by omega),l1.trans (l2.trans l3),h3⟩
theorem aoL{a nm n x y c1 c2}(h:uY ol Γ ρ x .int c1)(h':uY ol Γ ρ y .int c2):uY ol Γ ρ (.mk 18 a nm n [x,y]) (if Bk nm then .bool else .int) (c1+c2+5):=by
 obtain⟨p,h⟩:=h;obtain⟨p',h'⟩:=h';refine⟨by omega,fun{w N env fa row} hw hN he hr=>?_⟩;obtain⟨w1,t,e1,k1,l1,h1⟩:=h (fa:=fa) hw (by omega) he hr;obtain⟨w2,b,e2,k2,l2,h2⟩:=gu (env:=env) (ol:=ol) (fa:=fa) k1 (by omega) (.int (j:=0));obtain⟨w3,e3,k3,l3⟩:=kN (env:=env) (ol:=ol) (fa:=fa) x.a k2 (by show _+1<=eQ;omega) (h1.le l2) h2;have k3:w3.ok (N+c1+1+1):=k3;have L3:=l1.trans (l2.trans l3);obtain⟨w4,p,e4,k4,l4,h4⟩:=h' (fa:=fa) k3 (by omega) (he.le L3) (hr.le L3);obtain⟨w5,q,e5,k5,l5,h5⟩:=gu (env:=env) (ol:=ol) (fa:=fa) k4 (by omega) (.int (j:=0));obtain⟨w6,e6,k6,l6⟩:=kN (env:=env) (ol:=ol) (fa:=fa) y.a k5 (by show _+1<=eQ;omega) (h4.le l5) h5;have k6:w6.ok (N+c1+1+1+c2+1+1):=k6;have L6:=L3.trans (l4.trans (l5.trans l6));cases hc:Bk nm with
 |true=>
   obtain⟨w7,m,e7,k7,l7,h7⟩:=gu (env:=env) (ol:=ol) (fa:=fa) k6 (by omega) (.bool (j:=0));unfold Bk at hc;exact⟨w7,m,(cY.and (cY.and e1 e3) (cY.and e4 e6)).to fun z g k hk=>by obtain⟨k,rfl⟩:=OH hk (by omega);simp[expr,wj,nU,su,(g.1.1 k (by omega)),e2,g.1.2,(g.2.1 k (by omega)),e5,g.2.2,<-Bool.or_eq_true,hc,e7],k7.mono (by omega),L6.trans l7,h7⟩
 |false=>
   obtain⟨w7,m,e7,k7,l7,h7⟩:=gu (env:=env) (ol:=ol) (fa:=fa) k6 (by omega) (.int (j:=0));unfold Bk at hc;exact⟨w7,m,(cY.and (cY.and e1 e3) (cY.and e4 e6)).to fun z g k hk=>by obtain⟨k,rfl⟩:=OH hk (by omega);simp[expr,wj,nU,su,(g.1.1 k (by omega)),e2,g.1.2,(g.2.1 k (by omega)),e5,g.2.2,<-Bool.or_eq_true,hc,e7],k7.mono (by omega),L6.trans l7,h7⟩
theorem aoM{a nm n x o α β c}(ho:iJ nm ol=some o)(hi:Tg o.i α)(ht:Tg o.o β)(XJ:0<ρ nm)(h:uY ol Γ ρ x α c):uY ol Γ ρ (.mk 19 a nm n [x]) β (c+(4*α.sz+3*β.sz+3)):=by
 obtain⟨p,h⟩:=h;refine⟨by omega,fun{w N env fa row} hw hN he hr=>?_⟩;obtain⟨w1,t,e1,k1,l1,h1⟩:=h (fa:=fa) hw (by omega) he hr;obtain⟨w2,i,e2,k2,l2,h2⟩:=zd (env:=env) (ol:=ol) (fa:=fa) hi k1 (by omega);obtain⟨w3,r,e3,k3,l3,h3⟩:=zd (env:=env) (ol:=ol) (fa:=fa) ht k2 (by omega);obtain⟨w4,e4,k4,l4⟩:=kN (env:=env) (ol:=ol) (fa:=fa) x.a k3 (by omega) (h1.le (l2.trans l3)) (h2.le l3);have sρ:Small ρ:=hr.sm hw;obtain⟨w5,v,e5,k5,l5,h5⟩:=uX (ρ:=sub ρ (eJ [nm])) (env:=env) (ol:=ol) (fa:=fa) k4 (by omega) (sρ.le fun _=>Nat.sub_le _ _);have hb:add (eJ [nm]) (sub ρ (eJ [nm]))=ρ:=by
   funext y;show eJ [nm] y+(ρ y-eJ [nm] y)=ρ y;rw[lO,LU];simp only[zb];split
   . rename_i q;rw[ey] at q;subst q;omega
   . omega
 obtain⟨w6,q,e6,k6,l6,h6⟩:=Db (l:=[nm]) (env:=env) (ol:=ol) (fa:=fa) k5 (by omega) h5 (by rw[hb];exact sρ);rw[hb] at h6;have L4:=l1.trans (l2.trans (l3.trans l4));obtain⟨w7,e7,k7,l7⟩:=Ht (env:=env) (ol:=ol) (fa:=fa) ((Nd.mk 19 a nm n [x]).a:Int) k6 (by omega) (hr.le (L4.trans (l5.trans l6))) h6;exact⟨w7,r,(cY.and (cY.and e1 e2) (cY.and e3 (cY.and e4 e7))).to fun z g k hk=>by obtain⟨k,rfl⟩:=OH hk (by omega);simp[expr,wj,nU,su,ho,(g.1.1 k (by omega)),g.1.2,g.2.1,g.2.2.1,e5,e6,g.2.2.2],k7.mono (by omega),L4.trans (l5.trans (l6.trans l7)),h3.le (l4.trans (l5.trans (l6.trans l7)))⟩
theorem Uf{a nm n d k2 a2 tG n2 rb cl τ β c1 c2 c3}{σ : nS}(hl : cl.length < 1000)(hn : ∀ c : Ck, ji ol cl [] c = c)(hs : Small σ)(hσ : σ = add (eJ (cl.map fun d => d.nm)) ρ)(h : uY ol Γ σ d τ c1)(h' : uY ol (Γ ++ [(tG, τ)]) ρ rb β c2)(h'' : ClR ol Γ ρ n τ σ β cl c3) :
   uY ol Γ ρ (.mk 20 a nm n (d::.mk k2 a2 tG n2 [rb]::cl)) β (c1+c2+c3+1):=by
 obtain⟨p,h⟩:=h;obtain⟨p',h'⟩:=h';refine⟨by omega,fun{w N env fa row} hw hN he hr=>?_⟩;obtain⟨w1,inner,e1,k1,l1,h1⟩:=Db (l:=cl.map fun d=>d.nm) (env:=env) (ol:=ol) (fa:=fa) hw (by omega) hr (by rw[<- hσ];exact hs);rw[<- hσ] at h1;obtain⟨w2,t,e2,k2',l2,h2⟩:=h (fa:=fa) k1 (by omega) (he.le l1) h1;have L2:=l1.trans l2;obtain⟨w3,b,e3,k3,l3,h3⟩:=h' (env:=env++[mono tG t]) (fa:=fa) k2' (by omega) ((he.le L2).snoc (x:=mono tG t) h2) (hr.le L2);have L3:=L2.trans l3;obtain⟨w4,e4,k4,l4⟩:=h'' (fa:=fa) (.mk 20 a nm n (d::.mk k2 a2 tG n2 [rb]::cl)) rfl k3 (by omega) (he.le L3) (hr.le L3) (h1.le (l2.trans l3)) (h2.le l3) h3;have hz:cl.length+1+1<1000000000:=by omega
 exact⟨w4,b,(cY.and e2 (cY.and e3 e4)).to fun z g k hk=>by obtain⟨k,rfl⟩:=OH hk (by omega);simp[expr,wj,nU,su,hz,hn,e1,(g.1 k (by omega)),Ck.with,(g.2.1 k (by omega)),uZ,(g.2.2 k (by omega))],k4.mono (by omega),L3.trans l4,h3.le l4⟩
theorem aix{n τ σ β}:ClR ol Γ ρ n τ σ β [] 0:=fun{w N env fa row inner t b} nd hn hw hN he hr hi ht hb=>⟨w,⟨0,fun z _ k _=>rfl⟩,hw,Le.refl w⟩
theorem ado{n τ σ β k a nm m e l o α ω c1 c2}{p q : Nd}(ho : iJ nm ol = some o)(hi : Tg o.i α)(Mz : Tg o.o ω)(h : uY ol ((Γ ++ [(p.nm, α)]) ++ [(q.nm, if n = 1 then .fn ω τ σ else .fn ω β ρ)]) ρ e β c1)(h' : ClR ol Γ ρ n τ σ β l c2) :
   ClR ol Γ ρ n τ σ β (.mk k a nm m [p,q,e]::l) (c1+c2+(3*α.sz+3*ω.sz+β.sz+2)):=fun{w N env fa row inner t b} nd hn hw hN he hr hin ht hb=>by
 obtain⟨p0,h⟩:=h;obtain⟨w1,i,e1,k1,l1,h1⟩:=zd (env:=env) (ol:=ol) (fa:=fa) hi hw (by omega);obtain⟨w2,r,e2,k2,l2,h2⟩:=zd (env:=env) (ol:=ol) (fa:=fa) Mz k1 (by omega);have L2:=l1.trans l2;obtain⟨w3,f,e3,k3,l3,h3⟩:=gu (env:=env) (ol:=ol) (fa:=fa) k2 (by omega) (Wd.kFn h2 (hb.le L2) (hr.le L2));have L3:=L2.trans l3;obtain⟨w4,f',e4,k4,l4,h4⟩:∃w4 f',(if n=1 then Ck.put ⟨w3.g,env,ol,0,fa⟩ 6 (some r) (some t) inner else some (⟨w3.g,env,ol,0,fa⟩,f))=some (⟨w4.g,env,ol,0,fa⟩,f')/\w4.ok (N+3*α.sz+3*ω.sz+2)/\Le w3 w4/\w4.has f' (if n=1 then .fn ω τ σ else .fn ω β ρ):=by
   split
   . obtain⟨w4,f',r⟩:=gu (env:=env) (ol:=ol) (fa:=fa) k3 (by omega) (Wd.kFn (h2.le l3) (ht.le L3) (hin.le L3));exact⟨w4,f',r⟩
   . exact⟨w3,f,rfl,k3.mono (by omega),Le.refl _,h3⟩
 have L4:=L3.trans l4;obtain⟨w5,y,e5,k5,l5,h5⟩:=h (env:=(env++[⟨p.nm,i,false,[],[],true⟩])++[⟨q.nm,f',false,[],[],true⟩]) (fa:=fa) k4 (by omega) (((he.le L4).snoc (x:=⟨p.nm,i,false,[],[],true⟩) (h1.le (l2.trans (l3.trans l4)))).snoc (x:=⟨q.nm,f',false,[],[],true⟩) h4) (hr.le L4);obtain⟨w6,e6,k6,l6⟩:=kN (env:=env) (ol:=ol) (fa:=fa) e.a k5 (by omega) h5 (hb.le (L4.trans l5));have L6:=L4.trans (l5.trans l6);obtain⟨w7,e7,k7,l7⟩:=h' (fa:=fa) nd hn k6 (by omega) (he.le L6) (hr.le L6) (hin.le L6) (ht.le L6) (hb.le L6)
 exact⟨w7,(cY.and (cY.and e1 e2) (cY.and e5 (cY.and e6 e7))).to fun z g k hk=>by
   have g5:=g.2.1 k (by omega);simp only[List.append_assoc,List.cons_append,List.nil_append] at g5;have wo:=NV (g:=w5.g) (env:=env) (ol:=ol) (fa:=fa) ⟨p.nm,i,false,[],[],true⟩ ⟨q.nm,f',false,[],[],true⟩;simp only[List.append_assoc,List.cons_append,List.nil_append] at wo;by_cases q1:n=1
   . rw[if_pos q1] at e4;simp[fZ,su,nU,ho,hn,g.1.1,g.1.2,e3,q1,e4,Ck.with,g5,wo,g.2.2.1,(g.2.2.2 k (by omega))]
   . rw[if_neg q1] at e4;simp only[Option.some.injEq,Prod.mk.injEq,Ck.mk.injEq,and_true] at e4;obtain⟨e4,rfl⟩:=e4
     simp[fZ,su,nU,ho,hn,g.1.1,g.1.2,e3,q1,e4,Ck.with,g5,wo,g.2.2.1,(g.2.2.2 k (by omega))],k7.mono (by omega),L6.trans l7⟩
end
theorem LZ{ol:List o_}{Γ:List (Nm×GT)}{ρ:nS}{e:Nd}{τ:GT}{c:Nat}(h:Tj ol Γ ρ e τ c):uY ol Γ ρ e τ c:=by
 refine Tj.rec (motive_1:=fun Γ ρ e τ c _=>uY ol Γ ρ e τ c) (motive_2:=fun Γ ρ n τ σ β l c _=>ClR ol Γ ρ n τ σ β l c)
   ait
   adl
   (fun h=>aiu h)
   (fun hs _ h=>aoK hs h)
   (fun _ _ h k=>aiv h k)
   (fun _ hz _ h k=>adm h hz k)
   (fun _ _ h k=>aiw h k)
   (fun _ _ h k=>adn h k)
   (fun _ _ h k=>aoL h k)
   (fun ho hi hr XJ _ h=>aoM ho hi hr XJ h)
   (fun hl hn hs _ _ _ h k l=>Uf hl hn hs rfl h k l)
   aix
   (fun ho hi hr _ _ h k=>ado ho hi hr h k)
   h
inductive ST
 |int
 |bool
 |unit
 |list (a:ST)
 |pair (a b:ST)
 |fn (a b:ST) (l:List Nm)
def sx:ST->GT
 |.int=>.int
 |.bool=>.bool
 |.unit=>.unit
 |.list a=>.list (sx a)
 |.pair a b=>.pair (sx a) (sx b)
 |.fn a b l=>.fn (sx a) (sx b) (eJ l)
def XY:List Nm->List Nm->Bool
 |[],[]=>true
 |x::l,y::m=>dh x y&&XY l m
 |_,_=>false
theorem JX:∀{l m:List Nm},XY l m=true->l=m
 |[],[],_=>rfl
 |x::l,y::m,h=>by rw[XY,Bool.and_eq_true] at h;rw[ey.1 h.1,JX h.2]
def adp(l m:List Nm):Bool:=XY (c_ [] l) (c_ [] m)
theorem JY{l m:List Nm}(h:adp l m=true):eJ l=eJ m:=by
 exact(uV (mE [] l)).symm.trans ((congrArg eJ (JX h)).trans (uV (mE [] m)))
def NX:ST->ST->Bool
 |.int,.int|.bool,.bool|.unit,.unit=>true
 |.list a,.list b=>NX a b
 |.pair a b,.pair c d=>NX a c&&NX b d
 |.fn a b l,.fn c d m=>NX a c&&NX b d&&adp l m
 |_,_=>false
theorem u2:∀{a b:ST},NX a b=true->sx a=sx b
 |.int,.int,_|.bool,.bool,_|.unit,.unit,_=>rfl
 |.list a,.list b,h=>by rw[sx,sx,u2 (a:=a) (b:=b) h]
 |.pair a b,.pair c d,h=>by rw[NX,Bool.and_eq_true] at h;rw[sx,sx,u2 h.1,u2 h.2]
 |.fn a b l,.fn c d m,h=>by rw[NX,Bool.and_eq_true,Bool.and_eq_true] at h;rw[sx,sx,u2 h.1.1,u2 h.1.2,JY h.2]
def ZD(l:List Nm):Bool:=decide (l.length<=8)&&l.all fun x=>decide (x.size<=100)
theorem EW{l:List Nm}(h:ZD l=true):l.length<=8/\∀x∈l,x.size<=100:=by
 unfold ZD at h;rw[Bool.and_eq_true,List.all_eq_true] at h;exact⟨of_decide_eq_true h.1,fun x hx=>of_decide_eq_true (h.2 x hx)⟩
theorem Ug{l:List Nm}(h:ZD l=true):Small (eJ l):=Small.eJ (EW h).1 (EW h).2
def ze:ST->aR.Ty->Bool
 |.int,.mk 1 0 0 [] []|.bool,.mk 2 0 0 [] []|.unit,.mk 3 0 0 [] []=>true
 |.list a,.mk 4 0 0 [] [x]=>ze a x
 |.pair a b,.mk 5 0 0 [] [x,y]=>ze a x&&ze b y
 |.fn a b l,.mk 6 0 0 m [x,y]=>ze a x&&ze b y&&XY l m&&ZD l
 |_,_=>false
theorem tgL{a:ST}{t:aR.Ty}(h:ze (.list a) t=true):∃x,t=.mk 4 0 0 [] [x]/\ze a x=true:=by
 unfold ze at h;split at h<;>simp_all
theorem tgP{a b:ST}{t:aR.Ty}(h:ze (.pair a b) t=true):∃x y,t=.mk 5 0 0 [] [x,y]/\ze a x=true/\ze b y=true:=by
 unfold ze at h;split at h<;>simp_all;exact⟨_,_,⟨rfl,rfl⟩,h⟩
theorem tgF{a b:ST}{l:List Nm}{t:aR.Ty}(h:ze (.fn a b l) t=true):∃x y m,t=.mk 6 0 0 m [x,y]/\ze a x=true/\ze b y=true/\XY l m=true/\ZD l=true:=by
 unfold ze at h;split at h<;>simp_all;exact⟨_,_,_,⟨rfl,rfl,rfl⟩,h.1.1.1,h.1.1.2,h.1.2⟩
theorem L5:∀{a:ST}{t:aR.Ty},ze a t=true->Tg t (sx a):=fun{a}=>by
 induction a with
 |int=>
   intro t h;have e:t=.mk 1 0 0 [] []:=by unfold ze at h;split at h<;>simp_all
   subst e;exact .int
 |bool=>
   intro t h;have e:t=.mk 2 0 0 [] []:=by unfold ze at h;split at h<;>simp_all
   subst e;exact .bool
 |unit=>
   intro t h;have e:t=.mk 3 0 0 [] []:=by unfold ze at h;split at h<;>simp_all
   subst e;exact .unit
 |list a ih=>intro t h;obtain⟨x,rfl,h⟩:=tgL h;exact .list (ih h)
 |pair a b tx ss=>intro t h;obtain⟨x,y,rfl,h,k⟩:=tgP h;exact .pair (tx h) (ss k)
 |fn a b l tx ss=>intro t h;obtain⟨x,y,m,rfl,h1,h2,h3,h4⟩:=tgF h;obtain rfl:=JX h3;exact .fn (tx h1) (ss h2) (EW h4).1 (EW h4).2
abbrev Env:=List (Nm×ST)
def sg(Γ:Env):List (Nm×GT):=Γ.map fun x=>(x.1,sx x.2)
theorem u3(Γ:Env)(nm:Nm)(α:ST):sg (Γ++[(nm,α)])=sg Γ++[(nm,sx α)]:=by simp[sg]
def Uh(Γ:Env)(nm:Nm):Option ST:=(Γ.reverse.find? fun x=>dh x.1 nm).map (·.2)
theorem XL{Γ:Env}{nm:Nm}{τ:ST}(h:Uh Γ nm=some τ):look (sg Γ) nm=some (sx τ):=by
 unfold Uh at h;unfold look sg;rw[<- List.map_reverse,List.find?_map];obtain⟨x,h1,h2⟩:=Option.map_eq_some_iff.1 h;subst h2;have e:((fun x:Nm×GT=>dh x.1 nm)∘fun x:Nm×ST=>(x.1,sx x.2))=fun x:Nm×ST=>dh x.1 nm:=rfl;rw[e,h1];rfl
abbrev Hnt:=List (ST×List Nm)
structure Tr (ol:List o_) (Γ:Env) (ρ:List Nm) (e:Nd) where
 h:Hnt
 τ:ST
 c:Nat
 p:Tj ol (sg Γ) (eJ ρ) e (sx τ) c
structure Trc (ol:List o_) (Γ:Env) (ρ:List Nm) (n:Int) (τ:ST) (σ:List Nm) (β:ST) (l:List Nd) where
 h:Hnt
 c:Nat
 p:Tc ol (sg Γ) (eJ ρ) n (sx τ) (eJ σ) (sx β) l c
abbrev Sig:=List (Nm×ST×ST)
def ZE(os:Sig)(nm:Nm):Option (ST×ST):=(os.find? fun x=>dh x.1 nm).map (·.2)
def Tq(ol:List o_):List Nd->List Nm->Bool
 |[],_=>true
 |d::l,ns=>(iJ d.nm ol).isSome&&ns.all (fun s=>! dh s d.nm)&&Tq ol l (ns++[d.nm])
theorem ZF{ol:List o_}:∀{l:List Nd}{ns:List Nm}(c:Ck),Tq ol l ns=true->ji ol l ns c=c
 |[],_,_,_=>rfl
 |d::l,ns,c,h=>by
   rw[Tq,Bool.and_eq_true,Bool.and_eq_true] at h;obtain⟨⟨h1,h2⟩,h3⟩:=h;have e:∀(ns:List Nm),ns.all (fun s=>! dh s d.nm)=true->ns.foldl (fun c s=>if dh s d.nm then c.no 7 d.a else c) c=c:=fun ns h=>by
     induction ns with
     |nil=>rfl
     |cons s ns ih=>rw[List.all_cons,Bool.and_eq_true,Bool.not_eq_true'] at h;rw[List.foldl_cons,h.1];exact ih h.2
   rw[ji];cases ho:iJ d.nm ol with
   |none=>rw[ho] at h1;cases h1
   |some o=>simp only[e ns h2];exact ZF c h3
mutual
def Fm(ol:List o_)(os:Sig):Nat->(Γ:Env)->(ρ:List Nm)->(e:Nd)->Hnt->Option (Tr ol Γ ρ e)
 |0,_,_,_,_=>none
 |k+1,Γ,ρ,e,h=>match e with
   |.mk 3 _ _ _ _=>some ⟨h,.int,1,.int⟩
   |.mk 5 _ _ _ _=>some ⟨h,.unit,1,.unit⟩
   |.mk 6 _ nm _ _=>match q:Uh Γ nm with
     |some τ=>some ⟨h,τ,_,.var (XL q)⟩
     |none=>none
   |.mk 7 _ nm _ [b]=>match h with
     |(α,σ)::h=>if hs:ZD σ=true then(match Fm ol os k (Γ++[(nm,α)]) σ b h with
       |some r=>some ⟨r.h,.fn α r.τ σ,_,.fn (Ug hs) (by rw[<- u3];exact r.p)⟩
       |none=>none) else none
     |[]=>none
   |.mk 8 _ _ _ [f,x]=>match Fm ol os k Γ ρ f h with
     |some ⟨h1,.fn α β σ,_,p1⟩=>match Fm ol os k Γ ρ x h1 with
       |some ⟨h2,α',_,p2⟩=>if q:(adp σ ρ&&NX α' α)=true then some ⟨h2,β,_,.app (α:=sx α) (by rw[Bool.and_eq_true] at q;rw[<- JY q.1];rw[<- JY q.1] at p1;exact p1) (by rw[Bool.and_eq_true] at q;rw[<- u2 q.2];exact p2)⟩ else none
       |none=>none
     |_=>none
   |.mk 9 _ nm 0 [d,b]=>match Fm ol os k Γ ρ d h with
     |some r=>if hz:(sx r.τ).sz<=300 then(match Fm ol os k (Γ++[(nm,r.τ)]) ρ b r.h with
       |some s=>some ⟨s.h,s.τ,_,.MV r.p hz (by rw[<- u3];exact s.p)⟩
       |none=>none) else none
     |none=>none
   |.mk 10 _ _ _ [d,b]=>match Fm ol os k Γ ρ d h with
     |some r=>match Fm ol os k Γ ρ b r.h with
       |some s=>some ⟨s.h,s.τ,_,.seq r.p s.p⟩
       |none=>none
     |none=>none
   |.mk 12 _ _ _ [d,b]=>match Fm ol os k Γ ρ d h with
     |some r=>match Fm ol os k Γ ρ b r.h with
       |some s=>some ⟨s.h,.pair r.τ s.τ,_,.pair r.p s.p⟩
       |none=>none
     |none=>none
   |.mk 18 a nm n [x,y]=>match Fm ol os k Γ ρ x h with
     |some ⟨h1,.int,c1,p1⟩=>match Fm ol os k Γ ρ y h1 with
       |some ⟨h2,.int,c2,p2⟩=>if q:Bk nm=true then some ⟨h2,.bool,c1+c2+5,(by have t:Tj ol (sg Γ) (eJ ρ) (.mk 18 a nm n [x,y]) _ _:=.op p1 p2;rw[if_pos q] at t;exact t)⟩ else some ⟨h2,.int,c1+c2+5,(by have t:Tj ol (sg Γ) (eJ ρ) (.mk 18 a nm n [x,y]) _ _:=.op p1 p2;rw[if_neg q] at t;exact t)⟩
       |_=>none
     |_=>none
   |.mk 19 _ nm _ [x]=>match Fm ol os k Γ ρ x h with
     |some ⟨h1,α,_,p1⟩=>match ho:iJ nm ol,ZE os nm with
       |some o,some (α',β)=>if q:(ze α' o.i&&ze β o.o&&NX α α'&&ρ.any fun s=>dh s nm)=true then some ⟨h1,β,_,.Ud ho (α:=sx α) (by simp only[Bool.and_eq_true] at q;rw[u2 q.1.2];exact L5 q.1.1.1) (by simp only[Bool.and_eq_true] at q;exact L5 q.1.1.2) (by simp only[Bool.and_eq_true] at q;obtain⟨s,h1,h2⟩:=List.any_eq_true.1 q.2;exact List.countP_pos_iff.2 ⟨s,h1,h2⟩) p1⟩ else none
       |_,_=>none
     |none=>none
   |.mk 20 _ _ n (d::.mk _ _ tG _ [rb]::cl)=>if q:(decide (cl.length<1000)&&Tq ol cl []&&ZD ((cl.map fun d=>d.nm)++ρ))=true then(match Fm ol os k Γ ((cl.map fun d=>d.nm)++ρ) d h with
     |some r=>match Fm ol os k (Γ++[(tG,r.τ)]) ρ rb r.h with
       |some s=>match tcP ol os k Γ ρ n r.τ ((cl.map fun d=>d.nm)++ρ) s.τ cl s.h with
         |some t=>some ⟨t.h,s.τ,_,.handle (by simp only[Bool.and_eq_true] at q;exact of_decide_eq_true q.1.1) (fun c=>by simp only[Bool.and_eq_true] at q;exact ZF c q.1.2) (by simp only[Bool.and_eq_true] at q;rw[<- za];exact Ug q.2) (by rw[<- za];exact r.p) (by rw[<- u3];exact s.p) (by rw[<- za];exact t.p)⟩
         |none=>none
       |none=>none
     |none=>none) else none
   |_=>none
def tcP(ol:List o_)(os:Sig):Nat->(Γ:Env)->(ρ:List Nm)->(n:Int)->(τ:ST)->(σ:List Nm)->(β:ST)->(l:List Nd)->Hnt->Option (Trc ol Γ ρ n τ σ β l)
 |0,_,_,_,_,_,_,_,_=>none
 |k+1,Γ,ρ,n,τ,σ,β,l,h=>match l with
   |[]=>some ⟨h,0,.nil⟩
   |.mk _ _ nm _ [p,q,e]::l=>match ho:iJ nm ol,ZE os nm with
     |some o,some (α,ω)=>if t:(ze α o.i&&ze ω o.o)=true then(match Fm ol os k ((Γ++[(p.nm,α)])++[(q.nm,if n=1 then .fn ω τ σ else .fn ω β ρ)]) ρ e h with
       |some r=>if u:NX r.τ β=true then(match tcP ol os k Γ ρ n τ σ β l r.h with
         |some s=>some ⟨s.h,_,.cons ho (α:=sx α) (ω:=sx ω) (by rw[Bool.and_eq_true] at t;exact L5 t.1) (by rw[Bool.and_eq_true] at t;exact L5 t.2) (by have:=r.p;rw[u3,u3,u2 u] at this;split at this<;>(rename_i g;simp only[g,if_true,if_false];exact this)) s.p⟩
         |none=>none) else none
       |none=>none) else none
     |_,_=>none
   |_=>none
end
inductive Td (ol:List o_):List (Nm×GT)->List Nd->List (Nm×GT)->Nat->Prop
 |nil {Γ}:Td ol Γ [] Γ 0
 |val {Γ LY k a nm d ks l α σ c1 c2} (hs:Small σ) (h:Tj ol Γ σ d α c1) (hz:α.sz<=300) (r:Td ol (Γ++[(nm,α)]) l LY c2):Td ol Γ (.mk k a nm 0 (d::ks)::l) LY (c1+1+c2)
theorem Td.app{ol:List o_}{Γ LY aiA:List (Nm×GT)}{l m:List Nd}{c c':Nat}(h:Td ol Γ l LY c)(k:Td ol LY m aiA c'):Td ol Γ (l++m) aiA (c+c'):=by
 induction h with
 |nil=>rw[Nat.zero_add];exact k
 |val hs h hz _ ih=>rw[Nat.add_assoc];exact .val hs h hz (ih k)
theorem Ui{k m:Nat}{t:aR.Ty}(h:rI k t=some m)(hm:m<=1000000):U2 k t=true:=by
 unfold U2;rw[h];exact decide_eq_true (by omega)
theorem XM{ol : List o_}{Γ LY : List (Nm × GT)}{l : List Nd}{c : Nat}(h : Td ol Γ l LY c) : ∀{w : Wd}{N : Nat}{env : List jw}{fa : Int}{ks : List Nd}{na i : Nat}(out : List (Nm × aR.Ty)), w.ok N -> N + c <= eQ -> iC w Γ env ->
   (∀(j:Nat)(d:Nd),l[j]?=some d->∀c:Ck,((ks.take (i+j)).drop na).foldl (sd d) c=c)->
   ∃w' Hu Uj,cY (fun z=>∀k,c<=k->mA (z,k) ks na i l ⟨w.g,env,ol,0,fa⟩ out=some (⟨w'.g,Hu,ol,0,fa⟩,Uj))/\w'.ok (N+c)/\Le w w'/\iC w' LY Hu:=by
 have one : ∀{Γ LY : List (Nm × GT)}{d : Nd}{l : List Nd}{α : GT}{c1 c2 : Nat}, α.sz <= 300 -> (∀{w : Wd}{N : Nat}{env : List jw}{fa : Int}, w.ok N -> N + c1 <= eQ -> iC w Γ env -> ∃ w' t, cY (fun z => ∀ k, c1 <= k -> mH (expr z k) z ⟨w.g, env, ol, 0, fa⟩ d = some (⟨w'.g, env, ol, 0, fa⟩, t)) /\ w'.ok (N + c1) /\ Le w w' /\ w'.has t α) ->
     (∀{w:Wd}{N:Nat}{env:List jw}{fa:Int}{ks:List Nd}{na i:Nat}(out:List (Nm×aR.Ty)),w.ok N->N+c2<=eQ->iC w (Γ++[(d.nm,α)]) env->(∀(j:Nat)(d:Nd),l[j]?=some d->∀c:Ck,((ks.take (i+j)).drop na).foldl (sd d) c=c)->
       ∃w' Hu Uj,cY (fun z=>∀k,c2<=k->mA (z,k) ks na i l ⟨w.g,env,ol,0,fa⟩ out=some (⟨w'.g,Hu,ol,0,fa⟩,Uj))/\w'.ok (N+c2)/\Le w w'/\iC w' LY Hu)->
     ∀{w:Wd}{N:Nat}{env:List jw}{fa:Int}{ks:List Nd}{na i:Nat}(out:List (Nm×aR.Ty)),w.ok N->N+(c1+c2)<=eQ->iC w Γ env->(∀(j:Nat)(e:Nd),(d::l)[j]?=some e->∀c:Ck,((ks.take (i+j)).drop na).foldl (sd e) c=c)->
       ∃w' Hu Uj,cY (fun z=>∀k,c1+c2<=k->mA (z,k) ks na i (d::l) ⟨w.g,env,ol,0,fa⟩ out=some (⟨w'.g,Hu,ol,0,fa⟩,Uj))/\w'.ok (N+(c1+c2))/\Le w w'/\iC w' LY Hu:=fun{Γ LY d l α c1 c2} hz hb hr {w N env fa ks na i} out hw hN he Fc=>by
   obtain⟨w1,t,e1,k1,l1,h1⟩:=hb (fa:=fa) hw (by omega) he
   have e2:=Bi (env:=env) (ol:=ol) (fa:=fa) (d.a:Int) k1 hz h1
   obtain⟨x,e3,hx,hx2⟩:=Ue (ol:=ol) (fa:=fa) k1 (he.le l1) h1 d.nm
   obtain⟨s,l',m,e4,_,_,hm,_⟩:=(LX k1 α (l:=⟨[],[]⟩) h1 (by show 0+α.sz<eQ;unfold eQ;omega) (by show 0+α.sz<eQ;unfold eQ;omega) (fun _ h=>by cases h) (fun _ h=>by cases h)).ex
   obtain⟨w2,aoN,aoO,e5,k2,l2,h2⟩:=hr (env:=env++[x]) (fa:=fa) (ks:=ks) (na:=na) (i:=i+1) (out++[(d.nm,s)]) k1 (by omega) (by have:=(he.le l1).snoc (x:=x) hx2;rwa [hx] at this) (fun j e hj=>by have:=Fc (j+1) e hj;rwa [show i+(j+1)=i+1+j by omega] at this)
   refine⟨w2,aoN,aoO,(cY.and (cY.and e1 e2) (cY.and e3 (cY.and e4 e5))).to fun z g k hk=>?_,k2.mono (by omega),l1.trans l2,h2⟩
   have h0:((ks.take i).drop na).foldl (sd d) ⟨w.g,env,ol,0,fa⟩=⟨w.g,env,ol,0,fa⟩:=Fc 0 d rfl _
   rw[mA]
   simp[h0,g.1.1 k (by omega),g.1.2,g.2.1,g.2.2.1.1,Ui g.2.2.1.2 (by omega),g.2.2.2 k (by omega)]
 induction h with
 |nil=>exact fun{w N env fa ks na i} out hw hN he _=>⟨w,env,out,⟨0,fun z _ k _=>rfl⟩,hw,Le.refl w,he⟩
 |val hs h hz _ ih=>exact one hz (fun hw hN he=>NW hs (LZ h) hw hN he |>.imp fun w' q=>q.imp fun t q=>⟨q.1.to fun z g k hk=>g k (by omega),q.2⟩) ih
def wd0:Wd:=⟨G.new,fun _=>.int,fun _=>zb⟩
theorem adq:wd0.ok 1:=by
 refine⟨⟨rfl,rfl,rfl,rfl,rfl,fun n h=>(by cases h),fun n m h=>(by cases h),fun n _ _ _ _ h=>(by cases h),rfl,rfl,fun j q l h1 h2=>?_,fun j hj=>?_,fun j _=>Small.zb⟩,Nat.zero_le _,Nat.le_refl _⟩
 . match j,h1,h2 with
   |0,h1,h2=>cases h1;cases h2;rfl
   |j+1,h1,_=>cases h1
 . obtain rfl:j=0:=Nat.lt_one_iff.1 hj;exact⟨[],0,.nil rfl rfl⟩
def twB:List Nd->Bool
 |[]=>true
 |d::l=>l.all (fun e=>! dh d.nm e.nm)&&twB l
theorem aiC{ks l:List Nd}{na m:Nat}(hl:(ks.take m).drop na=l)(h:twB l=true):∀(j:Nat)(d:Nd),l[j]?=some d->∀c:Ck,((ks.take (na+j)).drop na).foldl (sd d) c=c:=fun j d hj c=>by
 have key:∀(l:List Nd),twB l=true->∀(j:Nat)(d:Nd),l[j]?=some d->(l.take j).foldl (sd d) c=c:=fun l=>by
   induction l with
   |nil=>intro _ j d hj;cases hj
   |cons x l ih=>
     intro h j d hj;rw[twB,Bool.and_eq_true,List.all_eq_true] at h;cases j with
     |zero=>rfl
     |succ j=>
       rw[List.take_succ_cons,List.foldl_cons];have hx:=h.1 d (List.mem_of_getElem? hj);rw[Bool.not_eq_true'] at hx;have:sd d c x=c:=by unfold sd;rw[hx];rfl
       rw[this];exact ih h.2 j d hj
 have eK:=bJ hj;have e:(ks.take (na+j)).drop na=l.take j:=by
   rw[<- hl,List.take_drop,List.take_take,Nat.min_eq_left];rw[<- hl,List.length_drop,List.length_take] at eK;omega
 rw[e];exact key l h j d hj
theorem Uk{ol : List o_}{Γ : List (Nm × GT)}{ks : List Nd}{na c1 c2 : Nat}{m : Nd}{τ : GT}(hl : ks.length < 100000000)(hna : na < ks.length)(acG : ∀ z, gD (z + 50) ((ks.take na).map fun d => d.nm) 0 (ks.take na) ⟨G.new, [], [], 0, 0⟩ = some ⟨G.new, [], ol, 0, 0⟩)
   (hd:Td ol [] ((ks.take (ks.length-1)).drop na) Γ c1) (Fc:twB ((ks.take (ks.length-1)).drop na)=true) (hm:ks[ks.length-1]?=some m) (h:Tj ol Γ zb m τ c2) (hz:τ.sz<=300) (hc:c1+c2<=90000000):∃zk rl rt ra,oF zk na ks=some (rl,rt,0,ra):=by
 obtain⟨w1,env,out,e1,k1,l1,he⟩:=XM hd (w:=wd0) (N:=1) (env:=[]) (fa:=0) (ks:=ks) (na:=na) (i:=na) [] adq (by unfold eQ;omega) .nil (aiC rfl Fc);obtain⟨w2,row,e2,k2,l2,h2,_⟩:=rp (l:=[]) (nx:=some 0) (ρ:=zb) k1 (by unfold eQ;omega) Small.zb ⟨by rw[<- k1.v.lo];exact bJ k1.v.r0,by rw[k1.v.z0,T8];rfl⟩;obtain⟨w3,t,e3,k3,l3,h3⟩:=(LZ h).2 (env:=env) (fa:=0) k2 (by unfold eQ;omega) (he.le l2) h2;have e4:=Bi (env:=env) (ol:=ol) (fa:=0) (m.a:Int) k3 hz h3;obtain⟨s,l',m',e5,_,_,hm',_⟩:=(LX k3 τ (l:=⟨[],[]⟩) h3 (by show 0+τ.sz<eQ;unfold eQ;omega) (by show 0+τ.sz<eQ;unfold eQ;omega) (fun _ h=>by cases h) (fun _ h=>by cases h)).ex;obtain⟨z0,Z4⟩:=cY.and (cY.and e1 e3) (cY.and e4 e5);obtain⟨g1,g2⟩:=Z4 (z0+50) (by omega);have g11:=g1.1 90000000 (by omega);have g12:=g1.2 90000000 (by omega);refine⟨(z0+50,90000000),out++[(⟨#[109,97,105,110]⟩,s)],s,0,?_⟩;unfold oF;rw[if_pos ⟨hl,hna,(by decide:90000000<100000000)⟩];simp only[acG];rw[show(⟨G.new,[],ol,0,0⟩:Ck)=⟨wd0.g,[],ol,0,0⟩ from rfl,g11];simp[hm,e2,g12,g2.1,g2.2.1,Ui g2.2.2 (by omega)]
end Go.Tc
namespace Go.Tc
open Go.aR Go.dy Go.dy.N Go.Mn Go.Lex
set_option maxRecDepth 100000
def tyO(o:Option (ST×Bool))(τ:ST):Bool:=match o with
 |some (σ,b)=>b&&NX σ τ
 |none=>false
theorem XN{ol:List o_}{os:Sig}{k:Nat}{Γ:Env}{ρ:List Nm}{e:Nd}{h:Hnt}{τ:ST}(hk:tyO ((Fm ol os k Γ ρ e h).map fun r=>(r.τ,Nat.ble r.c 100000)) τ=true):∃c,c<=100000/\Tj ol (sg Γ) (eJ ρ) e (sx τ) c:=by
 cases hq:Fm ol os k Γ ρ e h with
 |none=>rw[hq] at hk;cases hk
 |some r=>
   rw[hq] at hk;change (Nat.ble r.c 100000&&NX r.τ τ)=true at hk;rw[Bool.and_eq_true] at hk;exact⟨r.c,Nat.le_of_ble_eq_true hk.1,by rw[<- u2 hk.2];exact r.p⟩
theorem NY{Γ:List (Nm×GT)}{x y:Nm}{τ:GT}:look (Γ++[(x,τ)]) y=if dh x y then some τ else look Γ y:=by
 unfold look;rw[List.reverse_append,List.reverse_cons,List.reverse_nil,List.nil_append,List.singleton_append,List.find?_cons];cases dh x y<;>rfl
abbrev nG:Nm:=yB [103,101,116]
abbrev nP:Nm:=yB [112,117,116]
abbrev OI:List o_:=[⟨nG,.mk 3 0 0 [] [],.mk 1 0 0 [] [],0⟩,⟨nP,.mk 1 0 0 [] [],.mk 3 0 0 [] [],1⟩]
abbrev sgS:Sig:=[(nG,.unit,.int),(nP,.int,.unit)]
abbrev U7:List Nm:=[nG,nP]
abbrev tyS:ST:=.fn .int (.fn (.fn .unit .int U7) (.pair .int .int) []) []
theorem NZ(r:Nat->Nx)(n:Nat)(m:Nd)(z:Nat):gD (z+50) (((oJ r n++[m]).take 2).map fun d=>d.nm) 0 ((oJ r n++[m]).take 2) ⟨G.new,[],[],0,0⟩=some ⟨G.new,[],OI,0,0⟩:=by kernel_rfl
def adr(d:Nd):Nd:=d.ks.headD gS
theorem Dc(r:Nat->Nx)(n:Nat)(m:Nd):((oJ r n++[m]).take ((oJ r n++[m]).length-1)).drop 2=[.mk 2 ((oJ r n).getD 2 gS).a (yB [115,116,97,116,101]) 0 (adr ((oJ r n).getD 2 gS)::[])]:=by kernel_rfl
theorem Ul(r:Nat->Nx)(n:Nat):tyO ((Fm OI sgS 60 [] [] (adr ((oJ r n).getD 2 gS)) [(.int,[]),(.fn .unit .int U7,[]),(.int,[]),(.int,[]),(.int,[])]).map fun r=>(r.τ,Nat.ble r.c 100000)) tyS=true:=by kernel_rfl
theorem smS:ZD U7=true:=by kernel_rfl
theorem opG:iJ nG OI=some ⟨nG,.mk 3 0 0 [] [],.mk 1 0 0 [] [],0⟩:=by kernel_rfl
theorem opP:iJ nP OI=some ⟨nP,.mk 1 0 0 [] [],.mk 3 0 0 [] [],1⟩:=by kernel_rfl
theorem inG:0<eJ U7 nG:=Nat.lt_of_lt_of_le Nat.zero_lt_one (Nat.le_of_ble_eq_true (by kernel_rfl))
theorem inP:0<eJ U7 nP:=Nat.lt_of_lt_of_le Nat.zero_lt_one (Nat.le_of_ble_eq_true (by kernel_rfl))
theorem aoQ:Bk (yB [43])=false:=by kernel_rfl
theorem Um{Γ:List (Nm×GT)}(a b:Nat):Tj OI Γ (eJ U7) (gN a b) .int 11:=.Ud (α:=.unit) (β:=.int) opG .unit .int inG .unit
theorem Un{Γ:List (Nm×GT)}{x:Nd}{c a:Nat}(h:Tj OI Γ (eJ U7) x .int c):Tj OI Γ (eJ U7) (dN a nP x) .unit (c+10):=.Ud (α:=.int) (β:=.unit) opP .int .unit inP h
theorem L7{Γ:List (Nm×GT)}{x y:Nd}{c d a:Nat}{ρ:nS}(h:Tj OI Γ ρ x .int c)(k:Tj OI Γ ρ y .int d):Tj OI Γ ρ (.mk 18 a (yB [43]) 0 [x,y]) .int (c+d+5):=by
 have:=Tj.op (a:=a) (nm:=yB [43]) (n:=0) h k;rw[if_neg (by rw[aoQ];decide)] at this;exact this
theorem XO(r:Nat->Nx):∀(l:List Nat)(Γ:List (Nm×GT))(a i:Nat),∃c,c<=100*l.length+1/\Tj OI Γ (eJ U7) (tT r l a i) .int c
 |[],Γ,a,i=>⟨1,Nat.le_refl _,.int⟩
 |k::l,Γ,a,i=>by
   rw[tT];simp only[List.length_cons];have zi:GT.int.sz=1:=rfl;by_cases h0:k%3=0
   . rw[if_pos h0];obtain⟨c,hc,h⟩:=XO r l (Γ++[(yB [97],.int)]) (P_ r (i+10)) (i+11);exact⟨_,by omega,.MV (α:=.int) (Um _ _) (by decide) (L7 (.var (τ:=.int) (by rw[NY,if_pos (by kernel_rfl)])) h)⟩
   . rw[if_neg h0];by_cases h1:k%3=1
     . rw[if_pos h1];obtain⟨c,hc,h⟩:=XO r l Γ (P_ r (i+4)) (i+5);exact⟨_,by omega,.seq (Un .int) h⟩
     . rw[if_neg h1];obtain⟨c,hc,h⟩:=XO r l Γ (P_ r (i+11)) (i+12);exact⟨_,by omega,.seq (Un (L7 (Um _ _) .int)) h⟩
theorem Hv(r:Nat->Nx)(n:Nat){l:List Nat}(hl:l.length<=20):∃zk rl rt ra,oF zk 2 (oJ r n++[wW r n (tT r l (P_ r jS) (jS+1))])=some (rl,rt,0,ra):=by
 obtain⟨c1,nX,h1⟩:=XN (Ul r n);obtain⟨c2,xH,h2⟩:=XO r l ([(yB [115,116,97,116,101],sx tyS)]++[(yB [117],.unit)]) (P_ r jS) (jS+1);have hlen:(oJ r n).length=3:=by kernel_rfl
 refine Uk (ol:=OI) (Γ:=[(yB [115,116,97,116,101],sx tyS)]) (m:=wW r n (tT r l (P_ r jS) (jS+1))) (τ:=.pair .int .int) (by rw[List.length_append,hlen];exact(by decide:3+1<100000000)) (by rw[List.length_append,hlen];exact(by decide:2<3+1)) (NZ r n _)
   (by rw[Dc];exact .val (α:=sx tyS) (σ:=eJ []) Small.zb h1 (by decide) .nil) (by rw[Dc];rfl) (by rw[List.length_append,hlen];exact List.getElem?_append_right (by rw[hlen];exact(by decide:3<=3+1-1)) |>.trans (by rw[hlen];rfl))
   (.app (α:=.fn .unit .int (eJ U7)) (.app (α:=.int) (.var (τ:=sx tyS) (by kernel_rfl)) .int) (.fn (Ug smS) h2)) (by decide) ?_
 simp only[GT.sz,sx];omega
end Go.Tc
namespace Go.Mn
open Go.aR Go.dy Go.dy.N Go.Lex Go.Gx
set_option maxRecDepth 100000
abbrev start(n:Nat)(E:PN):Rn:=⟨[],mB n E,.nil,none,[]⟩
theorem Uo(n:Nat)(E:PN):Rc yx (start n E) ⟨[HS (eHS n E),.mk (aB hB (vB sN)) 0 (eHS n E) none],E,.put sU .unit eM,none,[]⟩ 20:=Rc.run (by kernel_rfl) (by simp)
theorem N0{n:Nat}{l:List Nat}(hl:l.length<=20)(hn:n<1000)(hk:∀k∈l,k<3000):∃k s,Cn yx k 0 (start n (tB l))=some (.pair (.int ((tI l n).1:Nat)) (.int ((tI l n).2:Nat)),s):=by
 obtain⟨m,hm,A,nd,e,us,hA,r1⟩:=LS (eH:=eHS n (tB l)) l [] (.mk (aB hB (vB sN)) 0 (eHS n (tB l)) none) (.put sU .unit eM) [] n 3000 (fun _ h=>by cases h) (by simp;omega) ⟨_,_,_,rfl,by kernel_rfl⟩ hk (Nat.le_refl _) (by omega) (by omega);have r2:Rc yx ⟨[HS (eHS n (tB l)),A],nd,e,some (.int ((tI l n).1:Nat)),us⟩ ⟨[A],fB sS (pn 12 ⟨#[]⟩ 0 [vB sX,vB sS]),.put sX (.int ((tI l n).1:Nat)) (eHS n (tB l)),none,us⟩ 1:=Rc.run (by kernel_rfl) (by simp);obtain⟨f,x,eA,rfl,hx⟩:=hA;have r3:=T5 (f:=f) (b:=pn 12 ⟨#[]⟩ 0 [vB sX,vB sS]) (e1:=.put sX (.int ((tI l n).1:Nat)) (eHS n (tB l))) (us:=us) hx;have r4:∀(u v:Int)(e:En),Rc yx ⟨[],pn 12 ⟨#[]⟩ 0 [vB sX,vB sS],.put sS (.int u) (.put sX (.int v) e),none,us⟩ ⟨[],pn 12 ⟨#[]⟩ 0 [vB sX,vB sS],.put sS (.int u) (.put sX (.int v) e),some (.pair (.int v) (.int u)),us⟩ 5:=fun u v e=>Rc.run (by kernel_rfl) (by simp);obtain⟨s,_,e1⟩:=((Uo n (tB l)).trans (r1.trans (r2.trans (r3.trans (r4 _ _ _))))) 1 0 (by omega);exact⟨_,s,e1⟩
abbrev Uq:Ξ:=yB [32,109,97,105,110,32,61,32,115,116,97,116,101,32]
abbrev tFn:Ξ:=yB [32,40,102,110,32,117,32,61,62,32]
def N4(t:Ξ)(n:Nat)(e:Ξ):Ξ:=t++Uq++aP n++tFn++e++yB [41]
def Ur(a b:Nat):Ξ:=yB [40]++aP a++yB [44,32]++aP b++yB [41]
theorem aiE{a b:Nat}(ha:a<1000000)(hb:b<1000000):wC (.pair (.int a) (.int b))=some (Ur a b):=by
 have s1:=iS 5 (n:=a) (by omega);have s2:=iS 5 (n:=b) (by omega);have z:∀c:Nat,DK (c:Int)=aP c:=fun c=>by unfold DK;rw[if_neg (by omega),Int.natAbs_natCast]
 have q:∀(c:Nat)(r:Int),c<1000000->0<r->dK (.int c) r=some (aP c):=fun c r hc hr=>by
   have:=iS 5 (n:=c) (by omega);unfold dK;rw[if_neg (by omega),if_pos ⟨by omega,by omega,by rw[Int.natAbs_natCast];omega⟩,z]
 have e:((yB [40]++aP a++yB [44,32]++aP b++yB [41]).size)<=20:=by
   have h1:(yB [40]).size=1:=rfl;have h2:(yB [44,32]).size=2:=rfl;have h3:(yB [41]).size=1:=rfl;simp only[ByteArray.size_append,h1,h2,h3];omega
 unfold wC dK;rw[if_neg (by decide),q a _ ha (by decide),Option.bind_some,q b _ hb (by omega),Option.bind_some,II,if_pos (Nat.le_trans e (by decide))];show some (if 400<(Ur a b).size then _ else _)=_;rw[if_neg (by unfold Ur;omega)];rfl
theorem XP{k:Nat}(hk:k<3000):(wU k).size<=33:=by
 have:=iS 3 (n:=k) (by omega);unfold wU;split
 . decide
 . split
   . rw[ByteArray.size_append,ByteArray.size_append];have h1:(yB [40,100,111,32,112,117,116,32]).size=8:=rfl;have h2:(yB [59,32]).size=2:=rfl;omega
   . decide
theorem JZ:∀{l:List Nat},(∀k∈l,k<3000)->(wV l).size<=34*l.length+1
 |[],_=>by decide
 |k::l,h=>by
   have:=XP (h k (.head _));have:=JZ (l:=l) (fun j hj=>h j (.tail _ hj));have h3:(yB [41]).size=1:=rfl;rw[wV,ByteArray.size_append,ByteArray.size_append,List.length_cons];omega
theorem EX(r:Nat->Nx):∀(l:List Nat)(a i:Nat),Zm (tT r l a i)=true
 |[],_,_=>rfl
 |k::l,a,i=>by
   rw[tT];split
   . simp[lTq,Zm,EJ,EX r l]
   . split
     . simp[pT_,Zm,EJ,EX r l]
     . simp[qT,Zm,EJ,EX r l]
theorem XQ{y:Vl}{a b:Int}(h:bV y=.pair (.int a) (.int b)):y=.pair (.int a) (.int b):=by
 cases y with
 |pair u v=>
   simp only[bV,Vl.pair.injEq] at h;obtain⟨h1,h2⟩:=h;cases u<;>simp only[bV] at h1<;>first|(cases h1;done)|skip
   cases v<;>simp only[bV] at h2<;>first|(cases h2;done)|skip
   cases h1;cases h2;rfl
 |_=>simp[bV] at h
theorem XR{n:Nat}{l:List Nat}(hT:(wg pS).size<=1500)(hn:n<1000)(hl:l.length<=20)(hk:∀k∈l,k<3000):GZ (N4 (wg pS) n (wV l)) (Ur (tI l n).1 (tI l n).2):=by
 have mx:∀{c:Nat},c<3000->c<=fu:=fun{c} h=>Nat.le_trans (Nat.le_of_lt h) (by decide);have X4:=T0 (n:=n) (mx (by omega)) (l:=l) (fun x hx=>mx (hk x hx));have e1:(mC (OF pS)++⟨#[10]⟩)++(Uq++(aP n++(tFn++(wV l++(yB [41]++⟨#[]⟩)))))=N4 (wg pS) n (wV l):=by
   unfold N4 wg;rw[wT];simp only[append_assoc']
 rw[e1] at X4;have hz:=JZ hk;have Rj:=iS 2 (n:=n) (by omega);have hS:(N4 (wg pS) n (wV l)).size<=3000:=by
   unfold N4;have h1:Uq.size=14:=rfl;have h2:tFn.size=10:=rfl;have h3:(yB [41]).size=1:=rfl;simp only[ByteArray.size_append,h1,h2,h3];omega
 obtain⟨r,hp⟩:=Hl hS hl X4;obtain⟨zk,rl,rt,ra,hf⟩:=Tc.Hv r n hl;obtain⟨k,s,hg⟩:=N0 hl hn hk;have hlen:(oJ r n).length=3:=by kernel_rfl
 have b1:=Bg l n 3000 hk (Nat.le_refl _) (by omega);have b2:l.length*(3000+l.length)<=20*3020:=Nat.mul_le_mul hl (by omega);refine NM (N:=2) (k:=k) (s':=s) (x:=.pair (.int ((tI l n).1:Nat)) (.int ((tI l n).2:Nat))) hp hf (by rw[List.length_append,hlen];exact(by decide:3+1<1000000000)) ?_ (by rw[List.length_append,hlen];exact(by decide:2<3+1)) (fun j d h1 h2 hd=>?_) ?_ (fun y hy=>XQ hy) (aiE (by omega) (by omega))
 . have ap : ∀ a b : List Nd, EJ (a ++ b) = (EJ a && EJ b) := fun a b => by
     induction a with
     |nil=>rfl
     |cons x a ih=>rw[List.cons_append,EJ,EJ,ih,Bool.and_assoc]
   rw[ap,show EJ (oJ r n)=true by kernel_rfl];simp[wW,EJ,Zm,EX]
 . rw[List.length_append,hlen] at h2;have:j=2:=by simp at h2;omega
   subst this;rw[List.getElem?_append_left (by rw[hlen];decide)] at hd;have h3:(oJ r n)[2]?=some (.mk 2 ((oJ r n).getD 2 gS).a (yB [115,116,97,116,101]) 0 (Tc.adr ((oJ r n).getD 2 gS)::[])):=by kernel_rfl
   rw[h3] at hd;cases hd;intro q;cases q
 . rw[aoE,ada,XE];exact hg
end Go.Mn
namespace Go.Sx
open Go.RowKit Go.Gx
def Cc(W:Ψ):Sx.Item:=.ro (fun c=>c<W.heap.size) (fun w=>W.heap.size<=w.heap.size/\∀c,c<W.heap.size->w.heap[c]?=W.heap[c]?)
theorem ads(W:Ψ):Sp W [Cc W]:=⟨fun it hi=>by
 rw[List.mem_singleton.1 hi]
 exact⟨⟨Nat.le_refl _,fun _ _=>rfl⟩,fun _ h=>h,fun _ _ hs k h=>⟨Nat.le_trans h.1 hs,fun c hc=>(k c hc).trans (h.2 c hc)⟩⟩,List.pairwise_singleton _ _⟩
theorem Dd{W w:Ψ}(h:(Cc W).holds w){a:Addr}{n:Nat}{cs:Θ}(e:W.cells? 0 a n=some cs)(hn:0<n):w.cells? 0 a n=some cs:=by
 have hb:=World.cells?_block e hn;have e2:(fun i=>w.cell? (a.add i))=fun i=>W.cell? (a.add i):=funext fun i=>by
   unfold World.cell?;rw[h.1.2 (a.add i).block (by show(a.add i).block<_;unfold Addr.add;split<;>exact hb)]
 unfold World.cells? at e ⊢;rw[e2];exact e
section
variable [Rd] {P:Program} {B:Exit->Act->Ψ->Prop} {b:Nat->Value} {n:Nat} {d:List Deferred} {w:Ψ} {x:St}
theorem slh(m k : Nat){cap len : Nat}{A : Ω}(hk : k <= cap)
   (g:Goal P B b n d (nx (vX (via P b n m w x (ask (BD P b n)))).y (vX (via P b n m w x (ask (BD P b n)))).q (.slice A k cap)) w)
   (h:vA (via P b n m w x (ask (BD P b n)))=vB w (via P b n m w x (ask (BD P b n))):=by kernel_rfl)
   (h2:(vX (via P b n m w x (ask (BD P b n)))).u=[.slice A len cap,.int .i64 (k:Int)]:=by kernel_rfl):Goal P B b n d x w:=by
 obtain⟨y,hr,hf⟩:=cP h;refine aE hr ?_;generalize vX (via P b n m w x (ask (BD P b n)))=z at *;unfold BD at hf;split at hf<;>try contradiction
 rename_i q hq;split at hf<;>try contradiction
 rename_i t s lo pG mx hop;split at hf<;>try contradiction
 rename_i ko;split at hf<;>try contradiction
 rename_i e' hu;split at hf<;>try contradiction
 rename_i inf ff;simp only[Option.some.injEq] at hf;subst hf;simp only[List.cons.injEq,and_true] at h2;obtain⟨h3,h4⟩:=h2;have hA:(if cap=0 then A else A.map (·.add (0*inf.size)))=A:=by
   split
   . rfl
   . cases A with
     |none=>rfl
     |some a=>simp[Addr.add]
 refine cO hq (v:=.slice A k cap) ?_ g;unfold execOp;have hl:((k:Int)<=(cap:Int)):=by omega
 simp[hop,h3,h4,Instr.sliceAt,Instr.slice,run_underlying hu,Sem.run_bind,Instr.sliceBounds,Instr.sliceBound,asIntOf,go_sem,hl,sizeOf,typeInfo,ff];intro eK;omega
end
end Go.Sx
namespace Go.Mn
open Go.aR Go.dy Go.dy.N Go.Lex Go.Gx
def De(lv:Nat->Int)(M:Nat):List Nat:=(List.range M).map fun j=>fh (lv j) 3000
theorem EY(lv:Nat->Int)(M:Nat):(De lv M).length=M:=by simp[De]
theorem ZG{lv:Nat->Int}{M:Nat}:∀k∈De lv M,k<3000:=fun k hk=>by
 obtain⟨j,_,rfl⟩:=List.mem_map.1 hk;exact uU _ (by decide)
theorem L8{lv:Nat->Int}{M j:Nat}(h:j<M):(De lv M).drop j=fh (lv j) 3000::(De lv M).drop (j+1):=by
 rw[List.drop_eq_getElem_cons (by rw[EY];exact h)];simp[De]
theorem Ut(lv:Nat->Int)(M:Nat):(De lv M).drop M=[]:=List.drop_of_length_le (by rw[EY];exact Nat.le_refl _)
theorem Uu{lv:Nat->Int}{M:Nat}(h:M<=20)(t:Nat):(wV ((De lv M).drop t)).size<=700:=by
 have:=JZ (l:=(De lv M).drop t) (fun k hk=>ZG k (List.mem_of_mem_drop hk));rw[List.length_drop,EY] at this;omega
theorem tm3(k:Nat):Int.tmod (k:Int) (3:Int)=((k%3:Nat):Int):=by
 rw[Int.tmod_eq_emod_of_nonneg (by omega)];omega
theorem XS{k j:Nat}(h:(((k%3:Nat):Int)==(j:Int))=true):k%3=j:=by have:=eq_of_beq h;omega
theorem N5{k j:Nat}(h:(((k%3:Nat):Int)==(j:Int))=false):k%3≠j:=fun q=>by rw[q] at h;simp at h
theorem aoS{k:Nat}{e:Ξ}{l:List Nat}(h:(((k%3:Nat):Int)==0)=true)(he:e=wV l):(bY [40,108,101,116,32,97,32,61,32,100,111,32,103,101,116,32,40,41,32,105,110,32,97,32,43,32])++e++⟨#[41]⟩=wV (k::l):=by
 subst he;rw[wV,wU,if_pos (XS (j:=0) h)]
theorem aoT{k:Nat}{e:Ξ}{l:List Nat}(h0:(((k%3:Nat):Int)==0)=false)(h:(((k%3:Nat):Int)==1)=true)(he:e=wV l):(bY [40,100,111,32,112,117,116,32])++aP k++(bY [59,32])++e++⟨#[41]⟩=wV (k::l):=by
 subst he;rw[wV,wU,if_neg (N5 (j:=0) h0),if_pos (XS (j:=1) h)]
theorem aoU{k:Nat}{e:Ξ}{l:List Nat}(h0:(((k%3:Nat):Int)==0)=false)(h:(((k%3:Nat):Int)==1)=false)(he:e=wV l):(bY [40,100,111,32,112,117,116,32,40,100,111,32,103,101,116,32,40,41,32,43,32,49,41,59,32])++e++⟨#[41]⟩=wV (k::l):=by
 subst he;rw[wV,wU,if_neg (N5 (j:=0) h0),if_neg (N5 (j:=1) h)]
def Uv(l:List Nat)(sum now:Nat)(T:Nat×Nat):Prop:=sum+(tI l now).1=T.1/\(tI l now).2=T.2
theorem aiF{k sum now:Nat}{l:List Nat}{T:Nat×Nat}(h:(((k%3:Nat):Int)==0)=true)(hl:Uv (k::l) sum now T):Uv l (sum+now) now T:=by
 unfold Uv at *;rw[tI,if_pos (XS (j:=0) h)] at hl;exact⟨by omega,hl.2⟩
theorem aiG{k sum now:Nat}{l:List Nat}{T:Nat×Nat}(h0:(((k%3:Nat):Int)==0)=false)(h:(((k%3:Nat):Int)==1)=true)(hl:Uv (k::l) sum now T):Uv l sum k T:=by
 unfold Uv at *;rw[tI,if_neg (N5 (j:=0) h0),if_pos (XS (j:=1) h)] at hl;exact hl
theorem aiH{k sum now:Nat}{l:List Nat}{T:Nat×Nat}(h0:(((k%3:Nat):Int)==0)=false)(h:(((k%3:Nat):Int)==1)=false)(hl:Uv (k::l) sum now T):Uv l sum (now+1) T:=by
 unfold Uv at *;rw[tI,if_neg (N5 (j:=0) h0),if_neg (N5 (j:=1) h)] at hl;exact hl
theorem XT{lv:Nat->Int}{M sum now:Nat}{T:Nat×Nat}(h:Uv ((De lv M).drop M) sum now T):T=(sum,now):=by
 rw[Ut] at h;obtain⟨h1,h2⟩:=h;rw[tI] at h1 h2;exact Prod.ext h1.symm h2.symm
theorem aoV(t:Ξ):Value.bool (t.toList==t.toList)=.bool true:=by simp
def StateM(t:Ξ)(n M:Nat)(lv:Nat->Int):Prop:=GZ (N4 t n (wV (De lv M))) (Ur (tI (De lv M) n).1 (tI (De lv M) n).2)
theorem N6{n M:Nat}{lv:Nat->Int}(hT:(wg pS).size<=1500)(hn:n<1000)(hM:M<=20):StateM (wg pS) n M lv:=XR hT hn (by rw[EY];exact hM) ZG
end Go.Mn
namespace Go.Proofs.YtdmdecgoebnamaaGreat
open Go.RowKit Go.Sx Go.aR Go.Mn
attribute [local irreducible] Go.wpOps Go.Code.wp Go.wpOp Go.wpAnyH Go.Calls Go.Sx.Goal
set_option maxRecDepth 20000
namespace Mr
theorem Uw(n : Int)  (w : Ψ) (K : Ending -> Ψ -> Prop) (H0 : Sp w []) (hK : ∀ w', Hs w [] w' [] -> K (.returned (.int .i64 ((fh n 1000 : Nat) : Int))) w') :
   Calls Tryz.prog 12 #[.int .i64 n,.int .i64 1000] w K:=by
 obtain⟨L0,aq,H⟩:=Sx.cw H0;refine xu (vs:=[.int .i64 n,.int .i64 1000]) 14 Tryz.func12 ?_;have hm:(-1000<Int.tmod n 1000/\Int.tmod n 1000<1000)/\(Int.tmod n 1000<0->Int.tmod n 1000+1000=((fh n 1000:Nat):Int))/\(¬Int.tmod n 1000<0->Int.tmod n 1000=((fh n 1000:Nat):Int)):=LR n (m:=1000) (by decide);refine xq 9 (.int .i64 (Int.tmod n (1000:Int))) (.int .i64 (Int.tmod n (1000:Int))) (congrArg (Value.int .i64) (rfl)) ?_;refine xh 10 (decide ((Int.tmod n (1000:Int))<(0:Int))) (fun jl=>?_) (fun jl=>?_)
 . have vz:=of_decide_eq_true jl;refine Sx.vi 3 ((Int.tmod n (1000:Int))+(1000:Int)) ((Int.tmod n (1000:Int))+(1000:Int)) (IntWalk.i64_in _ (by omega))<|xf 10 [] H (.int .i64 ((Int.tmod n (1000:Int))+(1000:Int))) ?_;rw[<- hm.2.1 (by omega)] at hK;subst aq;exact hK _ (H.pk [])
 refine xf 9 [] H (.int .i64 (Int.tmod n (1000:Int))) ?_;have vz:=of_decide_eq_false jl;rw[<- hm.2.2 (by omega)] at hK;subst aq;exact hK _ (H.pk [])
theorem Hw(n : Int)  (w : Ψ) (K : Ending -> Ψ -> Prop) (H0 : Sp w []) (hK : ∀ w', Hs w [] w' [] -> K (.returned (.int .i64 ((fh n 3000 : Nat) : Int))) w') :
   Calls Tryz.prog 12 #[.int .i64 n,.int .i64 3000] w K:=by
 obtain⟨L0,aq,H⟩:=Sx.cw H0;refine xu (vs:=[.int .i64 n,.int .i64 3000]) 14 Tryz.func12 ?_;have hm:(-3000<Int.tmod n 3000/\Int.tmod n 3000<3000)/\(Int.tmod n 3000<0->Int.tmod n 3000+3000=((fh n 3000:Nat):Int))/\(¬Int.tmod n 3000<0->Int.tmod n 3000=((fh n 3000:Nat):Int)):=LR n (m:=3000) (by decide);refine xq 9 (.int .i64 (Int.tmod n (3000:Int))) (.int .i64 (Int.tmod n (3000:Int))) (congrArg (Value.int .i64) (rfl)) ?_;refine xh 10 (decide ((Int.tmod n (3000:Int))<(0:Int))) (fun jl=>?_) (fun jl=>?_)
 . have vz:=of_decide_eq_true jl;refine Sx.vi 3 ((Int.tmod n (3000:Int))+(3000:Int)) ((Int.tmod n (3000:Int))+(3000:Int)) (IntWalk.i64_in _ (by omega))<|xf 10 [] H (.int .i64 ((Int.tmod n (3000:Int))+(3000:Int))) ?_;rw[<- hm.2.1 (by omega)] at hK;subst aq;exact hK _ (H.pk [])
 refine xf 9 [] H (.int .i64 (Int.tmod n (3000:Int))) ?_;have vz:=of_decide_eq_false jl;rw[<- hm.2.2 (by omega)] at hK;subst aq;exact hK _ (H.pk [])
theorem Hx(n : Nat)(w : Ψ)(K : Ending -> Ψ -> Prop)(H0 : Sp w [])(hn : n < 9223372036854775808)(hK : ∀ w', Hs w [] w' [] -> K (.returned (.string (aP n))) w') :
   Calls Tryz.prog 20 #[.n n] w K:=by
 obtain⟨L0,aq,H⟩:=Sx.cw H0;refine xu (vs:=[.n n]) 17 Tryz.func20 ?_;refine y0 11 (fun z l' w'=>∃(m:Nat) (s:Ξ),l'=[(0,.n m),(3,.string s)]/\z=m+1/\Hs w L0 w' []/\(aP n=aP m++s)/\(m<9223372036854775808/\s.size+m<=n/\(m=0->s.size=0))) _ _ ⟨n,eB,rfl,rfl,H,(IH _),⟨hn,by have:eB.size=0:=rfl;omega,fun _=>rfl⟩⟩ (fun b1 z1 l1 w1 cm K1 aU=>?_);obtain⟨m,s,rfl,rfl,H1,hq,hm⟩:=cm;refine xq 4 (.int .i64 (Int.tmod (m:Int) (10:Int))) (.int .i64 ((m%10:Nat):Int)) (congrArg (Value.int .i64) (by rw[IntWalk.rem_in _ _ (by omega)];omega))<|Sx.vi 0 ((48:Int)+((m%10:Nat):Int)) ((48+(m%10):Nat):Int) (Gx.bq (by omega) (by omega))<|xq 0 (.int .u8 (IntKind.u8.wrap ((48+(m%10):Nat):Int))) (.int .u8 ((48+(m%10):Nat):Int)) (congrArg (Value.int .u8) (IntWalk.u8_in _ (by omega)))<|xg 0 H1 fun k1 w2 H2=>Sx.cbs (c:=1) (bk:=k1) (ty:=5) 0 0 (48+m%10) H2 (by omega) (by kernel_rfl)<|Sx.dq 1 (⟨#[UInt8.ofNat (48+m%10)]⟩:Ξ) s (by have:((⟨#[UInt8.ofNat (48+m%10)]⟩:Ξ)).size=1:=rfl;omega) ?_;refine Sx.vi 6 (Int.tdiv (m:Int) (10:Int)) ((m/10:Nat):Int) (by rw[IntWalk.i64_quo _ _ (by omega)];omega) ?_;refine xh 9 (((m/10:Nat):Int)==(0:Int)) (fun bW=>?_) (fun bW=>?_)
 . refine xf 10 [] H2 (.string ((⟨#[UInt8.ofNat (48+m%10)]⟩:Ξ)++s)) ?_;have jE:=Gx.k1 bW;rw[DJ hq (by omega)] at hK;subst aq;exact hK _ (H2.pick [] (by kernel_rfl))
 have jE:=Gx.k0 bW;exact xi 2 _ (aU _ _ _ _ (by omega) ⟨(m/10),((⟨#[UInt8.ofNat (48+m%10)]⟩:Ξ)++s),rfl,rfl,H2.pk [],(pT hq (by omega)),⟨by omega,by have:((⟨#[UInt8.ofNat (48+m%10)]⟩:Ξ)++s).size=1+s.size:=ByteArray.size_append;omega,by omega⟩⟩)
theorem Hy(n : Nat)(w : Ψ)(K : Ending -> Ψ -> Prop)(H0 : Sp w [])(hn : n < 9223372036854775808)(hK : ∀ w', Hs w [] w' [] -> K (.returned (.string (aP n))) w') :
   Calls Tryz.prog 13 #[.n n] w K:=by
 obtain⟨L0,aq,H⟩:=Sx.cw H0;refine xu (vs:=[.n n]) 12 Tryz.func13<|xq 9 (.bool (decide ((n:Int)<(0:Int)))) (.bool false) (dF (by omega)) ?_;refine xd 8 [] H (fun Hp R hZ=>Hx n w R Hp hn (fun w1 G1=>hZ _ _ _ G1 fun H1=>?_));refine xf 4 [] H1 (.string (aP n)) ?_;subst aq;exact hK _ (H1.pk [])
theorem L9(n : Nat)(w : Ψ)(K : Ending -> Ψ -> Prop)(H0 : Sp w [])(hn : n < 9223372036854775808)(hK : ∀ w', Hs w [] w' [] -> K (.returned (.string (aP n))) w') :
   Calls Tryz.prog 15 #[.n n] w K:=by
 obtain⟨L0,aq,H⟩:=Sx.cw H0;refine xu (vs:=[.n n]) 11 Tryz.func15<|xq 9 (.bool (decide ((n:Int)<(0:Int)))) (.bool false) (dF (by omega)) ?_;refine xd 8 [] H (fun Hp R hZ=>Hx n w R Hp hn (fun w1 G1=>hZ _ _ _ G1 fun H1=>?_));refine xf 4 [] H1 (.string (aP n)) ?_;subst aq;exact hK _ (H1.pk [])
theorem XU(s v : Ξ)(w : Ψ)(K : Ending -> Ψ -> Prop)(H0 : Sp w [])(hp : GZ s v)(hK : ∀ w', Hs w [] w' [] -> K (.returned (.bool true)) w') :
   Calls Tryz.prog 14 #[.string s,.string v] w K:=by
 obtain⟨L0,aq,H⟩:=Sx.cw H0;refine xu (vs:=[.string s,.string v]) 26 Tryz.func14 ?_;refine xd 8 [] H (fun Hp R hZ=>acK s w R Hp v hp (fun sv w1 G1=>hZ _ _ _ G1 fun H1=>?_));refine xg 3 H1 fun k1 w2 H2=>xg 0 H2 fun k2 w3 H3=>xe 0 0 H3 fun w4 H4=>xe 0 1 H4 fun w5 H5=>xb 5 1 H5<|xb 3 0 H5 ?_;refine xb 4 0 H5<|xq 1 (.bool (v.toList==v.toList)) (.bool true) (aoV v)<|xf 5 [] H5 (.bool true) ?_;subst aq;exact hK _ (H5.pk [])
set_option maxHeartbeats 16000000 in
theorem XV(n : Int)(A : Ω)(m oc : Nat)(lv : Nat -> Int)(w : Ψ)(K : Ending -> Ψ -> Prop)(H0 : Sp w [Cc w])(hmc : m <= oc)(hL : Gx.Rd w A m 1 (fun i => [.int .i64 (lv i)]))(hT : (wg [1, 0, 1, 0, 1, 0, 0]).size <= 1500)(hK : ∀ w', Hs w [Cc w] w' [Cc w] -> K (.returned (.bool true)) w') :
   Calls Tryz.prog 4 #[.int .i64 n,.slice A m oc] w K:=by
 obtain⟨L0,aq,H⟩:=Sx.cw H0;refine xu (vs:=[.int .i64 n,.slice A m oc]) 94 Tryz.func4 ?_;refine xd 8 [] H (fun Hp R hZ=>Uw n w R Hp  (fun w1 G1=>hZ _ _ _ G1 fun H1=>?_));refine yg 3 (fun l' w'=>∃(N:Nat) (M:Nat),l'=[(0,.n N),(1,.slice A M oc)]/\Hs w L0 w' [Cc w]/\(N<1000)/\(M<=20/\M<=m)) (fun K1 aU=>?_) (fun b1 l1 w2 cm=>?_)
 . refine xh 7 (decide ((m:Int)>(20:Int))) (fun cK=>?_) (fun cK=>?_)
   . have Aj:=of_decide_eq_true cK;refine Sx.slh 2 20 (cap:=oc) (len:=m) (A:=A) (by omega) ?_;exact xi 2 _ (aU _ _ _ ⟨(fh n 1000),20,rfl,H1.pk [0],(uU _ (by decide)),(by omega)⟩)
   have Aj:=of_decide_eq_false cK;exact xi 1 _ (aU _ _ _ ⟨(fh n 1000),m,rfl,H1.pk [0],(uU _ (by decide)),(by omega)⟩)
 obtain⟨N,M,rfl,H4,hN,hM⟩:=cm;refine xd 2 [] H4 (fun Hp R hZ=>JM w2 R Hp  (fun w3 G2=>hZ _ _ _ G2 fun H5=>?_));refine xr 3 (.code (Sx.ct 31 Tryz.f4)) [] [(0,.n N),(1,.slice A M oc),(5,.string (wg [1,0,1,0,1,0,0]))] fun b2=>Sx.vi 21 ((M:Int)-(1:Int)) ((M:Int)-1) ((IntWalk.i64_in _ (by omega))) ?_;refine y0 4 (fun z l' w'=>∃(i:Int) (e:Ξ),l'=[(0,.n N),(1,.slice A M oc),(5,.string (wg [1,0,1,0,1,0,0])),(6,.n N),(7,.int .i64 0),(8,.string e),(9,.int .i64 i)]/\z=(i+1).toNat/\Hs w L0 w' [Cc w]/\(-1<=i/\i+1<=M)/\(e=dy.N.wV ((De lv M).drop (i+1).toNat))/\(e.size<=700)) _ _ ⟨((M:Int)-1),(bY [48]),rfl,rfl,H5.pk [0],(by omega),(by rw[show((M:Int)-1+1).toNat=M by omega,Ut];rfl),(by decide)⟩ (fun b3 z1 l2 w4 iw K2 eC=>?_);obtain⟨i,e,rfl,rfl,H7,hi,he,Lg⟩:=iw;refine xh 7 (decide (i>=(0:Int))) (fun qh=>?_) (fun qh=>?_)
 . have aiI:=of_decide_eq_true qh;have ax:∃j:Nat,i=(j:Int):=⟨i.toNat,by omega⟩;obtain⟨j,rfl⟩:=ax;have ax:=hL j (by omega);obtain⟨ad,hA,o9⟩:=ax;have hd:=L8 (lv:=lv) (M:=M) (j:=j) (by omega);have hk3:fh (lv j) 3000<3000:=uU _ (by decide);have hk4:=Mn.iS 3 (n:=fh (lv j) 3000) (by omega);rw[show((j:Int)+1).toNat=j+1 by omega] at he;refine xv 8 ad j 1 M oc hA (by omega)<|xt (c:=1) (t:=3) 0 [.int .i64 (lv j)] (.int .i64 (lv j)) (Dd (H7.at 0 (it:=Cc w) (by kernel_rfl)) o9 (by decide)) ?_;refine xd 0 [] H7 (fun Hp R hZ=>Hw (lv j) w4 R Hp  (fun w5 G3=>hZ _ _ _ G3 fun H8=>?_));refine xr 3 (.code (Sx.ct 65353 Tryz.f4)) [.ar 1,.code (Sx.ct 16339 Tryz.f4),.to K2,.ar 0,.code (Sx.ct 511 Tryz.f4)] [(0,.n N),(1,.slice A M oc),(5,.string (wg [1,0,1,0,1,0,0])),(6,.n N),(7,.int .i64 0),(8,.string e),(9,.n j),(10,.int .i64 (((fh (lv j) 3000):Nat):Int))] fun b4=>xq 3 (.int .i64 (Int.tmod (((fh (lv j) 3000):Nat):Int) (3:Int))) (.int .i64 ((((fh (lv j) 3000)%3):Nat):Int)) (congrArg (Value.int .i64) ((tm3 _))) ?_;refine xh 9 (((((fh (lv j) 3000)%3):Nat):Int)==(0:Int)) (fun il=>?_) (fun il=>?_)
   . have ux:=Gx.k1 il;refine Sx.dq 2 (bY [40,108,101,116,32,97,32,61,32,100,111,32,103,101,116,32,40,41,32,105,110,32,97,32,43,32]) e (by simp only[ByteArray.size_append,Hk,List.length_cons,List.length_nil];omega)<|Sx.dq 0 ((bY [40,108,101,116,32,97,32,61,32,100,111,32,103,101,116,32,40,41,32,105,110,32,97,32,43,32])++e) (bY [41]) (by simp only[ByteArray.size_append,Hk,List.length_cons,List.length_nil];omega)<|Sx.vi 7 ((j:Int)-(1:Int)) ((j:Int)-1) ((IntWalk.i64_in _ (by omega))) ?_;have hE1:(((bY [40,108,101,116,32,97,32,61,32,100,111,32,103,101,116,32,40,41,32,105,110,32,97,32,43,32])++e)++(bY [41]))=dy.N.wV ((De lv M).drop j):=by rw[hd];exact aoS il he
     have awm:((((bY [40,108,101,116,32,97,32,61,32,100,111,32,103,101,116,32,40,41,32,105,110,32,97,32,43,32])++e)++(bY [41]))).size<=700:=by rw[hE1];exact Uu hM.1 j
     exact xi 2 _ (eC _ _ _ _ (by omega) ⟨((j:Int)-1),(((bY [40,108,101,116,32,97,32,61,32,100,111,32,103,101,116,32,40,41,32,105,110,32,97,32,43,32])++e)++(bY [41])),rfl,rfl,H8.pk [0],(by omega),(by rw[show((j:Int)-1+1).toNat=j by omega];assumption),(by assumption)⟩)
   refine xh 6 (((((fh (lv j) 3000)%3):Nat):Int)==(1:Int)) (fun dH=>?_) (fun dH=>?_)
   . have ux:=Gx.k0 il;have ja:=Gx.k1 dH;refine xd 2 [] H8 (fun Hp R hZ=>Hy (fh (lv j) 3000) w5 R Hp (by omega) (fun w6 G4=>hZ _ _ _ G4 fun bh=>?_));refine Sx.dq 0 (bY [40,100,111,32,112,117,116,32]) (aP (fh (lv j) 3000)) (by simp only[ByteArray.size_append,Hk,List.length_cons,List.length_nil];omega)<|Sx.dq 0 ((bY [40,100,111,32,112,117,116,32])++(aP (fh (lv j) 3000))) (bY [59,32]) (by simp only[ByteArray.size_append,Hk,List.length_cons,List.length_nil];omega)<|Sx.dq 1 (((bY [40,100,111,32,112,117,116,32])++(aP (fh (lv j) 3000)))++(bY [59,32])) e (by simp only[ByteArray.size_append,Hk,List.length_cons,List.length_nil];omega)<|Sx.dq 0 ((((bY [40,100,111,32,112,117,116,32])++(aP (fh (lv j) 3000)))++(bY [59,32]))++e) (bY [41]) (by simp only[ByteArray.size_append,Hk,List.length_cons,List.length_nil];omega)<|xr 5 (.code (Sx.ct 16339 Tryz.f4)) [.to K2,.ar 0,.code (Sx.ct 511 Tryz.f4)] [(0,.n N),(1,.slice A M oc),(5,.string (wg [1,0,1,0,1,0,0])),(6,.n N),(7,.int .i64 0),(8,.string (((((bY [40,100,111,32,112,117,116,32])++(aP (fh (lv j) 3000)))++(bY [59,32]))++e)++(bY [41]))),(9,.n j)] fun b5=>Sx.vi 2 ((j:Int)-(1:Int)) ((j:Int)-1) ((IntWalk.i64_in _ (by omega))) ?_;have hE2:(((((bY [40,100,111,32,112,117,116,32])++(aP (fh (lv j) 3000)))++(bY [59,32]))++e)++(bY [41]))=dy.N.wV ((De lv M).drop j):=by rw[hd];exact aoT il dH he
     have awn:((((((bY [40,100,111,32,112,117,116,32])++(aP (fh (lv j) 3000)))++(bY [59,32]))++e)++(bY [41]))).size<=700:=by rw[hE2];exact Uu hM.1 j
     exact xi 2 _ (eC _ _ _ _ (by omega) ⟨((j:Int)-1),(((((bY [40,100,111,32,112,117,116,32])++(aP (fh (lv j) 3000)))++(bY [59,32]))++e)++(bY [41])),rfl,rfl,bh.pk [0],(by omega),(by rw[show((j:Int)-1+1).toNat=j by omega];assumption),(by assumption)⟩)
   have ux:=Gx.k0 il;have ja:=Gx.k0 dH;refine Sx.dq 2 (bY [40,100,111,32,112,117,116,32,40,100,111,32,103,101,116,32,40,41,32,43,32,49,41,59,32]) e (by simp only[ByteArray.size_append,Hk,List.length_cons,List.length_nil];omega)<|Sx.dq 0 ((bY [40,100,111,32,112,117,116,32,40,100,111,32,103,101,116,32,40,41,32,43,32,49,41,59,32])++e) (bY [41]) (by simp only[ByteArray.size_append,Hk,List.length_cons,List.length_nil];omega)<|xr 5 (.code (Sx.ct 16339 Tryz.f4)) [.to K2,.ar 0,.code (Sx.ct 511 Tryz.f4)] [(0,.n N),(1,.slice A M oc),(5,.string (wg [1,0,1,0,1,0,0])),(6,.n N),(7,.int .i64 0),(8,.string (((bY [40,100,111,32,112,117,116,32,40,100,111,32,103,101,116,32,40,41,32,43,32,49,41,59,32])++e)++(bY [41]))),(9,.n j)] fun b6=>Sx.vi 2 ((j:Int)-(1:Int)) ((j:Int)-1) ((IntWalk.i64_in _ (by omega))) ?_;have hE3:(((bY [40,100,111,32,112,117,116,32,40,100,111,32,103,101,116,32,40,41,32,43,32,49,41,59,32])++e)++(bY [41]))=dy.N.wV ((De lv M).drop j):=by rw[hd];exact aoU il dH he
   have awo:((((bY [40,100,111,32,112,117,116,32,40,100,111,32,103,101,116,32,40,41,32,43,32,49,41,59,32])++e)++(bY [41]))).size<=700:=by rw[hE3];exact Uu hM.1 j
   exact xi 2 _ (eC _ _ _ _ (by omega) ⟨((j:Int)-1),(((bY [40,100,111,32,112,117,116,32,40,100,111,32,103,101,116,32,40,41,32,43,32,49,41,59,32])++e)++(bY [41])),rfl,rfl,H8.pk [0],(by omega),(by rw[show((j:Int)-1+1).toNat=j by omega];assumption),(by assumption)⟩)
 have aiI:=of_decide_eq_false qh;have hi1:i= -1:=by omega
 rw[hi1] at he;have heE:e=dy.N.wV (De lv M):=he;refine xr 5 (.code (Sx.ct 511 Tryz.f4)) [] [(0,.n N),(1,.slice A M oc),(5,.string (wg [1,0,1,0,1,0,0])),(6,.n N),(7,.int .i64 0),(8,.string e)] fun b7=>?_;refine y0 7 (fun z l' w'=>∃(i:Nat) (now:Nat) (sum:Nat),l'=[(0,.n N),(1,.slice A M oc),(5,.string (wg [1,0,1,0,1,0,0])),(6,.n now),(7,.n sum),(8,.string e),(11,.n i)]/\z=M-i/\Hs w L0 w' [Cc w]/\(i<=M)/\(Uv ((De lv M).drop i) sum now (tI (De lv M) N))/\(now<=3000+i/\sum<=i*4000)) _ _ ⟨0,N,0,rfl,rfl,H7.pk [0],(Nat.zero_le _),⟨Nat.zero_add _,rfl⟩,(by omega)⟩ (fun b8 z2 l3 w7 xM K3 nj=>?_);obtain⟨i,now,sum,rfl,rfl,bD,hi,hl,hb⟩:=xM;refine xh 9 (decide ((i:Int)<(M:Int))) (fun CN=>?_) (fun CN=>?_)
 . have aiJ:=of_decide_eq_true CN;have ax:=hL i (by omega);obtain⟨ad,hA,o9⟩:=ax;have hd:=L8 (lv:=lv) (M:=M) (j:=i) (by omega);have hk3:fh (lv i) 3000<3000:=uU _ (by decide);have hk4:=Mn.iS 3 (n:=fh (lv i) 3000) (by omega);rw[hd] at hl;refine xv 8 ad i 1 M oc hA (by omega)<|xt (c:=1) (t:=3) 0 [.int .i64 (lv i)] (.int .i64 (lv i)) (Dd (bD.at 0 (it:=Cc w) (by kernel_rfl)) o9 (by decide)) ?_;refine xd 0 [] bD (fun Hp R hZ=>Hw (lv i) w7 R Hp  (fun w8 G5=>hZ _ _ _ G5 fun bG=>?_));refine xr 3 (.code (Sx.ct 130889 Tryz.f4)) [.ar 4,.code (Sx.ct 32723 Tryz.f4),.to K3,.ar 3,.code (Sx.ct 1023 Tryz.f4)] [(0,.n N),(1,.slice A M oc),(5,.string (wg [1,0,1,0,1,0,0])),(6,.n now),(7,.n sum),(8,.string e),(11,.n i),(12,.int .i64 (((fh (lv i) 3000):Nat):Int))] fun b9=>xq 3 (.int .i64 (Int.tmod (((fh (lv i) 3000):Nat):Int) (3:Int))) (.int .i64 ((((fh (lv i) 3000)%3):Nat):Int)) (congrArg (Value.int .i64) ((tm3 _))) ?_;refine xh 9 (((((fh (lv i) 3000)%3):Nat):Int)==(0:Int)) (fun lH=>?_) (fun lH=>?_)
   . have Lm:=Gx.k1 lH;refine Sx.vi 3 ((sum:Int)+(now:Int)) ((sum+now:Nat):Int) (Gx.bq (by omega) (by omega))<|Sx.vi 7 ((i:Int)+(1:Int)) ((i+1:Nat):Int) (Gx.bq (by omega) (by omega)) ?_;have hlx:=aiF lH hl;exact xi 2 _ (nj _ _ _ _ (by omega) ⟨(i+1),now,sum+now,rfl,rfl,bG.pk [0],(by omega),hlx,(by omega)⟩)
   refine xh 6 (((((fh (lv i) 3000)%3):Nat):Int)==(1:Int)) (fun uK=>?_) (fun uK=>?_)
   . have Lm:=Gx.k0 lH;have aiL:=Gx.k1 uK;refine Sx.vi 9 ((i:Int)+(1:Int)) ((i+1:Nat):Int) (Gx.bq (by omega) (by omega)) ?_;have hlx:=aiG lH uK hl;exact xi 2 _ (nj _ _ _ _ (by omega) ⟨(i+1),(fh (lv i) 3000),sum,rfl,rfl,bG.pk [0],(by omega),hlx,(by omega)⟩)
   have Lm:=Gx.k0 lH;have aiL:=Gx.k0 uK;refine Sx.vi 2 ((now:Int)+(1:Int)) ((now+1:Nat):Int) (Gx.bq (by omega) (by omega))<|xr 5 (.code (Sx.ct 32723 Tryz.f4)) [.to K3,.ar 3,.code (Sx.ct 1023 Tryz.f4)] [(0,.n N),(1,.slice A M oc),(5,.string (wg [1,0,1,0,1,0,0])),(6,.int .i64 ((now+1:Nat):Int)),(7,.n sum),(8,.string e),(11,.n i)] fun UW=>Sx.vi 2 ((i:Int)+(1:Int)) ((i+1:Nat):Int) (Gx.bq (by omega) (by omega)) ?_;have hlx:=aiH lH uK hl;exact xi 2 _ (nj _ _ _ _ (by omega) ⟨(i+1),now+1,sum,rfl,rfl,bG.pk [0],(by omega),hlx,(by omega)⟩)
 have aiJ:=of_decide_eq_false CN;have hiM:i=M:=by omega
 rw[hiM] at hl;have hTT:=XT hl;have hs6:=Mn.iS 5 (n:=sum) (by omega);have hn6:=Mn.iS 5 (n:=now) (by omega);have hN3:=Mn.iS 2 (n:=N) (by omega);refine xr 5 (.code (Sx.ct 1023 Tryz.f4)) [] [(0,.n N),(5,.string (wg [1,0,1,0,1,0,0])),(6,.n now),(7,.n sum),(8,.string e)] fun HR=>?_;have hp0:=N6 (lv:=lv) (M:=M) hT hN hM.1;unfold Mn.StateM at hp0;rw[hTT,<-heE] at hp0;refine Sx.dq 3 (wg [1,0,1,0,1,0,0]) (bY [32,109,97,105,110,32,61,32,115,116,97,116,101,32]) (by simp only[ByteArray.size_append,Hk,List.length_cons,List.length_nil];omega) ?_;refine xd 1 [] bD (fun Hp R hZ=>Hy N w7 R Hp (by omega) (fun w9 G6=>hZ _ _ _ G6 fun cx=>?_));refine Sx.dq 0 ((wg [1,0,1,0,1,0,0])++(bY [32,109,97,105,110,32,61,32,115,116,97,116,101,32])) (aP N) (by simp only[ByteArray.size_append,Hk,List.length_cons,List.length_nil];omega)<|Sx.dq 0 (((wg [1,0,1,0,1,0,0])++(bY [32,109,97,105,110,32,61,32,115,116,97,116,101,32]))++(aP N)) (bY [32,40,102,110,32,117,32,61,62,32]) (by simp only[ByteArray.size_append,Hk,List.length_cons,List.length_nil];omega)<|Sx.dq 1 ((((wg [1,0,1,0,1,0,0])++(bY [32,109,97,105,110,32,61,32,115,116,97,116,101,32]))++(aP N))++(bY [32,40,102,110,32,117,32,61,62,32])) e (by simp only[ByteArray.size_append,Hk,List.length_cons,List.length_nil];omega)<|Sx.dq 0 (((((wg [1,0,1,0,1,0,0])++(bY [32,109,97,105,110,32,61,32,115,116,97,116,101,32]))++(aP N))++(bY [32,40,102,110,32,117,32,61,62,32]))++e) (bY [41]) (by simp only[ByteArray.size_append,Hk,List.length_cons,List.length_nil];omega) ?_;refine xd 1 [] cx (fun Hp R hZ=>L9 sum w9 R Hp (by omega) (fun df G7=>hZ _ _ _ G7 fun cM=>?_));refine Sx.dq 0 (bY [40]) (aP sum) (by simp only[ByteArray.size_append,Hk,List.length_cons,List.length_nil];omega)<|Sx.dq 0 ((bY [40])++(aP sum)) (bY [44,32]) (by simp only[ByteArray.size_append,Hk,List.length_cons,List.length_nil];omega) ?_;refine xd 1 [] cM (fun Hp R hZ=>L9 now df R Hp (by omega) (fun gV G8=>hZ _ _ _ G8 fun dt=>?_));refine Sx.dq 0 (((bY [40])++(aP sum))++(bY [44,32])) (aP now) (by simp only[ByteArray.size_append,Hk,List.length_cons,List.length_nil];omega)<|Sx.dq 0 ((((bY [40])++(aP sum))++(bY [44,32]))++(aP now)) (bY [41]) (by simp only[ByteArray.size_append,Hk,List.length_cons,List.length_nil];omega) ?_;refine xd 0 [] dt (fun Hp R hZ=>XU ((((((wg [1,0,1,0,1,0,0])++(bY [32,109,97,105,110,32,61,32,115,116,97,116,101,32]))++(aP N))++(bY [32,40,102,110,32,117,32,61,62,32]))++e)++(bY [41])) (((((bY [40])++(aP sum))++(bY [44,32]))++(aP now))++(bY [41])) gV R Hp hp0 (fun jk G9=>hZ _ _ _ G9 fun ep=>?_));refine xr 3 (.code (Sx.ct 2047 Tryz.f4)) [] [(4,.bool true)] fun NI=>xf 1 [] ep (.bool true) ?_;subst aq;exact hK _ (ep.pk [0])
end Mr
end Go.Proofs.YtdmdecgoebnamaaGreat
