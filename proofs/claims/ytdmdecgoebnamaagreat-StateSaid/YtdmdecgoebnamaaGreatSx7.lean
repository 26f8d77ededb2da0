/- Slices of slices; what is read behind a row; rows that are made. -/
import Derived.Test.YtdmdecgoebnamaaGreatYb
import Derived.Test.YtdmdecgoebnamaaGreatMm
import Derived.Maps.RangeRun
set_option linter.unusedVariables false
set_option linter.unusedSimpArgs false
namespace Go.Sx
open Go.RowKit Go.Gx Go.MapKept
section
variable [Rd] {P:Program} {B:Exit->Act->Ψ->Prop} {b:Nat->Value} {n:Nat} {d:List Deferred} {w0 w:Ψ} {x:St} {L0 L:List Item}
omit [Rd] in
theorem add_add(a:Addr)(i j:Nat):(a.add i).add j=a.add (i+j):=by
 unfold Addr.add;by_cases hi:i=0
 . subst hi;simp
 . by_cases hj:j=0
   . subst hj;simp[hi]
   . simp[hi,hj,Nat.add_assoc]
omit [Rd] in
theorem ma{w:Ψ}{e sz cap c:Nat}{A:Ω}{xs:Θ}(h:(Item.own e sz A cap c xs).holds w):c<=cap:=by
 rcases h.2 with⟨hv,h0⟩|⟨g,dj,cur,hv,_,_,Bl,_⟩
 . omega
 . injection hv with _ _ h3;omega
def Ye(P:Program)(b:Nat->Value)(n:Nat)(x:St):Option Ask:=
 match hd b n x with
 |some q=>match q.2.2.op with
   |.slice t s lo hi mx=>match lo,hi,mx with
     |some k,none,none=>match P.underlying t with
       |some (.slice e)=>match P.info? e with
         |some inf=>some ⟨[ev b n x.l s,ev b n x.l k],[inf.size],x,q⟩
         |none=>none
       |_=>none
     |_,_,_=>none
   |_=>none
 |none=>none
theorem sf(m : Nat)(A : Ω)(len cap k sz : Nat)(hk : k <= len)(hc : len <= cap)
   (g:∀C:Ω,(C=none->A=none)->(∀a,C=some a->∃a0,A=some a0/\(k<len->a=a0.add (k*sz)))->Goal P B b n d (nx (vX (via P b n m w x (ask (Ye P b n)))).y (vX (via P b n m w x (ask (Ye P b n)))).q (.slice C (len-k) (cap-k))) w)
   (h:vA (via P b n m w x (ask (Ye P b n)))=vB w (via P b n m w x (ask (Ye P b n))):=by kernel_rfl)
   (h2:((vX (via P b n m w x (ask (Ye P b n)))).u,(vX (via P b n m w x (ask (Ye P b n)))).t)=([.slice A len cap,.int .i64 (k:Int)],[sz]):=by kernel_rfl):Goal P B b n d x w:=by
 obtain⟨y,hr,hf⟩:=cP h;refine aE hr ?_;generalize vX (via P b n m w x (ask (Ye P b n)))=z at *;unfold Ye at hf;split at hf<;>try contradiction
 rename_i q hq;split at hf<;>try contradiction
 rename_i t s lo hi mx hop;split at hf<;>try contradiction
 rename_i ko;split at hf<;>try contradiction
 rename_i e hu;split at hf<;>try contradiction
 rename_i inf ff;simp only[Option.some.injEq] at hf;subst hf;simp only[Prod.mk.injEq,List.cons.injEq,and_true] at h2;obtain⟨⟨h3,h4⟩,rfl⟩:=h2;refine cO hq (v:=.slice (if cap=k then A else A.map (·.add (k*inf.size))) (len-k) (cap-k)) ?_ (g _ ?_ ?_)
 . unfold execOp;have hl:((k:Int)<=(len:Int)):=by omega
   simp[hop,h3,h4,Instr.sliceAt,Instr.slice,run_underlying hu,Sem.run_bind,Instr.sliceBounds,Instr.sliceBound,asIntOf,go_sem,hl,hk,sizeOf,typeInfo,ff]
 . intro h;split at h
   . exact h
   . cases A with
     |none=>rfl
     |some a=>simp at h
 . intro a ha;split at ha
   . exact⟨a,ha,fun eK=>by omega⟩
   . cases A with
     |none=>simp at ha
     |some a0=>simp only[Option.map_some,Option.some.injEq] at ha;exact⟨a0,rfl,fun _=>ha.symm⟩
theorem aps(m i Pb k' e sz t c' : Nat)(C A : Ω)(cap c : Nat)(xs news : Θ)(H : Hs w0 L0 w L)(hC : C = none -> k' = 0)(ud : ∀ a, C = some a -> ∀ j u, news[j]? = some u -> w.cell? (a.add j) = some u)
   (hl:news.length=k'*sz) (h1:∀u∈news,u.oneCell'=true)
   (hb:(c+k')*Pb<=140737488355328) (hn:c+k'<=9223372036854775807) (Io:c<=cap) {BA:Θ} (hx:xs++news=BA)
   (k:∀A' dj w',Hs w0 L0 w' (L.set i (.own e sz A' dj (c+k') BA))->Goal P B b n d (nx (vX (via P b n m w x (ask (yz P b n)))).y (vX (via P b n m w x (ask (yz P b n)))).q (.slice A' (c+k') dj)) w')
   (h:vA (via P b n m w x (ask (yz P b n)))=vB w (via P b n m w x (ask (yz P b n))):=by kernel_rfl)
   (hi:L[i]?=some (.own e sz A cap c xs):=by kernel_rfl)
   (h2:((vX (via P b n m w x (ask (yz P b n)))).u,(vX (via P b n m w x (ask (yz P b n)))).t)=([.slice A c cap,.slice C k' c'],[t,t,e,sz,Pb,sz,1]):=by kernel_rfl)
   (hz:Nat.blt 0 sz=true:=by kernel_rfl):Goal P B b n d x w:=by
 subst hx;obtain⟨y,hr,hf⟩:=cP h;refine aE hr ?_;generalize vX (via P b n m w x (ask (yz P b n)))=z at *;unfold yz at hf;split at hf<;>try contradiction
 rename_i q hq;split at hf<;>try contradiction
 rename_i cl hop;split at hf<;>try contradiction
 rename_i tV;split at hf<;>try contradiction
 rename_i s yv t1 t2 hO kS;split at hf<;>try contradiction
 rename_i e1 hu;split at hf<;>try contradiction
 rename_i inf ff;simp only[Option.some.injEq] at hf;subst hf;simp only[Prod.mk.injEq,List.cons.injEq,and_true] at h2;obtain⟨⟨h3,h4⟩,rfl,rfl,rfl,rfl,rfl,h5,h6⟩:=h2;have Z4:inf.zero.map (·.cells.size)=some inf.size:=by
   cases Yb:inf.zero with
   |none=>simp[Yb] at h6
   |some zv=>simp only[Yb,Option.map_some,Option.getD_some] at h5;simp[h5]
 have wq:cl={ callee:=.builtin .append,args:=#[s,yv],argTypes:=#[t2,t2] }:=by
   obtain⟨ce,ca,ct⟩:=cl;simp only at tV hO kS;subst tV;congr 1
   . exact Array.toList_inj.1 hO
   . exact Array.toList_inj.1 kS
 have kQ:=H.at i hi;obtain⟨zv,Pk,X0⟩:=Option.map_eq_some_iff.1 Z4;have key:∃v' w',(Builtin.append_ #[t2,t2] q.2.2.type #[.slice A c cap,.slice C k' c']).run P w=.ok v' w'/\w'.ownsRow 0 e1 inf.size v' (c+k') (xs++news)/\w.grownBy w' (Value.slice A c cap).ownBlock/\(v'.ownBlock=(Value.slice A c cap).ownBlock∨v'.ownBlock=some w.heap.size):=by
   cases C with
   |some a=>
     obtain⟨v',w',r1,r2,r3,_,r4⟩:=run_append_own_at (P:=P) w 0 t2 q.2.2.type e1 inf zv inf.size inf.bytes hu ff Pk rfl rfl X0 (Nat.le_of_ble_eq_true hz) _ c xs kQ a k' c' news hl (ud a rfl) h1 (by unfold maxLen;omega) hb (Nat.zero_le _);exact⟨v',w',r1,r2,r3,r4⟩
   |none=>
     obtain rfl:=hC rfl;have ZR:news=[]:=List.eq_nil_of_length_eq_zero (by simpa using hl);subst ZR;refine⟨.slice A c cap,w,?_,by rw[Nat.add_zero,List.append_nil];exact kQ,⟨rfl,rfl,rfl,Nat.le_refl _,fun _ _ _=>rfl⟩,.inl rfl⟩;cases A<;>simp[Builtin.append_,run_underlying hu,sizeOf,typeInfo,ff,Builtin.lenOf,Builtin.firstCells,Io,storeCells,Sem.run_bind,Result.andThen]
 obtain⟨v',w',pC,Cj,hG,Pc⟩:=key;refine cO hq ?_ ?_ (v:=v') (w':=w')
 . unfold execOp;rw[hop,wq];simp[h3,h4,resolve,invoke,builtin,Sem.run_bind,pC]
 . obtain⟨A',dj,rfl⟩:=vc Cj;refine k A' dj w' (H.put i hi rfl (Kp.FB hG) Cj (fun cc hc=>?_));rcases Pc with q|q
   . exact .inl (q.symm.trans hc)
   . exact .inr (Nat.le_of_eq (Option.some.inj (q.symm.trans hc)))
end
end Go.Sx
namespace Go.aR
open Go.RowKit Go.Sx
def b_(l:List Nat):Θ:=l.map fun n:Nat=>.int .i64 (n:Int)
def eI:Option Nat->Int
 |none=> -1
 |some n=>(n:Int)
def ay(l:List (Option Nat)):Θ:=l.map fun o=>.int .i64 (eI o)
section
variable {P:Program} {t i:Nat}
theorem cE{l:List Nat}{n:Nat}(h:l[i]?=some n)(ht:P.underlying t=some (.int .i64):=by kernel_rfl):fO P t (b_ l) (i*1) (.int .i64 (n:Int)):=by
 unfold fO;rw[ht];simp[b_,h]
theorem Ip{l:List (Option Nat)}(h:l[i]?=some none)(ht:P.underlying t=some (.int .i64):=by kernel_rfl):fO P t (ay l) (i*1) (.int .i64 (-1)):=by
 unfold fO;rw[ht];simp[ay,eI,h]
theorem aW{l:List (Option Nat)}{n:Nat}(h:l[i]?=some (some n))(ht:P.underlying t=some (.int .i64):=by kernel_rfl):fO P t (ay l) (i*1) (.int .i64 (n:Int)):=by
 unfold fO;rw[ht];simp[ay,eI,h]
end
theorem Pm(l:List Nat):(b_ l).length=l.length:=List.length_map _
theorem ny(l:List (Option Nat)):(ay l).length=l.length:=List.length_map _
theorem FG(l:List Nat)(n:Nat):b_ l++[.int .i64 (n:Int)]=b_ (l++[n]):=by simp[b_]
theorem qP(l:List (Option Nat)){o:Option Nat}{v:Int}(h:v=eI o):ay l++[.int .i64 v]=ay (l++[o]):=by simp[ay,h]
theorem qQ(l:List (Option Nat))(i:Nat){o:Option Nat}{v:Int}(h:v=eI o):(ay l).set (i*1) (.int .i64 v)=ay (l.set i o):=by simp[ay,h,List.map_set]
def kW(w:Ψ)(S:Φ)(A:Ω)(l:List Nm):Prop:=∀i s,l[i]?=some s->∃a,A=some a/\S a.block/\w.cells? 0 (a.add (i*1)) 1=some [.string s]
theorem fW{w w':Ψ}{a:Addr}{n:Nat}{cs:Θ}(h:w.cells? 0 a n=some cs)(x:w'.heap[a.block]?=w.heap[a.block]?):w'.cells? 0 a n=some cs:=by
 have e:(fun i=>w'.cell? (a.add i))=fun i=>w.cell? (a.add i):=funext fun i=>by
   unfold World.cell?;have:(a.add i).block=a.block:=by unfold Addr.add;split<;>rfl
   rw[this,x]
 unfold World.cells? at h ⊢;rw[e];exact h
theorem ie(a:Addr)(n:Nat):(a.add n).block=a.block:=by unfold Addr.add;split<;>rfl
theorem kW.jh{w w':Ψ}{S:Nat->Prop}{A:Ω}{l:List Nm}(h:kW w S A l)(k:∀c,S c->w'.heap[c]?=w.heap[c]?):kW w' S A l:=fun i s hs=>by
 obtain⟨a,ha,hS,hc⟩:=h i s hs;exact⟨a,ha,hS,fW hc (by rw[ie];exact k _ hS)⟩
theorem kW.mono{w:Ψ}{S S':Nat->Prop}{A:Ω}{l:List Nm}(h:kW w S A l)(k:∀c,S c->S' c):kW w S' A l:=fun i s hs=>by
 obtain⟨a,ha,hS,hc⟩:=h i s hs;exact⟨a,ha,k _ hS,hc⟩
def bw(S:Φ)(A:Ω)(l:List Nm):Sx.Item:=.abs S (fun w=>kW w S A l)
def strs(l:List Nm):Θ:=l.map Value.string
theorem FH(S:Φ)(A:Ω)(l:List Nm):Sx.Loc S (fun w=>kW w S A l):=fun _ _ _ hk h=>h.jh hk
def gn(l:List Nm)(i:Nat):Nm:=(l[i]?).getD ⟨#[]⟩
theorem kr{l:List Nm}{i:Nat}(h:i<l.length):l[i]?=some (gn l i):=by simp[gn,h]
theorem Dt(a b:Nm):Oa a b=(Go.Op.bytesLess a.toList b.toList||(a.toList==b.toList)):=by unfold Oa;rw[ByteArray.toList_eq,ByteArray.toList_eq]
theorem eD(a b:Nm):dh a b=(a.toList==b.toList):=by unfold dh;rw[ByteArray.toList_eq,ByteArray.toList_eq]
theorem kW.nil{w:Ψ}{S:Nat->Prop}{l:List Nm}(h:kW w S none l):l=[]:=by
 cases l with
 |nil=>rfl
 |cons s l=>obtain⟨a,ha,_⟩:=h 0 s rfl;cases ha
theorem jD(l:List Nm)(s:Nm):strs l++[.string s]=strs (l++[s]):=by simp[strs]
theorem Cp{l:List Nm}{i:Nat}(h:i<l.length):strs (l.take i)++[.string (gn l i)]=strs (l.take (i+1)):=by
 rw[jD,List.take_add_one,kr h];rfl
theorem FI(l m:List Nm):strs l++strs m=strs (l++m):=by simp[strs]
theorem zA(l:List Nm):∀u∈strs l,u.oneCell'=true:=by
 intro u hu;obtain⟨s,_,rfl⟩:=List.mem_map.1 hu;rfl
theorem Du{s:Nm}:∀{l:List Nm}{i:Nat},i<=l.length->(∀j,j<i->Oa (gn l j) s=true)->(i=l.length∨Oa (gn l i) s=false)->jg l s=l.take i++s::l.drop i
 | [], i, h, _, _ => by have : i = 0 := by simpa using h
                        subst this;rfl
 |x::l,0,_,_,hx=>by
   rcases hx with q|q
   . simp at q
   . have:Oa x s=false:=q;simp[jg,this]
 |x::l,i+1,h,hle,hx=>by
   have h0:Oa x s=true:=hle 0 (by omega);simp only[jg,h0,if_true,List.take_succ_cons,List.drop_succ_cons,List.cons_append];have e:gn (x::l) (i+1)=gn l i:=by simp[gn]
   have hx':i=l.length∨Oa (gn l i) s=false:=hx.imp (fun q=>by simpa using q) (fun q=>e▸q);rw[Du (l:=l) (i:=i) (by simpa using h) (fun j hj=>hle (j+1) (by omega)) hx']
theorem pN(l:List Nm)(s:Nm):(jg l s).length=l.length+1:=by
 induction l with
 |nil=>rfl
 |cons x l ih=>unfold jg;split<;>simp[ih]
theorem Po{a b:Bool}(h:(a&&b)=true):a=true/\b=true:=by cases a<;>cases b<;>simp_all
theorem Pp{a b:Bool}(h:(a&&b)=false):a=false∨b=false:=by cases a<;>cases b<;>simp_all
theorem eu{w:Ψ}:(bw (fun _=>False) none []).holds w:=⟨fun _ _ h=>by simp at h,fun _ h=>h.elim,FH _ _ _⟩
theorem Pq{w:Ψ}{e n cap:Nat}{A:Ω}{l:List Nm}(h:w.ownsRow 0 e 1 (.slice A n cap) n (strs l)):(bw (fun c=>(Value.slice A n cap).ownBlock=some c) A l).holds w:=by
 refine⟨fun i s hs=>?_,fun c hc=>O7 h hc,FH _ _ _⟩;have hn:l.length=n:=by have:=h.1;simpa[strs] using this
 have hi:i<n:=by rw[<- hn];exact(List.getElem?_eq_some_iff.1 hs).1
 rcases h.2 with⟨_,h0⟩|⟨g,dj,cur,hv,_,hg,Bl,_,o9,ht⟩
 . omega
 . injection hv with h1 h2 h3;subst h1 h3;refine ⟨_, rfl, rfl, ?_⟩;have hc : cur[i]? = some (.string s) := by
     have:(cur.toList.take (n*1))[i]?=some (.string s):=by rw[ht,strs,List.getElem?_map,hs];rfl
     rw[List.getElem?_take,if_pos (by omega)] at this;simpa using this
   have:(⟨g,0,none⟩:Addr).add (i*1)=⟨g,i,none⟩:=by unfold Addr.add;split<;>simp_all
   rw[this];refine ChangeShapes.cells?_of (Nat.zero_le _) rfl (fun j hj=>?_);have hj0:j=0:=by simpa using hj
   subst hj0;rw[Nat.add_zero,cell_of_row w g i cur e (0,0) hg];simpa using hc
section
variable {w0 w:Ψ} {L0 L:List Sx.Item}
theorem Hs.toStr(H:Hs w0 L0 w L)(i:Nat){e n cap:Nat}{A:Ω}{l:List Nm}(hi:L[i]?=some (.own e 1 A cap n (strs l))):Hs w0 L0 w (L.set i (bw (fun c=>(Value.slice A n cap).ownBlock=some c) A l)):=
 H.ayy i _ hi rfl (Pq (H.at i hi)) (fun _ h=>h)
end
abbrev Slot:=Ω×Nat×Nat
def FJ(s:Slot):Value:=.slice s.1 s.2.1 s.2.2
def Yf(w:Ψ)(S:Φ)(sl:List Slot)(ops:List (List Nm)):Prop:=sl.length=ops.length/\∀(r:Nat)(s:Slot)(l:List Nm),sl[r]?=some s->ops[r]?=some l->s.2.1=l.length/\kW w S s.1 l
def iW(S:Φ)(sl:List Slot)(ops:List (List Nm)):Sx.Item:=.abs S (fun w=>Yf w S sl ops)
theorem vn(S:Φ)(sl:List Slot)(ops:List (List Nm)):Sx.Loc S (fun w=>Yf w S sl ops):=fun _ _ _ hk h=>⟨h.1,fun r s l h1 h2=>⟨(h.2 r s l h1 h2).1,(h.2 r s l h1 h2).2.jh hk⟩⟩
abbrev lU(n:Int):Value:=.int .i64 n
def HD(l:List (Int×Nat)):List (Int×Value):=l.map fun p=>(p.1,.int .i64 (p.2:Int))
abbrev jY(b:Nat)(l:List (Int×Nat)):Sx.Item:=t_ (.int .i64) lU b (HD l)
structure Gm where
 k:Ω×Nat
 a:Ω×Nat
 b:Ω×Nat
 r:Ω×Nat
 l:Ω×Nat
 o:Ω×Nat
 n:Ω×Nat
 bt:Nat
 br:Nat
 sl:List Slot
 S:Nat->Prop
 nk:Nat
 no:Nat
abbrev gL(bg:Nat)(g:G)(m:Gm):List Sx.Item:=
 [.ar bg (.cells #[.slice m.k.1 m.nk m.k.2,.slice m.a.1 m.nk m.a.2,.slice m.b.1 m.nk m.b.2,.slice m.r.1 m.nk m.r.2,.slice m.l.1 m.nk m.l.2,.slice m.o.1 m.no m.o.2,.slice m.n.1 m.no m.n.2,.map (some m.bt),.map (some m.br)] 154),
  .own 3 1 m.k.1 m.k.2 m.nk (b_ g.kind),.own 3 1 m.a.1 m.a.2 m.nk (ay g.a),.own 3 1 m.b.1 m.b.2 m.nk (ay g.b),.own 3 1 m.r.1 m.r.2 m.nk (b_ g.row),.own 3 1 m.l.1 m.l.2 m.nk (ay g.link),
  .own 30 1 m.o.1 m.o.2 m.no (m.sl.map FJ),.own 3 1 m.n.1 m.n.2 m.no (ay g.next),jY m.bt g.tv,jY m.br g.rv,iW m.S m.sl g.ops]
def GI(S:Φ)(bg:Nat)(g:G):Sx.Item:=comp (fun L=>∃m,L=gL bg g m) S
section
variable {w0 w:Ψ} {L0 L:List Sx.Item}
theorem bl(H:Hs w0 L0 w L)(i:Nat){S:Nat->Prop}{bg:Nat}{g:G}(hi:bB [i] L=some [GI S bg g]:=by kernel_rfl):∃m,Hs w0 L0 w (gL bg g m++rest [i] L):=by
 obtain⟨L',⟨m,rfl⟩,h⟩:=H.eR i hi;exact⟨m,h⟩
theorem au(H:Hs w0 L0 w L)(I:List Nat){bg:Nat}{g:G}(m:Gm)(hi:bB I L=some (gL bg g m):=by kernel_rfl):∃S,Hs w0 L0 w (GI S bg g::rest I L):=
 ⟨_,H.cls I hi ⟨m,rfl⟩ rfl⟩
theorem cf{R:List Sx.Item}{bg:Nat}{g:G}{m:Gm}(h:Hs w0 L0 w (gL bg g m++R)):g.kind.length=m.nk/\g.a.length=m.nk/\g.b.length=m.nk/\g.row.length=m.nk/\g.link.length=m.nk/\g.ops.length=m.no/\g.next.length=m.no/\m.sl.length=m.no:=by
 have q:=(h.at 1 rfl).1;have a:=(h.at 2 rfl).1;have b:=(h.at 3 rfl).1;have c:=(h.at 4 rfl).1;have d:=(h.at 5 rfl).1;have e:=(h.at 7 rfl).1;have f:=(h.at 6 rfl).1;have r:=(h.at 10 rfl).1.1;simp only[ny,Pm,Nat.mul_one,List.length_map] at a b c d e f q;exact⟨q,a,b,c,d,by omega,e,f⟩
theorem Z8(sl:List Slot)(A:Ω)(n c:Nat):sl.map FJ++[.slice A n c]=(sl++[(A,n,c)]).map FJ:=by simp[FJ]
theorem Z9(sl:List Slot)(i:Nat)(A:Ω)(n c:Nat):(sl.map FJ).set (i*1) (.slice A n c)=(sl.set i (A,n,c)).map FJ:=by simp[FJ,List.map_set]
theorem Yg{P:Program}{t i:Nat}{sl:List Slot}{s:Slot}(h:sl[i]?=some s)(ht:(match P.underlying t with|some (.slice _)=>true|_=>false)=true:=by kernel_rfl):fO P t (sl.map FJ) (i*1) (.slice s.1 s.2.1 s.2.2):=by
 unfold fO;split at ht
 . rename_i e hu;rw[hu];simp[h,FJ]
 . cases ht
theorem kW.drop{w:Ψ}{S:Nat->Prop}{A C:Ω}{l:List Nm}{k:Nat}(h:kW w S A l)(hC:∀a,C=some a->∃a0,A=some a0/\(k<l.length->a=a0.add (k*1)))(hn:C=none->A=none):kW w S C (l.drop k):=fun i s hs=>by
 rw[List.getElem?_drop] at hs;have hk:k<l.length:=by have:=(List.getElem?_eq_some_iff.1 hs).1;omega
 obtain⟨a0,ha,hS,hc⟩:=h (k+i) s hs;cases C with
 |none=>rw[hn rfl] at ha;cases ha
 |some a=>
   obtain⟨a1,h1,h2⟩:=hC a rfl;rw[ha] at h1;cases h1;have:=h2 hk;subst this;refine⟨_,rfl,by rw[ie];exact hS,?_⟩;rw[add_add,<-Nat.add_mul];exact hc
theorem kW.cell{w:Ψ}{S:Nat->Prop}{A:Ω}{l:List Nm}(h:kW w S A l){a:Addr}(ha:A=some a):∀j u,(strs l)[j]?=some u->w.cell? (a.add j)=some u:=by
 intro j u hu;rw[strs,List.getElem?_map] at hu;cases hs:l[j]? with
 |none=>simp[hs] at hu
 |some s=>
   rw[hs,Option.map_some] at hu;cases hu;obtain⟨a',O1,_,hc⟩:=h j s hs;rw[ha] at O1;cases O1;have:=(World.cells?_some hc).2.2 0 (by decide);rw[show(a.add (j*1)).add 0=a.add j by rw[Nat.mul_one];simp[Addr.add]] at this;simpa using this
theorem Pr(H : Hs w0 L0 w L)(I : List Nat){S S2 : Nat -> Prop}{sl : List Slot}{ops : List (List Nm)}{A : Ω}{l : List Nm}{c n : Nat}(hp : bB I L = some [iW S sl ops, bw S2 A l])(hn : n = l.length) :
   ∃S',Hs w0 L0 w (iW S' (sl++[(A,n,c)]) (ops++[l])::rest I L):=by
 have h1:=H.pick I hp;have a:=(h1.at 0 rfl).1;have b:=(h1.at 1 rfl).1;have k:=H.cls I hp (shape:=fun L=>L=[iW S sl ops,bw S2 A l]) rfl rfl;have e:∀q,Ig [iW S sl ops,bw S2 A l] q↔S q∨S2 q:=fun q=>by simp[Ig,iW,bw,Sx.Item.fp]
 refine⟨fun q=>S q∨S2 q,k.ayy 0 (iW (fun q=>S q∨S2 q) (sl++[(A,n,c)]) (ops++[l])) rfl rfl ⟨⟨by simp[a.1],fun r s l' hs hl=>?_⟩,fun q hq=>?_,vn _ _ _⟩ (fun q hq=>(e q).2 hq)⟩
 . rcases Nat.lt_or_ge r sl.length with q|q
   . rw[List.getElem?_append_left q] at hs;rw[List.getElem?_append_left (by rw[<- a.1];exact q)] at hl;exact⟨(a.2 r s l' hs hl).1,(a.2 r s l' hs hl).2.mono (fun _ h=>.inl h)⟩
   . rw[List.getElem?_append_right q] at hs;rw[List.getElem?_append_right (by rw[<- a.1];exact q)] at hl;rw[<- a.1] at hl;cases hr:r-sl.length with
     |zero=>rw[hr] at hs hl;simp at hs hl;subst hs hl;exact⟨hn,b.mono (fun _ h=>.inr h)⟩
     |succ j=>rw[hr] at hs;simp at hs
 . rcases hq with q'|q'
   . exact(h1.at 0 rfl).2.1 q q'
   . exact(h1.at 1 rfl).2.1 q q'
theorem Ps(H : Hs w0 L0 w L)(I : List Nat)(v : Nat){S S2 : Nat -> Prop}{sl : List Slot}{ops : List (List Nm)}{A : Ω}{l : List Nm}{c n : Nat}(hp : bB I L = some [iW S sl ops, bw S2 A l])(hn : n = l.length) :
   ∃S',Hs w0 L0 w (iW S' (sl.set v (A,n,c)) (ops.set v l)::rest I L):=by
 have h1:=H.pick I hp;have a:=(h1.at 0 rfl).1;have b:=(h1.at 1 rfl).1;have k:=H.cls I hp (shape:=fun L=>L=[iW S sl ops,bw S2 A l]) rfl rfl;have e:∀q,Ig [iW S sl ops,bw S2 A l] q↔S q∨S2 q:=fun q=>by simp[Ig,iW,bw,Sx.Item.fp]
 refine⟨fun q=>S q∨S2 q,k.ayy 0 (iW (fun q=>S q∨S2 q) (sl.set v (A,n,c)) (ops.set v l)) rfl rfl ⟨⟨by simp[a.1],fun r s l' hs hl=>?_⟩,fun q hq=>?_,vn _ _ _⟩ (fun q hq=>(e q).2 hq)⟩
 . rw[List.getElem?_set] at hs hl;by_cases q:v=r
   . subst q;rw[if_pos rfl] at hs hl;split at hs<;>try contradiction
     split at hl<;>try contradiction
     cases hs;cases hl;exact⟨hn,b.mono (fun _ h=>.inr h)⟩
   . rw[if_neg q] at hs hl;exact⟨(a.2 r s l' hs hl).1,(a.2 r s l' hs hl).2.mono (fun _ h=>.inl h)⟩
 . rcases hq with q'|q'
   . exact(h1.at 0 rfl).2.1 q q'
   . exact(h1.at 1 rfl).2.1 q q'
end
theorem bM{P:Program}{t i:Nat}{l:List (Option Nat)}{o:Option Nat}(h:l[i]?=some o)(ht:P.underlying t=some (.int .i64):=by kernel_rfl):fO P t (ay l) (i*1) (.int .i64 (eI o)):=by
 unfold fO;rw[ht];simp[ay,h]
theorem Ke{w0 w:Ψ}{L0 L:List Sx.Item}(H:Hs w0 L0 w L)(j:Nat){S:Nat->Prop}{sl:List Slot}{ops:List (List Nm)}{r:Nat}{s:Slot}{l:List Nm}(hi:L[j]?=some (iW S sl ops))(hs:sl[r]?=some s)(hl:ops[r]?=some l):s.2.1=l.length/\kW w S s.1 l:=(H.at j hi).1.2 r s l hs hl
theorem Vw{o:Option Nat}(h:(eI o==(-1:Int))=true):o=none:=by
 cases o with
 |none=>rfl
 |some n=>have:=eq_of_beq h;simp only[eI] at this;omega
theorem Vx{o:Option Nat}(h:(eI o==(0:Int))=true):o=some 0:=by
 cases o with
 |none=>have:=eq_of_beq h;simp[eI] at this
 |some n=>have:=eq_of_beq h;simp only[eI] at this;congr 1;omega
theorem Z_{o:Option Nat}(h:(eI o==(-1:Int))=false)(h0:(eI o==(0:Int))=false):∃q,o=some (q+1):=by
 cases o with
 |none=>simp[eI] at h
 |some n=>
   cases n with
   |zero=>simp[eI] at h0
   |succ q=>exact⟨q,rfl⟩
theorem mg{z r v : Nat}{g : G}{acc l : List Nm}(h : whole (z + 1) g r acc = some (l, v)) :
   ∃lr nx,g.ops[r]?=some lr/\acc.length+lr.length<1000000000/\g.next[r]?=some nx/\(nx=none->c_ acc lr=l/\r=v)/\(nx=some 0->c_ acc lr=l/\0=v)/\∀q,nx=some (q+1)->whole z g (q+1) (c_ acc lr)=some (l,v):=by
 unfold whole at h;split at h
 . rename_i lr hl;split at h
   . rename_i hb;split at h<;>rename_i hn
     . simp at h;exact⟨lr,_,hl,hb,hn,fun _=>h,by simp,by simp⟩
     . simp at h;exact⟨lr,_,hl,hb,hn,by simp,fun _=>h,by simp⟩
     . exact⟨lr,_,hl,hb,hn,by simp,by simp,fun q e=>by cases e;exact h⟩
     . cases h
   . cases h
 . cases h
theorem FK{k r:Nat}{g:G}{acc:List Nm}{o:List Nm×Nat}(h:whole k g r acc=some o):r<g.ops.length:=by
 cases k with
 |zero=>simp[whole] at h
 |succ z=>
   obtain⟨l,v⟩:=o;obtain⟨lr,_,hl,_⟩:=mg h;exact(List.getElem?_eq_some_iff.1 hl).1
theorem FL{l:List Nm}{i:Nat}(a:List Nm)(h:i<l.length):c_ a (l.drop i)=c_ (jg a (gn l i)) (l.drop (i+1)):=by
 rw[List.drop_eq_getElem_cons h];have:gn l i=l[i]:=by simp[gn,h]
 rw[this];rfl
theorem zB(a l:List Nm):(c_ a l).length=a.length+l.length:=by
 induction l generalizing a with
 |nil=>rfl
 |cons s l ih=>rw[c_,ih,pN,List.length_cons];omega
end Go.aR
namespace Go.Sx
open Go.RowKit Go.Gx
theorem akv{b:Bool}{p:Prop}(h:b=true)(h0:b=false):p:=by rw[h0] at h;cases h
theorem spN{w:Ψ}{LJ:List Item}(h:LJ=[]):Sp w LJ:=by subst h;exact⟨fun _ h=>(by cases h),.nil⟩
structure Tz where
 o:Oper
 k:Value->St
 l:List (Nat×Value)
instance:Inhabited Tz:=⟨⟨default,fun _=>default,[]⟩⟩
def iX(b:Nat->Value)(n i:Nat)(C:List Nat)(x:St):Option (Nat×Nat×Tz):=
 match x.f with
 |.any ops LJ D fuel al=>match fuel with
   |fuel+1=>match ops[i]? with
     |some o=>match Region.noSelect ops&&(Region.free .any ops al i&&((Region.ready .any ops al).contains i&&!D.contains i))&&(Region.wanted o (yl ops b n x.l)&&(waits .any ops C i&&!C.contains i&&D.all C.contains&&C.all (fun c=>!al.getD c true))) with
       |true=>some (0,0,⟨o,fun v=>⟨.any ops LJ D fuel (al.setIfInBounds i true),x.k,iE o v x.l⟩,x.l⟩)
       |false=>none
     |none=>none
   |0=>none
 |_=>none
section
variable [Rd] {P:Program} {B:Exit->Act->Ψ->Prop} [Pn B] {b:Nat->Value} {n:Nat} {d:List Deferred} {w0 w:Ψ} {x:St} {L0 L:List Item}
theorem tv(i : Nat)(C : List Nat)(v : Value)(hS : pL x = true -> Sp w (kU x))
   (hr:∀w',Sp w' (kU x)->(execOp (ev b n (vX (via P b n 0 w x (iX b n i C))).l) (vX (via P b n 0 w x (iX b n i C))).o).run P w'=.ok (.value v) w')
   (k:Goal P B b n d ((vX (via P b n 0 w x (iX b n i C))).k v) w)
   (h:vA (via P b n 0 w x (iX b n i C))=vB w (via P b n 0 w x (iX b n i C))):Goal P B b n d x w:=by
 obtain⟨a,y,ME,hf⟩:=gK h;simp only[run,Option.some.injEq,Prod.mk.injEq,true_and] at ME;subst ME;generalize vX (via P b n 0 w x (iX b n i C))=z at *;obtain⟨f,kk,l⟩:=x;unfold iX at hf;split at hf<;>try contradiction
 rename_i ops LJ D fuel al u4;split at hf<;>try contradiction
 rename_i fuel;split at hf<;>try contradiction
 rename_i o ho;split at hf<;>try contradiction
 rename_i hc;simp only at u4;subst u4;simp only[Option.some.injEq,Prod.mk.injEq] at hf;obtain⟨_,_,rfl⟩:=hf;rw[Bool.and_eq_true,Bool.and_eq_true (Region.wanted _ _)] at hc;obtain⟨h0,hw,hC⟩:=hc;simp only[Bool.and_eq_true (Region.noSelect _),Bool.and_eq_true (Region.free _ _ _ _),Bool.and_eq_true (Array.contains _ _),Bool.and_eq_true (List.contains _ _),Bool.not_eq_true'] at h0;obtain⟨h1,h2,h3,h4⟩:=h0;have hC':=hC;simp only[Bool.and_eq_true] at hC';have wq:clear D al=true:=zm hC'.1.2 (fun c hc=>by simpa using List.all_eq_true.1 hC'.2 c hc);exact zn i C v v rfl ho h1 h2 h3 h4 hC (fun _ _ _=>tW) (hS wq) hw hr k
def iaO(P:Program)(b:Nat->Value)(n:Nat)(z:Tz):Option (Θ×List Nat):=match z.o.op with
 |.indexAddr t s ix=>match P.underlying t with
   |some (.slice e)=>match P.info? e with
     |some inf=>some ([ev b n z.l s,ev b n z.l ix],[inf.size])
     |none=>none
   |_=>none
 |_=>none
theorem tvi(i : Nat)(C : List Nat)(a : Addr)(j sz len cap : Nat){A : Ω}(hA : A = some a)(hj : j < len)(hS : pL x = true -> Sp w (kU x))
   (k:Goal P B b n d ((vX (via P b n 0 w x (iX b n i C))).k (.pointer (some (a.add (j*sz))))) w)
   (h:vA (via P b n 0 w x (iX b n i C))=vB w (via P b n 0 w x (iX b n i C)):=by kernel_rfl)
   (h2:iaO P b n (vX (via P b n 0 w x (iX b n i C)))=some ([.slice A len cap,.int .i64 (j:Int)],[sz]):=by kernel_rfl):Goal P B b n d x w:=by
 refine tv i C _ hS (fun w' _=>?_) k h;generalize vX (via P b n 0 w x (iX b n i C))=z at *;unfold iaO at h2;split at h2<;>try contradiction
 rename_i t s ix hop;split at h2<;>try contradiction
 rename_i e hu;split at h2<;>try contradiction
 rename_i inf ff;simp only[Option.some.injEq,Prod.mk.injEq,List.cons.injEq,and_true] at h2;obtain⟨⟨h3,h4⟩,rfl⟩:=h2;exact px hop e inf.size hu (by rw[ff];rfl) a hA len cap h3 .i64 j h4 hj
theorem tvg(i : Nat)(C : List Nat)(g j sz len cap : Nat)(hj : j < len)(hS : pL x = true -> Sp w (kU x))
   (k:Goal P B b n d ((vX (via P b n 0 w x (iX b n i C))).k (.pointer (some ⟨g,j*sz,none⟩))) w)
   (h:vA (via P b n 0 w x (iX b n i C))=vB w (via P b n 0 w x (iX b n i C)):=by kernel_rfl)
   (h2:iaO P b n (vX (via P b n 0 w x (iX b n i C)))=some ([.slice (some ⟨g,0,none⟩) len cap,.int .i64 (j:Int)],[sz]):=by kernel_rfl):Goal P B b n d x w:=by
 refine tvi i C ⟨g,0,none⟩ j sz len cap rfl hj hS ?_ h h2;have e:(⟨g,0,none⟩:Addr).add (j*sz)=⟨g,j*sz,none⟩:=by unfold Addr.add;split<;>simp_all
 rw[e];exact k
def ldO(b:Nat->Value)(n:Nat)(z:Tz):Option (Θ×List Nat):=match z.o.op with
 |.load t s=>some ([ev b n z.l s],[t])
 |_=>none
theorem tvl(i : Nat)(C : List Nat)(jj e sz t g cap c off : Nat)(xs : Θ)(v : Value)(hv : fO P t xs off v)(hS : pL x = true -> Sp w (kU x))
   (k:Goal P B b n d ((vX (via P b n 0 w x (iX b n i C))).k v) w)
   (h:vA (via P b n 0 w x (iX b n i C))=vB w (via P b n 0 w x (iX b n i C)):=by kernel_rfl)
   (h2:ldO b n (vX (via P b n 0 w x (iX b n i C)))=some ([.pointer (some ⟨g,off,none⟩)],[t]):=by kernel_rfl) (hi:(kU x)[jj]?=some (.own e sz (some ⟨g,0,none⟩) cap c xs):=by kernel_rfl):Goal P B b n d x w:=by
 refine tv i C _ hS (fun w' hs=>?_) k h;generalize vX (via P b n 0 w x (iX b n i C))=z at *;unfold ldO at h2;split at h2<;>try contradiction
 rename_i t' s hop;simp only[Option.some.injEq,Prod.mk.injEq,List.cons.injEq,and_true] at h2;obtain⟨h3,rfl⟩:=h2;obtain⟨cur,hg,ht,_⟩:=FD (hs.all _ (List.mem_of_getElem? hi));exact Gx.run_load hop off v h3 hg (J_ hv ht)
theorem tvo(i : Nat)(C : List Nat){a : Addr}{t c : Nat}(cs : Θ)(v : Value)(hc : ∀ w', Sp w' (kU x) -> w'.cells? 0 a c = some cs)(hS : pL x = true -> Sp w (kU x))
   (k:Goal P B b n d ((vX (via P b n 0 w x (iX b n i C))).k v) w)
   (h:vA (via P b n 0 w x (iX b n i C))=vB w (via P b n 0 w x (iX b n i C)):=by kernel_rfl)
   (h2:ldO b n (vX (via P b n 0 w x (iX b n i C)))=some ([.pointer (some a)],[t]):=by kernel_rfl)
   (hm:Nat.beq cs.length c=true:=by kernel_rfl) (hv:Fv P t cs=some v:=by kernel_rfl):Goal P B b n d x w:=by
 refine tv i C _ hS (fun w' hs=>?_) k h;generalize vX (via P b n 0 w x (iX b n i C))=z at *;unfold ldO at h2;split at h2<;>try contradiction
 rename_i t' s hop;simp only[Option.some.injEq,Prod.mk.injEq,List.cons.injEq,and_true] at h2;obtain⟨h3,rfl⟩:=h2;exact Ci hop cs v h3 c (hc w' hs) hm hv
theorem Pt(i : Nat)(C : List Nat)(u v : Value)(e : u = v)(hS : pL x = true -> Sp w (kU x))
   (k:Goal P B b n d ((vX (via P b n 0 w x (iX b n i C))).k v) w)
   (h:vA (via P b n 0 w x (iX b n i C))=vB w (via P b n 0 w x (iX b n i C)):=by kernel_rfl)
   (h2:∀w',(execOp (ev b n (vX (via P b n 0 w x (iX b n i C))).l) (vX (via P b n 0 w x (iX b n i C))).o).run P w'=.ok (.value u) w':=by intro w';kernel_rfl):Goal P B b n d x w:=by
 subst e;exact tv i C _ hS (fun w' _=>h2 w') k h
end
section
variable [Rd] {P:Program} {B:Exit->Act->Ψ->Prop} {b:Nat->Value} {n:Nat} {d:List Deferred} {w0 w:Ψ} {x:St} {L0 L:List Item}
def Yh(P:Program)(b:Nat->Value)(n:Nat)(x:St):Option Ask:=
 match hd b n x with
 |some q=>match q.2.2.op with
   |.makeSlice t l c=>match P.underlying t with
     |some (.slice e)=>match P.info? e with
       |some inf=>match inf.zero with
         |some z=>some ⟨[ev b n x.l l,ev b n x.l c,z],[e,inf.size,inf.bytes],x,q⟩
         |none=>none
       |none=>none
     |_=>none
   |_=>none
 |none=>none
theorem mk(m e Pb len : Nat)(z : Value)(H : Hs w0 L0 w L)(hb : Pb * len <= 281474976710656)(hn : len <= 9223372036854775807)
   (k:∀g w',Hs w0 L0 w' (L++[.own e 1 (some ⟨g,0,none⟩) len len (List.replicate len z)])->Goal P B b n d (nx (vX (via P b n m w x (ask (Yh P b n)))).y (vX (via P b n m w x (ask (Yh P b n)))).q (.slice (some ⟨g,0,none⟩) len len)) w')
   (h:vA (via P b n m w x (ask (Yh P b n)))=vB w (via P b n m w x (ask (Yh P b n))):=by kernel_rfl)
   (h2:((vX (via P b n m w x (ask (Yh P b n)))).u,(vX (via P b n m w x (ask (Yh P b n)))).t)=([.int .i64 (len:Int),.int .i64 (len:Int),z],[e,1,Pb]):=by kernel_rfl) (hz:z.cells=#[z]:=by kernel_rfl):Goal P B b n d x w:=by
 obtain⟨y,hr,hf⟩:=cP h;refine aE hr ?_;generalize vX (via P b n m w x (ask (Yh P b n)))=zz at *;unfold Yh at hf;split at hf<;>try contradiction
 rename_i q hq;split at hf<;>try contradiction
 rename_i t l c hop;split at hf<;>try contradiction
 rename_i e1 hu;split at hf<;>try contradiction
 rename_i inf ff;split at hf<;>try contradiction
 rename_i zv Pk;simp only[Option.some.injEq] at hf;subst hf;simp only[Prod.mk.injEq,List.cons.injEq,and_true] at h2;obtain⟨⟨h3,h4,rfl⟩,rfl,Ch,rfl⟩:=h2;obtain⟨w',hr,kQ,hg'⟩:=run_make_full (P:=P) w 0 t e1 inf zv 1 hu ff Pk Ch .i64 .i64 len hb (by unfold maxLen;omega) (Nat.zero_le _);rw[hz,Nat.mul_one,toList_madeCells_one] at kQ;refine cO hq ?_ (k w.heap.size w' (H.add (it:=.own e1 1 (some ⟨w.heap.size,0,none⟩) len len (List.replicate len zv)) hg' kQ (fun c hc=>?_)))
 . unfold execOp;simp[hop,h3,h4,Sem.run_bind,hr]
 . have:some w.heap.size=some c:=hc;exact Nat.le_of_eq (Option.some.inj this)
end
end Go.Sx
namespace Go.Sx
section
variable [Rd] {P:Program} {B:Exit->Act->Ψ->Prop} {b:Nat->Value} {n:Nat} {d:List Deferred} {w:Ψ} {x:St}
theorem nmx(k:let z:=x;Goal P B b n d z w):Goal P B b n d x w:=k
end
end Go.Sx
namespace Go.Sx
open Go.RowKit Go.Gx
section
variable {w0 w:Ψ} {L0 L:List Item}
theorem Hs.wy(H:Hs w0 L0 w L)(i sz n:Nat){k e:Nat}{cs:Array Value}(hi:L[i]?=some (.ar k (.cells cs e)))(hs:cs.size=n*sz)(hn:n<=9223372036854775807):Hs w0 L0 w (L.set i (.own e sz (some ⟨k,0,none⟩) n n cs.toList)):=
 H.ayy i _ hi rfl ⟨by simpa using hs,.inr ⟨k,n,cs,rfl,Nat.zero_le _,H.at i hi,Nat.le_refl _,hn,hs,List.take_of_length_le (by rw[Array.length_toList,hs];exact Nat.le_refl _)⟩⟩ (fun c hc=>by
   have:some k=some c:=hc
   exact(Option.some.inj this).symm)
end
end Go.Sx
namespace Go.Sx
open Go.RowKit Go.Gx Go.MapKept
section
variable [Rd] {P:Program} {B:Exit->Act->Ψ->Prop} [Pn B] {b:Nat->Value} {n:Nat} {d:List Deferred} {w0 w:Ψ} {x:St} {L0 L:List Item} {α:Type} [DecidableEq α]
omit [Rd] in
theorem aaa{o : Oper}{t kt et : TypeId}{mo ix : Operand}{l : List (Nat × Value)}(hop : o.op = .lookup t mo ix true){kd : TypeDesc}{enc : α -> Value}{bt : Nat}{mp : List (α × Value)}{a : α}{z : Value}
   (h3:ev b n l mo=.map (some bt)) (h4:ev b n l ix=enc a) (hh:(t_ kd enc bt mp).holds w) (hk:∀a,IsKey kd (enc a)) (vk:∀a b,enc a=enc b->a=b)
   (ht:lS P t=some (kt,et)) (nv:P.underlying kt=some kd) (hz:(P.info? et).bind (·.zero)=some z):
   (execOp (ev b n l) o).run P w=.ok (.value (.tuple #[(Sx.look a mp).getD z,.bool (Sx.look a mp).isSome])) w:=by
 obtain⟨⟨es,ck,hb,cT,Yd,hm⟩,_,_⟩:=hh;have FF:=oh ht;have ub:=jC hk vk a es.toList mp 0 hm;rw[look_eq] at ub;have Pk:(zeroValue et).run P w=.ok z w:=by
   cases ff:P.info? et with
   |none=>simp[ff] at hz
   |some inf=>rw[ff] at hz;simp only[Option.bind_some] at hz;simp[zeroValue,typeInfo,ff,hz]
 unfold execOp;have Im:=MapKept.run_getObj_map (P:=P) (w:=w) hb;have MD:(Instr.checkKey es.isEmpty 10000 kt (enc a)).run P w=.ok () w:=run_checkKey nv (hk a) _ 9999;cases hp:pos a mp with
 |none=>
   have hl:=Co.2 hp;rw[hp] at ub;have yC:=run_findKey (P:=P) (w:=w) nv ub;simp[hop,h3,h4,Instr.lookup,run_underlying FF,Sem.run_bind,Im,MD,yC,Pk,hl,Result.andThen]
 |some j=>
   obtain⟨v,hv⟩:=pM hp;have hl:Sx.look a mp=some v:=by unfold Sx.look;rw[hp];simp[hv]
   rw[hp] at ub;simp only[hl,Option.map_some] at ub;have yC:=run_findKey (P:=P) (w:=w) nv ub;simp[hop,h3,h4,Instr.lookup,run_underlying FF,Sem.run_bind,Im,MD,yC,hl,Result.andThen]
def lkO(b:Nat->Value)(n:Nat)(z:Tz):Option (Θ×List Nat):=match z.o.op with
 |.lookup t mp ix ok=>match ok with
   |true=>some ([ev b n z.l mp,ev b n z.l ix],[t])
   |false=>none
 |_=>none
theorem tvk(i : Nat)(C : List Nat)(jj : Nat){kd : TypeDesc}{enc : α -> Value}{bt t kt et : Nat}{mp : List (α × Value)}(a : α)(z v : Value)(hk : ∀ a, IsKey kd (enc a))(vk : ∀ a b, enc a = enc b -> a = b)
   (hv:.tuple #[(Sx.look a mp).getD z,.bool (Sx.look a mp).isSome]=v) (hS:pL x=true->Sp w (kU x))
   (k:Goal P B b n d ((vX (via P b n 0 w x (iX b n i C))).k v) w) (hi:(kU x)[jj]?=some (t_ kd enc bt mp))
   (h:vA (via P b n 0 w x (iX b n i C))=vB w (via P b n 0 w x (iX b n i C)))
   (h2:lkO b n (vX (via P b n 0 w x (iX b n i C)))=some ([.map (some bt),enc a],[t]))
   (ht:lS P t=some (kt,et)) (nv:P.underlying kt=some kd) (hz:(P.info? et).bind (·.zero)=some z):Goal P B b n d x w:=by
 refine tv i C _ hS (fun w' hs=>?_) k h;generalize vX (via P b n 0 w x (iX b n i C))=zz at *;unfold lkO at h2;split at h2<;>try contradiction
 rename_i t' mo ix ok hop;split at h2<;>try contradiction
 simp only[Option.some.injEq,Prod.mk.injEq,List.cons.injEq,and_true] at h2;obtain⟨⟨h3,h4⟩,rfl⟩:=h2;subst hv;exact aaa hop h3 h4 (hs.all _ (List.mem_of_getElem? hi)) hk vk ht nv hz
end
end Go.Sx
namespace Go.Sx
open Go.RowKit Go.Gx
section
variable {w0 w:Ψ} {L0 L:List Item}
theorem Hs.ro(H:Hs w0 L0 w L)(i:Nat){S:Nat->Prop}{A B:Ψ->Prop}(hi:L[i]?=some (.ro S A))(hB:B w)(hl:Loc S B):Hs w0 L0 w (L++[.ro S B]):=by
 have hm:(Item.ro S A)∈L:=List.mem_of_getElem? hi;have hA:=H.sp.all _ hm;refine H.step (Kp.refl (fun _=>False) w) (fun _ q=>q.elim) ⟨fun j hj=>?_,?_⟩ ?_ ?_
 . rcases List.mem_append.1 hj with q|q
   . exact H.sp.all j q
   . rw[List.mem_singleton.1 q];exact⟨hB,hA.2.1,hl⟩
 . refine List.pairwise_append.2 ⟨H.sp.Bm,List.pairwise_singleton _ _,fun x hx y hy=>?_⟩;rw[List.mem_singleton.1 hy];obtain⟨j,hj⟩:=List.mem_iff_getElem?.1 hx;obtain⟨pG,ei⟩:=List.getElem?_eq_some_iff.1 hi;obtain⟨Uy,ej⟩:=List.getElem?_eq_some_iff.1 hj;have pw:=List.pairwise_iff_getElem.1 H.sp.Bm;intro hw c hc X9;rcases Nat.lt_trichotomy j i with r|r|r
   . have:=pw j i Uy pG r;rw[ei,ej] at this;exact this hw c hc X9
   . subst r;rw[ei] at ej;subst ej;cases hw
   . have:=pw i j pG Uy r;rw[ei,ej] at this;exact this (by rw[Bool.or_comm];exact hw) c X9 hc
 . intro x hx c hc _;rcases List.mem_append.1 hx with q|q
   . exact⟨x,q,hc⟩
   . rw[List.mem_singleton.1 q] at hc;exact⟨_,hm,hc⟩
 . intro x hx HA c hc _;rcases List.mem_append.1 hx with q|q
   . exact⟨x,q,HA,hc⟩
   . rw[List.mem_singleton.1 q] at HA;cases HA
end
end Go.Sx
namespace Go.Sx
open Go.RowKit Go.Gx
section
variable {w0 w:Ψ} {L0 L L1:List Item}
theorem Hs.fz(H:Hs w0 L0 w L)(I:List Nat)(hi:bB I L=some L1){φ:Ψ->Prop}(hφ:Sp w L1->φ w)(hl:Loc (Ig L1) φ):Hs w0 L0 w (.ro (Ig L1) φ::rest I L):=by
 have k:=H.perm (ic hi);have pw:=List.pairwise_append.1 k.sp.Bm;have s1:Sp w L1:=⟨fun it hi=>k.sp.all it (List.mem_append_left _ hi),pw.1⟩;refine⟨k.kp,⟨fun it hi=>?_,List.pairwise_cons.2 ⟨fun y hy=>?_,pw.2.1⟩⟩,fun it hi c hc hl=>?_,fun it hi hww c hc hl=>?_⟩
 . rcases List.mem_cons.1 hi with rfl|q
   . exact⟨hφ s1,fun c ⟨it,hi,hc⟩=>Item.lt (s1.all it hi) hc,hl⟩
   . exact k.sp.all it (List.mem_append_right _ q)
 . rintro hw c ⟨x,hx,hc⟩ hcy;have:y.wr=true:=by simpa[Item.wr] using hw
   exact pw.2.2 x hx y hy (by rw[this,Bool.or_true]) c hc hcy
 . rcases List.mem_cons.1 hi with rfl|q
   . obtain⟨x,hx,hc⟩:=hc;exact k.E0 x (List.mem_append_left _ hx) c hc hl
   . exact k.E0 it (List.mem_append_right _ q) c hc hl
 . rcases List.mem_cons.1 hi with rfl|q
   . cases hww
   . exact k.J8 it (List.mem_append_right _ q) hww c hc hl
end
end Go.Sx
namespace Go.aR
open Go.RowKit Go.Sx
abbrev Us:=List (Nm×Bool)
def FM(us:Us):Θ:=us.map fun p=>.bool p.2
def Dv(us:Us)(j:Nat):Bool:=((us[j]?).getD (⟨#[]⟩,true)).2
theorem Yi{P:Program}{t j:Nat}{u:Bool}{us:Us}(h:j<us.length)(hu:Dv us j=u)(ht:(match P.underlying t with|some .bool=>true|_=>false)=true:=by kernel_rfl):fO P t (FM us) (j*1) (.bool u):=by
 unfold fO;split at ht
 . rename_i e;rw[e];subst hu;simp[FM,Dv,h]
 . cases ht
theorem Kf(us:Us):(FM us).length=us.length:=List.length_map _
theorem Kg(us:Us)(j:Nat)(s:Nm):(FM us).set (j*1) (.bool true)=FM (us.set j (s,true)):=by simp[FM,List.map_set]
theorem Kh{us:Us}{b:List Nm}{j:Nat}(hb:us.map (·.1)=b)(h:j<us.length):us.drop j=(gn b j,Dv us j)::us.drop (j+1):=by
 subst hb;rw[List.drop_eq_getElem_cons h];congr 1;simp[gn,Dv,h]
theorem MG{us:Us}{b:List Nm}{j:Nat}{s:Nm}(hb:us.map (·.1)=b)(h:j<us.length)(hu:Dv us j=false)(he:((gn b j).toList==s.toList)=true):cG s (us.drop j)=some 0:=by
 rw[Kh hb h,hu,cG,eD,he];rfl
theorem Iq{us:Us}{b:List Nm}{j:Nat}{s:Nm}(hb:us.map (·.1)=b)(h:j<us.length)(hu:Dv us j=true∨((gn b j).toList==s.toList)=false):cG s (us.drop j)=(cG s (us.drop (j+1))).map (·+1):=by
 rw[Kh hb h,cG,eD];rcases hu with hu|hu<;>rw[hu]<;>simp
def Fs(s:Nm)(us:Us)(j:Nat):Option Nat->Prop
 |none=>cG s us=(cG s (us.drop j)).map (·+j)
 |some q=>cG s us=some q
theorem Fs0(s:Nm)(us:Us):Fs s us 0 none:=by simp[Fs]
theorem aab{us:Us}{b:List Nm}{j:Nat}{s:Nm}{o:Option Nat}(ho:o=none)(hf:Fs s us j o)(hb:us.map (·.1)=b)(h:j<us.length)(hu:Dv us j=false)(he:((gn b j).toList==s.toList)=true):Fs s us (j+1) (some j):=by
 subst ho;have:=MG hb h hu he;simp only[Fs,this,Option.map_some,Nat.zero_add] at hf;exact hf
theorem Ki{us:Us}{b:List Nm}{j:Nat}{s:Nm}{o:Option Nat}(ho:o=none)(hf:Fs s us j o)(hb:us.map (·.1)=b)(h:j<us.length)(hu:Dv us j=true∨((gn b j).toList==s.toList)=false):Fs s us (j+1) o:=by
 subst ho;have:=Iq hb h hu;simp only[Fs,this,Option.map_map] at hf ⊢;rw[hf];congr 1;funext x;simp only[Function.comp_apply];omega
theorem zC{us:Us}{s:Nm}{q:Nat}(h:cG s us=some q):q<us.length/\∃x,(us[q]?).map (·.1)=some x/\dh x s=true:=by
 induction us generalizing q with
 |nil=>simp[cG] at h
 |cons p r ih=>
   obtain⟨x,u⟩:=p;unfold cG at h;split at h
   . rename_i hc;cases h;simp only[Bool.and_eq_true] at hc;exact⟨by simp,x,by simp,hc.2⟩
   . cases hr:cG s r with
     |none=>simp[hr] at h
     |some q'=>
       simp only[hr,Option.map_some,Option.some.injEq] at h;subst h;obtain⟨h1,x',h2,h3⟩:=ih hr;exact⟨by simp;omega,x',by simpa using h2,h3⟩
theorem Pw{a b:Nm}(h:dh a b=true):a=b:=by
 have:=eq_of_beq h;exact ByteArray.ext (Array.toList_inj.1 this)
theorem Cq{us:Us}{s:Nm}{q:Nat}{b:List Nm}(h:cG s us=some q)(hb:us.map (·.1)=b):(us.set q (s,true)).map (·.1)=b:=by
 subst hb;obtain⟨h1,x,h2,h3⟩:=zC h;have:=Pw h3;subst this;rw[List.map_set];apply List.ext_getElem?;intro i;rw[List.getElem?_set];split
 . rename_i e;subst e;rw[List.length_map,if_pos h1,List.getElem?_map,h2]
 . rfl
theorem aac{us:Us}{s:Nm}{j:Nat}{o:Option Nat}(hf:Fs s us j o)(h:us.length<=j):cG s us=o:=by
 cases o with
 |none=>simpa[Fs,List.drop_of_length_le h,cG] using hf
 |some q=>exact hf
theorem Kj{us:Us}{s:Nm}{j:Nat}{o:Option Nat}(hf:Fs s us j o)(h:us.length<=j∨o≠none):cG s us=o:=by
 rcases h with h|h
 . exact aac hf h
 . cases o with
   |none=>exact absurd rfl h
   |some q=>exact hf
theorem Cr{a : List Nm}{i : Nat}(us : Us)(h : i < a.length) : nu (a.drop i) us = match cG (gn a i) us with
   |none=>gn a i::nu (a.drop (i+1)) us
   |some j=>nu (a.drop (i+1)) (us.set j (gn a i,true)):=by
 rw[List.drop_eq_getElem_cons h];have:gn a i=a[i]:=by simp[gn,h]
 first|(rw[this,nu];done)|(rw[this,nu];cases cG a[i] us<;>rfl)
theorem Kk{o:Option Nat}(h:decide (eI o<0)=true):o=none:=by
 cases o with
 |none=>rfl
 |some n=>have:=of_decide_eq_true h;simp only[eI] at this;omega
theorem Kl{o:Option Nat}(h:decide (eI o<0)=false):∃q,o=some q:=by
 cases o with
 |none=>simp[eI] at h
 |some n=>exact⟨n,rfl⟩
theorem kW.one{w:Ψ}{S:Nat->Prop}{A:Ω}{l:List Nm}{a:Addr}{i:Nat}{s:Nm}(h:kW w S A l)(ha:A=some a)(hl:l[i]?=some s):w.cells? 0 (a.add (i*1)) 1=some [.string s]:=by
 obtain⟨a',O1,_,hc⟩:=h i s hl;rw[ha] at O1;cases O1;exact hc
theorem dJ{w:Ψ}{L:List Sx.Item}{it:Sx.Item}(h:Sp w L)(j:Nat)(hi:L[j]?=some it:=by kernel_rfl):it.holds w:=h.all _ (List.mem_of_getElem? hi)
theorem Vy(b:List Nm):List.replicate b.length (Value.bool false)=FM (b.map fun x=>(x,false)):=by
 simp only[FM,List.map_map];induction b with
 |nil=>rfl
 |cons x b ih=>simp[List.replicate_succ,ih]
theorem fF{k r v:Nat}{g:G}{acc l:List Nm}(h:whole k g r acc=some (l,v)):l.length<1000000000:=by
 induction k generalizing r acc with
 |zero=>simp[whole] at h
 |succ z ih=>
   obtain⟨lr,nx,_,hb,_,h1,h2,h3⟩:=mg h;rcases nx with _|q
   . rw[<- (h1 rfl).1,zB];exact hb
   . cases q with
     |zero=>rw[<- (h2 rfl).1,zB];exact hb
     |succ q=>exact ih (h3 q rfl)
end Go.aR
namespace Go.aR
open Go.RowKit Go.Sx
abbrev Px(v w:Nat)(d e:List Nm):Bool:=((v==0)&&!e.isEmpty)||((w==0)&&!d.isEmpty)
theorem rR{k r s : Nat}{g g' : G}{t : Bool}(h : fC k g r s = some (g', t)) :
   ∃a v b u,whole k g r []=some (a,v)/\whole k g s []=some (b,u)/\
     (v=u->g=g'/\((less a b).isEmpty&&(less b a).isEmpty)=t)/\
     (v≠u->Px v u (less a b) (less b a)=true->g=g'/\false=t)/\
     (v≠u->Px v u (less a b) (less b a)=false->v=0->g.eh u (less a b) (some 0)=g'/\true=t)/\
     (v≠u->Px v u (less a b) (less b a)=false->v≠0->u=0->g.eh v (less b a) (some 0)=g'/\true=t)/\
     (v≠u->Px v u (less a b) (less b a)=false->v≠0->u≠0->∃g1 x,g.eR=some (g1,x)/\(g1.eh v (less b a) (some x)).eh u (less a b) (some x)=g'/\true=t):=by
 unfold fC at h;split at h<;>try contradiction
 rename_i a v b u h1 h2;refine⟨a,v,b,u,h1,h2,?_⟩;simp only at h;split at h
 . rename_i e;cases h;simp[e]
 . rename_i e;split at h
   . rename_i e2;cases h;exact⟨fun q=>absurd q e,fun _ _=>⟨rfl,rfl⟩,fun _ q=>by simp[Px,e2] at q,fun _ q=>by simp[Px,e2] at q,fun _ q=>by simp[Px,e2] at q⟩
   . rename_i e2;have e2:Px v u (less a b) (less b a)=false:=by simpa using e2
     split at h
     . rename_i e3;cases h;exact⟨fun q=>absurd q e,fun _ q=>by simp[e2] at q,fun _ _ _=>⟨rfl,rfl⟩,fun _ _ q=>absurd e3 q,fun _ _ q=>absurd e3 q⟩
     . rename_i e3;split at h
       . rename_i e4;cases h;exact⟨fun q=>absurd q e,fun _ q=>by simp[e2] at q,fun _ _ q=>absurd q e3,fun _ _ _ _=>⟨rfl,rfl⟩,fun _ _ _ q=>absurd e4 q⟩
       . rename_i e4;split at h<;>try contradiction
         rename_i g1 x h5;cases h;exact⟨fun q=>absurd q e,fun _ q=>by simp[e2] at q,fun _ _ q=>absurd q e3,fun _ _ _ q=>absurd q e4,fun _ _ _ _=>⟨g1,x,h5,rfl,rfl⟩⟩
theorem Km{k r v:Nat}{g:G}{acc l:List Nm}(h:whole k g r acc=some (l,v)):v=0∨v<g.ops.length:=by
 induction k generalizing r acc with
 |zero=>simp[whole] at h
 |succ z ih=>
   obtain⟨lr,nx,ho,hb,_,h1,h2,h3⟩:=mg h;rcases nx with _|q
   . rw[<- (h1 rfl).2];exact .inr (List.getElem?_eq_some_iff.1 ho).1
   . cases q with
     |zero=>exact .inl (h2 rfl).2.symm
     |succ q=>exact ih (h3 q rfl)
theorem ae2(l:List Nm):((l.length:Int)==(0:Int))=l.isEmpty:=by cases l<;>simp<;>omega
theorem Vz(l:List Nm):decide ((l.length:Int)>(0:Int))=!l.isEmpty:=by cases l<;>simp<;>omega
theorem Py(v:Nat):((v:Int)==(0:Int))=(v==0):=by cases v<;>simp<;>omega
theorem VD{g g':G}{n:Nat}(h:g.eR=some (g',n)):g'.ops.length=g.ops.length+1:=by
 unfold G.eR G.putRow at h;split at h
 . simp only[kj,mf,jB,Option.some.injEq,Prod.mk.injEq] at h;obtain⟨rfl,_⟩:=h;simp
 . cases h
theorem Ir(g:G)(v:Nat)(l:List Nm)(nx:Option Nat):(g.eh v l nx).ops.length=g.ops.length:=by
 simp only[G.eh,kj,mf,jB,List.length_set]
end Go.aR
namespace Go.aR
open Go.RowKit Go.Sx
abbrev w_(g:G)(m n:Nat):G:=⟨g.kind,g.a,g.b,g.row,g.link.set m (some n),g.ops,g.next,g.tv,g.rv⟩
theorem zD(g:G)(m n:Nat):g.FA m n=w_ g m n:=by simp only[G.FA,jB,kj]
def SC(k:Nat)(g:G)(m n km:Nat)(g':G)(t:Bool):Prop:=(km≠6->g=g'/\true=t)/\(km=6->∃r s,g.row[m]?=some r/\g.row[n]?=some s/\fC k g r s=some (g',t))
def SB(k:Nat)(g:G)(m n km:Nat)(g':G)(t:Bool):Prop:=∃y,g.b[m]?=some y/\(y=none->SC k g m n km g' t)/\∀p,y=some p->∃q t2 g2,g.b[n]?=some (some q)/\same k g p q=some (g2,t2)/\(t2=false->g2=g'/\false=t)/\(t2=true->SC k g2 m n km g' t)
def SAa(k:Nat)(g:G)(m n km:Nat)(g':G)(t:Bool):Prop:=∃y,g.a[m]?=some y/\(y=none->SB k g m n km g' t)/\∀p,y=some p->∃q t2 g2,g.a[n]?=some (some q)/\same k g p q=some (g2,t2)/\(t2=false->g2=g'/\false=t)/\(t2=true->SB k g2 m n km g' t)
theorem zE{k m n : Nat}{g g' : G}{t : Bool}(h : same (k + 1) g m n = some (g', t)) : ∃ m1 n1, find k g m = some m1 /\ find k g n = some n1 /\ (m1 = n1 -> g = g' /\ true = t) /\
   (m1≠n1->∃km kn,g.kind[m1]?=some km/\g.kind[n1]?=some kn/\(km=0->w_ g m1 n1=g'/\true=t)/\(km≠0->kn=0->w_ g n1 m1=g'/\true=t)/\(km≠0->kn≠0->km≠kn->g=g'/\false=t)/\(km≠0->kn≠0->km=kn->SAa k (w_ g m1 n1) m1 n1 km g' t)):=by
 unfold same at h;split at h<;>try contradiction
 rename_i m1 n1 hm hn;refine⟨m1,n1,hm,hn,?_⟩;split at h
 . rename_i e;cases h;exact⟨fun _=>⟨rfl,rfl⟩,fun q=>absurd e q⟩
 . rename_i e;refine⟨fun q=>absurd q e,fun _=>?_⟩;split at h<;>try contradiction
   rename_i km kn Kn Yj;refine⟨km,kn,Kn,Yj,?_⟩;split at h
   . rename_i e1;cases h;exact⟨fun _=>⟨(zD _ _ _).symm,rfl⟩,fun q=>absurd e1 q,fun q=>absurd e1 q,fun q=>absurd e1 q⟩
   . rename_i e1;split at h
     . rename_i e2;cases h;exact⟨fun q=>absurd q e1,fun _ _=>⟨(zD _ _ _).symm,rfl⟩,fun _ q=>absurd e2 q,fun _ q=>absurd e2 q⟩
     . rename_i e2;split at h
       . rename_i e3;cases h;exact⟨fun q=>absurd q e1,fun _ q=>absurd q e2,fun _ _ _=>⟨rfl,rfl⟩,fun _ _ q=>absurd q e3⟩
       . rename_i e3;refine ⟨fun q => absurd q e1, fun _ q => absurd q e2, fun _ _ q => absurd q e3, fun _ _ _ => ?_⟩;rw [zD] at h;generalize w_ g m1 n1 = g0 at h ⊢;simp only at h;have hC : ∀ g2, (if km = 6 then (match g2.row[m1]?, g2.row[n1]? with | some r, some s => fC k g2 r s | _, _ => none) else some (g2, true)) = some (g', t) -> SC k g2 m1 n1 km g' t := by
           intro g2 h;split at h
           . rename_i e6;split at h<;>try contradiction
             rename_i r s hr hs;exact⟨fun q=>absurd e6 q,fun _=>⟨r,s,hr,hs,h⟩⟩
           . rename_i e6;cases h;exact⟨fun _=>⟨rfl,rfl⟩,fun q=>absurd q e6⟩
         have hA : ∀(g0 : G)(x y : Option (Option Nat))(g1 : G)(t1 : Bool), (match x, y with | some none, _ => some (g0, true) | some (some p), some (some q) => same k g0 p q | _, _ => none) = some (g1, t1) ->
             ∃o,x=some o/\(o=none->g0=g1/\true=t1)/\∀p,o=some p->∃q,y=some (some q)/\same k g0 p q=some (g1,t1):=by
           intro g0 x y g1 t1 h
           split at h<;>try contradiction
           . cases h;exact⟨none,rfl,fun _=>⟨rfl,rfl⟩,fun p q=>by cases q⟩
           . rename_i p q;exact⟨some p,rfl,fun q=>(by cases q),fun p' e=>by cases e;exact⟨q,rfl,h⟩⟩
         have hB : ∀ g1, (match (match g1.b[m1]?, g1.b[n1]? with | some none, _ => some (g1, true) | some (some p), some (some q) => same k g1 p q | _, _ => none) with
             |some (g,false)=>some (g,false)
             |some (g,true)=>if km=6 then(match g.row[m1]?,g.row[n1]? with|some r,some s=>fC k g r s|_,_=>none) else some (g,true)
             |none=>none)=some (g',t)->SB k g1 m1 n1 km g' t:=by
           intro g1 h
           split at h<;>try contradiction
           . rename_i g2 hg
             obtain⟨o,ho,h1,h2⟩:=hA _ _ _ _ _ hg
             refine⟨o,ho,fun q=>by simp at h1;exact absurd q (fun e=>by have:=h1 e;simp_all),fun p hp=>?_⟩
             obtain⟨q,hq,hs⟩:=h2 p hp
             cases h
             exact⟨q,false,_,hq,hs,fun _=>⟨rfl,rfl⟩,fun e=>by cases e⟩
           . rename_i g2 hg
             obtain⟨o,ho,h1,h2⟩:=hA _ _ _ _ _ hg
             refine⟨o,ho,fun q=>by rw[(h1 q).1];exact hC _ h,fun p hp=>?_⟩
             obtain⟨q,hq,hs⟩:=h2 p hp
             exact⟨q,true,g2,hq,hs,fun e=>(by cases e),fun _=>hC _ h⟩
         split at h<;>try contradiction
         . rename_i g2 hg;obtain⟨o,ho,h1,h2⟩:=hA _ _ _ _ _ hg;refine⟨o,ho,fun q=>by simp at h1;exact absurd q (fun e=>by have:=h1 e;simp_all),fun p hp=>?_⟩;obtain⟨q,hq,hs⟩:=h2 p hp;cases h;exact⟨q,false,_,hq,hs,fun _=>⟨rfl,rfl⟩,fun e=>by cases e⟩
         . rename_i g2 hg;obtain⟨o,ho,h1,h2⟩:=hA _ _ _ _ _ hg;refine⟨o,ho,fun q=>by rw[(h1 q).1];exact hB _ h,fun p hp=>?_⟩;obtain⟨q,hq,hs⟩:=h2 p hp;exact⟨q,true,g2,hq,hs,fun e=>(by cases e),fun _=>hB _ h⟩
theorem Pz{g g':G}{n:Nat}(h:g.eR=some (g',n)):g'.kind=g.kind:=by
 unfold G.eR G.putRow at h;split at h
 . simp only[kj,mf,jB,Option.some.injEq,Prod.mk.injEq] at h;obtain⟨rfl,_⟩:=h;rfl
 . cases h
theorem mh(g:G)(v:Nat)(l:List Nm)(nx:Option Nat):(g.eh v l nx).kind=g.kind:=by simp only[G.eh,kj,mf,jB]
theorem Dw{k r s:Nat}{g g':G}{t:Bool}(h:fC k g r s=some (g',t)):g'.kind=g.kind:=by
 obtain⟨a,v,b,u,_,_,h1,h2,h3,h4,h5⟩:=rR h;by_cases e1:v=u
 . rw[(h1 e1).1]
 . cases e2:Px v u (less a b) (less b a) with
   |true=>rw[(h2 e1 e2).1]
   |false=>
     by_cases e3:v=0
     . rw[<- (h3 e1 e2 e3).1,mh]
     . by_cases e4:u=0
       . rw[<- (h4 e1 e2 e3 e4).1,mh]
       . obtain⟨g1,x,ho,hg,_⟩:=h5 e1 e2 e3 e4;rw[<- hg,mh,mh,Pz ho]
theorem Ko{k m n km:Nat}{g g':G}{t:Bool}(h:SC k g m n km g' t):g'.kind=g.kind:=by
 by_cases e:km=6
 . obtain⟨r,s,_,_,h⟩:=h.2 e;exact Dw h
 . rw[(h.1 e).1]
theorem Cs{k m n:Nat}{g g':G}{t:Bool}(h:same k g m n=some (g',t)):g'.kind=g.kind:=by
 induction k generalizing g g' m n t with
 |zero=>simp[same] at h
 |succ k ih=>
   obtain⟨m1,n1,_,_,h0,h1⟩:=zE h;by_cases e:m1=n1
   . rw[(h0 e).1]
   . obtain⟨km,kn,_,_,a1,a2,a3,a4⟩:=h1 e;by_cases e1:km=0
     . rw[<- (a1 e1).1]
     . by_cases e2:kn=0
       . rw[<- (a2 e1 e2).1]
       . by_cases e3:km=kn
         . have hb : ∀ g1, SB k g1 m1 n1 km g' t -> g'.kind = g1.kind := by
             rintro g1 ⟨y,_,b1,b2⟩;cases y with
             |none=>exact Ko (b1 rfl)
             |some p=>
               obtain⟨q,t2,g2,_,hs,b3,b4⟩:=b2 p rfl;rw[<- ih hs];cases t2 with
               |false=>rw[(b3 rfl).1]
               |true=>exact Ko (b4 rfl)
           obtain⟨y,_,b1,b2⟩:=a4 e1 e2 e3;cases y with
           |none=>exact hb (w_ g m1 n1) (b1 rfl)
           |some p=>
             obtain⟨q,t2,g2,_,hs,b3,b4⟩:=b2 p rfl;have:=ih hs;cases t2 with
             |false=>rw[<- (b3 rfl).1];exact this
             |true=>rw[hb _ (b4 rfl)];exact this
         . rw[(a3 e1 e2 e3).1]
theorem fX{o:Option Nat}(h:decide (eI o>=0)=true):∃q,o=some q:=by
 cases o with
 |none=>simp[eI] at h
 |some n=>exact⟨n,rfl⟩
theorem fY{o:Option Nat}(h:decide (eI o>=0)=false):o=none:=by
 cases o with
 |none=>rfl
 |some n=>have:=of_decide_eq_false h;simp only[eI] at this;omega
theorem ne6{km:Nat}(h:km≠6):((km:Int) != (6:Int))=true:=by simp;omega
theorem aw{α:Type}{l:List α}{i:Nat}{x:α}(h:l[i]?=some x):i<l.length:=(List.getElem?_eq_some_iff.1 h).1
end Go.aR
namespace Go.aR
open Go.RowKit Go.Sx Go.Gx Go.MapKept
theorem BB(a:Int):IsKey (.int .i64) (lU a):=rfl
theorem Dx(a b:Int)(h:lU a=lU b):a=b:=by simpa[lU] using h
theorem PE(a:Int):Instr.sameBits 10000 (lU a) (lU a)=true:=by simp[lU,Instr.sameBits]
def nB(s:Seen):List (Int×Nat):=s.map fun p=>((p.1:Int),p.2)
abbrev eN(b:Nat)(s:Seen):Sx.Item:=jY b (nB s)
theorem Ct(a:Int)(p:Int×Value)(r:List (Int×Value)):Sx.look a (p::r)=if p.1=a then some p.2 else Sx.look a r:=by
 unfold Sx.look;rw[pos];split
 . simp
 . cases pos a r<;>simp
theorem zF(a:Int)(l:List (Int×Nat)):Sx.look a (HD l)=(du a l).map fun v=>.int .i64 (v:Int):=by
 induction l with
 |nil=>rfl
 |cons p l ih=>
   obtain⟨m,v⟩:=p;rw[show HD ((m,v)::l)=(m,Value.int .i64 (v:Int))::HD l from rfl,Ct,du];split
   . rfl
   . exact ih
theorem VE(s:Seen)(n:Nat):(Sx.look (n:Int) (HD (nB s))).getD (.int .i64 0)=.int .i64 (s.at n:Int):=by
 rw[zF];induction s with
 |nil=>rfl
 |cons p s ih=>
   obtain⟨m,v⟩:=p;rw[show nB ((m,v)::s)=((m:Int),v)::nB s from rfl,du,Seen.at];by_cases e:m=n
   . subst e;simp
   . rw[if_neg (by omega),if_neg e];exact ih
theorem zG(a:Int)(v:Value)(p:Int×Value)(r:List (Int×Value)):Dh a v (p::r)=if p.1=a then(a,v)::r else p::Dh a v r:=by
 unfold Dh;rw[pos];by_cases e:p.1=a
 . rw[if_pos e,if_pos e];rfl
 . rw[if_neg e,if_neg e];cases pos a r<;>rfl
theorem PF(s:Seen)(n v:Nat):Dh (n:Int) (.int .i64 (v:Int)) (HD (nB s))=HD (nB (s.put n v)):=by
 induction s with
 |nil=>rfl
 |cons p s ih=>
   obtain⟨m,u⟩:=p;rw[show HD (nB ((m,u)::s))=((m:Int),Value.int .i64 (u:Int))::HD (nB s) from rfl,zG,Seen.put];by_cases e:m=n
   . subst e;simp;rfl
   . rw[if_neg (by show ¬((m:Int)=n);omega),if_neg e,ih];rfl
theorem J3(a:Int)(v:Nat)(l:List (Int×Nat))(h:du a l=none):Dh a (.int .i64 (v:Int)) (HD l)=HD (l++[(a,v)]):=by
 induction l with
 |nil=>rfl
 |cons p l ih=>
   obtain⟨m,u⟩:=p;unfold du at h;split at h
   . cases h
   . rename_i e;rw[show HD ((m,u)::l)=(m,Value.int .i64 (u:Int))::HD l from rfl,zG,if_neg e,ih h];rfl
section
variable {P:Program} {B:Exit->Act->Ψ->Prop} {b:Nat->Value} {n:Nat} {d:List Deferred} {w0 w:Ψ} {x:St} {L0 L:List Sx.Item}
theorem lks(m i bt q : Nat)(s : Seen)(H : Hs w0 L0 w L){t kt et : Nat}(hi : L[i]? = some (eN bt s))
   (k:Goal P B b n d (Sx.nx (vX (via P b n m w x (Sx.ask (nV b n)))).y (vX (via P b n m w x (Sx.ask (nV b n)))).q (.int .i64 (s.at q:Int))) w)
   (h:vA (via P b n m w x (Sx.ask (nV b n)))=vB w (via P b n m w x (Sx.ask (nV b n))):=by kernel_rfl)
   (h2:((vX (via P b n m w x (Sx.ask (nV b n)))).u,(vX (via P b n m w x (Sx.ask (nV b n)))).t)=([.map (some bt),.int .i64 (q:Int)],[t,0]):=by kernel_rfl)
   (ht:lS P t=some (kt,et):=by kernel_rfl) (nv:P.underlying kt=some (.int .i64):=by kernel_rfl) (hz:(P.info? et).bind (·.zero)=some (.int .i64 0):=by kernel_rfl):Goal P B b n d x w:=
 lk (r:=0) m i H (q:Int) (.int .i64 0) hi BB Dx (by rw[VE];exact k) h h2 ht nv hz
theorem lki(m i bt : Nat)(a : Int)(l : List (Int × Nat))(o : Option Nat)(ho : du a l = o)(H : Hs w0 L0 w L){t kt et : Nat}(hi : L[i]? = some (jY bt l))
   (k:Goal P B b n d (Sx.nx (vX (via P b n m w x (Sx.ask (nV b n)))).y (vX (via P b n m w x (Sx.ask (nV b n)))).q (.tuple #[.int .i64 (o.getD 0:Int),.bool o.isSome])) w)
   (h:vA (via P b n m w x (Sx.ask (nV b n)))=vB w (via P b n m w x (Sx.ask (nV b n))):=by kernel_rfl)
   (h2:((vX (via P b n m w x (Sx.ask (nV b n)))).u,(vX (via P b n m w x (Sx.ask (nV b n)))).t)=([.map (some bt),.int .i64 a],[t,1]):=by kernel_rfl)
   (ht:lS P t=some (kt,et):=by kernel_rfl) (nv:P.underlying kt=some (.int .i64):=by kernel_rfl) (hz:(P.info? et).bind (·.zero)=some (.int .i64 0):=by kernel_rfl):Goal P B b n d x w:=by
 refine lk (r:=1) m i H a (.int .i64 0) hi BB Dx ?_ h h2 ht nv hz;subst ho;show Goal P B b n d (Sx.nx _ _ (.tuple #[(Sx.look a (HD l)).getD (.int .i64 0),.bool (Sx.look a (HD l)).isSome])) w;rw[zF,Option.isSome_map,show(Option.map (fun v:Nat=>Value.int .i64 (v:Int)) (du a l)).getD (.int .i64 0)=.int .i64 (((du a l).getD 0:Nat):Int) by cases du a l<;>rfl];exact k
theorem mus(m i bt q v : Nat)(s : Seen)(H : Hs w0 L0 w L){t kt et : Nat}(hi : L[i]? = some (eN bt s))
   (k:∀w',Hs w0 L0 w' (L.set i (eN bt (s.put q v)))->Goal P B b n d (Sx.nx (vX (via P b n m w x (Sx.ask (rQ b n)))).y (vX (via P b n m w x (Sx.ask (rQ b n)))).q undef) w')
   (h:vA (via P b n m w x (Sx.ask (rQ b n)))=vB w (via P b n m w x (Sx.ask (rQ b n))):=by kernel_rfl)
   (h2:((vX (via P b n m w x (Sx.ask (rQ b n)))).u,(vX (via P b n m w x (Sx.ask (rQ b n)))).t)=([.map (some bt),.int .i64 (q:Int),.int .i64 (v:Int)],[t]):=by kernel_rfl)
   (ht:lS P t=some (kt,et):=by kernel_rfl) (nv:P.underlying kt=some (.int .i64):=by kernel_rfl):Goal P B b n d x w:=
 mu m i H (q:Int) (.int .i64 (v:Int)) hi BB Dx PE (fun w' H'=>by rw[PF] at H';exact k w' H') h h2 ht nv
theorem mui(m i bt : Nat)(a : Int)(v : Nat)(l : List (Int × Nat))(ho : du a l = none)(H : Hs w0 L0 w L){t kt et : Nat}(hi : L[i]? = some (jY bt l))
   (k:∀w',Hs w0 L0 w' (L.set i (jY bt (l++[(a,v)])))->Goal P B b n d (Sx.nx (vX (via P b n m w x (Sx.ask (rQ b n)))).y (vX (via P b n m w x (Sx.ask (rQ b n)))).q undef) w')
   (h:vA (via P b n m w x (Sx.ask (rQ b n)))=vB w (via P b n m w x (Sx.ask (rQ b n))):=by kernel_rfl)
   (h2:((vX (via P b n m w x (Sx.ask (rQ b n)))).u,(vX (via P b n m w x (Sx.ask (rQ b n)))).t)=([.map (some bt),.int .i64 a,.int .i64 (v:Int)],[t]):=by kernel_rfl)
   (ht:lS P t=some (kt,et):=by kernel_rfl) (nv:P.underlying kt=some (.int .i64):=by kernel_rfl):Goal P B b n d x w:=
 mu m i H a (.int .i64 (v:Int)) hi BB Dx PE (fun w' H'=>by rw[J3 a v l ho] at H';exact k w' H') h h2 ht nv
theorem mli(m i bt : Nat)(l : List (Int × Nat))(H : Hs w0 L0 w L){t kt et : Nat}(hi : L[i]? = some (jY bt l))
   (k:Goal P B b n d (Sx.nx (vX (via P b n m w x (Sx.ask (Kb b n)))).y (vX (via P b n m w x (Sx.ask (Kb b n)))).q (.int .i64 (l.length:Int))) w)
   (h:vA (via P b n m w x (Sx.ask (Kb b n)))=vB w (via P b n m w x (Sx.ask (Kb b n))):=by kernel_rfl)
   (h2:((vX (via P b n m w x (Sx.ask (Kb b n)))).u,(vX (via P b n m w x (Sx.ask (Kb b n)))).t)=([.map (some bt)],[t]):=by kernel_rfl)
   (ht:lS P t=some (kt,et):=by kernel_rfl):Goal P B b n d x w:=
 ml m i H hi (by rw[show(HD l).length=l.length from List.length_map _];exact k) h h2 ht
end
theorem MH{m:List (Int×Nat)}{n q:Nat}(h:du n m=some q):fJ m n=(m,q):=by unfold fJ;rw[h]
theorem MI{m:List (Int×Nat)}{n:Nat}(h:du n m=none):fJ m n=(m++[((n:Int),m.length+1)],m.length+1):=by unfold fJ;rw[h]
theorem zH{o:Option Nat}(h:(!o.isSome)=true):o=none:=by cases o<;>simp_all
theorem ue{o:Option Nat}(h:(!o.isSome)=false):∃q,o=some q:=by cases o<;>simp_all
end Go.aR
namespace Go.aR
open Go.RowKit Go.Sx
theorem MJ{w:Ψ}:(iW (fun _=>False) [(none,0,0)] [[]]).holds w:=by
 refine⟨⟨rfl,fun r s l hs hl=>?_⟩,fun _ h=>h.elim,vn _ _ _⟩;cases r with
 |zero=>simp at hs hl;subst hs hl;exact⟨rfl,fun _ _ h=>by simp at h⟩
 |succ r=>simp at hs
end Go.aR
namespace Go.aR
open Go.RowKit Go.Sx Go.Gx
section
variable {P:Program} {fn:Func} {R:Ending->Ψ->Prop} {b:Nat->Value} {n:Nat} {d:List Deferred} {w0 w:Ψ} {x:St} {L0 L:List Sx.Item}
theorem ae3(i : Nat)(C : List Nat)(jj bt : Nat)(a : Int)(l : List (Int × Nat))(o : Option Nat)(ho : du a l = o){t kt et : Nat}(hS : pL x = true -> Sp w (kU x))
   (k:Goal P (bodyPost P fn R) b n d ((vX (via P b n 0 w x (iX b n i C))).k (.tuple #[.int .i64 (o.getD 0:Int),.bool o.isSome])) w)
   (hi:(kU x)[jj]?=some (jY bt l):=by kernel_rfl)
   (h:vA (via P b n 0 w x (iX b n i C))=vB w (via P b n 0 w x (iX b n i C)):=by kernel_rfl)
   (h2:lkO b n (vX (via P b n 0 w x (iX b n i C)))=some ([.map (some bt),.int .i64 a],[t]):=by kernel_rfl)
   (ht:lS P t=some (kt,et):=by kernel_rfl) (nv:P.underlying kt=some (.int .i64):=by kernel_rfl) (hz:(P.info? et).bind (·.zero)=some (.int .i64 0):=by kernel_rfl):Goal P (bodyPost P fn R) b n d x w:=by
 refine tvk i C jj a (.int .i64 0) _ BB Dx ?_ hS k hi h h2 ht nv hz;subst ho;rw[zF,Option.isSome_map];cases du a l<;>rfl
end
end Go.aR
namespace Go.aR
open Go.RowKit Go.Sx
def RB(k:Nat)(g:G)(n:Nat)(s:Seen)(r:Bool)(s':Seen):Prop:=∃y,g.b[n]?=some y/\(y=none->false=r/\s.put n 2=s')/\∀p,y=some p->∃t s2,round k g p s=some (t,s2)/\(t=true->true=r/\s2=s')/\(t=false->false=r/\s2.put n 2=s')
def RA(k:Nat)(g:G)(n:Nat)(s:Seen)(r:Bool)(s':Seen):Prop:=∃y,g.a[n]?=some y/\(y=none->RB k g n s r s')/\∀p,y=some p->∃t s2,round k g p s=some (t,s2)/\(t=true->true=r/\s2=s')/\(t=false->RB k g n s2 r s')
theorem FN{k n : Nat}{g : G}{s s' : Seen}{r : Bool}(h : round (k + 1) g n s = some (r, s')) :
   ∃n1,find k g n=some n1/\(0<s.at n1->(s.at n1==1)=r/\s=s')/\(s.at n1=0->RA k g n1 (s.put n1 1) r s'):=by
 unfold round at h;split at h<;>try contradiction
 rename_i n1 hn;refine⟨n1,hn,?_⟩;simp only at h;split at h
 . rename_i e;cases h;exact⟨fun _=>⟨rfl,rfl⟩,fun q=>by omega⟩
 . rename_i e;refine ⟨fun q => absurd q e, fun _ => ?_⟩;have hA : ∀(x : Option (Option Nat))(s : Seen)(t : Bool)(s2 : Seen), (match x with | some none => some (false, s) | some (some m) => round k g m s | none => none) = some (t, s2) ->
       ∃o,x=some o/\(o=none->false=t/\s=s2)/\∀p,o=some p->round k g p s=some (t,s2):=by
     intro x s t s2 h
     split at h<;>try contradiction
     . cases h;exact⟨none,rfl,fun _=>⟨rfl,rfl⟩,fun p q=>by cases q⟩
     . rename_i m;exact⟨some m,rfl,fun q=>(by cases q),fun p e=>by cases e;exact h⟩
   have hB : ∀ s, (match (match g.b[n1]? with | some none => some (false, s) | some (some m) => round k g m s | none => none) with
       |some (true,s)=>some (true,s)|some (false,s)=>some (false,s.put n1 2)|none=>none)=some (r,s')->RB k g n1 s r s':=by
     intro s h
     split at h<;>try contradiction
     . rename_i s2 hg
       obtain⟨o,ho,h1,h2⟩:=hA _ _ _ _ hg
       cases h
       exact⟨o,ho,fun q=>by have:=(h1 q).1;simp at this,fun p hp=>⟨true,_,h2 p hp,fun _=>⟨rfl,rfl⟩,fun e=>by cases e⟩⟩
     . rename_i s2 hg
       obtain⟨o,ho,h1,h2⟩:=hA _ _ _ _ hg
       cases h
       exact⟨o,ho,fun q=>by rw[(h1 q).2];exact⟨rfl,rfl⟩,fun p hp=>⟨false,_,h2 p hp,fun e=>(by cases e),fun _=>⟨rfl,rfl⟩⟩⟩
   split at h<;>try contradiction
   . rename_i s2 hg;obtain⟨o,ho,h1,h2⟩:=hA _ _ _ _ hg;cases h;exact⟨o,ho,fun q=>by have:=(h1 q).1;simp at this,fun p hp=>⟨true,_,h2 p hp,fun _=>⟨rfl,rfl⟩,fun e=>by cases e⟩⟩
   . rename_i s2 hg;obtain⟨o,ho,h1,h2⟩:=hA _ _ _ _ hg;exact⟨o,ho,fun q=>by rw[(h1 q).2];exact hB _ h,fun p hp=>⟨false,_,h2 p hp,fun e=>(by cases e),fun _=>hB _ h⟩⟩
def PD(n c j:Nat)(s:Seen)(r:Nat)(s':Seen):Prop:=c+j<=2147483647/\min (c+j) 1000000=r/\s.put n (min (c+j) 1000000)=s'
def PC(k:Nat)(g:G)(n c:Nat)(s:Seen)(r:Nat)(s':Seen):Prop:=∃kd,g.kind[n]?=some kd/\(kd≠6->PD n c 0 s r s')/\(kd=6->∃q l v,g.row[n]?=some q/\whole k g q []=some (l,v)/\PD n c l.length s r s')
def PB(k:Nat)(g:G)(n c:Nat)(s:Seen)(r:Nat)(s':Seen):Prop:=∃y,g.b[n]?=some y/\(y=none->PC k g n c s r s')/\∀p,y=some p->∃j s2,parts k g p s=some (j,s2)/\PC k g n (c+j) s2 r s'
def PA(k:Nat)(g:G)(n c:Nat)(s:Seen)(r:Nat)(s':Seen):Prop:=∃y,g.a[n]?=some y/\(y=none->PB k g n c s r s')/\∀p,y=some p->∃j s2,parts k g p s=some (j,s2)/\PB k g n (c+j) s2 r s'
theorem PG{k n c r:Nat}{g:G}{s s':Seen}(h:PC k g n c s r s'):c<=2147483647:=by
 obtain⟨kd,_,h1,h2⟩:=h;by_cases e:kd=6
 . obtain⟨_,l,_,_,_,h⟩:=h2 e;have:=h.1;omega
 . have:=(h1 e).1;omega
theorem Yk{k n c r:Nat}{g:G}{s s':Seen}(h:PB k g n c s r s'):c<=2147483647:=by
 obtain⟨y,_,h1,h2⟩:=h;cases y with
 |none=>exact PG (h1 rfl)
 |some p=>obtain⟨j,_,_,h⟩:=h2 p rfl;have:=PG h;omega
theorem FO{k n r : Nat}{g : G}{s s' : Seen}(h : parts (k + 1) g n s = some (r, s')) :
   ∃n1,find k g n=some n1/\(0<s.at n1->s.at n1=r/\s=s')/\(s.at n1=0->PA k g n1 1 s r s'):=by
 unfold parts at h;split at h<;>try contradiction
 rename_i n1 hn;refine⟨n1,hn,?_⟩;simp only at h;split at h
 . rename_i e;cases h;exact⟨fun _=>⟨rfl,rfl⟩,fun q=>by omega⟩
 . rename_i e;refine ⟨fun q => absurd q e, fun _ => ?_⟩;have hA : ∀(x : Option (Option Nat))(c : Nat)(s : Seen)(t : Nat)(s2 : Seen), (match x with | some none => some (c, s) | some (some m) => (match parts k g m s with | some (j, s) => some (c + j, s) | none => none) | none => none) = some (t, s2) ->
       ∃o,x=some o/\(o=none->c=t/\s=s2)/\∀p,o=some p->∃j,parts k g p s=some (j,s2)/\c+j=t:=by
     intro x c s t s2 h
     split at h<;>try contradiction
     . cases h;exact⟨none,rfl,fun _=>⟨rfl,rfl⟩,fun p q=>by cases q⟩
     . rename_i m
       split at h<;>try contradiction
       rename_i j s3 hp
       cases h
       exact⟨some m,rfl,fun q=>(by cases q),fun p e=>by cases e;exact⟨j,hp,rfl⟩⟩
   split at h<;>try contradiction
   rename_i c1 s1 hg;obtain⟨o,ho,h1,h2⟩:=hA _ _ _ _ _ hg;have hB:PB k g n1 c1 s1 r s':=by
     split at h<;>try contradiction
     rename_i c2 s2 zI;obtain⟨o2,HE,h3,h4⟩:=hA _ _ _ _ _ zI;have hC:PC k g n1 c2 s2 r s':=by
       split at h<;>try contradiction
       rename_i j hj;split at h<;>try contradiction
       rename_i hle;cases h;split at hj<;>try contradiction
       . rename_i hk;split at hj<;>try contradiction
         rename_i q hq;rw[Option.map_eq_some_iff] at hj;obtain⟨⟨l,v⟩,hw,rfl⟩:=hj;exact⟨6,hk,fun e=>absurd rfl e,fun _=>⟨q,l,v,hq,hw,hle,rfl,rfl⟩⟩
       . rename_i kd h6 hk;cases hj;exact⟨kd,hk,fun _=>⟨hle,rfl,rfl⟩,fun e=>absurd e (by intro e;subst e;exact h6 rfl)⟩
     exact⟨o2,HE,fun q=>by obtain⟨rfl,rfl⟩:=h3 q;exact hC,fun p hp=>by obtain⟨j,hj,rfl⟩:=h4 p hp;exact⟨j,s2,hj,hC⟩⟩
   exact⟨o,ho,fun q=>by obtain⟨rfl,rfl⟩:=h1 q;exact hB,fun p hp=>by obtain⟨j,hj,rfl⟩:=h2 p hp;exact⟨j,s1,hj,hB⟩⟩
end Go.aR
namespace Go.aR
theorem PH(v:Nat):((v:Int)==(1:Int))=(v==1):=by
 by_cases h:v=1
 . subst h;rfl
 . have h2:¬((v:Int)=1):=by omega
   rw[beq_eq_false_iff_ne.2 h,beq_eq_false_iff_ne.2 h2]
end Go.aR
namespace Go.aR
open Go.RowKit Go.Sx
structure Tv where
 A:Ω
 na:Nat
 ca:Nat
 B:Ω
 nb:Nat
 cb:Nat
def Is(t:Ty)(p:Tv):Θ:=match t with
 |.mk kd n row _ _=>[.int .i64 (kd:Int),.int .i64 (n:Int),.int .i64 (row:Int),.slice p.A p.na p.ca,.slice p.B p.nb p.cb]
inductive dm (w:Ψ) (S:Φ):Tv->Ty->Prop
 | mk {kd n row : Nat} {ops : List Nm} {args : List Ty} (p : Tv) (ps : List Tv) (hs : kW w S p.A ops) (hn : p.na = ops.length) (hc : p.na <= p.ca /\ ops.length < 1000000000 /\ args.length <= 2) (hb : p.nb = args.length) (hl : ps.length = args.length)
     (hm:∀(i:Nat)(q:Tv)(t:Ty),ps[i]?=some q->args[i]?=some t->∃a,p.B=some a/\S a.block/\w.cells? 0 (a.add (i*5)) 5=some (Is t q))
     (ht:∀(i:Nat)(q:Tv)(t:Ty),ps[i]?=some q->args[i]?=some t->dm w S q t):dm w S p (.mk kd n row ops args)
theorem dm.jh{w w':Ψ}{S:Nat->Prop}{p:Tv}{t:Ty}(h:dm w S p t)(k:∀c,S c->w'.heap[c]?=w.heap[c]?):dm w' S p t:=by
 induction h with
 |mk p ps hs hn hc hb hl hm _ ih=>exact .mk p ps (hs.jh k) hn hc hb hl (fun i q t h1 h2=>by obtain⟨a,ha,hS,o9⟩:=hm i q t h1 h2;exact⟨a,ha,hS,fW o9 (by rw[ie];exact k _ hS)⟩) ih
theorem dm.mono{w:Ψ}{S S':Nat->Prop}{p:Tv}{t:Ty}(h:dm w S p t)(k:∀c,S c->S' c):dm w S' p t:=by
 induction h with
 |mk p ps hs hn hc hb hl hm _ ih=>exact .mk p ps (hs.mono k) hn hc hb hl (fun i q t h1 h2=>by obtain⟨a,ha,hS,o9⟩:=hm i q t h1 h2;exact⟨a,ha,k _ hS,o9⟩) ih
theorem fP(S:Φ)(p:Tv)(t:Ty):Sx.Loc S (fun w=>dm w S p t):=fun _ _ _ hk h=>h.jh hk
def nW(S:Φ)(p:Tv)(t:Ty):Sx.Item:=.ro S (fun w=>dm w S p t)
theorem dm.open{w : Ψ}{S : Nat -> Prop}{p : Tv}{kd n row : Nat}{ops : List Nm}{args : List Ty}(h : dm w S p (.mk kd n row ops args)) :
   kW w S p.A ops/\p.na=ops.length/\(p.na<=p.ca/\ops.length<1000000000/\args.length<=2)/\p.nb=args.length/\∀i t,args[i]?=some t->∃(q:Tv) (a:Addr),p.B=some a/\w.cells? 0 (a.add (i*5)) 5=some (Is t q)/\dm w S q t:=by
 cases h with
 |mk _ ps hs hn hc hb hl hm ht=>
   refine⟨hs,hn,hc,hb,fun i t h=>?_⟩;have hi:i<ps.length:=by rw[hl];exact(List.getElem?_eq_some_iff.1 h).1
   obtain⟨a,ha,hS,o9⟩:=hm i _ t (List.getElem?_eq_getElem hi) h;exact⟨_,a,ha,o9,ht i _ t (List.getElem?_eq_getElem hi) h⟩
theorem VF{k n row : Nat}{g g' : G}{ops : List Nm}{args : List Ty}{m : Nat}(h : pI (k + 1) g (.mk 0 n row ops args) = some (g', m)) :
   (∃q,du n g.tv=some q/\g=g'/\q=m)∨(du n g.tv=none/\∃g1,g.var=some (g1,m)/\{ g1 with tv:=g1.tv++[((n:Int),m)] }=g'):=by
 simp only[pI,if_true] at h;split at h
 . rename_i q hq;cases h;exact .inl ⟨_,hq,rfl,rfl⟩
 . rename_i hq;split at h<;>try contradiction
   rename_i g1 m1 hv;cases h;exact .inr ⟨hq,g1,hv,rfl⟩
def OR(kd row:Nat)(ops:List Nm)(g:G)(a b:Option Nat)(g':G)(m:Nat):Prop:=
 (kd≠6->g.put kd a b 0=some (g',m))/\
 (kd=6->∃g1 x,((row=0/\g=g1/\0=x)∨(0<row/\du row g.rv=some x/\g=g1)∨(0<row/\du row g.rv=none/\∃g2,g.eR=some (g2,x)/\{ g2 with rv:=g2.rv++[((row:Int),x)] }=g1))/\
   ∃g3 r,g1.putRow ops (some x)=some (g3,r)/\g3.put kd a b r=some (g',m))
def OB(k kd row:Nat)(ops:List Nm)(g:G)(a:Option Nat)(t:Option Ty)(g':G)(m:Nat):Prop:=
 (t=none->OR kd row ops g a none g' m)/\∀u,t=some u->∃g1 b,pI k g u=some (g1,b)/\OR kd row ops g1 a (some b) g' m
def OA(k kd row:Nat)(ops:List Nm)(g:G)(t t2:Option Ty)(g':G)(m:Nat):Prop:=
 (t=none->OB k kd row ops g none t2 g' m)/\∀u,t=some u->∃g1 b,pI k g u=some (g1,b)/\OB k kd row ops g1 (some b) t2 g' m
theorem PI{k kd n row:Nat}{g g':G}{ops:List Nm}{args:List Ty}{m:Nat}(hk:kd≠0)(h:pI (k+1) g (.mk kd n row ops args)=some (g',m)):OA k kd row ops g args[0]? args[1]? g' m:=by
 simp only [pI, if_neg hk] at h;have hX : ∀(g : G)(t : Option Ty)(g1 : G)(a : Option Nat), (match t with | none => some (g, none) | some t => (match pI k g t with | some (g, m) => some (g, some m) | none => none)) = some (g1, a) ->
     (t=none->g=g1/\none=a)/\∀u,t=some u->∃b,pI k g u=some (g1,b)/\some b=a:=by
   intro g t g1 a h
   cases t with
   |none=>cases h;exact⟨fun _=>⟨rfl,rfl⟩,fun u e=>by cases e⟩
   |some t=>
     simp only at h
     split at h<;>try contradiction
     rename_i g2 b hb
     cases h
     exact⟨fun e=>(by cases e),fun u e=>by cases e;exact⟨b,hb,rfl⟩⟩
 split at h<;>try contradiction
 rename_i g1 a hA;have hA:=hX _ _ _ _ hA;have hOB:OB k kd row ops g1 a args[1]? g' m:=by
   split at h<;>try contradiction
   rename_i g2 b hB;have hB:=hX _ _ _ _ hB;have hOR:OR kd row ops g2 a b g' m:=by
     split at h
     . rename_i h6;refine⟨fun e=>absurd h6 e,fun _=>?_⟩;split at h<;>try contradiction
       rename_i g3 x hx;split at h<;>try contradiction
       rename_i g4 r hr;refine⟨g3,x,?_,g4,r,hr,h⟩;split at hx
       . rename_i h0;split at hx
         . rename_i q hq;cases hx;exact .inr (.inl ⟨h0,hq,rfl⟩)
         . rename_i hq;split at hx<;>try contradiction
           rename_i g5 q ho;cases hx;exact .inr (.inr ⟨h0,hq,g5,ho,rfl⟩)
       . cases hx;exact .inl ⟨by omega,rfl,rfl⟩
     . rename_i h6;exact⟨fun _=>h,fun e=>absurd e h6⟩
   exact⟨fun e=>by obtain⟨rfl,rfl⟩:=hB.1 e;exact hOR,fun u e=>by obtain⟨q,h1,rfl⟩:=hB.2 u e;exact⟨g2,q,h1,hOR⟩⟩
 exact⟨fun e=>by obtain⟨rfl,rfl⟩:=hA.1 e;exact hOB,fun u e=>by obtain⟨q,h1,rfl⟩:=hA.2 u e;exact⟨g1,q,h1,hOB⟩⟩
end Go.aR
namespace Go.aR
open Go.RowKit Go.Sx
theorem aad{g g':G}{kd r n:Nat}{a b:Option Nat}(h:g.put kd a b r=some (g',n)):g'.tv=g.tv/\g'.rv=g.rv:=by
 unfold G.put at h;split at h
 . simp only[mf,jB,kj,Option.some.injEq,Prod.mk.injEq] at h;obtain⟨rfl,_⟩:=h;exact⟨rfl,rfl⟩
 . cases h
theorem aae{g g':G}{n:Nat}(h:g.eR=some (g',n)):g'.rv=g.rv:=by
 unfold G.eR G.putRow at h;split at h
 . simp only[mf,jB,kj,Option.some.injEq,Prod.mk.injEq] at h;obtain⟨rfl,_⟩:=h;rfl
 . cases h
theorem dW{α:Type}{l:List α}{i:Nat}(h:i<l.length):∃x,l[i]?=some x:=⟨_,List.getElem?_eq_getElem h⟩
theorem Kq{α:Type}{l:List α}{i:Nat}(h:l.length<=i):l[i]?=none:=List.getElem?_eq_none h
end Go.aR
namespace Go.aR
open Go.RowKit Go.Sx
theorem mm{w0 w:Ψ}{L0 L:List Sx.Item}{S:Nat->Prop}{p:Tv}{t:Ty}(H:Hs w0 L0 w L)(j:Nat)(hi:L[j]?=some (nW S p t):=by kernel_rfl):dm w S p t:=(H.at j hi).1
end Go.aR
namespace Go.aR
open Go.dy
structure jw where
 nm:Nm
 t:Nat
 all:Bool
 tv:List Nat
 rv:List Nat
 eR:Bool
structure o_ where
 nm:Nm
 i:Ty
 o:Ty
 n:Nat
structure Ck where
 g:G
 env:List jw
 ops:List o_
 fk:Nat
 fa:Int
def add(l:List Nat)(n:Nat):List Nat:=if l.contains n then l else l++[n]
def Ck.no(c:Ck)(kd:Nat)(at_:Int):Ck:=if c.fk=0 then { c with fk:=kd,fa:=at_ } else c
def Ck.same(k:Nat)(c:Ck)(m n:Nat)(at_:Int):Option Ck:=
 if c.fk≠0 then some c else
 match aR.same k c.g m n with
 |some (g,s)=>
   let c:={ c with g:=g }
   if s=false then some (c.no 8 at_) else
   match round k g m [] with
   |some (r,_)=>if r then some (c.no 8 at_) else
     match round k g n [] with
     |some (r,_)=>if r then some (c.no 8 at_) else some c
     |none=>none
   |none=>none
 |none=>none
def Ck.row(k:Nat)(c:Ck)(m n:Nat)(at_:Int):Option Ck:=
 if c.fk≠0 then some c else
 match fC k c.g m n with
 |some (g,s)=>let c:={ c with g:=g };if s then some c else some (c.no 9 at_)
 |none=>none
def Ck.ry(k:Nat)(c:Ck)(n:Nat)(at_:Int):Option Ck:=
 if c.fk≠0 then some c else
 match parts k c.g n [] with
 |some (p,_)=>if 300<p then some (c.no 10 at_) else some c
 |none=>none
def iJ(nm:Nm):List o_->Option o_
 |[]=>none
 |o::r=>if dh o.nm nm then some o else iJ nm r
def vars:Nat->G->Nat->(seen tv rv:List Nat)->Option (List Nat×List Nat×List Nat)
 |0,_,_,_,_,_=>none
 |k+1,g,n,seen,tv,rv=>match find k g n with
   |some n=>
     if seen.contains n then some (seen,tv,rv) else
     let seen:=seen++[n]
     match g.kind[n]? with
     |some 0=>some (seen,add tv n,rv)
     |some kd=>
       let arg (x:Option (Option Nat)) (s:List Nat×List Nat×List Nat):Option (List Nat×List Nat×List Nat):=match x with
         |some none=>some s
         |some (some m)=>vars k g m s.1 s.2.1 s.2.2
         |none=>none
       match arg g.a[n]? (seen,tv,rv) with
       |some s=>match arg g.b[n]? s with
         |some s=>if kd=6 then(match g.row[n]? with
           |some r=>match whole k g r [] with
             |some (_,0)=>some s
             |some (_,v+1)=>some (s.1,s.2.1,add s.2.2 (v+1))
             |none=>none
           |none=>none) else some s
         |none=>none
       |none=>none
     |none=>none
   |none=>none
def eS(k:Nat)(g:G):List jw->(seen tv rv:List Nat)->Option (List Nat×List Nat)
 |[],_,tv,rv=>some (tv,rv)
 |x::e,seen,tv,rv=>
   if x.all then
     match vars k g x.t [] [] [] with
     |some (_,a,b)=>eS k g e seen ((a.filter fun n=>!x.tv.contains n).foldl add tv) ((b.filter fun n=>!x.rv.contains n).foldl add rv)
     |none=>none
   else match vars k g x.t seen tv rv with
     |some (seen,tv,rv)=>eS k g e seen tv rv
     |none=>none
def Ck.gC(k:Nat)(c:Ck)(nm:Nm)(n:Nat):Option jw:=
 match eS k c.g c.env [] [] [],vars k c.g n [] [] [] with
 |some (it,ir),some (_,tv,rv)=>some ⟨nm,n,true,tv.filter fun v=>!it.contains v,rv.filter fun v=>!ir.contains v,true⟩
 |_,_=>none
def Seen.get(s:Seen)(n:Nat):Option Nat:=match s with
 |[]=>none
 |(m,v)::r=>if m=n then some v else Seen.get r n
def copied:Nat->G->Nat->jw->(done rows:List (Nat×Nat))->Option (G×Nat×List (Nat×Nat)×List (Nat×Nat))
 |0,_,_,_,_,_=>none
 |k+1,g,n,x,done,rows=>match find k g n with
   |some n=>match Seen.get done n with
     |some p=>some (g,p,done,rows)
     |none=>match g.kind[n]? with
       | some 0 => if x.tv.contains n then (match g.var with
           |some (g,m)=>some (g,m,Seen.put done n m,rows)
           |none=>none)
         else some (g,n,Seen.put done n n,rows)
       |some kd=>
         let arg (y:G->Option (Option Nat)) (s:G×Option Nat×List (Nat×Nat)×List (Nat×Nat)):Option (G×Option Nat×List (Nat×Nat)×List (Nat×Nat)):=match y s.1 with
           |some none=>some (s.1,none,s.2.2.1,s.2.2.2)
           |some (some m)=>match copied k s.1 m x s.2.2.1 s.2.2.2 with
             |some (g,m,d,r)=>some (g,some m,d,r)
             |none=>none
           |none=>none
         match arg (fun g=>g.a[n]?) (g,none,done,rows) with
         |some (g,a,done,rows)=>match arg (fun g=>g.b[n]?) (g,none,done,rows) with
           |some (g,b,done,rows)=>
             let rw:Option (G×Nat×List (Nat×Nat)):=if kd=6 then(match g.row[n]? with
               |some r=>match whole k g r [] with
                 |some (ops,v)=>
                   let vv:Option (G×Nat×List (Nat×Nat)):=if v≠0&&x.rv.contains v then(match Seen.get rows v with
                     |some p=>some (g,p,rows)
                     |none=>match g.eR with
                       |some (g,w)=>some (g,w,Seen.put rows v w)
                       |none=>none) else some (g,v,rows)
                   match vv with
                   |some (g,v,rows)=>match g.putRow ops (some v) with
                     |some (g,q)=>some (g,q,rows)
                     |none=>none
                   |none=>none
                 |none=>none
               |none=>none) else some (g,0,rows)
             match rw with
             |some (g,q,rows)=>match g.put kd a b q with
               |some (g,m)=>some (g,m,Seen.put done n m,rows)
               |none=>none
             |none=>none
           |none=>none
         |none=>none
       |none=>none
   |none=>none
def opened:Nat->G->Nat->Option (G×Nat)
 |0,_,_=>none
 |k+1,g,n=>match find k g n with
   |some n=>match g.kind[n]? with
     |some 6=>match g.b[n]? with
       |some (some b)=>match opened k g b with
         |some (g,b)=>match g.row[n]? with
           |some r=>match whole k g r [] with
             |some (ops,v)=>
               let vv:Option (G×Nat):=if v=0 then g.eR else some (g,v)
               match vv with
               |some (g,v)=>match g.putRow ops (some v) with
                 |some (g,q)=>match g.a[n]? with
                   |some a=>g.put 6 a (some b) q
                   |none=>none
                 |none=>none
               |none=>none
             |none=>none
           |none=>none
         |none=>none
       |_=>none
     |some _=>some (g,n)
     |none=>none
   |none=>none
def use(k:Nat)(g:G)(x:jw):Option (G×Nat):=
 let c:Option (G×Nat):=if x.all then(match copied k g x.t x [] [] with
   |some (g,n,_,_)=>some (g,n)
   |none=>none) else some (g,x.t)
 match c with
 |some (g,n)=>if x.eR then opened k g n else some (g,n)
 |none=>none
def tL:Nat->Nd->Option Ty
 |0,_=>none
 |k+1,n=>
   let pd (i:Nat):Option Ty:=match n.ks[i]? with
     |some d=>tL k d
     |none=>none
   if n.k=24 then some (.mk 1 0 0 [] []) else if n.k=25 then some (.mk 2 0 0 [] []) else if n.k=26 then some (.mk 3 0 0 [] [])
   else if n.k=27 then(match pd 0 with
     |some a=>some (.mk 4 0 0 [] [a])
     |none=>none)
   else match pd 0,pd 1 with
     |some a,some b=>if n.k=28 then some (.mk 5 0 0 [] [a,b]) else if n.ks.length<1000000000 then some (.mk 6 0 0 ((n.ks.drop 2).foldl (fun l d=>jg l d.nm) []) [a,b]) else none
     |_,_=>none
def kX:Nat->Ty->Option Nat
 |0,_=>none
 |k+1,.mk _ _ _ ops args=>args.foldl (fun s a=>match s,kX k a with
   |some n,some m=>if n+m<=2147483647 then some (n+m) else none
   |_,_=>none) (some (1+ops.length))
def Oe(s:Nm)(l:List Nm):Bool:=l.any fun x=>dh x s
def vp(c:Ck)(all:List Nm)(before:List Nd)(d:Nd):Ck:=
 let c:=if Oe d.nm all then c else c.no 6 d.a
 before.foldl (fun c e=>if dh e.nm d.nm then c.no 7 d.a else c) c
def iK(c:Ck)(all:List Nm):List Nd->List Nd->Ck
 |_,[]=>c
 |before,d::r=>iK (vp c all before d) all (before++[d]) r
def cF:Nat->Ck->Nd->List Nm->Option Ck
 |0,_,_,_=>none
 |k+1,c,n,all=>
   if c.fk≠0 then some c else
   if n.k≠29 then n.ks.foldl (fun s d=>match s with
     |some c=>cF k c d all
     |none=>none) (some c)
   else match n.ks with
     |a::b::r=>match cF k c a all with
       |some c=>cF k (iK c all [] r) b all
       |none=>none
     |_=>none
def gD(k:Nat)(all:List Nm):Nat->List Nd->Ck->Option Ck
 |_,[],c=>some c
 |i,d::r,c=>
   if c.fk≠0 then some c else
   match iJ d.nm c.ops with
   |some _=>some (c.no 7 d.a)
   |none=>match d.ks with
     |x::y::_=>match cF k c x all with
       |some c=>match cF k c y all with
         |some c=>if c.fk≠0 then some c else
           match tL k x,tL k y with
           |some ti,some to=>match kX k ti,kX k to with
             |some p,some q=>gD k all (i+1) r { (if 300<p||300<q then c.no 10 d.a else c) with ops:=c.ops++[⟨d.nm,ti,to,i⟩] }
             |_,_=>none
           |_,_=>none
         |none=>none
       |none=>none
     |_=>none
def value(n:Nd):Bool:=n.k==3||n.k==4||n.k==5||n.k==15||n.k==6||n.k==7
def gE(nm:Nm)(e:List jw):Option jw:=(e.reverse.find? fun x=>dh x.nm nm)
def Ck.with(c:Ck)(x:jw):Ck:={ c with env:=c.env++[x] }
def Ck.out(c:Ck)(n:Nat):Ck:={ c with env:=c.env.take (c.env.length-n) }
def mono(nm:Nm)(t:Nat):jw:=⟨nm,t,false,[],[],false⟩
def Ck.put(c:Ck)(kd:Nat)(a b:Option Nat)(r:Nat):Option (Ck×Nat):=match c.g.put kd a b r with
 |some (g,m)=>some ({ c with g:=g },m)
 |none=>none
def Ck.var(c:Ck):Option (Ck×Nat):=c.put 0 none none 0
def Ck.putRow(c:Ck)(l:List Nm)(nx:Option Nat):Option (Ck×Nat):=match c.g.putRow l nx with
 |some (g,m)=>some ({ c with g:=g },m)
 |none=>none
def Ck.eR(c:Ck):Option (Ck×Nat):=c.putRow [] none
def Ck.pI(k:Nat)(c:Ck)(t:Ty):Option (Ck×Nat):=match aR.pI k c.g t with
 |some (g,m)=>some ({ c with g:=g },m)
 |none=>none
def mH(ex:Ck->Nd->Nat->Option (Ck×Nat))(k:Nat)(c:Ck)(d:Nd):Option (Ck×Nat):=do
 let (c,row) <-c.eR
 let d0 <-d.ks[0]?
 if d.n=0 then ex c d0 row else
   let (c,v) <-c.var
   let (c,t) <-ex (c.with (mono d.nm v)) d0 row
   let c <-(c.out 1).same k v t d.a
   some (c,t)
def fZ(ex:Ck->Nd->Nat->Option (Ck×Nat))(k:Nat)(n:Nd)(row inner t b:Nat):List Nd->Ck->Option Ck
 |[],c=>some c
 |d::r,c=>do
   let o <-iJ d.nm c.ops
   let (c,i) <-c.pI k o.i
   let (c,o) <-c.pI k o.o
   let (c,f) <-c.put 6 (some o) (some b) row
   let (c,f) <-if n.n=1 then c.put 6 (some o) (some t) inner else some (c,f)
   let p0 <-d.ks[0]?
   let p1 <-d.ks[1]?
   let p2 <-d.ks[2]?
   let c:=(c.with ⟨p0.nm,i,false,[],[],true⟩).with ⟨p1.nm,f,false,[],[],true⟩
   let (c,e) <-ex c p2 row
   let c <-(c.out 2).same k e b p2.a
   fZ ex k n row inner t b r c
def ji(ops:List o_):List Nd->List Nm->Ck->Ck
 |[],_,c=>c
 |d::r,names,c=>
   let c:=match iJ d.nm ops with
     |some _=>c
     |none=>c.no 6 d.a
   let c:=names.foldl (fun c s=>if dh s d.nm then c.no 7 d.a else c) c
   ji ops r (names++[d.nm]) c
def expr(z:Nat):Nat->Ck->Nd->Nat->Option (Ck×Nat)
 |0,_,_,_=>none
 |k+1,c,n,row=>
   let ex:=expr z k
   if c.fk≠0 then c.var else
   match n.k with
   |3=>c.put 1 none none 0
   |4=>c.put 2 none none 0
   |5=>c.put 3 none none 0
   |15=>do
     let (c,v) <-c.var
     c.put 4 (some v) none 0
   |6=>match gE n.nm c.env with
     |some x=>match use z c.g x with
       |some (g,m)=>some ({ c with g:=g },m)
       |none=>none
     |none=>(c.no 6 n.a).var
   |7=>do
     let (c,v) <-c.var
     let (c,r) <-c.eR
     let d <-n.ks[0]?
     let (c,b) <-ex (c.with (mono n.nm v)) d r
     (c.out 1).put 6 (some v) (some b) r
   |8=>do
     let d0 <-n.ks[0]?
     let d1 <-n.ks[1]?
     let (c,f) <-ex c d0 row
     let (c,a) <-ex c d1 row
     let (c,p) <-c.var
     let (c,b) <-c.var
     let (c,q) <-c.eR
     let (c,t) <-c.put 6 (some p) (some b) q
     let c <-c.same z f t d0.a
     let c <-c.same z p a d1.a
     let c <-c.row z q row n.a
     some (c,b)
   |9=>do
     let d0 <-n.ks[0]?
     let d1 <-n.ks[1]?
     let (c, x) <- if n.n = 1 then do
         let (c,t) <-mH ex z c n
         let c <-c.ry z t n.a
         let x <-c.gC z n.nm t
         some (c,x)
       else do
         let (c,t) <-ex c d0 row
         let c <-c.ry z t n.a
         if value d0 then do
           let x <-c.gC z n.nm t
           some (c,x)
         else some (c,mono n.nm t)
     let (c,t) <-ex (c.with x) d1 row
     some (c.out 1,t)
   |10=>do
     let d0 <-n.ks[0]?
     let d1 <-n.ks[1]?
     let (c,_) <-ex c d0 row
     ex c d1 row
   |11=>do
     let d0 <-n.ks[0]?
     let d1 <-n.ks[1]?
     let d2 <-n.ks[2]?
     let (c,a) <-ex c d0 row
     let (c,b) <-c.put 2 none none 0
     let c <-c.same z a b d0.a
     let (c,t) <-ex c d1 row
     let (c,e) <-ex c d2 row
     let c <-c.same z e t d2.a
     some (c,t)
   |12=>do
     let d0 <-n.ks[0]?
     let d1 <-n.ks[1]?
     let (c,a) <-ex c d0 row
     let (c,b) <-ex c d1 row
     c.put 5 (some a) (some b) 0
   |16=>do
     let d0 <-n.ks[0]?
     let d1 <-n.ks[1]?
     let (c,a) <-ex c d0 row
     let (c,b) <-ex c d1 row
     let (c,l) <-c.put 4 (some a) none 0
     let c <-c.same z b l d1.a
     some (c,b)
   |17=>do
     let d0 <-n.ks[0]?
     let d1 <-n.ks[1]?
     let p2 <-n.ks[2]?
     let p3 <-n.ks[3]?
     let d4 <-n.ks[4]?
     let (c,a) <-ex c d0 row
     let (c,v) <-c.var
     let (c,l) <-c.put 4 (some v) none 0
     let c <-c.same z a l d0.a
     let (c,t) <-ex c d1 row
     let (c,e) <-ex ((c.with (mono p2.nm v)).with (mono p3.nm l)) d4 row
     let c <-(c.out 2).same z e t d4.a
     some (c,t)
   |18=>do
     let d0 <-n.ks[0]?
     let d1 <-n.ks[1]?
     let (c,a) <-ex c d0 row
     let (c,t) <-c.put 1 none none 0
     let c <-c.same z a t d0.a
     let (c,a) <-ex c d1 row
     let (c,t) <-c.put 1 none none 0
     let c <-c.same z a t d1.a
     if dh n.nm ⟨#[60]⟩||dh n.nm ⟨#[61,61]⟩ then c.put 2 none none 0 else c.put 1 none none 0
   |19=>match iJ n.nm c.ops with
     |none=>(c.no 6 n.a).var
     |some o=>do
       let d0 <-n.ks[0]?
       let (c,a) <-ex c d0 row
       let (c,i) <-c.pI z o.i
       let (c,r) <-c.pI z o.o
       let c <-c.same z a i d0.a
       let (c,v) <-c.eR
       let (c,q) <-c.putRow [n.nm] (some v)
       let c <-c.row z row q n.a
       some (c,r)
   |13|14=>do
     let d0 <-n.ks[0]?
     let (c,a) <-ex c d0 row
     let (c,x) <-c.var
     let (c,y) <-c.var
     let (c,p) <-c.put 5 (some x) (some y) 0
     let c <-c.same z a p d0.a
     some (c,if n.k=13 then x else y)
   |_=>do
     let d0 <-n.ks[0]?
     let rt <-n.ks[1]?
     let rb <-rt.ks[0]?
     let cl:=n.ks.drop 2
     let _ <-if n.ks.length<1000000000 then some () else none
     let c:=ji c.ops cl [] c
     if c.fk≠0 then c.var else
       let (c,inner) <-c.putRow (cl.map fun d=>d.nm) (some row)
       let (c,t) <-ex c d0 inner
       let (c,b) <-ex (c.with (mono rt.nm t)) rb row
       let c <-fZ ex z n row inner t b cl (c.out 1)
       some (c,b)
end Go.aR
namespace Go.aR
open Go.RowKit Go.Sx
theorem Kr{k m n : Nat}{c c' : Ck}{a : Int}(h : c.same k m n a = some c') :
   (c.fk≠0->c=c')/\(c.fk=0->∃g s,aR.same k c.g m n=some (g,s)/\(s=false->{ c with g:=g,fk:=8,fa:=a }=c')/\
     (s=true->∃r1 z1,round k g m []=some (r1,z1)/\(r1=true->{ c with g:=g,fk:=8,fa:=a }=c')/\
       (r1=false->∃r2 z2,round k g n []=some (r2,z2)/\(r2=true->{ c with g:=g,fk:=8,fa:=a }=c')/\(r2=false->{ c with g:=g }=c')))):=by
 unfold Ck.same at h;split at h
 . rename_i e;cases h;exact⟨fun _=>rfl,fun q=>absurd q e⟩
 . rename_i e;have e:c.fk=0:=by simpa using e
   refine⟨fun q=>absurd e q,fun _=>?_⟩;split at h<;>try contradiction
   rename_i g s hs;refine⟨g,s,hs,?_⟩;cases s with
   |false=>simp only[if_true,Option.some.injEq,Ck.no,e] at h;exact⟨fun _=>h,fun q=>by cases q⟩
   |true=>
     refine⟨fun q=>(by cases q),fun _=>?_⟩;simp only[Bool.true_eq_false,if_false] at h;split at h<;>try contradiction
     rename_i r1 z1 h1;refine⟨r1,z1,h1,?_⟩;cases r1 with
     |true=>simp only[if_true,Option.some.injEq,Ck.no,e] at h;exact⟨fun _=>h,fun q=>by cases q⟩
     |false=>
       refine⟨fun q=>(by cases q),fun _=>?_⟩;simp only[Bool.false_eq_true,if_false] at h;split at h<;>try contradiction
       rename_i r2 z2 h2;refine⟨r2,z2,h2,?_⟩;cases r2 with
       |true=>simp only[if_true,Option.some.injEq,Ck.no,e] at h;exact⟨fun _=>h,fun q=>by cases q⟩
       |false=>simp only[Bool.false_eq_true,if_false,Option.some.injEq] at h;exact⟨fun q=>(by cases q),fun _=>h⟩
theorem PJ{k m n : Nat}{c c' : Ck}{a : Int}(h : c.row k m n a = some c') :
   (c.fk≠0->c=c')/\(c.fk=0->∃g s,fC k c.g m n=some (g,s)/\(s=false->{ c with g:=g,fk:=9,fa:=a }=c')/\(s=true->{ c with g:=g }=c')):=by
 unfold Ck.row at h;split at h
 . rename_i e;cases h;exact⟨fun _=>rfl,fun q=>absurd q e⟩
 . rename_i e;have e:c.fk=0:=by simpa using e
   refine⟨fun q=>absurd e q,fun _=>?_⟩;split at h<;>try contradiction
   rename_i g s hs;refine⟨g,s,hs,?_⟩;cases s with
   |false=>simp only[Bool.false_eq_true,if_false,Option.some.injEq,Ck.no,e,if_true] at h;exact⟨fun _=>h,fun q=>by cases q⟩
   |true=>simp only[if_true,Option.some.injEq] at h;exact⟨fun q=>(by cases q),fun _=>h⟩
theorem PL{k n : Nat}{c c' : Ck}{a : Int}(h : c.ry k n a = some c') :
   (c.fk≠0->c=c')/\(c.fk=0->∃p z,parts k c.g n []=some (p,z)/\(300<p->{ c with fk:=10,fa:=a }=c')/\(p<=300->c=c')):=by
 unfold Ck.ry at h;split at h
 . rename_i e;cases h;exact⟨fun _=>rfl,fun q=>absurd q e⟩
 . rename_i e;have e:c.fk=0:=by simpa using e
   refine⟨fun q=>absurd e q,fun _=>?_⟩;split at h<;>try contradiction
   rename_i p z hp;refine⟨p,z,hp,?_⟩;split at h
   . rename_i q;simp only[Option.some.injEq,Ck.no,e,if_true] at h;exact⟨fun _=>h,fun r=>by omega⟩
   . rename_i q;cases h;exact⟨fun r=>absurd r q,fun _=>rfl⟩
end Go.aR
namespace Go.aR
open Go.RowKit Go.Sx
abbrev pF(k:Nat)(s:Option Nat)(a:Ty):Option Nat:=match s,kX k a with
 |some n,some m=>if n+m<=2147483647 then some (n+m) else none
 |_,_=>none
theorem Ks(k:Nat)(l:List Ty):l.foldl (pF k) none=none:=by
 induction l with
 |nil=>rfl
 |cons t l ih=>rw[List.foldl_cons];exact ih
theorem MK{k kd u row m:Nat}{ops:List Nm}{args:List Ty}(h:kX (k+1) (.mk kd u row ops args)=some m):args.foldl (pF k) (some (1+ops.length))=some m:=h
theorem VG{k c m i : Nat}{args : List Ty}(h : (args.drop i).foldl (pF k) (some c) = some m)(hi : i < args.length) :
   ∃t j,args[i]?=some t/\kX k t=some j/\c+j<=2147483647/\(args.drop (i+1)).foldl (pF k) (some (c+j))=some m:=by
 rw[List.drop_eq_getElem_cons hi,List.foldl_cons] at h;cases hp:kX k args[i] with
 |none=>simp only[pF,hp] at h;rw[Ks] at h;cases h
 |some j=>
   simp only[pF,hp] at h;split at h
   . rename_i hle;exact⟨_,j,List.getElem?_eq_getElem hi,hp,hle,h⟩
   . rw[Ks] at h;cases h
end Go.aR
namespace Go.aR
open Go.RowKit Go.Sx Go.dy
theorem ML(v:Nat)(k:Int)(j:Nat)(h:k=(j:Int)):((v:Int)==k)=(v==j):=by
 subst h;by_cases e:v=j
 . subst e;simp
 . have h2:¬((v:Int)=(j:Int)):=by omega
   rw[beq_eq_false_iff_ne.2 e,beq_eq_false_iff_ne.2 h2]
def fK(Q:Φ)(ks:List Nd)(A:Ω)(c:Nat):Sx.Item:=.ro Q (fun w=>KV Q w ks A c)
theorem yD(Q:Φ)(ks:List Nd)(A:Ω)(c:Nat):Sx.Loc Q (fun w=>KV Q w ks A c):=fun _ _ _ hk h=>h.frame (fun j hj _=>hk j hj)
theorem ae4{w0 w:Ψ}{L0 L:List Sx.Item}{Q:Nat->Prop}{ks:List Nd}{A:Ω}{c:Nat}(H:Hs w0 L0 w L)(j:Nat)(hi:L[j]?=some (fK Q ks A c)):KV Q w ks A c:=(H.at j hi).1
theorem aaf{w:Ψ}{Q:Nat->Prop}{ks:List Nd}{A:Ω}{c i:Nat}{d:Nd}(h:KV Q w ks A c)(hd:ks[i]?=some d):∃(B:Ω) (cb:Nat) (a:Addr),A=some a/\w.cells? 0 (a.add (i*5)) 5=some (zx d B cb)/\KV Q w d.ks B cb:=by
 obtain⟨As,cs,hr,hk⟩:=h.at_;have hi:i<ks.length:=(List.getElem?_eq_some_iff.1 hd).1;obtain⟨a,ha,hc⟩:=hr i hi;have e:ks.getD i gS=d:=by rw[List.getD_eq_getElem?_getD,hd];rfl
 have k:=hk i hi;simp only[e] at hc k;exact⟨_,_,a,ha,hc,k⟩
end Go.aR
namespace Go.aR
open Go.RowKit Go.Sx
abbrev Kid:=Tv×Ty×(Nat->Prop)
def PM(l:List Kid):Θ:=l.flatMap fun k=>Is k.2.1 k.1
theorem uf(t:Ty)(p:Tv):(Is t p).length=5:=by cases t;rfl
theorem VH{l:List Kid}{i:Nat}{k:Kid}(h:l[i]?=some k):((PM l).drop (i*5)).take 5=Is k.2.1 k.1:=by
 induction l generalizing i with
 |nil=>simp at h
 |cons x l ih=>
   have e:PM (x::l)=Is x.2.1 x.1++PM l:=rfl;cases i with
   |zero=>simp at h;subst h;rw[e];simp[uf]
   |succ i=>
     rw[e,show(i+1)*5=(Is x.2.1 x.1).length+i*5 by rw[uf];omega,List.drop_append];simp only[List.length_append,Nat.add_sub_cancel_left];rw[List.drop_of_length_le (by omega),List.nil_append];exact ih (by simpa using h)
end Go.aR
namespace Go.aR
open Go.RowKit Go.Sx
theorem dz{w0 w : Ψ}{L0 L : List Sx.Item}{e cap n na ca : Nat}{A B : Ω}{Sa : Nat -> Prop}{ops : List Nm}{l : List Kid}(H : Hs w0 L0 w L)(I : List Nat)(kd u row : Nat)
   (hp:bB I L=some (.own e 5 B cap n (PM l)::bw Sa A ops::l.map fun k=>nW k.2.2 k.1 k.2.1)) (hn:na=ops.length) (hc:na<=ca/\ops.length<1000000000/\l.length<=2) (hk:n=l.length):
   ∃S,Hs w0 L0 w (nW S ⟨A,na,ca,B,n,cap⟩ (.mk kd u row ops (l.map (·.2.1)))::rest I L):=by
 refine⟨_,H.fz I hp (fun s=>?_) (fP _ _ _)⟩;have h0:=s.all _ (.head _);have h1:=s.all _ (.tail _ (.head _));refine .mk _ (l.map (·.1)) (h1.1.mono fun c Io=>⟨_,.tail _ (.head _),Io⟩) hn (by simpa using hc) (by simpa using hk) (by simp) (fun i q t hq ht=>?_) (fun i q t hq ht=>?_)
 . rw[List.getElem?_map] at hq ht;cases hx:l[i]? with
   |none=>simp[hx] at hq
   |some k=>
     simp only[hx,Option.map_some,Option.some.injEq] at hq ht;subst hq ht;have hi:i<l.length:=(List.getElem?_eq_some_iff.1 hx).1;rcases h0.2 with⟨_,hz⟩|⟨g,dj,cur,hv,_,hg,Bl,_,o9,X4⟩
     . omega
     . injection hv with e1 e2 e3;subst e1;refine⟨_,rfl,⟨_,.head _,rfl⟩,?_⟩;have ea:(⟨g,0,none⟩:Addr).add (i*5)=⟨g,i*5,none⟩:=by unfold Addr.add;split<;>simp_all
       have hxs:((PM l).drop (i*5)).take 5=Is k.2.1 k.1:=VH hx;rw[ea];refine ChangeShapes.cells?_of (Nat.zero_le _) (uf _ _) (fun j hj=>?_);have hj5:j<5:=by simpa[uf] using hj
       have ud:cur[i*5+j]?=(Is k.2.1 k.1)[j]?:=by
         rw[<- hxs,List.getElem?_take,if_pos hj5,List.getElem?_drop,<-X4,List.getElem?_take,if_pos (by omega)];simp
       rw[cell_of_row w g _ cur e (0,0) hg,ud]
 . rw[List.getElem?_map] at hq ht;cases hx:l[i]? with
   |none=>simp[hx] at hq
   |some k=>
     simp only[hx,Option.map_some,Option.some.injEq] at hq ht;subst hq ht;have hm:nW k.2.2 k.1 k.2.1∈l.map fun k=>nW k.2.2 k.1 k.2.1:=List.mem_map_of_mem (List.mem_of_getElem? hx);have h2:=s.all _ (.tail _ (.tail _ hm));exact h2.1.mono fun c Io=>⟨_,.tail _ (.tail _ hm),Io⟩
end Go.aR
namespace Go.aR
open Go.RowKit Go.Sx Go.dy
abbrev It(l:List Nm)(d:Nd):List Nm:=jg l d.nm
theorem MM{k kd na : Nat}{nm : Nm}{nn : Int}{ks : List Nd}{t : Ty}(h : tL (k + 1) (.mk kd na nm nn ks) = some t) :
   (kd=24->.mk 1 0 0 [] []=t)/\(kd=25->.mk 2 0 0 [] []=t)/\(kd=26->.mk 3 0 0 [] []=t)/\
   (kd≠24->kd≠25->kd≠26->kd=27->∃d0 a,ks[0]?=some d0/\tL k d0=some a/\.mk 4 0 0 [] [a]=t)/\
   (kd≠24->kd≠25->kd≠26->kd≠27->∃d0 d1 a b,ks[0]?=some d0/\ks[1]?=some d1/\tL k d0=some a/\tL k d1=some b/\(kd=28->.mk 5 0 0 [] [a,b]=t)/\
     (kd≠28->ks.length<1000000000/\.mk 6 0 0 ((ks.drop 2).foldl It []) [a,b]=t)):=by
 unfold tL at h;split at h
 . rename_i e1;have e1:kd=24:=e1;simp only[Option.some.injEq] at h;exact⟨fun _=>h,fun q=>by omega,fun q=>by omega,fun q=>absurd e1 q,fun q=>absurd e1 q⟩
 rename_i e1;have e1:¬kd=24:=e1;split at h
 . rename_i e2;have e2:kd=25:=e2;simp only[Option.some.injEq] at h;exact⟨fun q=>absurd q e1,fun _=>h,fun q=>by omega,fun _ q=>absurd e2 q,fun _ q=>absurd e2 q⟩
 rename_i e2;have e2:¬kd=25:=e2;split at h
 . rename_i e3;have e3:kd=26:=e3;simp only[Option.some.injEq] at h;exact⟨fun q=>absurd q e1,fun q=>absurd q e2,fun _=>h,fun _ _ q=>absurd e3 q,fun _ _ q=>absurd e3 q⟩
 rename_i e3;have e3:¬kd=26:=e3;refine⟨fun q=>absurd q e1,fun q=>absurd q e2,fun q=>absurd q e3,fun _ _ _ e4=>?_,fun _ _ _ e4=>?_⟩
 . split at h
   . simp only[Nd.ks] at h;cases h0:ks[0]? with
     |none=>simp[h0] at h
     |some d0=>
       simp only[h0] at h;cases ha:tL k d0 with
       |none=>simp[ha] at h
       |some a=>simp only[ha,Option.some.injEq] at h;exact⟨d0,a,rfl,ha,h⟩
   . rename_i q;exact absurd e4 q
 . split at h
   . rename_i q;exact absurd q e4
   simp only[Nd.ks] at h;cases h0:ks[0]? with
   |none=>simp[h0] at h
   |some d0=>
     cases h1:ks[1]? with
     |none=>
       simp only[h0,h1] at h;split at h<;>simp_all
     |some d1=>
       simp only[h0,h1] at h;split at h<;>try contradiction
       rename_i a b ha hb;refine⟨d0,d1,a,b,rfl,rfl,ha,hb,fun e5=>?_,fun e5=>?_⟩
       . split at h
         . simpa using h
         . rename_i q;exact absurd e5 q
       . split at h
         . rename_i q;exact absurd q e5
         . have h':(if ks.length<1000000000 then some (Ty.mk 6 0 0 (List.foldl It [] (List.drop 2 ks)) [a,b]) else none)=some t:=h;by_cases hl:ks.length<1000000000
           . rw[if_pos hl] at h';exact⟨hl,Option.some.inj h'⟩
           . rw[if_neg hl] at h';cases h'
end Go.aR
namespace Go.Sx
open Go.RowKit Go.Gx Go.MapKept
section
variable {α:Type}
def ae5(es:Array MapEntry)(seen:Array Nat)(enc:α->Value):Option (α×Value)->Prop
 |none=>True
 |some p=>∃(e:MapEntry) (s:Array Nat),seen=s.push e.born/\e∈es.toList/\e.key=enc p.1/\e.val=p.2
def aag(kd:TypeDesc)(enc:α->Value)(bt r:Nat)(mp left:List (α×Value))(cur:Option (α×Value))(w:Ψ):Prop:=
 ∃es ck seen,Has w bt (.map es ck)/\FE kd enc es ck mp/\Has w r (.mapIter (some bt) ck seen ck)/\((leftOf es seen).toList.map (fun e=>(e.key,e.val))).Perm (left.map (fun p=>(enc p.1,p.2)))/\ae5 es seen enc cur
def itI(kd:TypeDesc)(enc:α->Value)(bt r:Nat)(mp left:List (α×Value))(cur:Option (α×Value)):Item:=.abs (fun c=>c=bt∨c=r) (aag kd enc bt r mp left cur)
theorem VI(kd:TypeDesc)(enc:α->Value)(bt r:Nat)(mp left:List (α×Value))(cur:Option (α×Value)):Loc (fun c=>c=bt∨c=r) (aag kd enc bt r mp left cur):=by
 rintro w w' _ hk ⟨es,ck,seen,h1,h2,h3,h4,h5⟩;exact⟨es,ck,seen,(hk _ (.inl rfl)).trans h1,h2,(hk _ (.inr rfl)).trans h3,h4,h5⟩
theorem Cu{kd:TypeDesc}{enc:α->Value}{bt r:Nat}{mp left:List (α×Value)}{cur:Option (α×Value)}{w:Ψ}(h:aag kd enc bt r mp left cur w):(itI kd enc bt r mp left cur).holds w:=by
 refine⟨h,fun c hc=>?_,VI _ _ _ _ _ _ _⟩;obtain⟨es,ck,seen,h1,_,h3,_,_⟩:=h;rcases hc with rfl|rfl
 . exact Has.lt h1
 . exact Has.lt h3
theorem FQ{w w1:Ψ}{r:Nat}{o:Obj}(h:w1=w∨w1=w.drew)(k:Has w r o):Has w1 r o:=by rcases h with rfl|rfl<;>exact k
theorem MN(es : Array MapEntry)(seen : Array Nat)(e : MapEntry)(hn : (es.toList.map (·.born)).Nodup)(he : e ∈ (leftOf es seen).toList) :
   (leftOf es seen).toList.Perm (e::(leftOf es (seen.push e.born)).toList):=by
 unfold leftOf at *;rw[Array.toList_filter] at he ⊢;rw[Array.toList_filter];generalize es.toList=l at *;induction l with
 |nil=>simp at he
 |cons x l ih=>
   simp only[List.map_cons,List.nodup_cons] at hn;have PO:∀y:MapEntry,(!(seen.push e.born).contains y.born)=((!seen.contains y.born)&&(y.born != e.born)):=by
     intro y;simp only[Array.contains_push];cases seen.contains y.born<;>simp[Bool.not_or,bne]
   by_cases hx:x=e
   . subst hx;have hs : (!seen.contains x.born) = true := (List.mem_filter.1 he).2;rw [List.filter_cons, if_pos hs, List.filter_cons, PO];simp only [bne_self_eq_false, Bool.and_false, Bool.false_eq_true, if_false];refine List.Perm.cons _ ?_;have : l.filter (fun y => !(seen.push x.born).contains y.born) = l.filter (fun y => !seen.contains y.born) := by
       refine List.filter_congr fun y hy=>?_;rw[PO];have:y.born≠x.born:=fun q=>hn.1 (q▸List.mem_map_of_mem hy);simp[this]
     rw[this]
   . have he' : e ∈ l.filter (fun y => !seen.contains y.born) := by
       rw[List.filter_cons] at he;split at he
       . rcases List.mem_cons.1 he with q|q
         . exact absurd q.symm hx
         . exact q
       . exact he
     have hb:x.born≠e.born:=fun q=>hn.1 (q▸List.mem_map_of_mem (List.mem_filter.1 he').1);have k:=ih hn.2 he';rw[List.filter_cons,List.filter_cons,PO];have Ml:(x.born != e.born)=true:=by simp[hb]
     rw[Ml,Bool.and_true];split
     . exact(k.cons x).trans (List.Perm.swap _ _ _)
     . exact k
end
section
variable {α:Type}
variable [Rd] {P:Program} {B:Exit->Act->Ψ->Prop} {b:Nat->Value} {n:Nat} {d:List Deferred} {w0 w:Ψ} {x:St} {L0 L:List Item}
def Ku(b:Nat->Value)(n:Nat)(x:St):Option Ask:=
 match hd b n x with
 |some q=>match q.2.2.op with
   |.range t mp=>some ⟨[ev b n x.l mp],[t],x,q⟩
   |_=>none
 |none=>none
theorem rg(m i : Nat)(H : Hs w0 L0 w L){kd : TypeDesc}{enc : α -> Value}{bt t kt et : Nat}{mp : List (α × Value)}(hi : L[i]? = some (t_ kd enc bt mp))
   (k:∀r w',Hs w0 L0 w' (L.set i (itI kd enc bt r mp mp none))->Goal P B b n d (nx (vX (via P b n m w x (ask (Ku b n)))).y (vX (via P b n m w x (ask (Ku b n)))).q (.pointer (some ⟨r,0,none⟩))) w')
   (h:vA (via P b n m w x (ask (Ku b n)))=vB w (via P b n m w x (ask (Ku b n))):=by kernel_rfl)
   (h2:((vX (via P b n m w x (ask (Ku b n)))).u,(vX (via P b n m w x (ask (Ku b n)))).t)=([.map (some bt)],[t]):=by kernel_rfl)
   (ht:lS P t=some (kt,et):=by kernel_rfl):Goal P B b n d x w:=by
 obtain⟨y,hr,hf⟩:=cP h;refine aE hr ?_;generalize vX (via P b n m w x (ask (Ku b n)))=zz at *;unfold Ku at hf;split at hf<;>try contradiction
 rename_i q hq;split at hf<;>try contradiction
 rename_i t' mo hop;simp only[Option.some.injEq] at hf;subst hf;simp only[Prod.mk.injEq,List.cons.injEq,and_true] at h2;obtain⟨h3,rfl⟩:=h2;obtain⟨⟨es,ck,hb,hm⟩,_,_⟩:=H.at i hi;have FF:=oh ht;refine cO hq (v:=.pointer (some ⟨w.heap.size,0,none⟩)) (w':=w.alloc (.mapIter (some bt) ck #[] ck)) ?_ (k _ _ ?_)
 . unfold execOp;simp[hop,h3,Instr.range,run_underlying FF,Sem.run_bind,MapKept.run_getObj_map hb,Result.andThen]
 . refine H.put i hi rfl (Kp.sG (Di w _) _) (Cu ⟨es,ck,#[],?_,hm,Cf w _,?_,trivial⟩) (fun c hc=>?_)
   . exact(Di w _).block _ (Has.lt hb) (by simp) |>.trans hb
   . have:leftOf es #[]=es:=by unfold leftOf;simp
     rw[this,hm.2.2]
   . rcases hc with rfl|rfl
     . exact .inl rfl
     . exact .inr (Nat.le_refl _)
def HF(b:Nat->Value)(n:Nat)(x:St):Option Ask:=
 match hd b n x with
 |some q=>match q.2.2.op with
   |.next it s=>match s with
     |false=>some ⟨[ev b n x.l it],[],x,q⟩
     |true=>none
   |_=>none
 |none=>none
theorem nt(m i : Nat)(H : Hs w0 L0 w L){kd : TypeDesc}{enc : α -> Value}{bt r : Nat}{mp left : List (α × Value)}{cur : Option (α × Value)}(hi : L[i]? = some (itI kd enc bt r mp left cur))
   (k0:left=[]->Goal P B b n d (nx (vX (via P b n m w x (ask (HF b n)))).y (vX (via P b n m w x (ask (HF b n)))).q (.tuple #[.bool false])) w)
   (k1:∀p pP w',left.Perm (p::pP)->Hs w0 L0 w' (L.set i (itI kd enc bt r mp pP (some p)))->Goal P B b n d (nx (vX (via P b n m w x (ask (HF b n)))).y (vX (via P b n m w x (ask (HF b n)))).q (.tuple #[.bool true,enc p.1,p.2])) w')
   (h:vA (via P b n m w x (ask (HF b n)))=vB w (via P b n m w x (ask (HF b n))):=by kernel_rfl)
   (h2:(vX (via P b n m w x (ask (HF b n)))).u=[.pointer (some ⟨r,0,none⟩)]:=by kernel_rfl):Goal P B b n d x w:=by
 obtain⟨y,hr,hf⟩:=cP h;refine aE hr ?_;generalize vX (via P b n m w x (ask (HF b n)))=zz at *;unfold HF at hf;split at hf<;>try contradiction
 rename_i q hq;split at hf<;>try contradiction
 rename_i it s hop;split at hf<;>try contradiction
 simp only[Option.some.injEq] at hf;subst hf;simp only[List.cons.injEq,and_true] at h2;have rP:=H.at i hi;obtain⟨⟨es,ck,seen,hb,hm,hri,hl,hc⟩,eK,_⟩:=rP;have cT:=(stamped_iff es ck).1 hm.1;have hx:∀v w',(Instr.next (.pointer (some ⟨r,0,none⟩)) false q.2.2.type).run P w=.ok v w'->(execOp (ev b n y.l) q.2.2).run P w=.ok (.value v) w':=by
   intro v w' hv;unfold execOp;simp[hop,h2,hv,Sem.run_bind,Result.andThen]
 rcases run_next_at (P:=P) w q.2.2.type r bt ck ck seen es ck hri hb cT.1 (Nat.le_refl _) with⟨h0,pC⟩|⟨e,he,w1,VJ,pC⟩
 . have : left = [] := by
     have e0:(leftOf es seen).toList=[]:=by
       have:=Array.eq_empty_of_size_eq_zero h0;rw[this]
     rw[e0] at hl;have:=hl.length_eq;cases left with
     |nil=>rfl
     |cons _ _=>simp at this
   exact cO hq (hx _ _ pC) (k0 this)
 . have hp := MN es seen e cT.2.1 he;have akA : e ∈ es.toList := by
     unfold leftOf at he;rw[Array.toList_filter] at he;exact(List.mem_filter.1 he).1
   obtain⟨p,hpm,Iu⟩:∃p∈left,(enc p.1,p.2)=(e.key,e.val):=by
     have:(e.key,e.val)∈(leftOf es seen).toList.map (fun e=>(e.key,e.val)):=List.mem_map.2 ⟨e,he,rfl⟩;rw[hl.mem_iff] at this;exact List.mem_map.1 this
   simp only[Prod.mk.injEq] at Iu;obtain⟨s,t,rfl⟩:=List.append_of_mem hpm;have VK:((leftOf es (seen.push e.born)).toList.map (fun e=>(e.key,e.val))).Perm ((s++t).map (fun p=>(enc p.1,p.2))):=by
     have h1:=(hp.map (fun e=>(e.key,e.val))).symm.trans (hl.trans ((List.perm_middle (a:=p) (l₁:=s) (l₂:=t)).map _));simp only[List.map_cons,Iu.1,Iu.2] at h1;exact(List.perm_cons _).1 h1
   have hrb:r≠bt:=by
     intro q;subst q;have:=hb.symm.trans hri;cases this
   refine cO hq (hx _ _ pC) ?_;have Of:=FQ VJ hb;have iq:=FQ VJ hri;have hE:Ext w w1:=by
     rcases VJ with rfl|rfl
     . exact Ext.refl _
     . exact⟨rfl,rfl,rfl,Nat.le_refl _,fun _ _ _=>rfl⟩
   have k':=k1 p (s++t) (ChangeMaps.setBlock w1 r (.mapIter (some bt) ck (seen.push e.born) ck)) List.perm_middle ?_
   . rw[Iu.1,Iu.2] at k';exact k'
   have hG:G w1 (ChangeMaps.setBlock w1 r (.mapIter (some bt) ck (seen.push e.born) ck)) (some r):=zg w1 r _;refine H.put i hi rfl (Kp.trans (Kp.sG hE _) ((Kp.FB hG).mono fun c hc=>.inr (Option.some.inj hc).symm)) (Cu ⟨es,ck,seen.push e.born,?_,hm,sD _ iq,VK,e,seen,rfl,akA,Iu.1.symm,Iu.2.symm⟩) (fun c hc=>.inl hc);exact(hG.block _ (Has.lt Of) (by simp;exact fun q=>hrb q.symm)).trans Of
def Og(b:Nat->Value)(n:Nat)(x:St):Option Ask:=
 match hd b n x with
 |some q=>match q.2.2.op with
   |.entry it=>some ⟨[ev b n x.l it],[],x,q⟩
   |_=>none
 |none=>none
theorem ent(m i : Nat)(H : Hs w0 L0 w L){kd : TypeDesc}{enc : α -> Value}{bt r : Nat}{mp left : List (α × Value)}{p : α × Value}(hi : L[i]? = some (itI kd enc bt r mp left (some p)))
   (k:Goal P B b n d (nx (vX (via P b n m w x (ask (Og b n)))).y (vX (via P b n m w x (ask (Og b n)))).q (.tuple #[enc p.1,p.2])) w)
   (h:vA (via P b n m w x (ask (Og b n)))=vB w (via P b n m w x (ask (Og b n))):=by kernel_rfl)
   (h2:(vX (via P b n m w x (ask (Og b n)))).u=[.pointer (some ⟨r,0,none⟩)]:=by kernel_rfl):Goal P B b n d x w:=by
 obtain⟨y,hr,hf⟩:=cP h;refine aE hr ?_;generalize vX (via P b n m w x (ask (Og b n)))=zz at *;unfold Og at hf;split at hf<;>try contradiction
 rename_i q hq;split at hf<;>try contradiction
 rename_i it hop;simp only[Option.some.injEq] at hf;subst hf;simp only[List.cons.injEq,and_true] at h2;obtain⟨⟨es,ck,seen,hb,hm,hri,hl,e,s,rfl,he,h3,h4⟩,_,_⟩:=H.at i hi;have cT:=(stamped_iff es ck).1 hm.1;have pC:=run_entry_at (P:=P) w r bt ck s es ck e hri hb he cT.2.1;refine cO hq ?_ k;unfold execOp;simp[hop,h2,pC,h3,h4,Sem.run_bind,Result.andThen]
omit [Rd] in
end
end Go.Sx
