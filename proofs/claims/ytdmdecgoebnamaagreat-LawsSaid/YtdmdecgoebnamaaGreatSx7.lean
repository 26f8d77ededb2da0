/- Slices of slices; what is read behind a row; rows that are made. -/
import Derived.Test.YtdmdecgoebnamaaGreatMm
import Derived.Test.YtdmdecgoebnamaaGreatYb
import Derived.Maps.RangeRun
set_option linter.unusedVariables false
set_option linter.unusedSimpArgs false
namespace Go.Sx
open Go.RowKit Go.Gx Go.MapKept
section
variable [Rd] {P:Program} {B:Exit→Act→World→Prop} {b:Nat→Value} {n:Nat} {d:List Deferred} {w0 w:World} {x:St} {L0 L:List Item}
omit [Rd] in
theorem add_add(a:Addr)(i j:Nat):(a.add i).add j=a.add (i+j):=by
 unfold Addr.add;by_cases hi:i=0
 · subst hi;simp
 · by_cases hj:j=0
   · subst hj;simp[hi]
   · simp[hi,hj,Nat.add_assoc]
omit [Rd] in
theorem kD{w:World}{e sz cap c:Nat}{A:Option Addr}{xs:List Value}(h:(Item.own e sz A cap c xs).holds w):c≤cap:=by
 rcases h.2 with⟨hv,h0⟩|⟨g,cM,cur,hv,_,_,zH,_⟩
 · omega
 · injection hv with _ _ h3;omega
def T7(P:Program)(b:Nat→Value)(n:Nat)(x:St):Option Ask:=
 match hd b n x with
 |some q=>match q.2.2.op with
   |.slice t s lo hi mx=>match lo,hi,mx with
     |some k,none,none=>match P.underlying t with
       |some (.slice e)=>match P.info? e with
         |some inf=>some ⟨[ev b n x.l s,ev b n x.l k],[inf.size],x,q⟩
         |none=>none
       |_=>none
     |_,_,_=>none
   |_=>none
 |none=>none
theorem sf(m : Nat)(A : Option Addr)(len cap k sz : Nat)(hk : k ≤ len)(hc : len ≤ cap)
   (g:∀C:Option Addr,(C=none→A=none)→(∀a,C=some a→∃a0,A=some a0∧(k<len→a=a0.add (k*sz)))→Goal P B b n d (nx (vX (via P b n m w x (ask (T7 P b n)))).y (vX (via P b n m w x (ask (T7 P b n)))).q (.slice C (len-k) (cap-k))) w)
   (h:vA (via P b n m w x (ask (T7 P b n)))=vB w (via P b n m w x (ask (T7 P b n))):=by kernel_rfl)
   (h2:((vX (via P b n m w x (ask (T7 P b n)))).u,(vX (via P b n m w x (ask (T7 P b n)))).t)=([.slice A len cap,.int .i64 (k:Int)],[sz]):=by kernel_rfl):Goal P B b n d x w:=by
 obtain⟨y,hr,hf⟩:=cG h;refine az hr ?_;generalize vX (via P b n m w x (ask (T7 P b n)))=z at *;unfold T7 at hf;split at hf<;>try contradiction
 rename_i q hq;split at hf<;>try contradiction
 rename_i t s lo hi mx hop;split at hf<;>try contradiction
 rename_i ko;split at hf<;>try contradiction
 rename_i e hu;split at hf<;>try contradiction
 rename_i inf eE;simp only[Option.some.injEq] at hf;subst hf;simp only[Prod.mk.injEq,List.cons.injEq,and_true] at h2;obtain ⟨⟨h3,h4⟩,rfl⟩:=h2;refine cF hq (v:=.slice (if cap=k then A else A.map (·.add (k*inf.size))) (len-k) (cap-k)) ?_ (g _ ?_ ?_)
 · unfold execOp;have hl:((k:Int)≤(len:Int)):=by omega
   simp[hop,h3,h4,Instr.sliceAt,Instr.slice,run_underlying hu,Sem.run_bind,Instr.sliceBounds,Instr.sliceBound,asIntOf,go_sem,hl,hk,sizeOf,typeInfo,eE]
 · intro h;split at h
   · exact h
   · cases A with
     |none=>rfl
     |some a=>simp at h
 · intro a ha;split at ha
   · exact⟨a,ha,fun dO=>by omega⟩
   · cases A with
     |none=>simp at ha
     |some a0=>simp only[Option.map_some,Option.some.injEq] at ha;exact⟨a0,rfl,fun _=>ha.symm⟩
theorem Z6(m i LK k' e sz t c' : Nat)(C A : Option Addr)(cap c : Nat)(xs news : List Value)(H : Hs w0 L0 w L)(hC : C = none → k' = 0)(ri : ∀ a, C = some a → ∀ j u, news[j]? = some u → w.cell? (a.add j) = some u)
   (hl:news.length=k'*sz) (h1:∀u∈news,u.oneCell'=true)
   (hb:(c+k')*LK≤140737488355328) (hn:c+k'≤9223372036854775807) (Ff:c≤cap) {yZ:List Value} (hx:xs++news=yZ)
   (k:∀A' cM w',Hs w0 L0 w' (L.set i (.own e sz A' cM (c+k') yZ))→Goal P B b n d (nx (vX (via P b n m w x (ask (uV P b n)))).y (vX (via P b n m w x (ask (uV P b n)))).q (.slice A' (c+k') cM)) w')
   (h:vA (via P b n m w x (ask (uV P b n)))=vB w (via P b n m w x (ask (uV P b n))):=by kernel_rfl)
   (hi:L[i]?=some (.own e sz A cap c xs):=by kernel_rfl)
   (h2:((vX (via P b n m w x (ask (uV P b n)))).u,(vX (via P b n m w x (ask (uV P b n)))).t)=([.slice A c cap,.slice C k' c'],[t,t,e,sz,LK,sz,1]):=by kernel_rfl)
   (hz:Nat.blt 0 sz=true:=by kernel_rfl):Goal P B b n d x w:=by
 subst hx;obtain ⟨y,hr,hf⟩:=cG h;refine az hr ?_;generalize vX (via P b n m w x (ask (uV P b n)))=z at *;unfold uV at hf;split at hf<;>try contradiction
 rename_i q hq;split at hf<;>try contradiction
 rename_i cl hop;split at hf<;>try contradiction
 rename_i q_;split at hf<;>try contradiction
 rename_i s yv t1 t2 fY jM;split at hf<;>try contradiction
 rename_i e1 hu;split at hf<;>try contradiction
 rename_i inf eE;simp only[Option.some.injEq] at hf;subst hf;simp only[Prod.mk.injEq,List.cons.injEq,and_true] at h2;obtain ⟨⟨h3,h4⟩,rfl,rfl,rfl,rfl,rfl,h5,h6⟩:=h2;have Z2:inf.zero.map (·.cells.size)=some inf.size:=by
   cases T4:inf.zero with
   |none=>simp[T4] at h6
   |some zv=>simp only[T4,Option.map_some,Option.getD_some] at h5;simp[h5]
 have tD:cl={ callee:=.builtin .append,args:=#[s,yv],argTypes:=#[t2,t2] }:=by
   obtain⟨ce,ca,ct⟩:=cl;simp only at q_ fY jM;subst q_;congr 1
   · exact Array.toList_inj.1 fY
   · exact Array.toList_inj.1 jM
 have jK:=H.at i hi;obtain ⟨zv,LS,TR⟩:=Option.map_eq_some_iff.1 Z2;have key:∃v' w',(Builtin.append_ #[t2,t2] q.2.2.type #[.slice A c cap,.slice C k' c']).run P w=.ok v' w'∧w'.ownsRow 0 e1 inf.size v' (c+k') (xs++news)∧w.grownBy w' (Value.slice A c cap).ownBlock∧(v'.ownBlock=(Value.slice A c cap).ownBlock∨v'.ownBlock=some w.heap.size):=by
   cases C with
   |some a=>
     obtain⟨v',w',r1,r2,r3,_,r4⟩:=run_append_own_at (P:=P) w 0 t2 q.2.2.type e1 inf zv inf.size inf.bytes hu eE LS rfl rfl TR (Nat.le_of_ble_eq_true hz) _ c xs jK a k' c' news hl (ri a rfl) h1 (by unfold maxLen;omega) hb (Nat.zero_le _);exact ⟨v',w',r1,r2,r3,r4⟩
   |none=>
     obtain rfl:=hC rfl;have VE:news=[]:=List.eq_nil_of_length_eq_zero (by simpa using hl);subst VE;refine ⟨.slice A c cap,w,?_,by rw[Nat.add_zero,List.append_nil];exact jK,⟨rfl,rfl,rfl,Nat.le_refl _,fun _ _ _=>rfl⟩,.inl rfl⟩;cases A<;>simp[Builtin.append_,run_underlying hu,sizeOf,typeInfo,eE,Builtin.lenOf,Builtin.firstCells,Ff,storeCells,Sem.run_bind,Result.andThen]
 obtain⟨v',w',nL,zJ,hG,LL⟩:=key;refine cF hq ?_ ?_ (v:=v') (w':=w')
 · unfold execOp;rw [hop,tD];simp [h3,h4,resolve,invoke,builtin,Sem.run_bind,nL]
 · obtain⟨A',cM,rfl⟩:=sD zJ;refine k A' cM w' (H.put i hi rfl (Kp.C2 hG) zJ (fun cc hc=>?_));rcases LL with q|q
   · exact .inl (q.symm.trans hc)
   · exact .inr (Nat.le_of_eq (Option.some.inj (q.symm.trans hc)))
end
end Go.Sx
namespace Go.aS
open Go.RowKit Go.Sx
def bL(l:List Nat):List Value:=l.map fun n:Nat=>.int .i64 (n:Int)
def eI:Option Nat→Int
 |none=> -1
 |some n=>(n:Int)
def aw(l:List (Option Nat)):List Value:=l.map fun o=>.int .i64 (eI o)
section
variable {P:Program} {t i:Nat}
theorem b_{l:List Nat}{n:Nat}(h:l[i]?=some n)(ht:P.underlying t=some (.int .i64):=by kernel_rfl):eP P t (bL l) (i*1) (.int .i64 (n:Int)):=by
 unfold eP;rw[ht];simp[bL,h]
theorem Fg{l:List (Option Nat)}(h:l[i]?=some none)(ht:P.underlying t=some (.int .i64):=by kernel_rfl):eP P t (aw l) (i*1) (.int .i64 (-1)):=by
 unfold eP;rw[ht];simp[aw,eI,h]
theorem aQ{l:List (Option Nat)}{n:Nat}(h:l[i]?=some (some n))(ht:P.underlying t=some (.int .i64):=by kernel_rfl):eP P t (aw l) (i*1) (.int .i64 (n:Int)):=by
 unfold eP;rw[ht];simp[aw,eI,h]
end
theorem LU(l:List Nat):(bL l).length=l.length:=List.length_map _
theorem lG(l:List (Option Nat)):(aw l).length=l.length:=List.length_map _
theorem C8(l:List Nat)(n:Nat):bL l++[.int .i64 (n:Int)]=bL (l++[n]):=by simp[bL]
theorem oO(l:List (Option Nat)){o:Option Nat}{v:Int}(h:v=eI o):aw l++[.int .i64 v]=aw (l++[o]):=by simp[aw,h]
theorem oP(l:List (Option Nat))(i:Nat){o:Option Nat}{v:Int}(h:v=eI o):(aw l).set (i*1) (.int .i64 v)=aw (l.set i o):=by simp[aw,h,List.map_set]
def jO(w:World)(S:Nat→Prop)(A:Option Addr)(l:List Nm):Prop:=∀i s,l[i]?=some s→∃a,A=some a∧S a.block∧w.cells? 0 (a.add (i*1)) 1=some [.string s]
theorem eZ{w w':World}{a:Addr}{n:Nat}{cs:List Value}(h:w.cells? 0 a n=some cs)(x:w'.heap[a.block]?=w.heap[a.block]?):w'.cells? 0 a n=some cs:=by
 have e:(fun i=>w'.cell? (a.add i))=fun i=>w.cell? (a.add i):=funext fun i=>by
   unfold World.cell?;have:(a.add i).block=a.block:=by unfold Addr.add;split<;>rfl
   rw[this,x]
 unfold World.cells? at h ⊢;rw [e];exact h
theorem gh(a:Addr)(n:Nat):(a.add n).block=a.block:=by unfold Addr.add;split<;>rfl
theorem jO.hO{w w':World}{S:Nat→Prop}{A:Option Addr}{l:List Nm}(h:jO w S A l)(k:∀c,S c→w'.heap[c]?=w.heap[c]?):jO w' S A l:=fun i s hs=>by
 obtain⟨a,ha,hS,hc⟩:=h i s hs;exact ⟨a,ha,hS,eZ hc (by rw[gh];exact k _ hS)⟩
theorem jO.mono{w:World}{S S':Nat→Prop}{A:Option Addr}{l:List Nm}(h:jO w S A l)(k:∀c,S c→S' c):jO w S' A l:=fun i s hs=>by
 obtain⟨a,ha,hS,hc⟩:=h i s hs;exact ⟨a,ha,k _ hS,hc⟩
def bf(S:Nat→Prop)(A:Option Addr)(l:List Nm):Sx.Item:=.abs S (fun w=>jO w S A l)
def strs(l:List Nm):List Value:=l.map Value.string
theorem C9(S:Nat→Prop)(A:Option Addr)(l:List Nm):Sx.Loc S (fun w=>jO w S A l):=fun _ _ _ hk h=>h.hO hk
def gn(l:List Nm)(i:Nat):Nm:=(l[i]?).getD ⟨#[]⟩
theorem jq{l:List Nm}{i:Nat}(h:i<l.length):l[i]?=some (gn l i):=by simp[gn,h]
theorem AX(a b:Nm):KG a b=(Go.Op.bytesLess a.toList b.toList||(a.toList==b.toList)):=by unfold KG;rw[ByteArray.toList_eq,ByteArray.toList_eq]
theorem dx(a b:Nm):ee a b=(a.toList==b.toList):=by unfold ee;rw[ByteArray.toList_eq,ByteArray.toList_eq]
theorem jO.nil{w:World}{S:Nat→Prop}{l:List Nm}(h:jO w S none l):l=[]:=by
 cases l with
 |nil=>rfl
 |cons s l=>obtain⟨a,ha,_⟩:=h 0 s rfl;cases ha
theorem iC(l:List Nm)(s:Nm):strs l++[.string s]=strs (l++[s]):=by simp[strs]
theorem zO{l:List Nm}{i:Nat}(h:i<l.length):strs (l.take i)++[.string (gn l i)]=strs (l.take (i+1)):=by
 rw[iC,List.take_add_one,jq h];rfl
theorem C_(l m:List Nm):strs l++strs m=strs (l++m):=by simp[strs]
theorem vP(l:List Nm):∀u∈strs l,u.oneCell'=true:=by
 intro u hu;obtain ⟨s,_,rfl⟩:=List.mem_map.1 hu;rfl
theorem AY{s:Nm}:∀{l:List Nm}{i:Nat},i≤l.length→(∀j,j<i→KG (gn l j) s=true)→(i=l.length∨KG (gn l i) s=false)→iY l s=l.take i++s::l.drop i
 | [], i, h, _, _ => by have : i = 0 := by simpa using h
                        subst this;rfl
 |x::l,0,_,_,hx=>by
   rcases hx with q|q
   · simp at q
   · have:KG x s=false:=q;simp [iY,this]
 |x::l,i+1,h,hle,hx=>by
   have h0:KG x s=true:=hle 0 (by omega);simp only[iY,h0,if_true,List.take_succ_cons,List.drop_succ_cons,List.cons_append];have e:gn (x::l) (i+1)=gn l i:=by simp[gn]
   have hx':i=l.length∨KG (gn l i) s=false:=hx.imp (fun q=>by simpa using q) (fun q=>e▸q);rw [AY (l:=l) (i:=i) (by simpa using h) (fun j hj=>hle (j+1) (by omega)) hx']
theorem nS(l:List Nm)(s:Nm):(iY l s).length=l.length+1:=by
 induction l with
 |nil=>rfl
 |cons x l ih=>unfold iY;split<;>simp[ih]
theorem LV{a b:Bool}(h:(a&&b)=true):a=true∧b=true:=by cases a<;>cases b<;>simp_all
theorem LW{a b:Bool}(h:(a&&b)=false):a=false∨b=false:=by cases a<;>cases b<;>simp_all
theorem dw{w:World}:(bf (fun _=>False) none []).holds w:=⟨fun _ _ h=>by simp at h,fun _ h=>h.elim,C9 _ _ _⟩
theorem LX{w:World}{e n cap:Nat}{A:Option Addr}{l:List Nm}(h:w.ownsRow 0 e 1 (.slice A n cap) n (strs l)):(bf (fun c=>(Value.slice A n cap).ownBlock=some c) A l).holds w:=by
 refine⟨fun i s hs=>?_,fun c hc=>LC h hc,C9 _ _ _⟩;have hn:l.length=n:=by have:=h.1;simpa [strs] using this
 have hi:i<n:=by rw[← hn];exact(List.getElem?_eq_some_iff.1 hs).1
 rcases h.2 with⟨_,h0⟩|⟨g,cM,cur,hv,_,hg,zH,_,pq,ht⟩
 · omega
 · injection hv with h1 h2 h3;subst h1 h3;refine ⟨_, rfl, rfl, ?_⟩;have hc : cur[i]? = some (.string s) := by
     have:(cur.toList.take (n*1))[i]?=some (.string s):=by rw[ht,strs,List.getElem?_map,hs];rfl
     rw[List.getElem?_take,if_pos (by omega)] at this;simpa using this
   have:(⟨g,0,none⟩:Addr).add (i*1)=⟨g,i,none⟩:=by unfold Addr.add;split<;>simp_all
   rw[this];refine ChangeShapes.cells?_of (Nat.zero_le _) rfl (fun j hj=>?_);have hj0:j=0:=by simpa using hj
   subst hj0;rw [Nat.add_zero,cell_of_row w g i cur e (0,0) hg];simpa using hc
section
variable {w0 w:World} {L0 L:List Sx.Item}
theorem Hs.toStr(H:Hs w0 L0 w L)(i:Nat){e n cap:Nat}{A:Option Addr}{l:List Nm}(hi:L[i]?=some (.own e 1 A cap n (strs l))):Hs w0 L0 w (L.set i (bf (fun c=>(Value.slice A n cap).ownBlock=some c) A l)):=
 H.auh i _ hi rfl (LX (H.at i hi)) (fun _ h=>h)
end
abbrev Slot:=Option Addr×Nat×Nat
def Da(s:Slot):Value:=.slice s.1 s.2.1 s.2.2
def T8(w:World)(S:Nat→Prop)(sl:List Slot)(ops:List (List Nm)):Prop:=sl.length=ops.length∧∀(r:Nat)(s:Slot)(l:List Nm),sl[r]?=some s→ops[r]?=some l→s.2.1=l.length∧jO w S s.1 l
def gU(S:Nat→Prop)(sl:List Slot)(ops:List (List Nm)):Sx.Item:=.abs S (fun w=>T8 w S sl ops)
theorem sK(S:Nat→Prop)(sl:List Slot)(ops:List (List Nm)):Sx.Loc S (fun w=>T8 w S sl ops):=fun _ _ _ hk h=>⟨h.1,fun r s l h1 h2=>⟨(h.2 r s l h1 h2).1,(h.2 r s l h1 h2).2.hO hk⟩⟩
abbrev kj(n:Int):Value:=.int .i64 n
def EA(l:List (Int×Nat)):List (Int×Value):=l.map fun p=>(p.1,.int .i64 (p.2:Int))
abbrev i_(b:Nat)(l:List (Int×Nat)):Sx.Item:=rf (.int .i64) kj b (EA l)
structure Gm where
 k:Option Addr×Nat
 a:Option Addr×Nat
 b:Option Addr×Nat
 r:Option Addr×Nat
 l:Option Addr×Nat
 o:Option Addr×Nat
 n:Option Addr×Nat
 bt:Nat
 br:Nat
 sl:List Slot
 S:Nat→Prop
 nk:Nat
 no:Nat
abbrev gL(bg:Nat)(g:G)(m:Gm):List Sx.Item:=
 [.al bg (.cells #[.slice m.k.1 m.nk m.k.2,.slice m.a.1 m.nk m.a.2,.slice m.b.1 m.nk m.b.2,.slice m.r.1 m.nk m.r.2,.slice m.l.1 m.nk m.l.2,.slice m.o.1 m.no m.o.2,.slice m.n.1 m.no m.n.2,.map (some m.bt),.map (some m.br)] 154),
  .own 3 1 m.k.1 m.k.2 m.nk (bL g.kind),.own 3 1 m.a.1 m.a.2 m.nk (aw g.a),.own 3 1 m.b.1 m.b.2 m.nk (aw g.b),.own 3 1 m.r.1 m.r.2 m.nk (bL g.row),.own 3 1 m.l.1 m.l.2 m.nk (aw g.link),
  .own 30 1 m.o.1 m.o.2 m.no (m.sl.map Da),.own 3 1 m.n.1 m.n.2 m.no (aw g.next),i_ m.bt g.tv,i_ m.br g.rv,gU m.S m.sl g.ops]
def GI(S:Nat→Prop)(bg:Nat)(g:G):Sx.Item:=comp (fun L=>∃m,L=gL bg g m) S
section
variable {w0 w:World} {L0 L:List Sx.Item}
theorem ba(H:Hs w0 L0 w L)(i:Nat){S:Nat→Prop}{bg:Nat}{g:G}(hi:bp [i] L=some [GI S bg g]):∃m,Hs w0 L0 w (gL bg g m++rest [i] L):=by
 obtain⟨L',⟨m,rfl⟩,h⟩:=H.gu i hi;exact ⟨m,h⟩
theorem aq(H:Hs w0 L0 w L)(I:List Nat){bg:Nat}{g:G}(m:Gm)(hi:bp I L=some (gL bg g m)):∃S,Hs w0 L0 w (GI S bg g::rest I L):=
 ⟨_,H.cls I hi ⟨m,rfl⟩ rfl⟩
theorem bM{R:List Sx.Item}{bg:Nat}{g:G}{m:Gm}(h:Hs w0 L0 w (gL bg g m++R)):g.kind.length=m.nk∧g.a.length=m.nk∧g.b.length=m.nk∧g.row.length=m.nk∧g.link.length=m.nk∧g.ops.length=m.no∧g.next.length=m.no∧m.sl.length=m.no:=by
 have q:=(h.at 1 rfl).1;have a:=(h.at 2 rfl).1;have b:=(h.at 3 rfl).1;have c:=(h.at 4 rfl).1;have d:=(h.at 5 rfl).1;have e:=(h.at 7 rfl).1;have f:=(h.at 6 rfl).1;have r:=(h.at 10 rfl).1.1;simp only[lG,LU,Nat.mul_one,List.length_map] at a b c d e f q;exact ⟨q,a,b,c,d,by omega,e,f⟩
theorem VV(sl:List Slot)(A:Option Addr)(n c:Nat):sl.map Da++[.slice A n c]=(sl++[(A,n,c)]).map Da:=by simp[Da]
theorem VW(sl:List Slot)(i:Nat)(A:Option Addr)(n c:Nat):(sl.map Da).set (i*1) (.slice A n c)=(sl.set i (A,n,c)).map Da:=by simp[Da,List.map_set]
theorem T9{P:Program}{t i:Nat}{sl:List Slot}{s:Slot}(h:sl[i]?=some s)(ht:(match P.underlying t with|some (.slice _)=>true|_=>false)=true:=by kernel_rfl):eP P t (sl.map Da) (i*1) (.slice s.1 s.2.1 s.2.2):=by
 unfold eP;split at ht
 · rename_i e hu;rw[hu];simp[h,Da]
 · cases ht
theorem jO.drop{w:World}{S:Nat→Prop}{A C:Option Addr}{l:List Nm}{k:Nat}(h:jO w S A l)(hC:∀a,C=some a→∃a0,A=some a0∧(k<l.length→a=a0.add (k*1)))(hn:C=none→A=none):jO w S C (l.drop k):=fun i s hs=>by
 rw[List.getElem?_drop] at hs;have hk:k<l.length:=by have:=(List.getElem?_eq_some_iff.1 hs).1;omega
 obtain⟨a0,ha,hS,hc⟩:=h (k+i) s hs;cases C with
 |none=>rw[hn rfl] at ha;cases ha
 |some a=>
   obtain⟨a1,h1,h2⟩:=hC a rfl;rw [ha] at h1;cases h1;have:=h2 hk;subst this;refine ⟨_,rfl,by rw[gh];exact hS,?_⟩;rw [add_add,←Nat.add_mul];exact hc
theorem jO.cell{w:World}{S:Nat→Prop}{A:Option Addr}{l:List Nm}(h:jO w S A l){a:Addr}(ha:A=some a):∀j u,(strs l)[j]?=some u→w.cell? (a.add j)=some u:=by
 intro j u hu;rw [strs,List.getElem?_map] at hu;cases hs:l[j]? with
 |none=>simp[hs] at hu
 |some s=>
   rw[hs,Option.map_some] at hu;cases hu;obtain ⟨a',Lv,_,hc⟩:=h j s hs;rw [ha] at Lv;cases Lv;have:=(World.cells?_some hc).2.2 0 (by decide);rw [show (a.add (j*1)).add 0=a.add j by rw[Nat.mul_one];simp[Addr.add]] at this;simpa using this
theorem LY(H : Hs w0 L0 w L)(I : List Nat){S S2 : Nat → Prop}{sl : List Slot}{ops : List (List Nm)}{A : Option Addr}{l : List Nm}{c n : Nat}(hp : bp I L = some [gU S sl ops, bf S2 A l])(hn : n = l.length) :
   ∃S',Hs w0 L0 w (gU S' (sl++[(A,n,c)]) (ops++[l])::rest I L):=by
 have h1:=H.pick I hp;have a:=(h1.at 0 rfl).1;have b:=(h1.at 1 rfl).1;have k:=H.cls I hp (shape:=fun L=>L=[gU S sl ops,bf S2 A l]) rfl rfl;have e:∀q,E8 [gU S sl ops,bf S2 A l] q↔S q∨S2 q:=fun q=>by simp[E8,gU,bf,Sx.Item.fp]
 refine⟨fun q=>S q∨S2 q,k.auh 0 (gU (fun q=>S q∨S2 q) (sl++[(A,n,c)]) (ops++[l])) rfl rfl ⟨⟨by simp[a.1],fun r s l' hs hl=>?_⟩,fun q hq=>?_,sK _ _ _⟩ (fun q hq=>(e q).2 hq)⟩
 · rcases Nat.lt_or_ge r sl.length with q|q
   · rw[List.getElem?_append_left q] at hs;rw [List.getElem?_append_left (by rw[← a.1];exact q)] at hl;exact ⟨(a.2 r s l' hs hl).1,(a.2 r s l' hs hl).2.mono (fun _ h=>.inl h)⟩
   · rw[List.getElem?_append_right q] at hs;rw [List.getElem?_append_right (by rw[← a.1];exact q)] at hl;rw [← a.1] at hl;cases hr:r-sl.length with
     |zero=>rw[hr] at hs hl;simp at hs hl;subst hs hl;exact⟨hn,b.mono (fun _ h=>.inr h)⟩
     |succ j=>rw[hr] at hs;simp at hs
 · rcases hq with q'|q'
   · exact(h1.at 0 rfl).2.1 q q'
   · exact(h1.at 1 rfl).2.1 q q'
theorem LZ(H : Hs w0 L0 w L)(I : List Nat)(v : Nat){S S2 : Nat → Prop}{sl : List Slot}{ops : List (List Nm)}{A : Option Addr}{l : List Nm}{c n : Nat}(hp : bp I L = some [gU S sl ops, bf S2 A l])(hn : n = l.length) :
   ∃S',Hs w0 L0 w (gU S' (sl.set v (A,n,c)) (ops.set v l)::rest I L):=by
 have h1:=H.pick I hp;have a:=(h1.at 0 rfl).1;have b:=(h1.at 1 rfl).1;have k:=H.cls I hp (shape:=fun L=>L=[gU S sl ops,bf S2 A l]) rfl rfl;have e:∀q,E8 [gU S sl ops,bf S2 A l] q↔S q∨S2 q:=fun q=>by simp[E8,gU,bf,Sx.Item.fp]
 refine⟨fun q=>S q∨S2 q,k.auh 0 (gU (fun q=>S q∨S2 q) (sl.set v (A,n,c)) (ops.set v l)) rfl rfl ⟨⟨by simp[a.1],fun r s l' hs hl=>?_⟩,fun q hq=>?_,sK _ _ _⟩ (fun q hq=>(e q).2 hq)⟩
 · rw[List.getElem?_set] at hs hl;by_cases q:v=r
   · subst q;rw [if_pos rfl] at hs hl;split at hs<;>try contradiction
     split at hl<;>try contradiction
     cases hs;cases hl;exact ⟨hn,b.mono (fun _ h=>.inr h)⟩
   · rw[if_neg q] at hs hl;exact ⟨(a.2 r s l' hs hl).1,(a.2 r s l' hs hl).2.mono (fun _ h=>.inl h)⟩
 · rcases hq with q'|q'
   · exact(h1.at 0 rfl).2.1 q q'
   · exact(h1.at 1 rfl).2.1 q q'
end
theorem bB{P:Program}{t i:Nat}{l:List (Option Nat)}{o:Option Nat}(h:l[i]?=some o)(ht:P.underlying t=some (.int .i64):=by kernel_rfl):eP P t (aw l) (i*1) (.int .i64 (eI o)):=by
 unfold eP;rw[ht];simp[aw,h]
theorem Hj{w0 w:World}{L0 L:List Sx.Item}(H:Hs w0 L0 w L)(j:Nat){S:Nat→Prop}{sl:List Slot}{ops:List (List Nm)}{r:Nat}{s:Slot}{l:List Nm}(hi:L[j]?=some (gU S sl ops))(hs:sl[r]?=some s)(hl:ops[r]?=some l):s.2.1=l.length∧jO w S s.1 l:=(H.at j hi).1.2 r s l hs hl
theorem Rf{o:Option Nat}(h:(eI o==(-1:Int))=true):o=none:=by
 cases o with
 |none=>rfl
 |some n=>have:=eq_of_beq h;simp only[eI] at this;omega
theorem Rg{o:Option Nat}(h:(eI o==(0:Int))=true):o=some 0:=by
 cases o with
 |none=>have:=eq_of_beq h;simp[eI] at this
 |some n=>have:=eq_of_beq h;simp only[eI] at this;congr 1;omega
theorem VX{o:Option Nat}(h:(eI o==(-1:Int))=false)(h0:(eI o==(0:Int))=false):∃q,o=some (q+1):=by
 cases o with
 |none=>simp[eI] at h
 |some n=>
   cases n with
   |zero=>simp[eI] at h0
   |succ q=>exact⟨q,rfl⟩
theorem kG{z r v : Nat}{g : G}{acc l : List Nm}(h : whole (z + 1) g r acc = some (l, v)) :
   ∃lr nx,g.ops[r]?=some lr∧acc.length+lr.length<1000000000∧g.next[r]?=some nx∧(nx=none→fX acc lr=l∧r=v)∧(nx=some 0→fX acc lr=l∧0=v)∧∀q,nx=some (q+1)→whole z g (q+1) (fX acc lr)=some (l,v):=by
 unfold whole at h;split at h
 · rename_i lr hl;split at h
   · rename_i hb;split at h<;>rename_i hn
     · simp at h;exact⟨lr,_,hl,hb,hn,fun _=>h,by simp,by simp⟩
     · simp at h;exact⟨lr,_,hl,hb,hn,by simp,fun _=>h,by simp⟩
     · exact⟨lr,_,hl,hb,hn,by simp,by simp,fun q e=>by cases e;exact h⟩
     · cases h
   · cases h
 · cases h
theorem Db{k r:Nat}{g:G}{acc:List Nm}{o:List Nm×Nat}(h:whole k g r acc=some o):r<g.ops.length:=by
 cases k with
 |zero=>simp[whole] at h
 |succ z=>
   obtain⟨l,v⟩:=o;obtain ⟨lr,_,hl,_⟩:=kG h;exact (List.getElem?_eq_some_iff.1 hl).1
theorem Dc{l:List Nm}{i:Nat}(a:List Nm)(h:i<l.length):fX a (l.drop i)=fX (iY a (gn l i)) (l.drop (i+1)):=by
 rw[List.drop_eq_getElem_cons h];have:gn l i=l[i]:=by simp[gn,h]
 rw[this];rfl
theorem vQ(a l:List Nm):(fX a l).length=a.length+l.length:=by
 induction l generalizing a with
 |nil=>rfl
 |cons s l ih=>rw[fX,ih,nS,List.length_cons];omega
end Go.aS
namespace Go.Sx
open Go.RowKit Go.Gx
theorem afP{b:Bool}{p:Prop}(h:b=true)(h0:b=false):p:=by rw[h0] at h;cases h
theorem spN{w:World}{LJ:List Item}(h:LJ=[]):Sp w LJ:=by subst h;exact⟨fun _ h=>(by cases h),.nil⟩
structure Tz where
 o:Oper
 k:Value→St
 l:List (Nat×Value)
instance:Inhabited Tz:=⟨⟨default,fun _=>default,[]⟩⟩
def gC(b:Nat→Value)(n i:Nat)(C:List Nat)(x:St):Option (Nat×Nat×Tz):=
 match x.f with
 |.any ops LJ D fuel aj=>match fuel with
   |fuel+1=>match ops[i]? with
     |some o=>match Region.noSelect ops&&(Region.free .any ops aj i&&((Region.ready .any ops aj).contains i&&!D.contains i))&&(Region.wanted o (yl ops b n x.l)&&(waits .any ops C i&&!C.contains i&&D.all C.contains&&C.all (fun c=>!aj.getD c true))) with
       |true=>some (0,0,⟨o,fun v=>⟨.any ops LJ D fuel (aj.setIfInBounds i true),x.k,gE o v x.l⟩,x.l⟩)
       |false=>none
     |none=>none
   |0=>none
 |_=>none
section
variable [Rd] {P:Program} {B:Exit→Act→World→Prop} [Pn B] {b:Nat→Value} {n:Nat} {d:List Deferred} {w0 w:World} {x:St} {L0 L:List Item}
theorem tv(i : Nat)(C : List Nat)(v : Value)(hS : mW x = true → Sp w (jy x))
   (hr:∀w',Sp w' (jy x)→(execOp (ev b n (vX (via P b n 0 w x (gC b n i C))).l) (vX (via P b n 0 w x (gC b n i C))).o).run P w'=.ok (.value v) w')
   (k:Goal P B b n d ((vX (via P b n 0 w x (gC b n i C))).k v) w)
   (h:vA (via P b n 0 w x (gC b n i C))=vB w (via P b n 0 w x (gC b n i C))):Goal P B b n d x w:=by
 obtain⟨a,y,Jn,hf⟩:=fJ h;simp only[run,Option.some.injEq,Prod.mk.injEq,true_and] at Jn;subst Jn;generalize vX (via P b n 0 w x (gC b n i C))=z at *;obtain ⟨f,kk,l⟩:=x;unfold gC at hf;split at hf<;>try contradiction
 rename_i ops LJ D fuel aj sj;split at hf<;>try contradiction
 rename_i fuel;split at hf<;>try contradiction
 rename_i o ho;split at hf<;>try contradiction
 rename_i hc;simp only at sj;subst sj;simp only[Option.some.injEq,Prod.mk.injEq] at hf;obtain ⟨_,_,rfl⟩:=hf;rw [Bool.and_eq_true,Bool.and_eq_true (Region.wanted _ _)] at hc;obtain ⟨h0,hw,hC⟩:=hc;simp only[Bool.and_eq_true (Region.noSelect _),Bool.and_eq_true (Region.free _ _ _ _),Bool.and_eq_true (Array.contains _ _),Bool.and_eq_true (List.contains _ _),Bool.not_eq_true'] at h0;obtain ⟨h1,h2,h3,h4⟩:=h0;have hC':=hC;simp only[Bool.and_eq_true] at hC';have tD:clear D aj=true:=vD hC'.1.2 (fun c hc=>by simpa using List.all_eq_true.1 hC'.2 c hc);exact vE i C v v rfl ho h1 h2 h3 h4 hC (fun _ _ _=>re) (hS tD) hw hr k
def iaO(P:Program)(b:Nat→Value)(n:Nat)(z:Tz):Option (List Value×List Nat):=match z.o.op with
 |.indexAddr t s ix=>match P.underlying t with
   |some (.slice e)=>match P.info? e with
     |some inf=>some ([ev b n z.l s,ev b n z.l ix],[inf.size])
     |none=>none
   |_=>none
 |_=>none
theorem tvi(i : Nat)(C : List Nat)(a : Addr)(j sz len cap : Nat){A : Option Addr}(hA : A = some a)(hj : j < len)(hS : mW x = true → Sp w (jy x))
   (k:Goal P B b n d ((vX (via P b n 0 w x (gC b n i C))).k (.pointer (some (a.add (j*sz))))) w)
   (h:vA (via P b n 0 w x (gC b n i C))=vB w (via P b n 0 w x (gC b n i C)):=by kernel_rfl)
   (h2:iaO P b n (vX (via P b n 0 w x (gC b n i C)))=some ([.slice A len cap,.int .i64 (j:Int)],[sz]):=by kernel_rfl):Goal P B b n d x w:=by
 refine tv i C _ hS (fun w' _=>?_) k h;generalize vX (via P b n 0 w x (gC b n i C))=z at *;unfold iaO at h2;split at h2<;>try contradiction
 rename_i t s ix hop;split at h2<;>try contradiction
 rename_i e hu;split at h2<;>try contradiction
 rename_i inf eE;simp only[Option.some.injEq,Prod.mk.injEq,List.cons.injEq,and_true] at h2;obtain ⟨⟨h3,h4⟩,rfl⟩:=h2;exact nJ hop e inf.size hu (by rw[eE];rfl) a hA len cap h3 .i64 j h4 hj
theorem tvg(i : Nat)(C : List Nat)(g j sz len cap : Nat)(hj : j < len)(hS : mW x = true → Sp w (jy x))
   (k:Goal P B b n d ((vX (via P b n 0 w x (gC b n i C))).k (.pointer (some ⟨g,j*sz,none⟩))) w)
   (h:vA (via P b n 0 w x (gC b n i C))=vB w (via P b n 0 w x (gC b n i C)):=by kernel_rfl)
   (h2:iaO P b n (vX (via P b n 0 w x (gC b n i C)))=some ([.slice (some ⟨g,0,none⟩) len cap,.int .i64 (j:Int)],[sz]):=by kernel_rfl):Goal P B b n d x w:=by
 refine tvi i C ⟨g,0,none⟩ j sz len cap rfl hj hS ?_ h h2;have e:(⟨g,0,none⟩:Addr).add (j*sz)=⟨g,j*sz,none⟩:=by unfold Addr.add;split<;>simp_all
 rw[e];exact k
def ldO(b:Nat→Value)(n:Nat)(z:Tz):Option (List Value×List Nat):=match z.o.op with
 |.load t s=>some ([ev b n z.l s],[t])
 |_=>none
theorem tvl(i : Nat)(C : List Nat)(jj e sz t g cap c off : Nat)(xs : List Value)(v : Value)(hv : eP P t xs off v)(hS : mW x = true → Sp w (jy x))
   (k:Goal P B b n d ((vX (via P b n 0 w x (gC b n i C))).k v) w)
   (h:vA (via P b n 0 w x (gC b n i C))=vB w (via P b n 0 w x (gC b n i C)):=by kernel_rfl)
   (h2:ldO b n (vX (via P b n 0 w x (gC b n i C)))=some ([.pointer (some ⟨g,off,none⟩)],[t]):=by kernel_rfl) (hi:(jy x)[jj]?=some (.own e sz (some ⟨g,0,none⟩) cap c xs):=by kernel_rfl):Goal P B b n d x w:=by
 refine tv i C _ hS (fun w' hs=>?_) k h;generalize vX (via P b n 0 w x (gC b n i C))=z at *;unfold ldO at h2;split at h2<;>try contradiction
 rename_i t' s hop;simp only[Option.some.injEq,Prod.mk.injEq,List.cons.injEq,and_true] at h2;obtain ⟨h3,rfl⟩:=h2;obtain ⟨cur,hg,ht,_⟩:=C5 (hs.all _ (List.mem_of_getElem? hi));exact Gx.run_load hop off v h3 hg (Hf hv ht)
theorem tvo(i : Nat)(C : List Nat){a : Addr}{t c : Nat}(cs : List Value)(v : Value)(hc : ∀ w', Sp w' (jy x) → w'.cells? 0 a c = some cs)(hS : mW x = true → Sp w (jy x))
   (k:Goal P B b n d ((vX (via P b n 0 w x (gC b n i C))).k v) w)
   (h:vA (via P b n 0 w x (gC b n i C))=vB w (via P b n 0 w x (gC b n i C)):=by kernel_rfl)
   (h2:ldO b n (vX (via P b n 0 w x (gC b n i C)))=some ([.pointer (some a)],[t]):=by kernel_rfl)
   (hm:Nat.beq cs.length c=true:=by kernel_rfl) (hv:CT P t cs=some v:=by kernel_rfl):Goal P B b n d x w:=by
 refine tv i C _ hS (fun w' hs=>?_) k h;generalize vX (via P b n 0 w x (gC b n i C))=z at *;unfold ldO at h2;split at h2<;>try contradiction
 rename_i t' s hop;simp only[Option.some.injEq,Prod.mk.injEq,List.cons.injEq,and_true] at h2;obtain ⟨h3,rfl⟩:=h2;exact zI hop cs v h3 c (hc w' hs) hm hv
theorem L2(i : Nat)(C : List Nat)(u v : Value)(e : u = v)(hS : mW x = true → Sp w (jy x))
   (k:Goal P B b n d ((vX (via P b n 0 w x (gC b n i C))).k v) w)
   (h:vA (via P b n 0 w x (gC b n i C))=vB w (via P b n 0 w x (gC b n i C)):=by kernel_rfl)
   (h2:∀w',(execOp (ev b n (vX (via P b n 0 w x (gC b n i C))).l) (vX (via P b n 0 w x (gC b n i C))).o).run P w'=.ok (.value u) w':=by intro w';kernel_rfl):Goal P B b n d x w:=by
 subst e;exact tv i C _ hS (fun w' _=>h2 w') k h
end
section
variable [Rd] {P:Program} {B:Exit→Act→World→Prop} {b:Nat→Value} {n:Nat} {d:List Deferred} {w0 w:World} {x:St} {L0 L:List Item}
def T_(P:Program)(b:Nat→Value)(n:Nat)(x:St):Option Ask:=
 match hd b n x with
 |some q=>match q.2.2.op with
   |.makeSlice t l c=>match P.underlying t with
     |some (.slice e)=>match P.info? e with
       |some inf=>match inf.zero with
         |some z=>some ⟨[ev b n x.l l,ev b n x.l c,z],[e,inf.size,inf.bytes],x,q⟩
         |none=>none
       |none=>none
     |_=>none
   |_=>none
 |none=>none
theorem mk(m e LK len : Nat)(z : Value)(H : Hs w0 L0 w L)(hb : LK * len ≤ 281474976710656)(hn : len ≤ 9223372036854775807)
   (k:∀g w',Hs w0 L0 w' (L++[.own e 1 (some ⟨g,0,none⟩) len len (List.replicate len z)])→Goal P B b n d (nx (vX (via P b n m w x (ask (T_ P b n)))).y (vX (via P b n m w x (ask (T_ P b n)))).q (.slice (some ⟨g,0,none⟩) len len)) w')
   (h:vA (via P b n m w x (ask (T_ P b n)))=vB w (via P b n m w x (ask (T_ P b n))):=by kernel_rfl)
   (h2:((vX (via P b n m w x (ask (T_ P b n)))).u,(vX (via P b n m w x (ask (T_ P b n)))).t)=([.int .i64 (len:Int),.int .i64 (len:Int),z],[e,1,LK]):=by kernel_rfl) (hz:z.cells=#[z]:=by kernel_rfl):Goal P B b n d x w:=by
 obtain⟨y,hr,hf⟩:=cG h;refine az hr ?_;generalize vX (via P b n m w x (ask (T_ P b n)))=zz at *;unfold T_ at hf;split at hf<;>try contradiction
 rename_i q hq;split at hf<;>try contradiction
 rename_i t l c hop;split at hf<;>try contradiction
 rename_i e1 hu;split at hf<;>try contradiction
 rename_i inf eE;split at hf<;>try contradiction
 rename_i zv LS;simp only[Option.some.injEq] at hf;subst hf;simp only[Prod.mk.injEq,List.cons.injEq,and_true] at h2;obtain ⟨⟨h3,h4,rfl⟩,rfl,zG,rfl⟩:=h2;obtain ⟨w',hr,jK,hg'⟩:=run_make_full (P:=P) w 0 t e1 inf zv 1 hu eE LS zG .i64 .i64 len hb (by unfold maxLen;omega) (Nat.zero_le _);rw [hz,Nat.mul_one,toList_madeCells_one] at jK;refine cF hq ?_ (k w.heap.size w' (H.add (it:=.own e1 1 (some ⟨w.heap.size,0,none⟩) len len (List.replicate len zv)) hg' jK (fun c hc=>?_)))
 · unfold execOp;simp [hop,h3,h4,Sem.run_bind,hr]
 · have:some w.heap.size=some c:=hc;exact Nat.le_of_eq (Option.some.inj this)
end
end Go.Sx
namespace Go.Sx
section
variable [Rd] {P:Program} {B:Exit→Act→World→Prop} {b:Nat→Value} {n:Nat} {d:List Deferred} {w:World} {x:St}
theorem nmx(k:let z:=x;Goal P B b n d z w):Goal P B b n d x w:=k
end
end Go.Sx
namespace Go.Sx
open Go.RowKit Go.Gx
section
variable {w0 w:World} {L0 L:List Item}
theorem Hs.tI(H:Hs w0 L0 w L)(i sz n:Nat){k e:Nat}{cs:Array Value}(hi:L[i]?=some (.al k (.cells cs e)))(hs:cs.size=n*sz)(hn:n≤9223372036854775807):Hs w0 L0 w (L.set i (.own e sz (some ⟨k,0,none⟩) n n cs.toList)):=
 H.auh i _ hi rfl ⟨by simpa using hs,.inr ⟨k,n,cs,rfl,Nat.zero_le _,H.at i hi,Nat.le_refl _,hn,hs,List.take_of_length_le (by rw[Array.length_toList,hs];exact Nat.le_refl _)⟩⟩ (fun c hc=>by
   have:some k=some c:=hc
   exact(Option.some.inj this).symm)
end
end Go.Sx
namespace Go.Sx
open Go.RowKit Go.Gx Go.MapKept
section
variable [Rd] {P:Program} {B:Exit→Act→World→Prop} [Pn B] {b:Nat→Value} {n:Nat} {d:List Deferred} {w0 w:World} {x:St} {L0 L:List Item} {α:Type} [DecidableEq α]
omit [Rd] in
theorem VY{o : Oper}{t kt et : TypeId}{mo ix : Operand}{l : List (Nat × Value)}(hop : o.op = .lookup t mo ix true){kd : TypeDesc}{enc : α → Value}{bt : Nat}{mp : List (α × Value)}{a : α}{z : Value}
   (h3:ev b n l mo=.map (some bt)) (h4:ev b n l ix=enc a) (hh:(rf kd enc bt mp).holds w) (hk:∀a,IsKey kd (enc a)) (sI:∀a b,enc a=enc b→a=b)
   (ht:ki P t=some (kt,et)) (lE:P.underlying kt=some kd) (hz:(P.info? et).bind (·.zero)=some z):
   (execOp (ev b n l) o).run P w=.ok (.value (.tuple #[(Sx.look a mp).getD z,.bool (Sx.look a mp).isSome])) w:=by
 obtain⟨⟨es,ck,hb,cw,T6,hm⟩,_,_⟩:=hh;have C7:=mf ht;have rh:=iB hk sI a es.toList mp 0 hm;rw [look_eq] at rh;have LS:(zeroValue et).run P w=.ok z w:=by
   cases eE:P.info? et with
   |none=>simp[eE] at hz
   |some inf=>rw[eE] at hz;simp only[Option.bind_some] at hz;simp[zeroValue,typeInfo,eE,hz]
 unfold execOp;have Fe:=MapKept.run_getObj_map (P:=P) (w:=w) hb;have Jm:(Instr.checkKey es.isEmpty 10000 kt (enc a)).run P w=.ok () w:=run_checkKey lE (hk a) _ 9999;cases hp:pos a mp with
 |none=>
   have hl:=zN.2 hp;rw [hp] at rh;have uW:=run_findKey (P:=P) (w:=w) lE rh;simp [hop,h3,h4,Instr.lookup,run_underlying C7,Sem.run_bind,Fe,Jm,uW,LS,hl,Result.andThen]
 |some j=>
   obtain⟨v,hv⟩:=nR hp;have hl:Sx.look a mp=some v:=by unfold Sx.look;rw[hp];simp[hv]
   rw[hp] at rh;simp only[hl,Option.map_some] at rh;have uW:=run_findKey (P:=P) (w:=w) lE rh;simp [hop,h3,h4,Instr.lookup,run_underlying C7,Sem.run_bind,Fe,Jm,uW,hl,Result.andThen]
def Z7(b:Nat→Value)(n:Nat)(z:Tz):Option (List Value×List Nat):=match z.o.op with
 |.lookup t mp ix ok=>match ok with
   |true=>some ([ev b n z.l mp,ev b n z.l ix],[t])
   |false=>none
 |_=>none
theorem tvk(i : Nat)(C : List Nat)(jj : Nat){kd : TypeDesc}{enc : α → Value}{bt t kt et : Nat}{mp : List (α × Value)}(a : α)(z v : Value)(hk : ∀ a, IsKey kd (enc a))(sI : ∀ a b, enc a = enc b → a = b)
   (hv:.tuple #[(Sx.look a mp).getD z,.bool (Sx.look a mp).isSome]=v) (hS:mW x=true→Sp w (jy x))
   (k:Goal P B b n d ((vX (via P b n 0 w x (gC b n i C))).k v) w) (hi:(jy x)[jj]?=some (rf kd enc bt mp))
   (h:vA (via P b n 0 w x (gC b n i C))=vB w (via P b n 0 w x (gC b n i C)))
   (h2:Z7 b n (vX (via P b n 0 w x (gC b n i C)))=some ([.map (some bt),enc a],[t]))
   (ht:ki P t=some (kt,et)) (lE:P.underlying kt=some kd) (hz:(P.info? et).bind (·.zero)=some z):Goal P B b n d x w:=by
 refine tv i C _ hS (fun w' hs=>?_) k h;generalize vX (via P b n 0 w x (gC b n i C))=zz at *;unfold Z7 at h2;split at h2<;>try contradiction
 rename_i t' mo ix ok hop;split at h2<;>try contradiction
 simp only[Option.some.injEq,Prod.mk.injEq,List.cons.injEq,and_true] at h2;obtain ⟨⟨h3,h4⟩,rfl⟩:=h2;subst hv;exact VY hop h3 h4 (hs.all _ (List.mem_of_getElem? hi)) hk sI ht lE hz
end
end Go.Sx
namespace Go.Sx
open Go.RowKit Go.Gx
section
variable {w0 w:World} {L0 L:List Item}
theorem Hs.ro(H:Hs w0 L0 w L)(i:Nat){S:Nat→Prop}{A B:World→Prop}(hi:L[i]?=some (.ro S A))(hB:B w)(hl:Loc S B):Hs w0 L0 w (L++[.ro S B]):=by
 have hm:(Item.ro S A)∈L:=List.mem_of_getElem? hi;have hA:=H.sp.all _ hm;refine H.step (Kp.refl (fun _=>False) w) (fun _ q=>q.elim) ⟨fun j hj=>?_,?_⟩ ?_ ?_
 · rcases List.mem_append.1 hj with q|q
   · exact H.sp.all j q
   · rw[List.mem_singleton.1 q];exact⟨hB,hA.2.1,hl⟩
 · refine List.pairwise_append.2 ⟨H.sp.yN,List.pairwise_singleton _ _,fun x hx y hy=>?_⟩;rw [List.mem_singleton.1 hy];obtain ⟨j,hj⟩:=List.mem_iff_getElem?.1 hx;obtain ⟨oN,ei⟩:=List.getElem?_eq_some_iff.1 hi;obtain ⟨TT,ej⟩:=List.getElem?_eq_some_iff.1 hj;have pw:=List.pairwise_iff_getElem.1 H.sp.yN;intro hw c hc T1;rcases Nat.lt_trichotomy j i with r|r|r
   · have:=pw j i TT oN r;rw[ei,ej] at this;exact this hw c hc T1
   · subst r;rw[ei] at ej;subst ej;cases hw
   · have:=pw i j oN TT r;rw[ei,ej] at this;exact this (by rw[Bool.or_comm];exact hw) c T1 hc
 · intro x hx c hc _;rcases List.mem_append.1 hx with q|q
   · exact⟨x,q,hc⟩
   · rw[List.mem_singleton.1 q] at hc;exact⟨_,hm,hc⟩
 · intro x hx Ey c hc _;rcases List.mem_append.1 hx with q|q
   · exact⟨x,q,Ey,hc⟩
   · rw[List.mem_singleton.1 q] at Ey;cases Ey
end
end Go.Sx
namespace Go.Sx
open Go.RowKit Go.Gx
section
variable {w0 w:World} {L0 L L1:List Item}
theorem Hs.fz(H:Hs w0 L0 w L)(I:List Nat)(hi:bp I L=some L1){φ:World→Prop}(hφ:Sp w L1→φ w)(hl:Loc (E8 L1) φ):Hs w0 L0 w (.ro (E8 L1) φ::rest I L):=by
 have k:=H.perm (gg hi);have pw:=List.pairwise_append.1 k.sp.yN;have s1:Sp w L1:=⟨fun it hi=>k.sp.all it (List.mem_append_left _ hi),pw.1⟩;refine ⟨k.kp,⟨fun it hi=>?_,List.pairwise_cons.2 ⟨fun y hy=>?_,pw.2.1⟩⟩,fun it hi c hc hl=>?_,fun it hi hww c hc hl=>?_⟩
 · rcases List.mem_cons.1 hi with rfl|q
   · exact⟨hφ s1,fun c ⟨it,hi,hc⟩=>Item.lt (s1.all it hi) hc,hl⟩
   · exact k.sp.all it (List.mem_append_right _ q)
 · rintro hw c ⟨x,hx,hc⟩ Z4;have:y.wr=true:=by simpa [Item.wr] using hw
   exact pw.2.2 x hx y hy (by rw[this,Bool.or_true]) c hc Z4
 · rcases List.mem_cons.1 hi with rfl|q
   · obtain⟨x,hx,hc⟩:=hc;exact k.Cs x (List.mem_append_left _ hx) c hc hl
   · exact k.Cs it (List.mem_append_right _ q) c hc hl
 · rcases List.mem_cons.1 hi with rfl|q
   · cases hww
   · exact k.Hd it (List.mem_append_right _ q) hww c hc hl
end
end Go.Sx
namespace Go.aS
open Go.RowKit Go.Sx
abbrev Us:=List (Nm×Bool)
def Dd(us:Us):List Value:=us.map fun p=>.bool p.2
def AZ(us:Us)(j:Nat):Bool:=((us[j]?).getD (⟨#[]⟩,true)).2
theorem Ua{P:Program}{t j:Nat}{u:Bool}{us:Us}(h:j<us.length)(hu:AZ us j=u)(ht:(match P.underlying t with|some .bool=>true|_=>false)=true:=by kernel_rfl):eP P t (Dd us) (j*1) (.bool u):=by
 unfold eP;split at ht
 · rename_i e;rw[e];subst hu;simp[Dd,AZ,h]
 · cases ht
theorem Hk(us:Us):(Dd us).length=us.length:=List.length_map _
theorem Hl(us:Us)(j:Nat)(s:Nm):(Dd us).set (j*1) (.bool true)=Dd (us.set j (s,true)):=by simp[Dd,List.map_set]
theorem Hm{us:Us}{b:List Nm}{j:Nat}(hb:us.map (·.1)=b)(h:j<us.length):us.drop j=(gn b j,AZ us j)::us.drop (j+1):=by
 subst hb;rw [List.drop_eq_getElem_cons h];congr 1;simp [gn,AZ,h]
theorem Jo{us:Us}{b:List Nm}{j:Nat}{s:Nm}(hb:us.map (·.1)=b)(h:j<us.length)(hu:AZ us j=false)(he:((gn b j).toList==s.toList)=true):dt s (us.drop j)=some 0:=by
 rw[Hm hb h,hu,dt,dx,he];rfl
theorem Fh{us:Us}{b:List Nm}{j:Nat}{s:Nm}(hb:us.map (·.1)=b)(h:j<us.length)(hu:AZ us j=true∨((gn b j).toList==s.toList)=false):dt s (us.drop j)=(dt s (us.drop (j+1))).map (·+1):=by
 rw[Hm hb h,dt,dx];rcases hu with hu|hu<;>rw[hu]<;>simp
def Fs(s:Nm)(us:Us)(j:Nat):Option Nat→Prop
 |none=>dt s us=(dt s (us.drop j)).map (·+j)
 |some q=>dt s us=some q
theorem Fs0(s:Nm)(us:Us):Fs s us 0 none:=by simp[Fs]
theorem VZ{us:Us}{b:List Nm}{j:Nat}{s:Nm}{o:Option Nat}(ho:o=none)(hf:Fs s us j o)(hb:us.map (·.1)=b)(h:j<us.length)(hu:AZ us j=false)(he:((gn b j).toList==s.toList)=true):Fs s us (j+1) (some j):=by
 subst ho;have:=Jo hb h hu he;simp only[Fs,this,Option.map_some,Nat.zero_add] at hf;exact hf
theorem Hn{us:Us}{b:List Nm}{j:Nat}{s:Nm}{o:Option Nat}(ho:o=none)(hf:Fs s us j o)(hb:us.map (·.1)=b)(h:j<us.length)(hu:AZ us j=true∨((gn b j).toList==s.toList)=false):Fs s us (j+1) o:=by
 subst ho;have:=Fh hb h hu;simp only[Fs,this,Option.map_map] at hf ⊢;rw [hf];congr 1;funext x;simp only[Function.comp_apply];omega
theorem vR{us:Us}{s:Nm}{q:Nat}(h:dt s us=some q):q<us.length∧∃x,(us[q]?).map (·.1)=some x∧ee x s=true:=by
 induction us generalizing q with
 |nil=>simp[dt] at h
 |cons p r ih=>
   obtain⟨x,u⟩:=p;unfold dt at h;split at h
   · rename_i hc;cases h;simp only[Bool.and_eq_true] at hc;exact ⟨by simp,x,by simp,hc.2⟩
   · cases hr:dt s r with
     |none=>simp[hr] at h
     |some q'=>
       simp only[hr,Option.map_some,Option.some.injEq] at h;subst h;obtain ⟨h1,x',h2,h3⟩:=ih hr;exact ⟨by simp;omega,x',by simpa using h2,h3⟩
theorem L3{a b:Nm}(h:ee a b=true):a=b:=by
 have:=eq_of_beq h;exact ByteArray.ext (Array.toList_inj.1 this)
theorem zP{us:Us}{s:Nm}{q:Nat}{b:List Nm}(h:dt s us=some q)(hb:us.map (·.1)=b):(us.set q (s,true)).map (·.1)=b:=by
 subst hb;obtain ⟨h1,x,h2,h3⟩:=vR h;have:=L3 h3;subst this;rw [List.map_set];apply List.ext_getElem?;intro i;rw [List.getElem?_set];split
 · rename_i e;subst e;rw [List.length_map,if_pos h1,List.getElem?_map,h2]
 · rfl
theorem V0{us:Us}{s:Nm}{j:Nat}{o:Option Nat}(hf:Fs s us j o)(h:us.length≤j):dt s us=o:=by
 cases o with
 |none=>simpa [Fs,List.drop_of_length_le h,dt] using hf
 |some q=>exact hf
theorem Ho{us:Us}{s:Nm}{j:Nat}{o:Option Nat}(hf:Fs s us j o)(h:us.length≤j∨o≠none):dt s us=o:=by
 rcases h with h|h
 · exact V0 hf h
 · cases o with
   |none=>exact absurd rfl h
   |some q=>exact hf
theorem zQ{a : List Nm}{i : Nat}(us : Us)(h : i < a.length) : pD (a.drop i) us = match dt (gn a i) us with
   |none=>gn a i::pD (a.drop (i+1)) us
   |some j=>pD (a.drop (i+1)) (us.set j (gn a i,true)):=by
 rw[List.drop_eq_getElem_cons h];have:gn a i=a[i]:=by simp[gn,h]
 first|(rw [this,pD];done)|(rw [this,pD];cases dt a[i] us<;>rfl)
theorem Hq{o:Option Nat}(h:decide (eI o<0)=true):o=none:=by
 cases o with
 |none=>rfl
 |some n=>have:=of_decide_eq_true h;simp only[eI] at this;omega
theorem Hr{o:Option Nat}(h:decide (eI o<0)=false):∃q,o=some q:=by
 cases o with
 |none=>simp[eI] at h
 |some n=>exact⟨n,rfl⟩
theorem jO.one{w:World}{S:Nat→Prop}{A:Option Addr}{l:List Nm}{a:Addr}{i:Nat}{s:Nm}(h:jO w S A l)(ha:A=some a)(hl:l[i]?=some s):w.cells? 0 (a.add (i*1)) 1=some [.string s]:=by
 obtain⟨a',Lv,_,hc⟩:=h i s hl;rw [ha] at Lv;cases Lv;exact hc
theorem cQ{w:World}{L:List Sx.Item}{it:Sx.Item}(h:Sp w L)(j:Nat)(hi:L[j]?=some it):it.holds w:=h.all _ (List.mem_of_getElem? hi)
theorem Rh(b:List Nm):List.replicate b.length (Value.bool false)=Dd (b.map fun x=>(x,false)):=by
 simp only[Dd,List.map_map];induction b with
 |nil=>rfl
 |cons x b ih=>simp[List.replicate_succ,ih]
theorem eG{k r v:Nat}{g:G}{acc l:List Nm}(h:whole k g r acc=some (l,v)):l.length<1000000000:=by
 induction k generalizing r acc with
 |zero=>simp[whole] at h
 |succ z ih=>
   obtain⟨lr,nx,_,hb,_,h1,h2,h3⟩:=kG h;rcases nx with _|q
   · rw[← (h1 rfl).1,vQ];exact hb
   · cases q with
     |zero=>rw[← (h2 rfl).1,vQ];exact hb
     |succ q=>exact ih (h3 q rfl)
end Go.aS
namespace Go.aS
open Go.RowKit Go.Sx
abbrev L4(v w:Nat)(d e:List Nm):Bool:=((v==0)&&!e.isEmpty)||((w==0)&&!d.isEmpty)
theorem pI{k r s : Nat}{g g' : G}{t : Bool}(h : ik k g r s = some (g', t)) :
   ∃a v b u,whole k g r []=some (a,v)∧whole k g s []=some (b,u)∧
     (v=u→g=g'∧((less a b).isEmpty&&(less b a).isEmpty)=t)∧
     (v≠u→L4 v u (less a b) (less b a)=true→g=g'∧false=t)∧
     (v≠u→L4 v u (less a b) (less b a)=false→v=0→g.eY u (less a b) (some 0)=g'∧true=t)∧
     (v≠u→L4 v u (less a b) (less b a)=false→v≠0→u=0→g.eY v (less b a) (some 0)=g'∧true=t)∧
     (v≠u→L4 v u (less a b) (less b a)=false→v≠0→u≠0→∃g1 x,g.gu=some (g1,x)∧(g1.eY v (less b a) (some x)).eY u (less a b) (some x)=g'∧true=t):=by
 unfold ik at h;split at h<;>try contradiction
 rename_i a v b u h1 h2;refine ⟨a,v,b,u,h1,h2,?_⟩;simp only at h;split at h
 · rename_i e;cases h;simp[e]
 · rename_i e;split at h
   · rename_i e2;cases h;exact ⟨fun q=>absurd q e,fun _ _=>⟨rfl,rfl⟩,fun _ q=>by simp[L4,e2] at q,fun _ q=>by simp[L4,e2] at q,fun _ q=>by simp[L4,e2] at q⟩
   · rename_i e2;have e2:L4 v u (less a b) (less b a)=false:=by simpa using e2
     split at h
     · rename_i e3;cases h;exact ⟨fun q=>absurd q e,fun _ q=>by simp[e2] at q,fun _ _ _=>⟨rfl,rfl⟩,fun _ _ q=>absurd e3 q,fun _ _ q=>absurd e3 q⟩
     · rename_i e3;split at h
       · rename_i e4;cases h;exact ⟨fun q=>absurd q e,fun _ q=>by simp[e2] at q,fun _ _ q=>absurd q e3,fun _ _ _ _=>⟨rfl,rfl⟩,fun _ _ _ q=>absurd e4 q⟩
       · rename_i e4;split at h<;>try contradiction
         rename_i g1 x h5;cases h;exact ⟨fun q=>absurd q e,fun _ q=>by simp[e2] at q,fun _ _ q=>absurd q e3,fun _ _ _ q=>absurd q e4,fun _ _ _ _=>⟨g1,x,h5,rfl,rfl⟩⟩
theorem Ht{k r v:Nat}{g:G}{acc l:List Nm}(h:whole k g r acc=some (l,v)):v=0∨v<g.ops.length:=by
 induction k generalizing r acc with
 |zero=>simp[whole] at h
 |succ z ih=>
   obtain⟨lr,nx,ho,hb,_,h1,h2,h3⟩:=kG h;rcases nx with _|q
   · rw[← (h1 rfl).2];exact .inr (List.getElem?_eq_some_iff.1 ho).1
   · cases q with
     |zero=>exact .inl (h2 rfl).2.symm
     |succ q=>exact ih (h3 q rfl)
theorem Z8(l:List Nm):((l.length:Int)==(0:Int))=l.isEmpty:=by cases l<;>simp<;>omega
theorem Ri(l:List Nm):decide ((l.length:Int)>(0:Int))=!l.isEmpty:=by cases l<;>simp<;>omega
theorem L5(v:Nat):((v:Int)==(0:Int))=(v==0):=by cases v<;>simp<;>omega
theorem Rj{g g':G}{n:Nat}(h:g.gu=some (g',n)):g'.ops.length=g.ops.length+1:=by
 unfold G.gu G.putRow at h;split at h
 · simp only[mH,nP,lD,Option.some.injEq,Prod.mk.injEq] at h;obtain⟨rfl,_⟩:=h;simp
 · cases h
theorem Fi(g:G)(v:Nat)(l:List Nm)(nx:Option Nat):(g.eY v l nx).ops.length=g.ops.length:=by
 simp only[G.eY,mH,nP,lD,List.length_set]
end Go.aS
namespace Go.aS
open Go.RowKit Go.Sx
abbrev ui(g:G)(m n:Nat):G:=⟨g.kind,g.a,g.b,g.row,g.link.set m (some n),g.ops,g.next,g.tv,g.rv⟩
theorem Fj(g:G)(m n:Nat):g.ZX m n=ui g m n:=by simp only[G.ZX,lD,mH]
def SC(k:Nat)(g:G)(m n km:Nat)(g':G)(t:Bool):Prop:=(km≠6→g=g'∧true=t)∧(km=6→∃r s,g.row[m]?=some r∧g.row[n]?=some s∧ik k g r s=some (g',t))
def SB(k:Nat)(g:G)(m n km:Nat)(g':G)(t:Bool):Prop:=∃y,g.b[m]?=some y∧(y=none→SC k g m n km g' t)∧∀p,y=some p→∃q t2 g2,g.b[n]?=some (some q)∧same k g p q=some (g2,t2)∧(t2=false→g2=g'∧false=t)∧(t2=true→SC k g2 m n km g' t)
def SAa(k:Nat)(g:G)(m n km:Nat)(g':G)(t:Bool):Prop:=∃y,g.a[m]?=some y∧(y=none→SB k g m n km g' t)∧∀p,y=some p→∃q t2 g2,g.a[n]?=some (some q)∧same k g p q=some (g2,t2)∧(t2=false→g2=g'∧false=t)∧(t2=true→SB k g2 m n km g' t)
theorem vS{k m n : Nat}{g g' : G}{t : Bool}(h : same (k + 1) g m n = some (g', t)) : ∃ m1 n1, find k g m = some m1 ∧ find k g n = some n1 ∧ (m1 = n1 → g = g' ∧ true = t) ∧
   (m1≠n1→∃km kn,g.kind[m1]?=some km∧g.kind[n1]?=some kn∧(km=0→ui g m1 n1=g'∧true=t)∧(km≠0→kn=0→ui g n1 m1=g'∧true=t)∧(km≠0→kn≠0→km≠kn→g=g'∧false=t)∧(km≠0→kn≠0→km=kn→SAa k (ui g m1 n1) m1 n1 km g' t)):=by
 unfold same at h;split at h<;>try contradiction
 rename_i m1 n1 hm hn;refine ⟨m1,n1,hm,hn,?_⟩;split at h
 · rename_i e;cases h;exact⟨fun _=>⟨rfl,rfl⟩,fun q=>absurd e q⟩
 · rename_i e;refine ⟨fun q=>absurd q e,fun _=>?_⟩;split at h<;>try contradiction
   rename_i km kn Hu Ub;refine ⟨km,kn,Hu,Ub,?_⟩;split at h
   · rename_i e1;cases h;exact⟨fun _=>⟨(Fj _ _ _).symm,rfl⟩,fun q=>absurd e1 q,fun q=>absurd e1 q,fun q=>absurd e1 q⟩
   · rename_i e1;split at h
     · rename_i e2;cases h;exact⟨fun q=>absurd q e1,fun _ _=>⟨(Fj _ _ _).symm,rfl⟩,fun _ q=>absurd e2 q,fun _ q=>absurd e2 q⟩
     · rename_i e2;split at h
       · rename_i e3;cases h;exact⟨fun q=>absurd q e1,fun _ q=>absurd q e2,fun _ _ _=>⟨rfl,rfl⟩,fun _ _ q=>absurd q e3⟩
       · rename_i e3;refine ⟨fun q => absurd q e1, fun _ q => absurd q e2, fun _ _ q => absurd q e3, fun _ _ _ => ?_⟩;rw [Fj] at h;generalize ui g m1 n1 = g0 at h ⊢;simp only at h;have hC : ∀ g2, (if km = 6 then (match g2.row[m1]?, g2.row[n1]? with | some r, some s => ik k g2 r s | _, _ => none) else some (g2, true)) = some (g', t) → SC k g2 m1 n1 km g' t := by
           intro g2 h;split at h
           · rename_i e6;split at h<;>try contradiction
             rename_i r s hr hs;exact ⟨fun q=>absurd e6 q,fun _=>⟨r,s,hr,hs,h⟩⟩
           · rename_i e6;cases h;exact⟨fun _=>⟨rfl,rfl⟩,fun q=>absurd q e6⟩
         have hA : ∀(g0 : G)(x y : Option (Option Nat))(g1 : G)(t1 : Bool), (match x, y with | some none, _ => some (g0, true) | some (some p), some (some q) => same k g0 p q | _, _ => none) = some (g1, t1) →
             ∃o,x=some o∧(o=none→g0=g1∧true=t1)∧∀p,o=some p→∃q,y=some (some q)∧same k g0 p q=some (g1,t1):=by
           intro g0 x y g1 t1 h
           split at h<;>try contradiction
           · cases h;exact⟨none,rfl,fun _=>⟨rfl,rfl⟩,fun p q=>by cases q⟩
           · rename_i p q;exact⟨some p,rfl,fun q=>(by cases q),fun p' e=>by cases e;exact⟨q,rfl,h⟩⟩
         have hB : ∀ g1, (match (match g1.b[m1]?, g1.b[n1]? with | some none, _ => some (g1, true) | some (some p), some (some q) => same k g1 p q | _, _ => none) with
             |some (g,false)=>some (g,false)
             |some (g,true)=>if km=6 then(match g.row[m1]?,g.row[n1]? with|some r,some s=>ik k g r s|_,_=>none) else some (g,true)
             |none=>none)=some (g',t)→SB k g1 m1 n1 km g' t:=by
           intro g1 h
           split at h<;>try contradiction
           · rename_i g2 hg
             obtain⟨o,ho,h1,h2⟩:=hA _ _ _ _ _ hg
             refine⟨o,ho,fun q=>by simp at h1;exact absurd q (fun e=>by have:=h1 e;simp_all),fun p hp=>?_⟩
             obtain⟨q,hq,hs⟩:=h2 p hp
             cases h
             exact⟨q,false,_,hq,hs,fun _=>⟨rfl,rfl⟩,fun e=>by cases e⟩
           · rename_i g2 hg
             obtain⟨o,ho,h1,h2⟩:=hA _ _ _ _ _ hg
             refine⟨o,ho,fun q=>by rw[(h1 q).1];exact hC _ h,fun p hp=>?_⟩
             obtain⟨q,hq,hs⟩:=h2 p hp
             exact⟨q,true,g2,hq,hs,fun e=>(by cases e),fun _=>hC _ h⟩
         split at h<;>try contradiction
         · rename_i g2 hg;obtain ⟨o,ho,h1,h2⟩:=hA _ _ _ _ _ hg;refine ⟨o,ho,fun q=>by simp at h1;exact absurd q (fun e=>by have:=h1 e;simp_all),fun p hp=>?_⟩;obtain ⟨q,hq,hs⟩:=h2 p hp;cases h;exact ⟨q,false,_,hq,hs,fun _=>⟨rfl,rfl⟩,fun e=>by cases e⟩
         · rename_i g2 hg;obtain ⟨o,ho,h1,h2⟩:=hA _ _ _ _ _ hg;refine ⟨o,ho,fun q=>by rw[(h1 q).1];exact hB _ h,fun p hp=>?_⟩;obtain ⟨q,hq,hs⟩:=h2 p hp;exact ⟨q,true,g2,hq,hs,fun e=>(by cases e),fun _=>hB _ h⟩
theorem L6{g g':G}{n:Nat}(h:g.gu=some (g',n)):g'.kind=g.kind:=by
 unfold G.gu G.putRow at h;split at h
 · simp only[mH,nP,lD,Option.some.injEq,Prod.mk.injEq] at h;obtain⟨rfl,_⟩:=h;rfl
 · cases h
theorem kH(g:G)(v:Nat)(l:List Nm)(nx:Option Nat):(g.eY v l nx).kind=g.kind:=by simp only[G.eY,mH,nP,lD]
theorem A0{k r s:Nat}{g g':G}{t:Bool}(h:ik k g r s=some (g',t)):g'.kind=g.kind:=by
 obtain⟨a,v,b,u,_,_,h1,h2,h3,h4,h5⟩:=pI h;by_cases e1:v=u
 · rw[(h1 e1).1]
 · cases e2:L4 v u (less a b) (less b a) with
   |true=>rw[(h2 e1 e2).1]
   |false=>
     by_cases e3:v=0
     · rw[← (h3 e1 e2 e3).1,kH]
     · by_cases e4:u=0
       · rw[← (h4 e1 e2 e3 e4).1,kH]
       · obtain⟨g1,x,ho,hg,_⟩:=h5 e1 e2 e3 e4;rw [← hg,kH,kH,L6 ho]
theorem Hv{k m n km:Nat}{g g':G}{t:Bool}(h:SC k g m n km g' t):g'.kind=g.kind:=by
 by_cases e:km=6
 · obtain⟨r,s,_,_,h⟩:=h.2 e;exact A0 h
 · rw[(h.1 e).1]
theorem zR{k m n:Nat}{g g':G}{t:Bool}(h:same k g m n=some (g',t)):g'.kind=g.kind:=by
 induction k generalizing g g' m n t with
 |zero=>simp[same] at h
 |succ k ih=>
   obtain⟨m1,n1,_,_,h0,h1⟩:=vS h;by_cases e:m1=n1
   · rw[(h0 e).1]
   · obtain⟨km,kn,_,_,a1,a2,a3,a4⟩:=h1 e;by_cases e1:km=0
     · rw[← (a1 e1).1]
     · by_cases e2:kn=0
       · rw[← (a2 e1 e2).1]
       · by_cases e3:km=kn
         · have hb : ∀ g1, SB k g1 m1 n1 km g' t → g'.kind = g1.kind := by
             rintro g1 ⟨y,_,b1,b2⟩;cases y with
             |none=>exact Hv (b1 rfl)
             |some p=>
               obtain⟨q,t2,g2,_,hs,b3,b4⟩:=b2 p rfl;rw [← ih hs];cases t2 with
               |false=>rw[(b3 rfl).1]
               |true=>exact Hv (b4 rfl)
           obtain⟨y,_,b1,b2⟩:=a4 e1 e2 e3;cases y with
           |none=>exact hb (ui g m1 n1) (b1 rfl)
           |some p=>
             obtain⟨q,t2,g2,_,hs,b3,b4⟩:=b2 p rfl;have:=ih hs;cases t2 with
             |false=>rw[← (b3 rfl).1];exact this
             |true=>rw[hb _ (b4 rfl)];exact this
         · rw[(a3 e1 e2 e3).1]
theorem e_{o:Option Nat}(h:decide (eI o≥0)=true):∃q,o=some q:=by
 cases o with
 |none=>simp[eI] at h
 |some n=>exact⟨n,rfl⟩
theorem ff{o:Option Nat}(h:decide (eI o≥0)=false):o=none:=by
 cases o with
 |none=>rfl
 |some n=>have:=of_decide_eq_false h;simp only[eI] at this;omega
theorem ne6{km:Nat}(h:km≠6):((km:Int) != (6:Int))=true:=by simp;omega
theorem ar{α:Type}{l:List α}{i:Nat}{x:α}(h:l[i]?=some x):i<l.length:=(List.getElem?_eq_some_iff.1 h).1
end Go.aS
namespace Go.aS
open Go.RowKit Go.Sx Go.Gx Go.MapKept
theorem y_(a:Int):IsKey (.int .i64) (kj a):=rfl
theorem A_(a b:Int)(h:kj a=kj b):a=b:=by simpa [kj] using h
theorem L7(a:Int):Instr.sameBits 10000 (kj a) (kj a)=true:=by simp[kj,Instr.sameBits]
def lH(s:Seen):List (Int×Nat):=s.map fun p=>((p.1:Int),p.2)
abbrev dG(b:Nat)(s:Seen):Sx.Item:=i_ b (lH s)
theorem zS(a:Int)(p:Int×Value)(r:List (Int×Value)):Sx.look a (p::r)=if p.1=a then some p.2 else Sx.look a r:=by
 unfold Sx.look;rw [pos];split
 · simp
 · cases pos a r<;>simp
theorem vT(a:Int)(l:List (Int×Nat)):Sx.look a (EA l)=(c0 a l).map fun v=>.int .i64 (v:Int):=by
 induction l with
 |nil=>rfl
 |cons p l ih=>
   obtain⟨m,v⟩:=p;rw [show EA ((m,v)::l)=(m,Value.int .i64 (v:Int))::EA l from rfl,zS,c0];split
   · rfl
   · exact ih
theorem Rk(s:Seen)(n:Nat):(Sx.look (n:Int) (EA (lH s))).getD (.int .i64 0)=.int .i64 (s.at n:Int):=by
 rw[vT];induction s with
 |nil=>rfl
 |cons p s ih=>
   obtain⟨m,v⟩:=p;rw [show lH ((m,v)::s)=((m:Int),v)::lH s from rfl,c0,Seen.at];by_cases e:m=n
   · subst e;simp
   · rw[if_neg (by omega),if_neg e];exact ih
theorem vU(a:Int)(v:Value)(p:Int×Value)(r:List (Int×Value)):AM a v (p::r)=if p.1=a then(a,v)::r else p::AM a v r:=by
 unfold AM;rw [pos];by_cases e:p.1=a
 · rw[if_pos e,if_pos e];rfl
 · rw[if_neg e,if_neg e];cases pos a r<;>rfl
theorem L8(s:Seen)(n v:Nat):AM (n:Int) (.int .i64 (v:Int)) (EA (lH s))=EA (lH (s.put n v)):=by
 induction s with
 |nil=>rfl
 |cons p s ih=>
   obtain⟨m,u⟩:=p;rw [show EA (lH ((m,u)::s))=((m:Int),Value.int .i64 (u:Int))::EA (lH s) from rfl,vU,Seen.put];by_cases e:m=n
   · subst e;simp;rfl
   · rw[if_neg (by show ¬((m:Int)=n);omega),if_neg e,ih];rfl
theorem G0(a:Int)(v:Nat)(l:List (Int×Nat))(h:c0 a l=none):AM a (.int .i64 (v:Int)) (EA l)=EA (l++[(a,v)]):=by
 induction l with
 |nil=>rfl
 |cons p l ih=>
   obtain⟨m,u⟩:=p;unfold c0 at h;split at h
   · cases h
   · rename_i e;rw [show EA ((m,u)::l)=(m,Value.int .i64 (u:Int))::EA l from rfl,vU,if_neg e,ih h];rfl
section
variable {P:Program} {B:Exit→Act→World→Prop} {b:Nat→Value} {n:Nat} {d:List Deferred} {w0 w:World} {x:St} {L0 L:List Sx.Item}
theorem lks(m i bt q : Nat)(s : Seen)(H : Hs w0 L0 w L){t kt et : Nat}(hi : L[i]? = some (dG bt s))
   (k:Goal P B b n d (Sx.nx (vX (via P b n m w x (Sx.ask (lU b n)))).y (vX (via P b n m w x (Sx.ask (lU b n)))).q (.int .i64 (s.at q:Int))) w)
   (h:vA (via P b n m w x (Sx.ask (lU b n)))=vB w (via P b n m w x (Sx.ask (lU b n))):=by kernel_rfl)
   (h2:((vX (via P b n m w x (Sx.ask (lU b n)))).u,(vX (via P b n m w x (Sx.ask (lU b n)))).t)=([.map (some bt),.int .i64 (q:Int)],[t,0]):=by kernel_rfl)
   (ht:ki P t=some (kt,et):=by kernel_rfl) (lE:P.underlying kt=some (.int .i64):=by kernel_rfl) (hz:(P.info? et).bind (·.zero)=some (.int .i64 0):=by kernel_rfl):Goal P B b n d x w:=
 lk (r:=0) m i H (q:Int) (.int .i64 0) hi y_ A_ (by rw[Rk];exact k) h h2 ht lE hz
theorem lki(m i bt : Nat)(a : Int)(l : List (Int × Nat))(o : Option Nat)(ho : c0 a l = o)(H : Hs w0 L0 w L){t kt et : Nat}(hi : L[i]? = some (i_ bt l))
   (k:Goal P B b n d (Sx.nx (vX (via P b n m w x (Sx.ask (lU b n)))).y (vX (via P b n m w x (Sx.ask (lU b n)))).q (.tuple #[.int .i64 (o.getD 0:Int),.bool o.isSome])) w)
   (h:vA (via P b n m w x (Sx.ask (lU b n)))=vB w (via P b n m w x (Sx.ask (lU b n))):=by kernel_rfl)
   (h2:((vX (via P b n m w x (Sx.ask (lU b n)))).u,(vX (via P b n m w x (Sx.ask (lU b n)))).t)=([.map (some bt),.int .i64 a],[t,1]):=by kernel_rfl)
   (ht:ki P t=some (kt,et):=by kernel_rfl) (lE:P.underlying kt=some (.int .i64):=by kernel_rfl) (hz:(P.info? et).bind (·.zero)=some (.int .i64 0):=by kernel_rfl):Goal P B b n d x w:=by
 refine lk (r:=1) m i H a (.int .i64 0) hi y_ A_ ?_ h h2 ht lE hz;subst ho;show Goal P B b n d (Sx.nx _ _ (.tuple #[(Sx.look a (EA l)).getD (.int .i64 0),.bool (Sx.look a (EA l)).isSome])) w;rw [vT,Option.isSome_map,show(Option.map (fun v:Nat=>Value.int .i64 (v:Int)) (c0 a l)).getD (.int .i64 0)=.int .i64 (((c0 a l).getD 0:Nat):Int) by cases c0 a l<;>rfl];exact k
theorem YM(m i bt q v : Nat)(s : Seen)(H : Hs w0 L0 w L){t kt et : Nat}(hi : L[i]? = some (dG bt s))
   (k:∀w',Hs w0 L0 w' (L.set i (dG bt (s.put q v)))→Goal P B b n d (Sx.nx (vX (via P b n m w x (Sx.ask (pH b n)))).y (vX (via P b n m w x (Sx.ask (pH b n)))).q undef) w')
   (h:vA (via P b n m w x (Sx.ask (pH b n)))=vB w (via P b n m w x (Sx.ask (pH b n))):=by kernel_rfl)
   (h2:((vX (via P b n m w x (Sx.ask (pH b n)))).u,(vX (via P b n m w x (Sx.ask (pH b n)))).t)=([.map (some bt),.int .i64 (q:Int),.int .i64 (v:Int)],[t]):=by kernel_rfl)
   (ht:ki P t=some (kt,et):=by kernel_rfl) (lE:P.underlying kt=some (.int .i64):=by kernel_rfl):Goal P B b n d x w:=
 mu m i H (q:Int) (.int .i64 (v:Int)) hi y_ A_ L7 (fun w' H'=>by rw[L8] at H';exact k w' H') h h2 ht lE
theorem mui(m i bt : Nat)(a : Int)(v : Nat)(l : List (Int × Nat))(ho : c0 a l = none)(H : Hs w0 L0 w L){t kt et : Nat}(hi : L[i]? = some (i_ bt l))
   (k:∀w',Hs w0 L0 w' (L.set i (i_ bt (l++[(a,v)])))→Goal P B b n d (Sx.nx (vX (via P b n m w x (Sx.ask (pH b n)))).y (vX (via P b n m w x (Sx.ask (pH b n)))).q undef) w')
   (h:vA (via P b n m w x (Sx.ask (pH b n)))=vB w (via P b n m w x (Sx.ask (pH b n))):=by kernel_rfl)
   (h2:((vX (via P b n m w x (Sx.ask (pH b n)))).u,(vX (via P b n m w x (Sx.ask (pH b n)))).t)=([.map (some bt),.int .i64 a,.int .i64 (v:Int)],[t]):=by kernel_rfl)
   (ht:ki P t=some (kt,et):=by kernel_rfl) (lE:P.underlying kt=some (.int .i64):=by kernel_rfl):Goal P B b n d x w:=
 mu m i H a (.int .i64 (v:Int)) hi y_ A_ L7 (fun w' H'=>by rw[G0 a v l ho] at H';exact k w' H') h h2 ht lE
theorem mli(m i bt : Nat)(l : List (Int × Nat))(H : Hs w0 L0 w L){t kt et : Nat}(hi : L[i]? = some (i_ bt l))
   (k:Goal P B b n d (Sx.nx (vX (via P b n m w x (Sx.ask (Hh b n)))).y (vX (via P b n m w x (Sx.ask (Hh b n)))).q (.int .i64 (l.length:Int))) w)
   (h:vA (via P b n m w x (Sx.ask (Hh b n)))=vB w (via P b n m w x (Sx.ask (Hh b n))):=by kernel_rfl)
   (h2:((vX (via P b n m w x (Sx.ask (Hh b n)))).u,(vX (via P b n m w x (Sx.ask (Hh b n)))).t)=([.map (some bt)],[t]):=by kernel_rfl)
   (ht:ki P t=some (kt,et):=by kernel_rfl):Goal P B b n d x w:=
 ml m i H hi (by rw[show (EA l).length=l.length from List.length_map _];exact k) h h2 ht
end
theorem Jp{m:List (Int×Nat)}{n q:Nat}(h:c0 n m=some q):hJ m n=(m,q):=by unfold hJ;rw[h]
theorem Jq{m:List (Int×Nat)}{n:Nat}(h:c0 n m=none):hJ m n=(m++[((n:Int),m.length+1)],m.length+1):=by unfold hJ;rw[h]
theorem vV{o:Option Nat}(h:(!o.isSome)=true):o=none:=by cases o<;>simp_all
theorem rj{o:Option Nat}(h:(!o.isSome)=false):∃q,o=some q:=by cases o<;>simp_all
end Go.aS
namespace Go.aS
open Go.RowKit Go.Sx
theorem Jr{w:World}:(gU (fun _=>False) [(none,0,0)] [[]]).holds w:=by
 refine⟨⟨rfl,fun r s l hs hl=>?_⟩,fun _ h=>h.elim,sK _ _ _⟩;cases r with
 |zero=>simp at hs hl;subst hs hl;exact⟨rfl,fun _ _ h=>by simp at h⟩
 |succ r=>simp at hs
end Go.aS
namespace Go.aS
open Go.RowKit Go.Sx Go.Gx
section
variable {P:Program} {fn:Func} {R:Ending→World→Prop} {b:Nat→Value} {n:Nat} {d:List Deferred} {w0 w:World} {x:St} {L0 L:List Sx.Item}
theorem Z9(i : Nat)(C : List Nat)(jj bt : Nat)(a : Int)(l : List (Int × Nat))(o : Option Nat)(ho : c0 a l = o){t kt et : Nat}(hS : mW x = true → Sp w (jy x))
   (k:Goal P (bodyPost P fn R) b n d ((vX (via P b n 0 w x (gC b n i C))).k (.tuple #[.int .i64 (o.getD 0:Int),.bool o.isSome])) w)
   (hi:(jy x)[jj]?=some (i_ bt l):=by kernel_rfl)
   (h:vA (via P b n 0 w x (gC b n i C))=vB w (via P b n 0 w x (gC b n i C)):=by kernel_rfl)
   (h2:Z7 b n (vX (via P b n 0 w x (gC b n i C)))=some ([.map (some bt),.int .i64 a],[t]):=by kernel_rfl)
   (ht:ki P t=some (kt,et):=by kernel_rfl) (lE:P.underlying kt=some (.int .i64):=by kernel_rfl) (hz:(P.info? et).bind (·.zero)=some (.int .i64 0):=by kernel_rfl):Goal P (bodyPost P fn R) b n d x w:=by
 refine tvk i C jj a (.int .i64 0) _ y_ A_ ?_ hS k hi h h2 ht lE hz;subst ho;rw [vT,Option.isSome_map];cases c0 a l<;>rfl
end
end Go.aS
namespace Go.aS
open Go.RowKit Go.Sx
def RB(k:Nat)(g:G)(n:Nat)(s:Seen)(r:Bool)(s':Seen):Prop:=∃y,g.b[n]?=some y∧(y=none→false=r∧s.put n 2=s')∧∀p,y=some p→∃t s2,round k g p s=some (t,s2)∧(t=true→true=r∧s2=s')∧(t=false→false=r∧s2.put n 2=s')
def RA(k:Nat)(g:G)(n:Nat)(s:Seen)(r:Bool)(s':Seen):Prop:=∃y,g.a[n]?=some y∧(y=none→RB k g n s r s')∧∀p,y=some p→∃t s2,round k g p s=some (t,s2)∧(t=true→true=r∧s2=s')∧(t=false→RB k g n s2 r s')
theorem De{k n : Nat}{g : G}{s s' : Seen}{r : Bool}(h : round (k + 1) g n s = some (r, s')) :
   ∃n1,find k g n=some n1∧(0<s.at n1→(s.at n1==1)=r∧s=s')∧(s.at n1=0→RA k g n1 (s.put n1 1) r s'):=by
 unfold round at h;split at h<;>try contradiction
 rename_i n1 hn;refine ⟨n1,hn,?_⟩;simp only at h;split at h
 · rename_i e;cases h;exact⟨fun _=>⟨rfl,rfl⟩,fun q=>by omega⟩
 · rename_i e;refine ⟨fun q => absurd q e, fun _ => ?_⟩;have hA : ∀(x : Option (Option Nat))(s : Seen)(t : Bool)(s2 : Seen), (match x with | some none => some (false, s) | some (some m) => round k g m s | none => none) = some (t, s2) →
       ∃o,x=some o∧(o=none→false=t∧s=s2)∧∀p,o=some p→round k g p s=some (t,s2):=by
     intro x s t s2 h
     split at h<;>try contradiction
     · cases h;exact⟨none,rfl,fun _=>⟨rfl,rfl⟩,fun p q=>by cases q⟩
     · rename_i m;exact⟨some m,rfl,fun q=>(by cases q),fun p e=>by cases e;exact h⟩
   have hB : ∀ s, (match (match g.b[n1]? with | some none => some (false, s) | some (some m) => round k g m s | none => none) with
       |some (true,s)=>some (true,s)|some (false,s)=>some (false,s.put n1 2)|none=>none)=some (r,s')→RB k g n1 s r s':=by
     intro s h
     split at h<;>try contradiction
     · rename_i s2 hg
       obtain⟨o,ho,h1,h2⟩:=hA _ _ _ _ hg
       cases h
       exact⟨o,ho,fun q=>by have:=(h1 q).1;simp at this,fun p hp=>⟨true,_,h2 p hp,fun _=>⟨rfl,rfl⟩,fun e=>by cases e⟩⟩
     · rename_i s2 hg
       obtain⟨o,ho,h1,h2⟩:=hA _ _ _ _ hg
       cases h
       exact⟨o,ho,fun q=>by rw[(h1 q).2];exact⟨rfl,rfl⟩,fun p hp=>⟨false,_,h2 p hp,fun e=>(by cases e),fun _=>⟨rfl,rfl⟩⟩⟩
   split at h<;>try contradiction
   · rename_i s2 hg;obtain ⟨o,ho,h1,h2⟩:=hA _ _ _ _ hg;cases h;exact ⟨o,ho,fun q=>by have:=(h1 q).1;simp at this,fun p hp=>⟨true,_,h2 p hp,fun _=>⟨rfl,rfl⟩,fun e=>by cases e⟩⟩
   · rename_i s2 hg;obtain ⟨o,ho,h1,h2⟩:=hA _ _ _ _ hg;exact ⟨o,ho,fun q=>by rw[(h1 q).2];exact hB _ h,fun p hp=>⟨false,_,h2 p hp,fun e=>(by cases e),fun _=>hB _ h⟩⟩
def PD(n c j:Nat)(s:Seen)(r:Nat)(s':Seen):Prop:=c+j≤2147483647∧min (c+j) 1000000=r∧s.put n (min (c+j) 1000000)=s'
def PC(k:Nat)(g:G)(n c:Nat)(s:Seen)(r:Nat)(s':Seen):Prop:=∃kd,g.kind[n]?=some kd∧(kd≠6→PD n c 0 s r s')∧(kd=6→∃q l v,g.row[n]?=some q∧whole k g q []=some (l,v)∧PD n c l.length s r s')
def PB(k:Nat)(g:G)(n c:Nat)(s:Seen)(r:Nat)(s':Seen):Prop:=∃y,g.b[n]?=some y∧(y=none→PC k g n c s r s')∧∀p,y=some p→∃j s2,parts k g p s=some (j,s2)∧PC k g n (c+j) s2 r s'
def PA(k:Nat)(g:G)(n c:Nat)(s:Seen)(r:Nat)(s':Seen):Prop:=∃y,g.a[n]?=some y∧(y=none→PB k g n c s r s')∧∀p,y=some p→∃j s2,parts k g p s=some (j,s2)∧PB k g n (c+j) s2 r s'
theorem L9{k n c r:Nat}{g:G}{s s':Seen}(h:PC k g n c s r s'):c≤2147483647:=by
 obtain⟨kd,_,h1,h2⟩:=h;by_cases e:kd=6
 · obtain⟨_,l,_,_,_,h⟩:=h2 e;have:=h.1;omega
 · have:=(h1 e).1;omega
theorem Uc{k n c r:Nat}{g:G}{s s':Seen}(h:PB k g n c s r s'):c≤2147483647:=by
 obtain⟨y,_,h1,h2⟩:=h;cases y with
 |none=>exact L9 (h1 rfl)
 |some p=>obtain⟨j,_,_,h⟩:=h2 p rfl;have:=L9 h;omega
theorem Df{k n r : Nat}{g : G}{s s' : Seen}(h : parts (k + 1) g n s = some (r, s')) :
   ∃n1,find k g n=some n1∧(0<s.at n1→s.at n1=r∧s=s')∧(s.at n1=0→PA k g n1 1 s r s'):=by
 unfold parts at h;split at h<;>try contradiction
 rename_i n1 hn;refine ⟨n1,hn,?_⟩;simp only at h;split at h
 · rename_i e;cases h;exact⟨fun _=>⟨rfl,rfl⟩,fun q=>by omega⟩
 · rename_i e;refine ⟨fun q => absurd q e, fun _ => ?_⟩;have hA : ∀(x : Option (Option Nat))(c : Nat)(s : Seen)(t : Nat)(s2 : Seen), (match x with | some none => some (c, s) | some (some m) => (match parts k g m s with | some (j, s) => some (c + j, s) | none => none) | none => none) = some (t, s2) →
       ∃o,x=some o∧(o=none→c=t∧s=s2)∧∀p,o=some p→∃j,parts k g p s=some (j,s2)∧c+j=t:=by
     intro x c s t s2 h
     split at h<;>try contradiction
     · cases h;exact⟨none,rfl,fun _=>⟨rfl,rfl⟩,fun p q=>by cases q⟩
     · rename_i m
       split at h<;>try contradiction
       rename_i j s3 hp
       cases h
       exact⟨some m,rfl,fun q=>(by cases q),fun p e=>by cases e;exact⟨j,hp,rfl⟩⟩
   split at h<;>try contradiction
   rename_i c1 s1 hg;obtain ⟨o,ho,h1,h2⟩:=hA _ _ _ _ _ hg;have hB:PB k g n1 c1 s1 r s':=by
     split at h<;>try contradiction
     rename_i c2 s2 vW;obtain ⟨o2,EB,h3,h4⟩:=hA _ _ _ _ _ vW;have hC:PC k g n1 c2 s2 r s':=by
       split at h<;>try contradiction
       rename_i j hj;split at h<;>try contradiction
       rename_i hle;cases h;split at hj<;>try contradiction
       · rename_i hk;split at hj<;>try contradiction
         rename_i q hq;rw [Option.map_eq_some_iff] at hj;obtain ⟨⟨l,v⟩,hw,rfl⟩:=hj;exact ⟨6,hk,fun e=>absurd rfl e,fun _=>⟨q,l,v,hq,hw,hle,rfl,rfl⟩⟩
       · rename_i kd h6 hk;cases hj;exact ⟨kd,hk,fun _=>⟨hle,rfl,rfl⟩,fun e=>absurd e (by intro e;subst e;exact h6 rfl)⟩
     exact⟨o2,EB,fun q=>by obtain⟨rfl,rfl⟩:=h3 q;exact hC,fun p hp=>by obtain⟨j,hj,rfl⟩:=h4 p hp;exact⟨j,s2,hj,hC⟩⟩
   exact⟨o,ho,fun q=>by obtain⟨rfl,rfl⟩:=h1 q;exact hB,fun p hp=>by obtain⟨j,hj,rfl⟩:=h2 p hp;exact⟨j,s1,hj,hB⟩⟩
end Go.aS
namespace Go.aS
theorem L_(v:Nat):((v:Int)==(1:Int))=(v==1):=by
 by_cases h:v=1
 · subst h;rfl
 · have h2:¬((v:Int)=1):=by omega
   rw[beq_eq_false_iff_ne.2 h,beq_eq_false_iff_ne.2 h2]
end Go.aS
namespace Go.aS
open Go.RowKit Go.Sx
structure Tv where
 A:Option Addr
 na:Nat
 ca:Nat
 B:Option Addr
 nb:Nat
 cb:Nat
def Fk(t:Ty)(p:Tv):List Value:=match t with
 |.mk kd n row _ _=>[.int .i64 (kd:Int),.int .i64 (n:Int),.int .i64 (row:Int),.slice p.A p.na p.ca,.slice p.B p.nb p.cb]
inductive cO (w:World) (S:Nat→Prop):Tv→Ty→Prop
 | mk {kd n row : Nat} {ops : List Nm} {args : List Ty} (p : Tv) (ps : List Tv) (hs : jO w S p.A ops) (hn : p.na = ops.length) (hc : p.na ≤ p.ca ∧ ops.length < 1000000000 ∧ args.length ≤ 2) (hb : p.nb = args.length) (hl : ps.length = args.length)
     (hm:∀(i:Nat)(q:Tv)(t:Ty),ps[i]?=some q→args[i]?=some t→∃a,p.B=some a∧S a.block∧w.cells? 0 (a.add (i*5)) 5=some (Fk t q))
     (ht:∀(i:Nat)(q:Tv)(t:Ty),ps[i]?=some q→args[i]?=some t→cO w S q t):cO w S p (.mk kd n row ops args)
theorem cO.hO{w w':World}{S:Nat→Prop}{p:Tv}{t:Ty}(h:cO w S p t)(k:∀c,S c→w'.heap[c]?=w.heap[c]?):cO w' S p t:=by
 induction h with
 |mk p ps hs hn hc hb hl hm _ ih=>exact .mk p ps (hs.hO k) hn hc hb hl (fun i q t h1 h2=>by obtain⟨a,ha,hS,pq⟩:=hm i q t h1 h2;exact⟨a,ha,hS,eZ pq (by rw[gh];exact k _ hS)⟩) ih
theorem cO.mono{w:World}{S S':Nat→Prop}{p:Tv}{t:Ty}(h:cO w S p t)(k:∀c,S c→S' c):cO w S' p t:=by
 induction h with
 |mk p ps hs hn hc hb hl hm _ ih=>exact .mk p ps (hs.mono k) hn hc hb hl (fun i q t h1 h2=>by obtain⟨a,ha,hS,pq⟩:=hm i q t h1 h2;exact⟨a,ha,k _ hS,pq⟩) ih
theorem eQ(S:Nat→Prop)(p:Tv)(t:Ty):Sx.Loc S (fun w=>cO w S p t):=fun _ _ _ hk h=>h.hO hk
def lV(S:Nat→Prop)(p:Tv)(t:Ty):Sx.Item:=.ro S (fun w=>cO w S p t)
theorem cO.open{w : World}{S : Nat → Prop}{p : Tv}{kd n row : Nat}{ops : List Nm}{args : List Ty}(h : cO w S p (.mk kd n row ops args)) :
   jO w S p.A ops∧p.na=ops.length∧(p.na≤p.ca∧ops.length<1000000000∧args.length≤2)∧p.nb=args.length∧∀i t,args[i]?=some t→∃(q:Tv) (a:Addr),p.B=some a∧w.cells? 0 (a.add (i*5)) 5=some (Fk t q)∧cO w S q t:=by
 cases h with
 |mk _ ps hs hn hc hb hl hm ht=>
   refine⟨hs,hn,hc,hb,fun i t h=>?_⟩;have hi:i<ps.length:=by rw[hl];exact(List.getElem?_eq_some_iff.1 h).1
   obtain⟨a,ha,hS,pq⟩:=hm i _ t (List.getElem?_eq_getElem hi) h;exact ⟨_,a,ha,pq,ht i _ t (List.getElem?_eq_getElem hi) h⟩
theorem Rl{k n row : Nat}{g g' : G}{ops : List Nm}{args : List Ty}{m : Nat}(h : tG (k + 1) g (.mk 0 n row ops args) = some (g', m)) :
   (∃q,c0 n g.tv=some q∧g=g'∧q=m)∨(c0 n g.tv=none∧∃g1,g.var=some (g1,m)∧{ g1 with tv:=g1.tv++[((n:Int),m)] }=g'):=by
 simp only[tG,if_true] at h;split at h
 · rename_i q hq;cases h;exact .inl ⟨_,hq,rfl,rfl⟩
 · rename_i hq;split at h<;>try contradiction
   rename_i g1 m1 hv;cases h;exact .inr ⟨hq,g1,hv,rfl⟩
def OR(kd row:Nat)(ops:List Nm)(g:G)(a b:Option Nat)(g':G)(m:Nat):Prop:=
 (kd≠6→g.put kd a b 0=some (g',m))∧
 (kd=6→∃g1 x,((row=0∧g=g1∧0=x)∨(0<row∧c0 row g.rv=some x∧g=g1)∨(0<row∧c0 row g.rv=none∧∃g2,g.gu=some (g2,x)∧{ g2 with rv:=g2.rv++[((row:Int),x)] }=g1))∧
   ∃g3 r,g1.putRow ops (some x)=some (g3,r)∧g3.put kd a b r=some (g',m))
def OB(k kd row:Nat)(ops:List Nm)(g:G)(a:Option Nat)(t:Option Ty)(g':G)(m:Nat):Prop:=
 (t=none→OR kd row ops g a none g' m)∧∀u,t=some u→∃g1 b,tG k g u=some (g1,b)∧OR kd row ops g1 a (some b) g' m
def OA(k kd row:Nat)(ops:List Nm)(g:G)(t t2:Option Ty)(g':G)(m:Nat):Prop:=
 (t=none→OB k kd row ops g none t2 g' m)∧∀u,t=some u→∃g1 b,tG k g u=some (g1,b)∧OB k kd row ops g1 (some b) t2 g' m
theorem Ma{k kd n row:Nat}{g g':G}{ops:List Nm}{args:List Ty}{m:Nat}(hk:kd≠0)(h:tG (k+1) g (.mk kd n row ops args)=some (g',m)):OA k kd row ops g args[0]? args[1]? g' m:=by
 simp only [tG, if_neg hk] at h;have hX : ∀(g : G)(t : Option Ty)(g1 : G)(a : Option Nat), (match t with | none => some (g, none) | some t => (match tG k g t with | some (g, m) => some (g, some m) | none => none)) = some (g1, a) →
     (t=none→g=g1∧none=a)∧∀u,t=some u→∃b,tG k g u=some (g1,b)∧some b=a:=by
   intro g t g1 a h
   cases t with
   |none=>cases h;exact⟨fun _=>⟨rfl,rfl⟩,fun u e=>by cases e⟩
   |some t=>
     simp only at h
     split at h<;>try contradiction
     rename_i g2 b hb
     cases h
     exact⟨fun e=>(by cases e),fun u e=>by cases e;exact⟨b,hb,rfl⟩⟩
 split at h<;>try contradiction
 rename_i g1 a hA;have hA:=hX _ _ _ _ hA;have hOB:OB k kd row ops g1 a args[1]? g' m:=by
   split at h<;>try contradiction
   rename_i g2 b hB;have hB:=hX _ _ _ _ hB;have hOR:OR kd row ops g2 a b g' m:=by
     split at h
     · rename_i h6;refine ⟨fun e=>absurd h6 e,fun _=>?_⟩;split at h<;>try contradiction
       rename_i g3 x hx;split at h<;>try contradiction
       rename_i g4 r hr;refine ⟨g3,x,?_,g4,r,hr,h⟩;split at hx
       · rename_i h0;split at hx
         · rename_i q hq;cases hx;exact .inr (.inl ⟨h0,hq,rfl⟩)
         · rename_i hq;split at hx<;>try contradiction
           rename_i g5 q ho;cases hx;exact .inr (.inr ⟨h0,hq,g5,ho,rfl⟩)
       · cases hx;exact .inl ⟨by omega,rfl,rfl⟩
     · rename_i h6;exact⟨fun _=>h,fun e=>absurd e h6⟩
   exact⟨fun e=>by obtain⟨rfl,rfl⟩:=hB.1 e;exact hOR,fun u e=>by obtain⟨q,h1,rfl⟩:=hB.2 u e;exact⟨g2,q,h1,hOR⟩⟩
 exact⟨fun e=>by obtain⟨rfl,rfl⟩:=hA.1 e;exact hOB,fun u e=>by obtain⟨q,h1,rfl⟩:=hA.2 u e;exact⟨g1,q,h1,hOB⟩⟩
end Go.aS
namespace Go.aS
open Go.RowKit Go.Sx
theorem V1{g g':G}{kd r n:Nat}{a b:Option Nat}(h:g.put kd a b r=some (g',n)):g'.tv=g.tv∧g'.rv=g.rv:=by
 unfold G.put at h;split at h
 · simp only[nP,lD,mH,Option.some.injEq,Prod.mk.injEq] at h;obtain⟨rfl,_⟩:=h;exact⟨rfl,rfl⟩
 · cases h
theorem V2{g g':G}{n:Nat}(h:g.gu=some (g',n)):g'.rv=g.rv:=by
 unfold G.gu G.putRow at h;split at h
 · simp only[nP,lD,mH,Option.some.injEq,Prod.mk.injEq] at h;obtain⟨rfl,_⟩:=h;rfl
 · cases h
theorem dj{α:Type}{l:List α}{i:Nat}(h:i<l.length):∃x,l[i]?=some x:=⟨_,List.getElem?_eq_getElem h⟩
theorem Hw{α:Type}{l:List α}{i:Nat}(h:l.length≤i):l[i]?=none:=List.getElem?_eq_none h
end Go.aS
namespace Go.aS
open Go.RowKit Go.Sx
theorem kI{w0 w:World}{L0 L:List Sx.Item}{S:Nat→Prop}{p:Tv}{t:Ty}(H:Hs w0 L0 w L)(j:Nat)(hi:L[j]?=some (lV S p t)):cO w S p t:=(H.at j hi).1
end Go.aS
namespace Go.aS
open Go.fO
structure sL where
 nm:Nm
 t:Nat
 all:Bool
 tv:List Nat
 rv:List Nat
 gu:Bool
structure Fl where
 nm:Nm
 i:Ty
 o:Ty
 n:Nat
structure Ck where
 g:G
 env:List sL
 ops:List Fl
 fk:Nat
 fa:Int
def add(l:List Nat)(n:Nat):List Nat:=if l.contains n then l else l++[n]
def Ck.no(c:Ck)(kd:Nat)(at_:Int):Ck:=if c.fk=0 then { c with fk:=kd,fa:=at_ } else c
def Ck.same(k:Nat)(c:Ck)(m n:Nat)(at_:Int):Option Ck:=
 if c.fk≠0 then some c else
 match aS.same k c.g m n with
 |some (g,s)=>
   let c:={ c with g:=g }
   if s=false then some (c.no 8 at_) else
   match round k g m [] with
   |some (r,_)=>if r then some (c.no 8 at_) else
     match round k g n [] with
     |some (r,_)=>if r then some (c.no 8 at_) else some c
     |none=>none
   |none=>none
 |none=>none
def Ck.row(k:Nat)(c:Ck)(m n:Nat)(at_:Int):Option Ck:=
 if c.fk≠0 then some c else
 match ik k c.g m n with
 |some (g,s)=>let c:={ c with g:=g };if s then some c else some (c.no 9 at_)
 |none=>none
def Ck.rm(k:Nat)(c:Ck)(n:Nat)(at_:Int):Option Ck:=
 if c.fk≠0 then some c else
 match parts k c.g n [] with
 |some (p,_)=>if 300<p then some (c.no 10 at_) else some c
 |none=>none
def mg(nm:Nm):List Fl→Option Fl
 |[]=>none
 |o::r=>if ee o.nm nm then some o else mg nm r
def vars:Nat→G→Nat→(seen tv rv:List Nat)→Option (List Nat×List Nat×List Nat)
 |0,_,_,_,_,_=>none
 |k+1,g,n,seen,tv,rv=>match find k g n with
   |some n=>
     if seen.contains n then some (seen,tv,rv) else
     let seen:=seen++[n]
     match g.kind[n]? with
     |some 0=>some (seen,add tv n,rv)
     |some kd=>
       let arg (x:Option (Option Nat)) (s:List Nat×List Nat×List Nat):Option (List Nat×List Nat×List Nat):=match x with
         |some none=>some s
         |some (some m)=>vars k g m s.1 s.2.1 s.2.2
         |none=>none
       match arg g.a[n]? (seen,tv,rv) with
       |some s=>match arg g.b[n]? s with
         |some s=>if kd=6 then(match g.row[n]? with
           |some r=>match whole k g r [] with
             |some (_,0)=>some s
             |some (_,v+1)=>some (s.1,s.2.1,add s.2.2 (v+1))
             |none=>none
           |none=>none) else some s
         |none=>none
       |none=>none
     |none=>none
   |none=>none
def fE(k:Nat)(g:G):List sL→(seen tv rv:List Nat)→Option (List Nat×List Nat)
 |[],_,tv,rv=>some (tv,rv)
 |x::e,seen,tv,rv=>
   if x.all then
     match vars k g x.t [] [] [] with
     |some (_,a,b)=>fE k g e seen ((a.filter fun n=>!x.tv.contains n).foldl add tv) ((b.filter fun n=>!x.rv.contains n).foldl add rv)
     |none=>none
   else match vars k g x.t seen tv rv with
     |some (seen,tv,rv)=>fE k g e seen tv rv
     |none=>none
def Ck.il(k:Nat)(c:Ck)(nm:Nm)(n:Nat):Option sL:=
 match fE k c.g c.env [] [] [],vars k c.g n [] [] [] with
 |some (it,ir),some (_,tv,rv)=>some ⟨nm,n,true,tv.filter fun v=>!it.contains v,rv.filter fun v=>!ir.contains v,true⟩
 |_,_=>none
def Seen.get(s:Seen)(n:Nat):Option Nat:=match s with
 |[]=>none
 |(m,v)::r=>if m=n then some v else Seen.get r n
def copied:Nat→G→Nat→sL→(done rows:List (Nat×Nat))→Option (G×Nat×List (Nat×Nat)×List (Nat×Nat))
 |0,_,_,_,_,_=>none
 |k+1,g,n,x,done,rows=>match find k g n with
   |some n=>match Seen.get done n with
     |some p=>some (g,p,done,rows)
     |none=>match g.kind[n]? with
       | some 0 => if x.tv.contains n then (match g.var with
           |some (g,m)=>some (g,m,Seen.put done n m,rows)
           |none=>none)
         else some (g,n,Seen.put done n n,rows)
       |some kd=>
         let arg (y:G→Option (Option Nat)) (s:G×Option Nat×List (Nat×Nat)×List (Nat×Nat)):Option (G×Option Nat×List (Nat×Nat)×List (Nat×Nat)):=match y s.1 with
           |some none=>some (s.1,none,s.2.2.1,s.2.2.2)
           |some (some m)=>match copied k s.1 m x s.2.2.1 s.2.2.2 with
             |some (g,m,d,r)=>some (g,some m,d,r)
             |none=>none
           |none=>none
         match arg (fun g=>g.a[n]?) (g,none,done,rows) with
         |some (g,a,done,rows)=>match arg (fun g=>g.b[n]?) (g,none,done,rows) with
           |some (g,b,done,rows)=>
             let rw:Option (G×Nat×List (Nat×Nat)):=if kd=6 then(match g.row[n]? with
               |some r=>match whole k g r [] with
                 |some (ops,v)=>
                   let vv:Option (G×Nat×List (Nat×Nat)):=if v≠0&&x.rv.contains v then(match Seen.get rows v with
                     |some p=>some (g,p,rows)
                     |none=>match g.gu with
                       |some (g,w)=>some (g,w,Seen.put rows v w)
                       |none=>none) else some (g,v,rows)
                   match vv with
                   |some (g,v,rows)=>match g.putRow ops (some v) with
                     |some (g,q)=>some (g,q,rows)
                     |none=>none
                   |none=>none
                 |none=>none
               |none=>none) else some (g,0,rows)
             match rw with
             |some (g,q,rows)=>match g.put kd a b q with
               |some (g,m)=>some (g,m,Seen.put done n m,rows)
               |none=>none
             |none=>none
           |none=>none
         |none=>none
       |none=>none
   |none=>none
def opened:Nat→G→Nat→Option (G×Nat)
 |0,_,_=>none
 |k+1,g,n=>match find k g n with
   |some n=>match g.kind[n]? with
     |some 6=>match g.b[n]? with
       |some (some b)=>match opened k g b with
         |some (g,b)=>match g.row[n]? with
           |some r=>match whole k g r [] with
             |some (ops,v)=>
               let vv:Option (G×Nat):=if v=0 then g.gu else some (g,v)
               match vv with
               |some (g,v)=>match g.putRow ops (some v) with
                 |some (g,q)=>match g.a[n]? with
                   |some a=>g.put 6 a (some b) q
                   |none=>none
                 |none=>none
               |none=>none
             |none=>none
           |none=>none
         |none=>none
       |_=>none
     |some _=>some (g,n)
     |none=>none
   |none=>none
def use(k:Nat)(g:G)(x:sL):Option (G×Nat):=
 let c:Option (G×Nat):=if x.all then(match copied k g x.t x [] [] with
   |some (g,n,_,_)=>some (g,n)
   |none=>none) else some (g,x.t)
 match c with
 |some (g,n)=>if x.gu then opened k g n else some (g,n)
 |none=>none
def qQ:Nat→Nd→Option Ty
 |0,_=>none
 |k+1,n=>
   let nB (i:Nat):Option Ty:=match n.ks[i]? with
     |some d=>qQ k d
     |none=>none
   if n.k=24 then some (.mk 1 0 0 [] []) else if n.k=25 then some (.mk 2 0 0 [] []) else if n.k=26 then some (.mk 3 0 0 [] [])
   else if n.k=27 then(match nB 0 with
     |some a=>some (.mk 4 0 0 [] [a])
     |none=>none)
   else match nB 0,nB 1 with
     |some a,some b=>if n.k=28 then some (.mk 5 0 0 [] [a,b]) else if n.ks.length<1000000000 then some (.mk 6 0 0 ((n.ks.drop 2).foldl (fun l d=>iY l d.nm) []) [a,b]) else none
     |_,_=>none
def jP:Nat→Ty→Option Nat
 |0,_=>none
 |k+1,.mk _ _ _ ops args=>args.foldl (fun s a=>match s,jP k a with
   |some n,some m=>if n+m≤2147483647 then some (n+m) else none
   |_,_=>none) (some (1+ops.length))
def KK(s:Nm)(l:List Nm):Bool:=l.any fun x=>ee x s
def sM(c:Ck)(all:List Nm)(before:List Nd)(d:Nd):Ck:=
 let c:=if KK d.nm all then c else c.no 6 d.a
 before.foldl (fun c e=>if ee e.nm d.nm then c.no 7 d.a else c) c
def gI(c:Ck)(all:List Nm):List Nd→List Nd→Ck
 |_,[]=>c
 |before,d::r=>gI (sM c all before d) all (before++[d]) r
def cf:Nat→Ck→Nd→List Nm→Option Ck
 |0,_,_,_=>none
 |k+1,c,n,all=>
   if c.fk≠0 then some c else
   if n.k≠29 then n.ks.foldl (fun s d=>match s with
     |some c=>cf k c d all
     |none=>none) (some c)
   else match n.ks with
     |a::b::r=>match cf k c a all with
       |some c=>cf k (gI c all [] r) b all
       |none=>none
     |_=>none
def gJ(k:Nat)(all:List Nm):Nat→List Nd→Ck→Option Ck
 |_,[],c=>some c
 |i,d::r,c=>
   if c.fk≠0 then some c else
   match mg d.nm c.ops with
   |some _=>some (c.no 7 d.a)
   |none=>match d.ks with
     |x::y::_=>match cf k c x all with
       |some c=>match cf k c y all with
         |some c=>if c.fk≠0 then some c else
           match qQ k x,qQ k y with
           |some ti,some to=>match jP k ti,jP k to with
             |some p,some q=>gJ k all (i+1) r { (if 300<p||300<q then c.no 10 d.a else c) with ops:=c.ops++[⟨d.nm,ti,to,i⟩] }
             |_,_=>none
           |_,_=>none
         |none=>none
       |none=>none
     |_=>none
def value(n:Nd):Bool:=n.k==3||n.k==4||n.k==5||n.k==15||n.k==6||n.k==7
def gK(nm:Nm)(e:List sL):Option sL:=(e.reverse.find? fun x=>ee x.nm nm)
def Ck.with(c:Ck)(x:sL):Ck:={ c with env:=c.env++[x] }
def Ck.out(c:Ck)(n:Nat):Ck:={ c with env:=c.env.take (c.env.length-n) }
def mono(nm:Nm)(t:Nat):sL:=⟨nm,t,false,[],[],false⟩
def Ck.put(c:Ck)(kd:Nat)(a b:Option Nat)(r:Nat):Option (Ck×Nat):=match c.g.put kd a b r with
 |some (g,m)=>some ({ c with g:=g },m)
 |none=>none
def Ck.var(c:Ck):Option (Ck×Nat):=c.put 0 none none 0
def Ck.putRow(c:Ck)(l:List Nm)(nx:Option Nat):Option (Ck×Nat):=match c.g.putRow l nx with
 |some (g,m)=>some ({ c with g:=g },m)
 |none=>none
def Ck.gu(c:Ck):Option (Ck×Nat):=c.putRow [] none
def Ck.tG(k:Nat)(c:Ck)(t:Ty):Option (Ck×Nat):=match aS.tG k c.g t with
 |some (g,m)=>some ({ c with g:=g },m)
 |none=>none
def qp(ex:Ck→Nd→Nat→Option (Ck×Nat))(k:Nat)(c:Ck)(d:Nd):Option (Ck×Nat):=do
 let (c,row) ←c.gu
 let d0 ←d.ks[0]?
 if d.n=0 then ex c d0 row else
   let (c,v) ←c.var
   let (c,t) ←ex (c.with (mono d.nm v)) d0 row
   let c ←(c.out 1).same k v t d.a
   some (c,t)
def iD(ex:Ck→Nd→Nat→Option (Ck×Nat))(k:Nat)(n:Nd)(row inner t b:Nat):List Nd→Ck→Option Ck
 |[],c=>some c
 |d::r,c=>do
   let o ←mg d.nm c.ops
   let (c,i) ←c.tG k o.i
   let (c,o) ←c.tG k o.o
   let (c,f) ←c.put 6 (some o) (some b) row
   let (c,f) ←if n.n=1 then c.put 6 (some o) (some t) inner else some (c,f)
   let p0 ←d.ks[0]?
   let p1 ←d.ks[1]?
   let p2 ←d.ks[2]?
   let c:=(c.with ⟨p0.nm,i,false,[],[],true⟩).with ⟨p1.nm,f,false,[],[],true⟩
   let (c,e) ←ex c p2 row
   let c ←(c.out 2).same k e b p2.a
   iD ex k n row inner t b r c
def mh(ops:List Fl):List Nd→List Nm→Ck→Ck
 |[],_,c=>c
 |d::r,names,c=>
   let c:=match mg d.nm ops with
     |some _=>c
     |none=>c.no 6 d.a
   let c:=names.foldl (fun c s=>if ee s d.nm then c.no 7 d.a else c) c
   mh ops r (names++[d.nm]) c
def expr:Nat→Ck→Nd→Nat→Option (Ck×Nat)
 |0,_,_,_=>none
 |k+1,c,n,row=>
   let ex:=expr k
   if c.fk≠0 then c.var else
   match n.k with
   |3=>c.put 1 none none 0
   |4=>c.put 2 none none 0
   |5=>c.put 3 none none 0
   |15=>do
     let (c,v) ←c.var
     c.put 4 (some v) none 0
   |6=>match gK n.nm c.env with
     |some x=>match use k c.g x with
       |some (g,m)=>some ({ c with g:=g },m)
       |none=>none
     |none=>(c.no 6 n.a).var
   |7=>do
     let (c,v) ←c.var
     let (c,r) ←c.gu
     let d ←n.ks[0]?
     let (c,b) ←ex (c.with (mono n.nm v)) d r
     (c.out 1).put 6 (some v) (some b) r
   |8=>do
     let d0 ←n.ks[0]?
     let d1 ←n.ks[1]?
     let (c,f) ←ex c d0 row
     let (c,a) ←ex c d1 row
     let (c,p) ←c.var
     let (c,b) ←c.var
     let (c,q) ←c.gu
     let (c,t) ←c.put 6 (some p) (some b) q
     let c ←c.same k f t d0.a
     let c ←c.same k p a d1.a
     let c ←c.row k q row n.a
     some (c,b)
   |9=>do
     let d0 ←n.ks[0]?
     let d1 ←n.ks[1]?
     let (c, x) ← if n.n = 1 then do
         let (c,t) ←qp ex k c n
         let c ←c.rm k t n.a
         let x ←c.il k n.nm t
         some (c,x)
       else do
         let (c,t) ←ex c d0 row
         let c ←c.rm k t n.a
         if value d0 then do
           let x ←c.il k n.nm t
           some (c,x)
         else some (c,mono n.nm t)
     let (c,t) ←ex (c.with x) d1 row
     some (c.out 1,t)
   |10=>do
     let d0 ←n.ks[0]?
     let d1 ←n.ks[1]?
     let (c,_) ←ex c d0 row
     ex c d1 row
   |11=>do
     let d0 ←n.ks[0]?
     let d1 ←n.ks[1]?
     let d2 ←n.ks[2]?
     let (c,a) ←ex c d0 row
     let (c,b) ←c.put 2 none none 0
     let c ←c.same k a b d0.a
     let (c,t) ←ex c d1 row
     let (c,e) ←ex c d2 row
     let c ←c.same k e t d2.a
     some (c,t)
   |12=>do
     let d0 ←n.ks[0]?
     let d1 ←n.ks[1]?
     let (c,a) ←ex c d0 row
     let (c,b) ←ex c d1 row
     c.put 5 (some a) (some b) 0
   |16=>do
     let d0 ←n.ks[0]?
     let d1 ←n.ks[1]?
     let (c,a) ←ex c d0 row
     let (c,b) ←ex c d1 row
     let (c,l) ←c.put 4 (some a) none 0
     let c ←c.same k b l d1.a
     some (c,b)
   |17=>do
     let d0 ←n.ks[0]?
     let d1 ←n.ks[1]?
     let p2 ←n.ks[2]?
     let p3 ←n.ks[3]?
     let d4 ←n.ks[4]?
     let (c,a) ←ex c d0 row
     let (c,v) ←c.var
     let (c,l) ←c.put 4 (some v) none 0
     let c ←c.same k a l d0.a
     let (c,t) ←ex c d1 row
     let (c,e) ←ex ((c.with (mono p2.nm v)).with (mono p3.nm l)) d4 row
     let c ←(c.out 2).same k e t d4.a
     some (c,t)
   |18=>do
     let d0 ←n.ks[0]?
     let d1 ←n.ks[1]?
     let (c,a) ←ex c d0 row
     let (c,t) ←c.put 1 none none 0
     let c ←c.same k a t d0.a
     let (c,a) ←ex c d1 row
     let (c,t) ←c.put 1 none none 0
     let c ←c.same k a t d1.a
     if ee n.nm ⟨#[60]⟩||ee n.nm ⟨#[61,61]⟩ then c.put 2 none none 0 else c.put 1 none none 0
   |19=>match mg n.nm c.ops with
     |none=>(c.no 6 n.a).var
     |some o=>do
       let d0 ←n.ks[0]?
       let (c,a) ←ex c d0 row
       let (c,i) ←c.tG k o.i
       let (c,r) ←c.tG k o.o
       let c ←c.same k a i d0.a
       let (c,v) ←c.gu
       let (c,q) ←c.putRow [n.nm] (some v)
       let c ←c.row k row q n.a
       some (c,r)
   |13|14=>do
     let d0 ←n.ks[0]?
     let (c,a) ←ex c d0 row
     let (c,x) ←c.var
     let (c,y) ←c.var
     let (c,p) ←c.put 5 (some x) (some y) 0
     let c ←c.same k a p d0.a
     some (c,if n.k=13 then x else y)
   |_=>do
     let d0 ←n.ks[0]?
     let rt ←n.ks[1]?
     let rb ←rt.ks[0]?
     let cl:=n.ks.drop 2
     let _ ←if n.ks.length<1000000000 then some () else none
     let c:=mh c.ops cl [] c
     if c.fk≠0 then c.var else
       let (c,inner) ←c.putRow (cl.map fun d=>d.nm) (some row)
       let (c,t) ←ex c d0 inner
       let (c,b) ←ex (c.with (mono rt.nm t)) rb row
       let c ←iD ex k n row inner t b cl (c.out 1)
       some (c,b)
end Go.aS
namespace Go.aS
open Go.RowKit Go.Sx
theorem Hx{k m n : Nat}{c c' : Ck}{a : Int}(h : c.same k m n a = some c') :
   (c.fk≠0→c=c')∧(c.fk=0→∃g s,aS.same k c.g m n=some (g,s)∧(s=false→{ c with g:=g,fk:=8,fa:=a }=c')∧
     (s=true→∃r1 z1,round k g m []=some (r1,z1)∧(r1=true→{ c with g:=g,fk:=8,fa:=a }=c')∧
       (r1=false→∃r2 z2,round k g n []=some (r2,z2)∧(r2=true→{ c with g:=g,fk:=8,fa:=a }=c')∧(r2=false→{ c with g:=g }=c')))):=by
 unfold Ck.same at h;split at h
 · rename_i e;cases h;exact⟨fun _=>rfl,fun q=>absurd q e⟩
 · rename_i e;have e:c.fk=0:=by simpa using e
   refine⟨fun q=>absurd e q,fun _=>?_⟩;split at h<;>try contradiction
   rename_i g s hs;refine ⟨g,s,hs,?_⟩;cases s with
   |false=>simp only[if_true,Option.some.injEq,Ck.no,e] at h;exact⟨fun _=>h,fun q=>by cases q⟩
   |true=>
     refine⟨fun q=>(by cases q),fun _=>?_⟩;simp only[Bool.true_eq_false,if_false] at h;split at h<;>try contradiction
     rename_i r1 z1 h1;refine ⟨r1,z1,h1,?_⟩;cases r1 with
     |true=>simp only[if_true,Option.some.injEq,Ck.no,e] at h;exact⟨fun _=>h,fun q=>by cases q⟩
     |false=>
       refine⟨fun q=>(by cases q),fun _=>?_⟩;simp only[Bool.false_eq_true,if_false] at h;split at h<;>try contradiction
       rename_i r2 z2 h2;refine ⟨r2,z2,h2,?_⟩;cases r2 with
       |true=>simp only[if_true,Option.some.injEq,Ck.no,e] at h;exact⟨fun _=>h,fun q=>by cases q⟩
       |false=>simp only[Bool.false_eq_true,if_false,Option.some.injEq] at h;exact⟨fun q=>(by cases q),fun _=>h⟩
theorem Mb{k m n : Nat}{c c' : Ck}{a : Int}(h : c.row k m n a = some c') :
   (c.fk≠0→c=c')∧(c.fk=0→∃g s,ik k c.g m n=some (g,s)∧(s=false→{ c with g:=g,fk:=9,fa:=a }=c')∧(s=true→{ c with g:=g }=c')):=by
 unfold Ck.row at h;split at h
 · rename_i e;cases h;exact⟨fun _=>rfl,fun q=>absurd q e⟩
 · rename_i e;have e:c.fk=0:=by simpa using e
   refine⟨fun q=>absurd e q,fun _=>?_⟩;split at h<;>try contradiction
   rename_i g s hs;refine ⟨g,s,hs,?_⟩;cases s with
   |false=>simp only[Bool.false_eq_true,if_false,Option.some.injEq,Ck.no,e,if_true] at h;exact⟨fun _=>h,fun q=>by cases q⟩
   |true=>simp only[if_true,Option.some.injEq] at h;exact⟨fun q=>(by cases q),fun _=>h⟩
theorem Mc{k n : Nat}{c c' : Ck}{a : Int}(h : c.rm k n a = some c') :
   (c.fk≠0→c=c')∧(c.fk=0→∃p z,parts k c.g n []=some (p,z)∧(300<p→{ c with fk:=10,fa:=a }=c')∧(p≤300→c=c')):=by
 unfold Ck.rm at h;split at h
 · rename_i e;cases h;exact⟨fun _=>rfl,fun q=>absurd q e⟩
 · rename_i e;have e:c.fk=0:=by simpa using e
   refine⟨fun q=>absurd e q,fun _=>?_⟩;split at h<;>try contradiction
   rename_i p z hp;refine ⟨p,z,hp,?_⟩;split at h
   · rename_i q;simp only[Option.some.injEq,Ck.no,e,if_true] at h;exact⟨fun _=>h,fun r=>by omega⟩
   · rename_i q;cases h;exact⟨fun r=>absurd r q,fun _=>rfl⟩
end Go.aS
namespace Go.aS
open Go.RowKit Go.Sx
abbrev pF(k:Nat)(s:Option Nat)(a:Ty):Option Nat:=match s,jP k a with
 |some n,some m=>if n+m≤2147483647 then some (n+m) else none
 |_,_=>none
theorem Hy(k:Nat)(l:List Ty):l.foldl (pF k) none=none:=by
 induction l with
 |nil=>rfl
 |cons t l ih=>rw[List.foldl_cons];exact ih
theorem Js{k kd u row m:Nat}{ops:List Nm}{args:List Ty}(h:jP (k+1) (.mk kd u row ops args)=some m):args.foldl (pF k) (some (1+ops.length))=some m:=h
theorem Rm{k c m i : Nat}{args : List Ty}(h : (args.drop i).foldl (pF k) (some c) = some m)(hi : i < args.length) :
   ∃t j,args[i]?=some t∧jP k t=some j∧c+j≤2147483647∧(args.drop (i+1)).foldl (pF k) (some (c+j))=some m:=by
 rw[List.drop_eq_getElem_cons hi,List.foldl_cons] at h;cases hp:jP k args[i] with
 |none=>simp only[pF,hp] at h;rw[Hy] at h;cases h
 |some j=>
   simp only[pF,hp] at h;split at h
   · rename_i hle;exact⟨_,j,List.getElem?_eq_getElem hi,hp,hle,h⟩
   · rw[Hy] at h;cases h
end Go.aS
namespace Go.aS
open Go.RowKit Go.Sx Go.fO
theorem Jt(v:Nat)(k:Int)(j:Nat)(h:k=(j:Int)):((v:Int)==k)=(v==j):=by
 subst h;by_cases e:v=j
 · subst e;simp
 · have h2:¬((v:Int)=(j:Int)):=by omega
   rw[beq_eq_false_iff_ne.2 e,beq_eq_false_iff_ne.2 h2]
def eK(Q:Nat→Prop)(ks:List Nd)(A:Option Addr)(c:Nat):Sx.Item:=.ro Q (fun w=>KV Q w ks A c)
theorem uX(Q:Nat→Prop)(ks:List Nd)(A:Option Addr)(c:Nat):Sx.Loc Q (fun w=>KV Q w ks A c):=fun _ _ _ hk h=>h.frame (fun j hj _=>hk j hj)
theorem Z_{w0 w:World}{L0 L:List Sx.Item}{Q:Nat→Prop}{ks:List Nd}{A:Option Addr}{c:Nat}(H:Hs w0 L0 w L)(j:Nat)(hi:L[j]?=some (eK Q ks A c)):KV Q w ks A c:=(H.at j hi).1
theorem V4{w:World}{Q:Nat→Prop}{ks:List Nd}{A:Option Addr}{c i:Nat}{d:Nd}(h:KV Q w ks A c)(hd:ks[i]?=some d):∃(B:Option Addr) (cb:Nat) (a:Addr),A=some a∧w.cells? 0 (a.add (i*5)) 5=some (vM d B cb)∧KV Q w d.ks B cb:=by
 obtain⟨As,cs,hr,hk⟩:=h.at_;have hi:i<ks.length:=(List.getElem?_eq_some_iff.1 hd).1;obtain ⟨a,ha,hc⟩:=hr i hi;have e:ks.getD i gF=d:=by rw[List.getD_eq_getElem?_getD,hd];rfl
 have k:=hk i hi;simp only[e] at hc k;exact ⟨_,_,a,ha,hc,k⟩
end Go.aS
namespace Go.aS
open Go.RowKit Go.Sx
abbrev Kid:=Tv×Ty×(Nat→Prop)
def Md(l:List Kid):List Value:=l.flatMap fun k=>Fk k.2.1 k.1
theorem rn(t:Ty)(p:Tv):(Fk t p).length=5:=by cases t;rfl
theorem Ro{l:List Kid}{i:Nat}{k:Kid}(h:l[i]?=some k):((Md l).drop (i*5)).take 5=Fk k.2.1 k.1:=by
 induction l generalizing i with
 |nil=>simp at h
 |cons x l ih=>
   have e:Md (x::l)=Fk x.2.1 x.1++Md l:=rfl;cases i with
   |zero=>simp at h;subst h;rw[e];simp[rn]
   |succ i=>
     rw[e,show(i+1)*5=(Fk x.2.1 x.1).length+i*5 by rw[rn];omega,List.drop_append];simp only[List.length_append,Nat.add_sub_cancel_left];rw [List.drop_of_length_le (by omega),List.nil_append];exact ih (by simpa using h)
end Go.aS
namespace Go.aS
open Go.RowKit Go.Sx
theorem cZ{w0 w : World}{L0 L : List Sx.Item}{e cap n na ca : Nat}{A B : Option Addr}{Sa : Nat → Prop}{ops : List Nm}{l : List Kid}(H : Hs w0 L0 w L)(I : List Nat)(kd u row : Nat)
   (hp:bp I L=some (.own e 5 B cap n (Md l)::bf Sa A ops::l.map fun k=>lV k.2.2 k.1 k.2.1)) (hn:na=ops.length) (hc:na≤ca∧ops.length<1000000000∧l.length≤2) (hk:n=l.length):
   ∃S,Hs w0 L0 w (lV S ⟨A,na,ca,B,n,cap⟩ (.mk kd u row ops (l.map (·.2.1)))::rest I L):=by
 refine⟨_,H.fz I hp (fun s=>?_) (eQ _ _ _)⟩;have h0:=s.all _ (.head _);have h1:=s.all _ (.tail _ (.head _));refine .mk _ (l.map (·.1)) (h1.1.mono fun c Ff=>⟨_,.tail _ (.head _),Ff⟩) hn (by simpa using hc) (by simpa using hk) (by simp) (fun i q t hq ht=>?_) (fun i q t hq ht=>?_)
 · rw[List.getElem?_map] at hq ht;cases hx:l[i]? with
   |none=>simp[hx] at hq
   |some k=>
     simp only[hx,Option.map_some,Option.some.injEq] at hq ht;subst hq ht;have hi:i<l.length:=(List.getElem?_eq_some_iff.1 hx).1;rcases h0.2 with⟨_,hz⟩|⟨g,cM,cur,hv,_,hg,zH,_,pq,ZW⟩
     · omega
     · injection hv with e1 e2 e3;subst e1;refine ⟨_,rfl,⟨_,.head _,rfl⟩,?_⟩;have ea:(⟨g,0,none⟩:Addr).add (i*5)=⟨g,i*5,none⟩:=by unfold Addr.add;split<;>simp_all
       have hxs:((Md l).drop (i*5)).take 5=Fk k.2.1 k.1:=Ro hx;rw [ea];refine ChangeShapes.cells?_of (Nat.zero_le _) (rn _ _) (fun j hj=>?_);have hj5:j<5:=by simpa [rn] using hj
       have ri:cur[i*5+j]?=(Fk k.2.1 k.1)[j]?:=by
         rw[← hxs,List.getElem?_take,if_pos hj5,List.getElem?_drop,←ZW,List.getElem?_take,if_pos (by omega)];simp
       rw[cell_of_row w g _ cur e (0,0) hg,ri]
 · rw[List.getElem?_map] at hq ht;cases hx:l[i]? with
   |none=>simp[hx] at hq
   |some k=>
     simp only[hx,Option.map_some,Option.some.injEq] at hq ht;subst hq ht;have hm:lV k.2.2 k.1 k.2.1∈l.map fun k=>lV k.2.2 k.1 k.2.1:=List.mem_map_of_mem (List.mem_of_getElem? hx);have h2:=s.all _ (.tail _ (.tail _ hm));exact h2.1.mono fun c Ff=>⟨_,.tail _ (.tail _ hm),Ff⟩
end Go.aS
namespace Go.aS
open Go.RowKit Go.Sx Go.fO
abbrev Fm(l:List Nm)(d:Nd):List Nm:=iY l d.nm
theorem Ju{k kd na : Nat}{nm : Nm}{nn : Int}{ks : List Nd}{t : Ty}(h : qQ (k + 1) (.mk kd na nm nn ks) = some t) :
   (kd=24→.mk 1 0 0 [] []=t)∧(kd=25→.mk 2 0 0 [] []=t)∧(kd=26→.mk 3 0 0 [] []=t)∧
   (kd≠24→kd≠25→kd≠26→kd=27→∃d0 a,ks[0]?=some d0∧qQ k d0=some a∧.mk 4 0 0 [] [a]=t)∧
   (kd≠24→kd≠25→kd≠26→kd≠27→∃d0 d1 a b,ks[0]?=some d0∧ks[1]?=some d1∧qQ k d0=some a∧qQ k d1=some b∧(kd=28→.mk 5 0 0 [] [a,b]=t)∧
     (kd≠28→ks.length<1000000000∧.mk 6 0 0 ((ks.drop 2).foldl Fm []) [a,b]=t)):=by
 unfold qQ at h;split at h
 · rename_i e1;have e1:kd=24:=e1;simp only[Option.some.injEq] at h;exact⟨fun _=>h,fun q=>by omega,fun q=>by omega,fun q=>absurd e1 q,fun q=>absurd e1 q⟩
 rename_i e1;have e1:¬kd=24:=e1;split at h
 · rename_i e2;have e2:kd=25:=e2;simp only[Option.some.injEq] at h;exact⟨fun q=>absurd q e1,fun _=>h,fun q=>by omega,fun _ q=>absurd e2 q,fun _ q=>absurd e2 q⟩
 rename_i e2;have e2:¬kd=25:=e2;split at h
 · rename_i e3;have e3:kd=26:=e3;simp only[Option.some.injEq] at h;exact⟨fun q=>absurd q e1,fun q=>absurd q e2,fun _=>h,fun _ _ q=>absurd e3 q,fun _ _ q=>absurd e3 q⟩
 rename_i e3;have e3:¬kd=26:=e3;refine ⟨fun q=>absurd q e1,fun q=>absurd q e2,fun q=>absurd q e3,fun _ _ _ e4=>?_,fun _ _ _ e4=>?_⟩
 · split at h
   · simp only[Nd.ks] at h;cases h0:ks[0]? with
     |none=>simp[h0] at h
     |some d0=>
       simp only[h0] at h;cases ha:qQ k d0 with
       |none=>simp[ha] at h
       |some a=>simp only[ha,Option.some.injEq] at h;exact⟨d0,a,rfl,ha,h⟩
   · rename_i q;exact absurd e4 q
 · split at h
   · rename_i q;exact absurd q e4
   simp only[Nd.ks] at h;cases h0:ks[0]? with
   |none=>simp[h0] at h
   |some d0=>
     cases h1:ks[1]? with
     |none=>
       simp only[h0,h1] at h;split at h<;>simp_all
     |some d1=>
       simp only[h0,h1] at h;split at h<;>try contradiction
       rename_i a b ha hb;refine ⟨d0,d1,a,b,rfl,rfl,ha,hb,fun e5=>?_,fun e5=>?_⟩
       · split at h
         · simpa using h
         · rename_i q;exact absurd e5 q
       · split at h
         · rename_i q;exact absurd q e5
         · have h':(if ks.length<1000000000 then some (Ty.mk 6 0 0 (List.foldl Fm [] (List.drop 2 ks)) [a,b]) else none)=some t:=h;by_cases hl:ks.length<1000000000
           · rw[if_pos hl] at h';exact⟨hl,Option.some.inj h'⟩
           · rw[if_neg hl] at h';cases h'
end Go.aS
namespace Go.Sx
open Go.RowKit Go.Gx Go.MapKept
section
variable {α:Type}
def aaa(es:Array MapEntry)(seen:Array Nat)(enc:α→Value):Option (α×Value)→Prop
 |none=>True
 |some p=>∃(e:MapEntry) (s:Array Nat),seen=s.push e.born∧e∈es.toList∧e.key=enc p.1∧e.val=p.2
def V5(kd:TypeDesc)(enc:α→Value)(bt r:Nat)(mp left:List (α×Value))(cur:Option (α×Value))(w:World):Prop:=
 ∃es ck seen,Has w bt (.map es ck)∧C6 kd enc es ck mp∧Has w r (.mapIter (some bt) ck seen ck)∧((leftOf es seen).toList.map (fun e=>(e.key,e.val))).Perm (left.map (fun p=>(enc p.1,p.2)))∧aaa es seen enc cur
def YN(kd:TypeDesc)(enc:α→Value)(bt r:Nat)(mp left:List (α×Value))(cur:Option (α×Value)):Item:=.abs (fun c=>c=bt∨c=r) (V5 kd enc bt r mp left cur)
theorem Rp(kd:TypeDesc)(enc:α→Value)(bt r:Nat)(mp left:List (α×Value))(cur:Option (α×Value)):Loc (fun c=>c=bt∨c=r) (V5 kd enc bt r mp left cur):=by
 rintro w w' _ hk ⟨es,ck,seen,h1,h2,h3,h4,h5⟩;exact ⟨es,ck,seen,(hk _ (.inl rfl)).trans h1,h2,(hk _ (.inr rfl)).trans h3,h4,h5⟩
theorem zT{kd:TypeDesc}{enc:α→Value}{bt r:Nat}{mp left:List (α×Value)}{cur:Option (α×Value)}{w:World}(h:V5 kd enc bt r mp left cur w):(YN kd enc bt r mp left cur).holds w:=by
 refine⟨h,fun c hc=>?_,Rp _ _ _ _ _ _ _⟩;obtain ⟨es,ck,seen,h1,_,h3,_,_⟩:=h;rcases hc with rfl|rfl
 · exact Has.lt h1
 · exact Has.lt h3
theorem Dg{w w1:World}{r:Nat}{o:Obj}(h:w1=w∨w1=w.drew)(k:Has w r o):Has w1 r o:=by rcases h with rfl|rfl<;>exact k
theorem Jv(es : Array MapEntry)(seen : Array Nat)(e : MapEntry)(hn : (es.toList.map (·.born)).Nodup)(he : e ∈ (leftOf es seen).toList) :
   (leftOf es seen).toList.Perm (e::(leftOf es (seen.push e.born)).toList):=by
 unfold leftOf at *;rw [Array.toList_filter] at he ⊢;rw [Array.toList_filter];generalize es.toList=l at *;induction l with
 |nil=>simp at he
 |cons x l ih=>
   simp only[List.map_cons,List.nodup_cons] at hn;have Me:∀y:MapEntry,(!(seen.push e.born).contains y.born)=((!seen.contains y.born)&&(y.born != e.born)):=by
     intro y;simp only[Array.contains_push];cases seen.contains y.born<;>simp[Bool.not_or,bne]
   by_cases hx:x=e
   · subst hx;have hs : (!seen.contains x.born) = true := (List.mem_filter.1 he).2;rw [List.filter_cons, if_pos hs, List.filter_cons, Me];simp only [bne_self_eq_false, Bool.and_false, Bool.false_eq_true, if_false];refine List.Perm.cons _ ?_;have : l.filter (fun y => !(seen.push x.born).contains y.born) = l.filter (fun y => !seen.contains y.born) := by
       refine List.filter_congr fun y hy=>?_;rw [Me];have:y.born≠x.born:=fun q=>hn.1 (q▸List.mem_map_of_mem hy);simp [this]
     rw[this]
   · have he' : e ∈ l.filter (fun y => !seen.contains y.born) := by
       rw[List.filter_cons] at he;split at he
       · rcases List.mem_cons.1 he with q|q
         · exact absurd q.symm hx
         · exact q
       · exact he
     have hb:x.born≠e.born:=fun q=>hn.1 (q▸List.mem_map_of_mem (List.mem_filter.1 he').1);have k:=ih hn.2 he';rw [List.filter_cons,List.filter_cons,Me];have I8:(x.born != e.born)=true:=by simp[hb]
     rw[I8,Bool.and_true];split
     · exact(k.cons x).trans (List.Perm.swap _ _ _)
     · exact k
end
section
variable {α:Type}
variable [Rd] {P:Program} {B:Exit→Act→World→Prop} {b:Nat→Value} {n:Nat} {d:List Deferred} {w0 w:World} {x:St} {L0 L:List Item}
def Hz(b:Nat→Value)(n:Nat)(x:St):Option Ask:=
 match hd b n x with
 |some q=>match q.2.2.op with
   |.range t mp=>some ⟨[ev b n x.l mp],[t],x,q⟩
   |_=>none
 |none=>none
theorem rg(m i : Nat)(H : Hs w0 L0 w L){kd : TypeDesc}{enc : α → Value}{bt t kt et : Nat}{mp : List (α × Value)}(hi : L[i]? = some (rf kd enc bt mp))
   (k:∀r w',Hs w0 L0 w' (L.set i (YN kd enc bt r mp mp none))→Goal P B b n d (nx (vX (via P b n m w x (ask (Hz b n)))).y (vX (via P b n m w x (ask (Hz b n)))).q (.pointer (some ⟨r,0,none⟩))) w')
   (h:vA (via P b n m w x (ask (Hz b n)))=vB w (via P b n m w x (ask (Hz b n))):=by kernel_rfl)
   (h2:((vX (via P b n m w x (ask (Hz b n)))).u,(vX (via P b n m w x (ask (Hz b n)))).t)=([.map (some bt)],[t]):=by kernel_rfl)
   (ht:ki P t=some (kt,et):=by kernel_rfl):Goal P B b n d x w:=by
 obtain⟨y,hr,hf⟩:=cG h;refine az hr ?_;generalize vX (via P b n m w x (ask (Hz b n)))=zz at *;unfold Hz at hf;split at hf<;>try contradiction
 rename_i q hq;split at hf<;>try contradiction
 rename_i t' mo hop;simp only[Option.some.injEq] at hf;subst hf;simp only[Prod.mk.injEq,List.cons.injEq,and_true] at h2;obtain ⟨h3,rfl⟩:=h2;obtain ⟨⟨es,ck,hb,hm⟩,_,_⟩:=H.at i hi;have C7:=mf ht;refine cF hq (v:=.pointer (some ⟨w.heap.size,0,none⟩)) (w':=w.alloc (.mapIter (some bt) ck #[] ck)) ?_ (k _ _ ?_)
 · unfold execOp;simp [hop,h3,Instr.range,run_underlying C7,Sem.run_bind,MapKept.run_getObj_map hb,Result.andThen]
 · refine H.put i hi rfl (Kp.qg (AN w _) _) (zT ⟨es,ck,#[],?_,hm,zE w _,?_,trivial⟩) (fun c hc=>?_)
   · exact(AN w _).block _ (Has.lt hb) (by simp) |>.trans hb
   · have:leftOf es #[]=es:=by unfold leftOf;simp
     rw[this,hm.2.2]
   · rcases hc with rfl|rfl
     · exact .inl rfl
     · exact .inr (Nat.le_refl _)
def EC(b:Nat→Value)(n:Nat)(x:St):Option Ask:=
 match hd b n x with
 |some q=>match q.2.2.op with
   |.next it s=>match s with
     |false=>some ⟨[ev b n x.l it],[],x,q⟩
     |true=>none
   |_=>none
 |none=>none
theorem nt(m i : Nat)(H : Hs w0 L0 w L){kd : TypeDesc}{enc : α → Value}{bt r : Nat}{mp left : List (α × Value)}{cur : Option (α × Value)}(hi : L[i]? = some (YN kd enc bt r mp left cur))
   (k0:left=[]→Goal P B b n d (nx (vX (via P b n m w x (ask (EC b n)))).y (vX (via P b n m w x (ask (EC b n)))).q (.tuple #[.bool false])) w)
   (k1:∀p nU w',left.Perm (p::nU)→Hs w0 L0 w' (L.set i (YN kd enc bt r mp nU (some p)))→Goal P B b n d (nx (vX (via P b n m w x (ask (EC b n)))).y (vX (via P b n m w x (ask (EC b n)))).q (.tuple #[.bool true,enc p.1,p.2])) w')
   (h:vA (via P b n m w x (ask (EC b n)))=vB w (via P b n m w x (ask (EC b n))):=by kernel_rfl)
   (h2:(vX (via P b n m w x (ask (EC b n)))).u=[.pointer (some ⟨r,0,none⟩)]:=by kernel_rfl):Goal P B b n d x w:=by
 obtain⟨y,hr,hf⟩:=cG h;refine az hr ?_;generalize vX (via P b n m w x (ask (EC b n)))=zz at *;unfold EC at hf;split at hf<;>try contradiction
 rename_i q hq;split at hf<;>try contradiction
 rename_i it s hop;split at hf<;>try contradiction
 simp only[Option.some.injEq] at hf;subst hf;simp only[List.cons.injEq,and_true] at h2;have pG:=H.at i hi;obtain ⟨⟨es,ck,seen,hb,hm,hri,hl,hc⟩,dO,_⟩:=pG;have cw:=(stamped_iff es ck).1 hm.1;have hx:∀v w',(Instr.next (.pointer (some ⟨r,0,none⟩)) false q.2.2.type).run P w=.ok v w'→(execOp (ev b n y.l) q.2.2).run P w=.ok (.value v) w':=by
   intro v w' hv;unfold execOp;simp [hop,h2,hv,Sem.run_bind,Result.andThen]
 rcases run_next_at (P:=P) w q.2.2.type r bt ck ck seen es ck hri hb cw.1 (Nat.le_refl _) with⟨h0,nL⟩|⟨e,he,w1,Mf,nL⟩
 · have : left = [] := by
     have e0:(leftOf es seen).toList=[]:=by
       have:=Array.eq_empty_of_size_eq_zero h0;rw [this]
     rw[e0] at hl;have:=hl.length_eq;cases left with
     |nil=>rfl
     |cons _ _=>simp at this
   exact cF hq (hx _ _ nL) (k0 this)
 · have hp := Jv es seen e cw.2.1 he;have afU : e ∈ es.toList := by
     unfold leftOf at he;rw[Array.toList_filter] at he;exact(List.mem_filter.1 he).1
   obtain⟨p,hpm,HA⟩:∃p∈left,(enc p.1,p.2)=(e.key,e.val):=by
     have:(e.key,e.val)∈(leftOf es seen).toList.map (fun e=>(e.key,e.val)):=List.mem_map.2 ⟨e,he,rfl⟩;rw [hl.mem_iff] at this;exact List.mem_map.1 this
   simp only[Prod.mk.injEq] at HA;obtain ⟨s,t,rfl⟩:=List.append_of_mem hpm;have hl':((leftOf es (seen.push e.born)).toList.map (fun e=>(e.key,e.val))).Perm ((s++t).map (fun p=>(enc p.1,p.2))):=by
     have h1:=(hp.map (fun e=>(e.key,e.val))).symm.trans (hl.trans ((List.perm_middle (a:=p) (l₁:=s) (l₂:=t)).map _));simp only[List.map_cons,HA.1,HA.2] at h1;exact (List.perm_cons _).1 h1
   have hrb:r≠bt:=by
     intro q;subst q;have:=hb.symm.trans hri;cases this
   refine cF hq (hx _ _ nL) ?_;have KL:=Dg Mf hb;have iE:=Dg Mf hri;have hE:Ext w w1:=by
     rcases Mf with rfl|rfl
     · exact Ext.refl _
     · exact⟨rfl,rfl,rfl,Nat.le_refl _,fun _ _ _=>rfl⟩
   have k':=k1 p (s++t) (ChangeMaps.setBlock w1 r (.mapIter (some bt) ck (seen.push e.born) ck)) List.perm_middle ?_
   · rw[HA.1,HA.2] at k';exact k'
   have hG:G w1 (ChangeMaps.setBlock w1 r (.mapIter (some bt) ck (seen.push e.born) ck)) (some r):=vw w1 r _;refine H.put i hi rfl (Kp.trans (Kp.qg hE _) ((Kp.C2 hG).mono fun c hc=>.inr (Option.some.inj hc).symm)) (zT ⟨es,ck,seen.push e.born,?_,hm,qd _ iE,hl',e,seen,rfl,afU,HA.1.symm,HA.2.symm⟩) (fun c hc=>.inl hc);exact (hG.block _ (Has.lt KL) (by simp;exact fun q=>hrb q.symm)).trans KL
def KM(b:Nat→Value)(n:Nat)(x:St):Option Ask:=
 match hd b n x with
 |some q=>match q.2.2.op with
   |.entry it=>some ⟨[ev b n x.l it],[],x,q⟩
   |_=>none
 |none=>none
theorem ent(m i : Nat)(H : Hs w0 L0 w L){kd : TypeDesc}{enc : α → Value}{bt r : Nat}{mp left : List (α × Value)}{p : α × Value}(hi : L[i]? = some (YN kd enc bt r mp left (some p)))
   (k:Goal P B b n d (nx (vX (via P b n m w x (ask (KM b n)))).y (vX (via P b n m w x (ask (KM b n)))).q (.tuple #[enc p.1,p.2])) w)
   (h:vA (via P b n m w x (ask (KM b n)))=vB w (via P b n m w x (ask (KM b n))):=by kernel_rfl)
   (h2:(vX (via P b n m w x (ask (KM b n)))).u=[.pointer (some ⟨r,0,none⟩)]:=by kernel_rfl):Goal P B b n d x w:=by
 obtain⟨y,hr,hf⟩:=cG h;refine az hr ?_;generalize vX (via P b n m w x (ask (KM b n)))=zz at *;unfold KM at hf;split at hf<;>try contradiction
 rename_i q hq;split at hf<;>try contradiction
 rename_i it hop;simp only[Option.some.injEq] at hf;subst hf;simp only[List.cons.injEq,and_true] at h2;obtain ⟨⟨es,ck,seen,hb,hm,hri,hl,e,s,rfl,he,h3,h4⟩,_,_⟩:=H.at i hi;have cw:=(stamped_iff es ck).1 hm.1;have nL:=run_entry_at (P:=P) w r bt ck s es ck e hri hb he cw.2.1;refine cF hq ?_ k;unfold execOp;simp [hop,h2,nL,h3,h4,Sem.run_bind,Result.andThen]
omit [Rd] in
end
end Go.Sx
