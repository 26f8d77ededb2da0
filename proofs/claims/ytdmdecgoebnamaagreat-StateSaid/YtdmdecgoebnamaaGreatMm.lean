/- What programs mean (chapter 5), in plain Lean: values as trees; whatever is not needed is 'none'. -/
import Derived.Test.YtdmdecgoebnamaaGreatYb
import Derived.CallsIn
import Derived.ControlIn
import Derived.MapKept
set_option linter.unusedVariables false
set_option linter.unusedSimpArgs false
namespace Go.Mn
open Go.aR
inductive PN
 |mk (k a:Nat) (nm:Nm) (n:Int) (A:Ω) (c:Nat) (ks:List PN)
def PN.k:PN->Nat|.mk k _ _ _ _ _ _=>k
def PN.nm:PN->Nm|.mk _ _ x _ _ _ _=>x
def PN.n:PN->Int|.mk _ _ _ n _ _ _=>n
def PN.ks:PN->List PN|.mk _ _ _ _ _ _ l=>l
def PN.cells:PN->Θ|.mk k a nm n A c ks=>[.int .i64 (k:Int),.int .i64 (a:Int),.string nm,.int .i64 n,.slice A ks.length c]
def pz:PN:=.mk 0 0 ⟨#[]⟩ 0 none 0 []
mutual
inductive Vl
 |int (n:Int)
 |bool (b:Bool)
 |unit
 |nil
 |cons (a b:Vl)
 |pair (a b:Vl)
 |fn (nd:PN) (e:En)
 |res (id:Nat) (fr:List Fr) (op:Nm) (once:Bool)
inductive En
 |nil
 |put (nm:Nm) (v:Vl) (up:En)
 |rc (nm:Nm) (nd:PN) (up:En)
inductive Fr
 |mk (nd:PN) (at_:Nat) (e:En) (v:Option Vl)
end
def Fr.nd:Fr->PN|.mk nd _ _ _=>nd
structure Rn where
 st:List Fr
 nd:PN
 e:En
 v:Option Vl
 us:List Bool
def find:En->Nm->Option Vl
 |.nil,_=>none
 |.put nm v up,x=>if dh nm x then some v else find up x
 |.rc nm nd up,x=>if dh nm x then some (.fn nd (.rc nm nd up)) else find up x
def pJ(r:Rn)(at_:Nat)(v:Option Vl):List Fr:=r.st++[.mk r.nd at_ r.e v]
def oY(r:Rn)(at_:Nat)(v:Option Vl):Option Rn:=match r.nd.ks[at_]? with
 |some d=>some { r with st:=pJ r at_ v,nd:=d }
 |none=>none
def gU(r:Rn):Option Rn:=match r.nd.k with
 |3=>some { r with v:=some (.int r.nd.n) }
 |4=>some { r with v:=some (.bool (r.nd.n==1)) }
 |5=>some { r with v:=some .unit }
 |15=>some { r with v:=some .nil }
 |6=>match find r.e r.nd.nm with
   |some v=>some { r with v:=some v }
   |none=>none
 |7=>some { r with v:=some (.fn r.nd r.e) }
 |_=>oY r 0 none
def cJ(op:Nm):List PN->Nat->Option Nat
 |[],_=>none
 |d::l,i=>if dh d.nm op then some i else cJ op l (i+1)
def hand(op:Nm):List Fr->Nat->Option (Nat×Nat)
 |[],_=>none
 |f::l,i=>match hand op l (i+1) with
   |some q=>some q
   |none=>if f.nd.k=20 then(match cJ op (f.nd.ks.drop 2) 2 with|some k=>some (i,k)|none=>none) else none
def kq(once:Nm->Bool)(r:Rn)(op:Nm)(x:Vl):Option Rn:=match hand op r.st 0 with
 |some (i,k)=>match r.st[i]? with
   |some (.mk nd _ e _)=>match nd.ks[k]? with
     |some c=>match c.ks with
       |[a,b,d]=>some ⟨r.st.take i,d,.put b.nm (.res r.us.length (r.st.drop (if nd.n==1 then i+1 else i)) op (once op)) (.put a.nm x e),none,r.us++[false]⟩
       |_=>none
     |none=>none
   |none=>none
 |none=>none
def iG(r:Rn):Vl->Vl->Option Rn
 |.fn nd e,x=>match nd.ks with
   |[d]=>some { r with e:=.put nd.nm x e,nd:=d }
   |_=>none
 |.res id fr _ once,x=>match r.us[id]? with
   |some u=>if once&&u||! decide (r.st.length+fr.length<100000000) then none else some { r with us:=r.us.set id true,st:=r.st++fr,v:=some x }
   |none=>none
 |_,_=>none
def EZ(nm:Nm)(x y:Int):Vl:=
 if dh nm ⟨#[43]⟩ then .int (IntKind.i64.wrap (x+y)) else if dh nm ⟨#[45]⟩ then .int (IntKind.i64.wrap (x-y)) else if dh nm ⟨#[42]⟩ then .int (IntKind.i64.wrap (x*y)) else if dh nm ⟨#[60]⟩ then .bool (decide (x<y)) else .bool (x==y)
def iH(r:Rn)(a b:Vl):Option Rn:=match r.nd.k with
 |12=>some { r with v:=some (.pair a b) }
 |16=>some { r with v:=some (.cons a b) }
 |18=>match a,b with
   |.int x,.int y=>some { r with v:=some (EZ r.nd.nm x y) }
   |_,_=>none
 |8=>iG r a b
 |_=>none
def oM(once:Nm->Bool)(r:Rn)(x:Vl):Option Rn:=match r.st.getLast? with
 |none=>none
 |some (.mk nd at_ e fv)=>
   let q:Rn:=⟨r.st.dropLast,nd,e,none,r.us⟩
   let akl:Option Rn:=match nd.ks[1]? with|some d=>some { q with nd:=d }|none=>none
   match nd.k with
   | 2 | 9 => if nd.n == 1 then (match x, nd.ks[1]? with
       |.fn fd _,some d=>some { q with nd:=d,e:=.put nd.nm (.fn fd (.rc nd.nm fd e)) e }
       |_,_=>none) else(match nd.ks[1]? with|some d=>some { q with nd:=d,e:=.put nd.nm x e }|none=>none)
   |10=>akl
   |11=>match x,nd.ks with
     |.bool b,[_,d,f]=>some { q with nd:=if b then d else f }
     |_,_=>none
   |13=>match x with|.pair a _=>some { q with v:=some a }|_=>none
   |14=>match x with|.pair _ b=>some { q with v:=some b }|_=>none
   |17=>match x,nd.ks with
     |.cons a b,[_,_,p,s,d]=>some { q with nd:=d,e:=.put s.nm b (.put p.nm a e) }
     |.nil,[_,d,_,_,_]=>some { q with nd:=d }
     |_,_=>none
   |19=>kq once q nd.nm x
   |20=>match nd.ks[1]? with
     |some c=>match c.ks with
       |[d]=>some { q with nd:=d,e:=.put c.nm x e }
       |_=>none
     |none=>none
   |8|12|16|18=>if at_=0 then oY q 1 (some x) else(match fv with|some f=>iH q f x|none=>none)
   |_=>none
def Cn(once:Nm->Bool):Nat->Nat->Rn->Option (Vl×Nat)
 |0,_,_=>none
 |k+1,s,r=>if ! decide (r.st.length<100000000) then none else match r.v with
   |some x=>if r.st.isEmpty then some (x,s) else match oM once { r with v:=none } x with
     |some r'=>Cn once k s r'
     |none=>none
   |none=>if r.nd.k=2 then(match r.nd.ks[0]? with|some d=>Cn once k s { r with st:=pJ r 0 none,nd:=d }|none=>none)
     else if s<1000000 then(match gU r with|some r'=>Cn once k (s+1) r'|none=>none) else none
end Go.Mn
namespace Go.Sx
open Go.RowKit Go.Gx
inductive Item
 |ar (b:Nat) (o:Obj)
 |own (e sz:Nat) (A:Ω) (cap n:Nat) (xs:Θ)
 |abs (fp:Φ) (φ:Ψ->Prop)
 |ro (fp:Φ) (φ:Ψ->Prop)
def Item.fp:Item->Nat->Prop
 |.ar b _=>fun c=>c=b
 |.own _ _ A cap n _=>fun c=>(Value.slice A n cap).ownBlock=some c
 |.abs fp _=>fp
 |.ro fp _=>fp
def Item.wr:Item->Bool
 |.ro _ _=>false
 |_=>true
def Loc(fp:Φ)(φ:Ψ->Prop):Prop:=∀w w':Ψ,w.heap.size<=w'.heap.size->(∀c,fp c->w'.heap[c]?=w.heap[c]?)->φ w->φ w'
def Item.holds(w:Ψ):Item->Prop
 |.ar b o=>Has w b o
 |.own e sz A cap n xs=>w.ownsRow 0 e sz (.slice A n cap) n xs
 |.abs fp φ=>φ w/\(∀c,fp c->c<w.heap.size)/\Loc fp φ
 |.ro fp φ=>φ w/\(∀c,fp c->c<w.heap.size)/\Loc fp φ
theorem O6{w w':Ψ}{e sz n:Nat}{v:Value}{xs:Θ}(h:w.ownsRow 0 e sz v n xs)(k:∀c,v.ownBlock=some c->w'.heap[c]?=w.heap[c]?):w'.ownsRow 0 e sz v n xs:=by
 refine⟨h.1,?_⟩;rcases h.2 with q|⟨g,cap,cur,rfl,a,hg,r⟩
 . exact .inl q
 . exact .inr ⟨g,cap,cur,rfl,a,(k g rfl).trans hg,r⟩
theorem O7{w:Ψ}{e sz n:Nat}{v:Value}{xs:Θ}(h:w.ownsRow 0 e sz v n xs){c:Nat}(k:v.ownBlock=some c):c<w.heap.size:=by
 rcases h.2 with⟨rfl,_⟩|⟨g,cap,cur,rfl,a,hg,r⟩
 . simp[Value.ownBlock] at k
 . simp only[Value.ownBlock,Option.some.injEq] at k;subst k;exact Has.lt hg
theorem Item.jh{it:Item}{w w':Ψ}(h:it.holds w)(hs:w.heap.size<=w'.heap.size)(k:∀c,it.fp c->w'.heap[c]?=w.heap[c]?):it.holds w':=by
 cases it with
 |ar b o=>exact(k b rfl).trans h
 |own e sz A cap n xs=>exact O6 h k
 |abs fp φ=>exact⟨h.2.2 w w' hs k h.1,fun c hc=>Nat.lt_of_lt_of_le (h.2.1 c hc) hs,h.2.2⟩
 |ro fp φ=>exact⟨h.2.2 w w' hs k h.1,fun c hc=>Nat.lt_of_lt_of_le (h.2.1 c hc) hs,h.2.2⟩
theorem Item.lt{it:Item}{w:Ψ}(h:it.holds w){c:Nat}(k:it.fp c):c<w.heap.size:=by
 cases it with
 |ar b o=>cases k;exact Has.lt h
 |own e sz A cap n xs=>exact O7 h k
 |abs fp φ=>exact h.2.1 c k
 |ro fp φ=>exact h.2.1 c k
def apart(x y:Item):Prop:=(x.wr||y.wr)=true->∀c,x.fp c->¬y.fp c
theorem apart.symm{x y:Item}(h:apart x y):apart y x:=fun q c hy hx=>h (by rw[Bool.or_comm];exact q) c hx hy
structure Sp (w:Ψ) (L:List Item):Prop where
 all:∀it∈L,it.holds w
 Bm:L.Pairwise apart
def ZU(L:List Item)(c:Nat):Prop:=∃it∈L,it.wr=true/\it.fp c
def Ig(L:List Item)(c:Nat):Prop:=∃it∈L,it.fp c
structure Kp (S:Φ) (w w':Ψ):Prop where
 os:w'.os=w.os
 tape:w'.tape=w.tape
 output:w'.output=w.output
 size:w.heap.size<=w'.heap.size
 block:∀i,i<w.heap.size->¬S i->w'.heap[i]?=w.heap[i]?
theorem Kp.refl(S:Φ)(w:Ψ):Kp S w w:=⟨rfl,rfl,rfl,Nat.le_refl _,fun _ _ _=>rfl⟩
theorem Kp.trans{S:Nat->Prop}{w w' n8:Ψ}(h:Kp S w w')(k:Kp S w' n8):Kp S w n8:=
 ⟨k.os.trans h.os,k.tape.trans h.tape,k.output.trans h.output,Nat.le_trans h.size k.size,fun i hi hn=>(k.block i (Nat.lt_of_lt_of_le hi h.size) hn).trans (h.block i hi hn)⟩
theorem Kp.sG{w w':Ψ}(h:Ext w w')(S:Φ):Kp S w w':=⟨h.os,h.tape,h.output,h.size,fun i hi _=>h.block i hi (by simp)⟩
theorem Kp.FB{w w':Ψ}{r:Option Nat}(h:G w w' r):Kp (fun c=>r=some c) w w':=⟨h.os,h.tape,h.output,h.size,fun i hi hn=>h.block i hi (fun q=>hn q.symm)⟩
theorem Kp.mono{S T:Nat->Prop}{w w':Ψ}(h:Kp S w w')(k:∀c,S c->T c):Kp T w w':=⟨h.os,h.tape,h.output,h.size,fun i hi hn=>h.block i hi (fun q=>hn (k i q))⟩
theorem Kp.ext{w w':Ψ}(h:Kp (fun _=>False) w w'):Ext w w':=⟨h.os,h.tape,h.output,h.size,fun i hi _=>h.block i hi (fun q=>q)⟩
structure Hs (w0:Ψ) (L0:List Item) (w:Ψ) (L:List Item):Prop where
 kp:Kp (ZU L0) w0 w
 sp:Sp w L
 E0:∀it∈L,∀c,it.fp c->c<w0.heap.size->Ig L0 c
 J8:∀it∈L,it.wr=true->∀c,it.fp c->c<w0.heap.size->ZU L0 c
section
variable {w0 w w':Ψ} {L0 L L' L1 ZV:List Item}
theorem Hs.refl(h:Sp w L):Hs w L w L:=⟨Kp.refl _ _,h,fun it hi c hc _=>⟨it,hi,hc⟩,fun it hi hw c hc _=>⟨it,hi,hw,hc⟩⟩
theorem Sp.perm(h:Sp w L)(p:L.Perm L'):Sp w L':=⟨fun it hi=>h.all it (p.mem_iff.2 hi),(p.pairwise_iff (fun h=>apart.symm h)).1 h.Bm⟩
theorem Hs.perm(h:Hs w0 L0 w L)(p:L.Perm L'):Hs w0 L0 w L':=⟨h.kp,h.sp.perm p,fun it hi=>h.E0 it (p.mem_iff.2 hi),fun it hi=>h.J8 it (p.mem_iff.2 hi)⟩
theorem Hs.step(H : Hs w0 L0 w L){S : Nat -> Prop}(k : Kp S w w')(hS : ∀ c, S c -> c < w.heap.size -> ZU L c)(sp : Sp w' L')
   (hA:∀it∈L',∀c,it.fp c->c<w.heap.size->Ig L c) (hW:∀it∈L',it.wr=true->∀c,it.fp c->c<w.heap.size->ZU L c):Hs w0 L0 w' L':=
 have hs:=H.kp.size
 ⟨⟨k.os.trans H.kp.os, k.tape.trans H.kp.tape, k.output.trans H.kp.output, Nat.le_trans hs k.size, fun i hi hn =>
     (k.block i (Nat.lt_of_lt_of_le hi hs) (fun q=>by
       obtain⟨it,h1,h2,h3⟩:=hS i q (Nat.lt_of_lt_of_le hi hs)
       exact hn (H.J8 it h1 h2 i h3 hi))).trans (H.kp.block i hi hn)⟩,sp,
   fun it hi c hc hl=>by
     obtain⟨j,h1,h2⟩:=hA it hi c hc (Nat.lt_of_lt_of_le hl hs);exact H.E0 j h1 c h2 hl,
   fun it hi hw c hc hl=>by
     obtain⟨j,h1,h2,h3⟩:=hW it hi hw c hc (Nat.lt_of_lt_of_le hl hs)
     exact H.J8 j h1 h2 c h3 hl⟩
theorem Sp.kept(h:Sp w L){S:Nat->Prop}(k:Kp S w w')(hS:∀it∈L,∀c,it.fp c->¬S c):Sp w' L:=
 ⟨fun it hi=>Item.jh (h.all it hi) k.size (fun c hc=>k.block c (Item.lt (h.all it hi) hc) (hS it hi c hc)),h.Bm⟩
theorem Hs.ext(H:Hs w0 L0 w L)(k:Ext w w'):Hs w0 L0 w' L:=
 H.step (Kp.sG k (fun _=>False)) (fun _ q=>q.elim) (H.sp.kept (Kp.sG k (fun _=>False)) (fun _ _ _ _ q=>q)) (fun it hi c hc _=>⟨it,hi,hc⟩) (fun it hi hw c hc _=>⟨it,hi,hw,hc⟩)
theorem Hs.add(H:Hs w0 L0 w L)(k:Ext w w'){it:Item}(h:it.holds w')(hn:∀c,it.fp c->w.heap.size<=c):Hs w0 L0 w' (L++[it]):=by
 refine H.step (Kp.sG k (fun _=>False)) (fun _ q=>q.elim) ⟨fun j hj=>?_,?_⟩ ?_ ?_
 . rcases List.mem_append.1 hj with q|q
   . exact(H.ext k).sp.all j q
   . rw[List.mem_singleton.1 q];exact h
 . refine List.pairwise_append.2 ⟨H.sp.Bm,List.pairwise_singleton _ _,fun x hx y hy=>?_⟩;rw[List.mem_singleton.1 hy];intro _ c h1 h2;have:=Item.lt (H.sp.all x hx) h1;have:=hn c h2;omega
 . intro j hj c hc hl;rcases List.mem_append.1 hj with q|q
   . exact⟨j,q,hc⟩
   . rw[List.mem_singleton.1 q] at hc;have:=hn c hc;omega
 . intro j hj hw c hc hl;rcases List.mem_append.1 hj with q|q
   . exact⟨j,q,hw,hc⟩
   . rw[List.mem_singleton.1 q] at hc;have:=hn c hc;omega
theorem Hs.new(H:Hs w0 L0 w L)(k:Ext w w'){bk:Nat}{o:Obj}(h:Has w' bk o)(hn:w.heap.size<=bk):Hs w0 L0 w' (L++[.ar bk o]):=
 H.add k (it:=.ar bk o) h (fun c hc=>by cases hc;exact hn)
def pK:Nat->List Item->Option (Item×List Item)
 |_,[]=>none
 |0,x::r=>some (x,r)
 |i+1,x::r=>match pK i r with
   |some (y,s)=>some (y,x::s)
   |none=>none
def tU:List Nat->List Item->Option (List Item×List Item)
 |[],L=>some ([],L)
 |i::I,L=>match pK i L with
   |some (x,r)=>match tU I r with
     |some (a,s)=>some (x::a,s)
     |none=>none
   |none=>none
theorem FC{i:Nat}{x:Item}{r:List Item}(h:pK i L=some (x,r)):L.Perm (x::r):=by
 induction L generalizing i x r with
 |nil=>simp[pK] at h
 |cons y s ih=>
   cases i with
   |zero=>simp only[pK,Option.some.injEq,Prod.mk.injEq] at h;obtain⟨rfl,rfl⟩:=h;exact List.Perm.refl _
   |succ i=>
     simp only[pK] at h;cases ht:pK i s with
     |none=>simp[ht] at h
     |some p=>
       obtain⟨z,q⟩:=p;simp only[ht,Option.some.injEq,Prod.mk.injEq] at h;obtain⟨rfl,rfl⟩:=h;exact((ih ht).cons y).trans (List.Perm.swap _ _ _)
theorem Ih{I:List Nat}{a r:List Item}(h:tU I L=some (a,r)):L.Perm (a++r):=by
 induction I generalizing L a r with
 |nil=>simp only[tU,Option.some.injEq,Prod.mk.injEq] at h;obtain⟨rfl,rfl⟩:=h;exact List.Perm.refl _
 |cons i I ih=>
   simp only[tU] at h;cases ht:pK i L with
   |none=>simp[ht] at h
   |some p=>
     obtain⟨x,s⟩:=p;simp only[ht] at h;cases hp:tU I s with
     |none=>simp[hp] at h
     |some p=>
       obtain⟨u,v⟩:=p;simp only[hp,Option.some.injEq,Prod.mk.injEq] at h;obtain⟨rfl,rfl⟩:=h;exact(FC ht).trans ((ih hp).cons x)
def rest(I:List Nat)(L:List Item):List Item:=match tU I L with
 |some (_,r)=>r
 |none=>[]
theorem Vp{I:List Nat}{a r:List Item}(h:tU I L=some (a,r)):rest I L=r:=by unfold rest;rw[h]
def bB(I:List Nat)(L:List Item):Option (List Item):=match tU I L with
 |some (a,_)=>some a
 |none=>none
theorem ic{I:List Nat}{a:List Item}(h:bB I L=some a):L.Perm (a++rest I L):=by
 unfold bB at h;cases hp:tU I L with
 |none=>simp[hp] at h
 |some p=>obtain⟨u,v⟩:=p;simp only[hp,Option.some.injEq] at h;subst h;rw[Vp hp];exact Ih hp
theorem Hs.pick(H:Hs w0 L0 w L)(I:List Nat){a:List Item}(h:bB I L=some a):Hs w0 L0 w a:=by
 have k:=H.perm (ic h);have pw:=List.pairwise_append.1 k.sp.Bm;exact⟨k.kp,⟨fun it hi=>k.sp.all it (List.mem_append_left _ hi),pw.1⟩,fun it hi=>k.E0 it (List.mem_append_left _ hi),fun it hi=>k.J8 it (List.mem_append_left _ hi)⟩
theorem Hs.sub(H:Hs w0 L0 w L)(I:List Nat){a:List Item}(h:bB I L=some a):Sp w a:=(H.pick I h).sp
theorem Hs.call(H:Hs w0 L0 w L)(I:List Nat)(h:bB I L=some L1)(H1:Hs w L1 w' ZV):Hs w0 L0 w' (ZV++rest I L):=by
 have k:=H.perm (ic h);have pw:=List.pairwise_append.1 k.sp.Bm;have sub:∀c,ZU L1 c->ZU (L1++rest I L) c:=fun c ⟨it,a,b⟩=>⟨it,List.mem_append_left _ a,b⟩;have hold:∀it∈rest I L,it.holds w:=fun it hi=>k.sp.all it (List.mem_append_right _ hi);refine k.step (S:=ZU L1) H1.kp (fun c q _=>sub c q) ⟨fun it hi=>?_,?_⟩ ?_ ?_
 . rcases List.mem_append.1 hi with q|q
   . exact H1.sp.all it q
   . refine Item.jh (hold it q) H1.kp.size (fun c hc=>H1.kp.block c (Item.lt (hold it q) hc) ?_);rintro⟨j,h1,h2,h3⟩;exact pw.2.2 j h1 it q (by rw[h2];rfl) c h3 hc
 . refine List.pairwise_append.2 ⟨H1.sp.Bm,pw.2.1,fun x hx y hy=>?_⟩;intro hw c hc hy';have hl:=Item.lt (hold y hy) hy';cases HA:x.wr with
   |true=>
     obtain⟨j,h1,h2,h3⟩:=H1.J8 x hx HA c hc hl;exact pw.2.2 j h1 y hy (by rw[h2];rfl) c h3 hy'
   |false=>
     rw[HA,Bool.false_or] at hw;obtain⟨j,h1,h3⟩:=H1.E0 x hx c hc hl;exact pw.2.2 j h1 y hy (by rw[hw,Bool.or_true]) c h3 hy'
 . intro it hi c hc hl;rcases List.mem_append.1 hi with q|q
   . obtain⟨j,h1,h2⟩:=H1.E0 it q c hc hl;exact⟨j,List.mem_append_left _ h1,h2⟩
   . exact⟨it,List.mem_append_right _ q,hc⟩
 . intro it hi hw c hc hl;rcases List.mem_append.1 hi with q|q
   . exact sub c (H1.J8 it q hw c hc hl)
   . exact⟨it,List.mem_append_right _ q,hw,hc⟩
theorem Hs.trans{w1:Ψ}(H:Hs w0 L0 w L)(k:Hs w L w1 L1):Hs w0 L0 w1 L1:=
 H.step k.kp (fun _ q _=>q) k.sp k.E0 k.J8
theorem Hs.set(H:Hs w0 L0 w L){i bk:Nat}{o o':Obj}(hi:L[i]?=some (.ar bk o))(k:G w w' (some bk))(h:Has w' bk o'):Hs w0 L0 w' (L.set i (.ar bk o')):=by
 have hm:Item.ar bk o∈L:=List.mem_of_getElem? hi;have UA:=(List.getElem?_eq_some_iff.1 hi).1;have Ii:∀it∈L.set i (.ar bk o'),it=.ar bk o'∨(it∈L/\apart (.ar bk o) it):=by
   intro it rP;obtain⟨j,hj⟩:=List.mem_iff_getElem?.1 rP;rw[List.getElem?_set] at hj;by_cases q:i=j
   . subst q;rw[if_pos rfl,if_pos UA] at hj;exact .inl (Option.some.inj hj).symm
   . rw[if_neg q] at hj;refine .inr ⟨List.mem_of_getElem? hj,?_⟩;obtain⟨pG,ei⟩:=List.getElem?_eq_some_iff.1 hi;obtain⟨Uy,ej⟩:=List.getElem?_eq_some_iff.1 hj;have pw:=List.pairwise_iff_getElem.1 H.sp.Bm;rcases Nat.lt_or_ge i j with r|r
     . have:=pw i j pG Uy r;rw[ei,ej] at this;exact this
     . have:=pw j i Uy pG (by omega);rw[ei,ej] at this;exact this.symm
 refine H.step (Kp.FB k) (fun c q _=>⟨_,hm,rfl,(Option.some.inj q).symm⟩) ⟨fun it rP=>?_,?_⟩ (fun it rP c hc _=>?_) (fun it rP hw c hc _=>?_)
 . rcases Ii it rP with rfl|⟨h1,h2⟩
   . exact h
   . refine Item.jh (H.sp.all it h1) k.size (fun c hc=>k.block c (Item.lt (H.sp.all it h1) hc) ?_);intro q;injection q with q;exact h2 rfl c q hc
 . rw [List.pairwise_iff_getElem];intro a b ha hb HB;have pw := List.pairwise_iff_getElem.1 H.sp.Bm;rw [List.length_set] at ha hb;have key : ∀(y : Item)(j : Nat)(hj : j < L.length), j ≠ i -> apart (.ar bk o') L[j] := by
     intro y j hj jQ;obtain⟨pG,ei⟩:=List.getElem?_eq_some_iff.1 hi;intro _ c hc;rcases Nat.lt_or_ge i j with r|r
     . have:=pw i j pG hj r;rw[ei] at this;exact this rfl c hc
     . have:=pw j i hj pG (by omega);rw[ei] at this;exact this.symm rfl c hc
   rw[List.getElem_set,List.getElem_set];split
   . split
     . omega
     . exact key (.ar bk o') b hb (by omega)
   . split
     . exact(key (.ar bk o') a ha (by omega)).symm
     . exact pw a b ha hb HB
 . rcases Ii it rP with rfl|⟨h1,_⟩
   . cases hc;exact⟨_,hm,rfl⟩
   . exact⟨it,h1,hc⟩
 . rcases Ii it rP with rfl|⟨h1,_⟩
   . cases hc;exact⟨_,hm,rfl,rfl⟩
   . exact⟨it,h1,hw,hc⟩
end
class Rd where
 r:Option Nat
instance rd0:Rd:=⟨none⟩
def fw [Rd]:Fence:={ Fence.wide with round:=Rd.r }
inductive Kt
 |code (c:Code)
 |ar (id:Nat)
 |scp
 |to (K:Act->Ψ->Prop)
def post [Rd] (P:Program) (B:Exit->Act->Ψ->Prop):List Kt->Exit->Act->Ψ->Prop
 |[]=>B
 |.code c::k=>Exit.then (c.wpIn fw 1 P (post P B k)) (post P B k)
 |.ar id::k=>Exit.inBlock id (post P B k)
 |.scp::k=>Exit.noGoto (post P B k)
 |.to K::k=>Exit.then K (post P B k)
inductive Fo
 |code (c:Code)
 |ops (ops:Array Oper) (js:List Nat)
 |ex (e:Exit)
 |ZW (ops:Array Oper) (i:Nat) (K:Act->Ψ->Prop)
 |kk (K:Act->Ψ->Prop)
 |any (ops:Array Oper) (LJ:List Item) (D:List Nat) (fuel:Nat) (al:Array Bool)
structure St where
 f:Fo
 k:List Kt
 l:List (Nat×Value)
instance:Inhabited St:=⟨⟨.ex .normal,[],[]⟩⟩
def Ij(o:Oper):Bool:=match o.op with
 |.defer _=>false
 |_=>true
theorem ZX{o:Oper}(h:Ij o=true):∀c,o.op≠.defer c:=fun c e=>by unfold Ij at h;rw[e] at h;cases h
theorem aeS [Rd] {o:Oper} (h:Ij o=true) (ρ:Operand->Value):o.semAt fw.round ρ=execOp ρ o:=Oper.semAt_eq _ _ _ (ZX h)
theorem Vq{P:Program}{o:Oper}{ρ:Operand->Value}{w w':Ψ}{v:Value}(h:(execOp ρ o).run P w=.ok (.value v) w'):Ij o=true:=by
 unfold Ij;split
 . rename_i c hc;unfold execOp at h;simp only[hc,Sem.run_bind] at h;cases hr:(resolve ρ c o.type).run P w<;>rw[hr] at h<;>simp[Result.andThen] at h
 . rfl
theorem O8{P:Program}{o:Oper}{ρ:Operand->Value}{w w':Ψ}(h:(execOp ρ o).run P w=.ok .skip w'):Ij o=true:=by
 unfold Ij;split
 . rename_i c hc;unfold execOp at h;simp only[hc,Sem.run_bind] at h;cases hr:(resolve ρ c o.type).run P w<;>rw[hr] at h<;>simp[Result.andThen] at h
 . rfl
theorem wpI [Rd] {P:Program} {Q:Exit->Act->Ψ->Prop} {o:Oper} {a:Act} {w:Ψ} {K:Act->Ψ->Prop} (hn:Ij o=true) (h:o.wp P a w K (fun _ _ _=>False)):o.wpIn fw 1 P a w K Q:=by
 refine⟨fun _ _=>trivial,?_⟩;show o.uponIn fw 1 P a K Q ((o.semAt fw.round a.eval).run P w);rw[aeS hn];unfold Oper.wp at h;generalize (execOp a.eval o).run P w=r at *;cases r with
 |ok n w'=>
   cases n<;>simp only[Oper.upon,Oper.uponIn] at h ⊢<;>try exact h
   case enter f args=>
     refine⟨fun _=>Nat.le_refl _,(callsIn_wide (n:=0)).2 (Calls.mono h ?_)⟩;rintro e n8 he;cases e with
     |returned v=>exact he
     |panicked c=>exact he.elim
     |outgrown=>obtain⟨_,_,q⟩:=he;exact q.elim
   case row row args=>exact⟨fun _=>Nat.le_refl _,fun c cs hr=>by obtain⟨v,w1,r,s⟩:=h c cs;exact⟨v,w1,r,stepsIn_wide.2 s⟩⟩
 |halt y w'=>cases y<;>simp only[Oper.upon] at h ⊢<;>try exact h.elim
theorem X5 [Rd] {P:Program} {Q:Exit->Act->Ψ->Prop} {ops:Array Oper} {i:Nat} {js:List Nat} {a:Act} {w:Ψ} (hn:∀o,ops[i]?=some o->Region.wanted o (yielded ops a.tmps)=true->Ij o=true) (h:∀Q0,wpOp P ops Q0 i (wpOpsIn fw 1 P ops Q js) a w):wpOpsIn fw 1 P ops Q (i::js) a w:=by
 have h:=h (fun _ _ _=>False);unfold wpOp at h;simp only[wpOpsIn];cases ho:ops[i]? with
 |none=>simpa[ho] using h
 |some o=>
   simp only[ho] at h ⊢;split at h
   . rename_i hw;rw[if_pos hw];rcases h with h|⟨_,_,_,q⟩
     . exact wpI (hn o ho hw) h
     . exact q.elim
   . rename_i hw;rw[if_neg hw];exact⟨fun _ _=>trivial,h⟩
def Goal [Rd] (P:Program) (B:Exit->Act->Ψ->Prop) (b:Nat->Value) (n:Nat) (d:List Deferred) (x:St) (w:Ψ):Prop:=
 match x.f with
 |.code c=>c.wpIn fw 1 P (post P B x.k) (Fr b n x.l d) w
 |.ops o js=>wpOpsIn fw 1 P o (post P B x.k) js (Fr b n x.l d) w
 |.ex e=>post P B x.k e (Fr b n x.l d) w
 |.ZW ops i K=>wpOp P ops (post P B x.k) i K (Fr b n x.l d) w
 |.kk K=>K (Fr b n x.l d) w
 |.any ops LJ D fuel al=>ru P .any ops (post P B x.k) (fun w=>Sp w LJ) D fuel al (Fr b n x.l d) w
def step [Rd] (P:Program) (b:Nat->Value) (n:Nat) (w:Ψ) (x:St):Option (Ψ×St):=
 match x.f with
 |.code c=>match c with
   |.seq p q=>some (w,⟨.code p,.code q::x.k,x.l⟩)
   |.block id p=>some (w,⟨.code p,.ar id::x.k,x.l⟩)
   |.scope p=>match Rd.r with
     |none=>some (w,⟨.code p,.scp::x.k,x.l⟩)
     |some _=>none
   |.skip=>some (w,⟨.ex .normal,x.k,x.l⟩)
   |.label _=>some (w,⟨.ex .normal,x.k,x.l⟩)
   |.exit id=>some (w,⟨.ex (.exit id),x.k,x.l⟩)
   |.ret=>some (w,⟨.ex .ret,x.k,x.l⟩)
   |.region _ ops false=>some (w,⟨.ops ops (List.range ops.size),x.k,x.l⟩)
   |.cond c p q=>match ev b n x.l c with
     |.bool t=>some (w,⟨.code (match t with|true=>p|false=>q),x.k,x.l⟩)
     |_=>none
   |_=>none
 |.ops ops js=>match js with
   |[]=>some (w,⟨.ex .normal,x.k,x.l⟩)
   |i::r=>match ops[i]? with
     |none=>some (w,⟨.ops ops r,x.k,x.l⟩)
     |some o=>match Region.wanted o (yl ops b n x.l) with
       |false=>some (w,⟨.ops ops r,x.k,iE o undef x.l⟩)
       |true=>match(execOp (ev b n x.l) o).run P w with
         |.ok (.value v) w'=>some (w',⟨.ops ops r,x.k,iE o v x.l⟩)
         |.ok .skip w'=>some (w',⟨.ops ops r,x.k,iE o undef x.l⟩)
         |_=>none
 |.ex e=>match x.k with
   |[]=>none
   |.to _::r=>match e with
     |.exit id=>some (w,⟨.ex (.exit id),r,x.l⟩)
     |.ret=>some (w,⟨.ex .ret,r,x.l⟩)
     |_=>none
   |.code c::r=>match e with
     |.normal=>some (w,⟨.code c,r,x.l⟩)
     |.exit id=>some (w,⟨.ex (.exit id),r,x.l⟩)
     |.ret=>some (w,⟨.ex .ret,r,x.l⟩)
     |_=>none
   |.ar id::r=>match e with
     |.normal=>some (w,⟨.ex .normal,r,x.l⟩)
     |.exit id'=>match Nat.beq id' id with
       |true=>some (w,⟨.ex .normal,r,x.l⟩)
       |false=>some (w,⟨.ex (.exit id'),r,x.l⟩)
     |.ret=>some (w,⟨.ex .ret,r,x.l⟩)
     |_=>none
   |.scp::r=>match e with
     |.normal=>some (w,⟨.ex .normal,r,x.l⟩)
     |.exit id=>some (w,⟨.ex (.exit id),r,x.l⟩)
     |.ret=>some (w,⟨.ex .ret,r,x.l⟩)
     |_=>none
 |_=>none
def run [Rd] (P:Program) (b:Nat->Value) (n:Nat):Nat->Ψ->St->Option (Ψ×St)
 |0,w,x=>some (w,x)
 |m+1,w,x=>match step P b n w x with
   |some (w',x')=>run P b n m w' x'
   |none=>none
section
variable [Rd] {P:Program} {B:Exit->Act->Ψ->Prop} {b:Nat->Value} {n:Nat} {d:List Deferred} {w w':Ψ} {x x':St}
theorem Ik(h:step P b n w x=some (w',x'))(g:Goal P B b n d x' w'):Goal P B b n d x w:=by
 obtain⟨f,k,l⟩:=x;unfold step at h;cases f with
 |code c=>
   cases c<;>simp only[reduceCtorEq,Option.some.injEq,Prod.mk.injEq] at h;case skip=>obtain⟨rfl,rfl⟩:=h;exact wpIn_skip g
   case seq p q=>obtain⟨rfl,rfl⟩:=h;exact wpIn_seq g
   case region id ops dr=>
     cases dr<;>simp only[reduceCtorEq,Option.some.injEq,Prod.mk.injEq] at h;obtain⟨rfl,rfl⟩:=h;exact wpIn_region g
   case block id p=>obtain⟨rfl,rfl⟩:=h;exact wpIn_block g
   case scope p=>
     cases hr:Rd.r with
     |none=>
       rw[hr] at h;simp only[Option.some.injEq,Prod.mk.injEq] at h;obtain⟨rfl,rfl⟩:=h;have e:(fw:Fence)=Fence.wide:=by unfold fw;rw[hr];rfl
       unfold Goal at g ⊢;simp only[post] at g ⊢;rw[e] at g ⊢;exact wpIn_wide.2 (wp_scope_straight (wpIn_wide.1 g))
     |some l=>rw[hr] at h;cases h
   case label i=>obtain⟨rfl,rfl⟩:=h;exact wpIn_label g
   case exit i=>obtain⟨rfl,rfl⟩:=h;exact wpIn_exit g
   case ret=>obtain⟨rfl,rfl⟩:=h;exact wpIn_ret g
   case cond c p q=>
     cases hc:ev b n l c<;>rw[hc] at h<;>simp only[reduceCtorEq,Option.some.injEq,Prod.mk.injEq] at h;obtain⟨rfl,rfl⟩:=h;rename_i t;cases t
     . exact wpIn_cond_false (by rw[iD];exact hc) g
     . exact wpIn_cond_true (by rw[iD];exact hc) g
 |ops ops js=>
   cases js with
   |nil=>simp only[Option.some.injEq,Prod.mk.injEq] at h;obtain⟨rfl,rfl⟩:=h;exact g
   |cons i r=>
     refine X5 (fun o ho hw=>?_) fun Q0=>?_
     . simp only[ho,fq] at h hw;rw[hw] at h;simp only at h;cases hr:(execOp (ev b n l) o).run P w with
       |halt y w1=>simp[hr] at h
       |ok y w1=>
         rw[hr] at h;cases y<;>simp only[reduceCtorEq] at h;case value v=>exact Vq hr
         case skip=>exact O8 hr
     simp only at h;cases ho:ops[i]? with
     |none=>simp only[ho,Option.some.injEq,Prod.mk.injEq] at h;obtain⟨rfl,rfl⟩:=h;simp only[wpOp,ho];exact g
     |some o=>
       simp only[ho] at h;cases hw:Region.wanted o (yl ops b n l) with
       |false=>simp only[hw,Option.some.injEq,Prod.mk.injEq] at h;obtain⟨rfl,rfl⟩:=h;exact ZI ho hw g
       |true=>
         simp only[hw] at h;cases hr:(execOp (ev b n l) o).run P w with
         |halt y w1=>simp[hr] at h
         |ok y w1=>
           rw[hr] at h;cases y<;>simp only[reduceCtorEq,Option.some.injEq,Prod.mk.injEq] at h;case value v=>obtain⟨rfl,rfl⟩:=h;exact Df ho hw hr g
           case skip=>obtain⟨rfl,rfl⟩:=h;exact Dg ho hw hr g
 |ZW _ _ _=>simp at h
 |kk _=>simp at h
 |any _ _ _ _ _=>simp at h
 |ex e=>
   cases k with
   |nil=>simp at h
   |cons t r=>
     cases t with
     |code c=>cases e<;>simp only[reduceCtorEq,Option.some.injEq,Prod.mk.injEq] at h<;>obtain⟨rfl,rfl⟩:=h<;>exact g
     |ar id=>
       cases e<;>simp only[reduceCtorEq,Option.some.injEq,Prod.mk.injEq] at h;case normal=>obtain⟨rfl,rfl⟩:=h;exact g
       case ret=>obtain⟨rfl,rfl⟩:=h;exact g
       case exit id'=>
         cases hb:Nat.beq id' id<;>simp only[hb,Option.some.injEq,Prod.mk.injEq] at h<;>obtain⟨rfl,rfl⟩:=h
         . exact Fp hb g
         . obtain rfl:=Nat.eq_of_beq_eq_true hb;exact HT g
     |scp=>cases e<;>simp only[reduceCtorEq,Option.some.injEq,Prod.mk.injEq] at h<;>obtain⟨rfl,rfl⟩:=h<;>exact g
     |to K=>cases e<;>simp only[reduceCtorEq,Option.some.injEq,Prod.mk.injEq] at h<;>obtain⟨rfl,rfl⟩:=h<;>exact g
theorem aE{m:Nat}(h:run P b n m w x=some (w',x'))(g:Goal P B b n d x' w'):Goal P B b n d x w:=by
 induction m generalizing w x with
 |zero=>simp only[run,Option.some.injEq,Prod.mk.injEq] at h;obtain⟨rfl,rfl⟩:=h;exact g
 |succ m ih=>
   simp only[run] at h;cases hs:step P b n w x with
   |none=>simp[hs] at h
   |some p=>rw[hs] at h;exact Ik hs (ih h)
end
def hd(b:Nat->Value)(n:Nat)(x:St):Option (Array Oper×List Nat×Oper):=
 match x.f with
 |.ops ops js=>match js with
   |i::r=>match ops[i]? with
     |some o=>match Region.wanted o (yl ops b n x.l) with
       |true=>match Ij o with
         |true=>some (ops,r,o)
         |false=>none
       |false=>none
     |none=>none
   |[]=>none
 |.ZW ops i _=>match ops[i]? with
   |some o=>match Region.wanted o (yl ops b n x.l) with
     |true=>some (ops,[],o)
     |false=>none
   |none=>none
 |_=>none
def nx(x:St)(q:Array Oper×List Nat×Oper)(v:Value):St:=⟨(match x.f with
 |.ZW _ _ K=>.kk K
 |_=>.ops q.1 q.2.1),x.k,iE q.2.2 v x.l⟩
def via [Rd] {α:Type} (P:Program) (b:Nat->Value) (n m:Nat) (w:Ψ) (x:St) (f:St->Option (Nat×Nat×α)):Option (Ψ×Nat×Nat×α):=
 match run P b n m w x with
 |some (w',y)=>match f y with
   |some (a,c,z)=>some (w',a,c,z)
   |none=>none
 |none=>none
def vA{α:Type}(r:Option (Ψ×Nat×Nat×α)):Option (Ψ×Nat):=match r with
 |some (w,a,_,_)=>some (w,a)
 |none=>none
def vB{α:Type}(w:Ψ)(r:Option (Ψ×Nat×Nat×α)):Option (Ψ×Nat):=match r with
 |some (_,_,c,_)=>some (w,c)
 |none=>some (w,0)
def vX{α:Type}[Inhabited α] (r:Option (Ψ×Nat×Nat×α)):α:=match r with
 |some (_,_,_,z)=>z
 |none=>default
theorem gK [Rd] {α : Type} [Inhabited α] {P : Program} {b : Nat -> Value} {n m : Nat} {w : Ψ} {x : St} {f : St -> Option (Nat × Nat × α)} (h : vA (via P b n m w x f) = vB w (via P b n m w x f)) :
   ∃a y,run P b n m w x=some (w,y)/\f y=some (a,a,vX (via P b n m w x f)):=by
 unfold via at *;cases hr:run P b n m w x with
 |none=>simp[hr,vA,vB] at h
 |some p=>
   obtain⟨w',y⟩:=p;simp only[hr] at h ⊢;cases hf:f y with
   |none=>simp[hf,vA,vB] at h
   |some q=>
     obtain⟨a,c,z⟩:=q;simp only[hf,vA,vB,Option.some.injEq,Prod.mk.injEq] at h;obtain⟨rfl,rfl⟩:=h;exact⟨a,y,rfl,hf⟩
def ldR(P:Program)(b:Nat->Value)(n:Nat)(L:List Item)(i:Nat)(x:St):Option (Nat×Nat×St):=
 match hd b n x with
 |some q=>match q.2.2.op with
   |.load t a=>match ev b n x.l a with
     |.pointer (some ⟨bk,off,none⟩)=>match L[i]? with
       |some (.ar Ob (.cells cs _ _))=>match rJ P t cs off with
         |some v=>some (bk,Ob,nx x q v)
         |none=>none
       |_=>none
     |_=>none
   |_=>none
 |none=>none
def X6(P:Program)(b:Nat->Value)(n:Nat)(L:List Item)(i:Nat)(x:St):Option (Nat×Nat×Obj×St):=
 match hd b n x with
 |some q=>match q.2.2.op with
   |.store t a y=>match ev b n x.l a with
     |.pointer (some ⟨bk,off,none⟩)=>match L[i]? with
       |some (.ar Ob (.cells cs e fz))=>match fz with
         |(0,0)=>match P.info? t with
           |some inf=>match Nat.beq inf.size (ev b n x.l y).cells.size&&((ev b n x.l y).cells.all (·.oneCell')&&Nat.ble (off+(ev b n x.l y).cells.size) cs.size) with
             |true=>some (bk,Ob,.cells (cs.toList.take off++(ev b n x.l y).cells.toList++cs.toList.drop (off+(ev b n x.l y).cells.size)).toArray e,nx x q undef)
             |false=>none
           |none=>none
         |_=>none
       |_=>none
     |_=>none
   |_=>none
 |none=>none
structure Nw where
 ob:Obj
 v:Value
 y:St
 q:Array Oper×List Nat×Oper
instance:Inhabited Nw:=⟨⟨.map #[] 0,undef,default,(#[],[],default)⟩⟩
def Oc(P:Program)(b:Nat->Value)(n:Nat)(w:Ψ)(x:St):Option (Nat×Nat×Nw):=
 match hd b n x with
 |some q=>match(execOp (ev b n x.l) q.2.2).run P { w with heap:=#[] } with
   |.ok (.value v) w'=>match w'.heap.toList with
     |[ob]=>some (0,0,⟨ob,v,x,q⟩)
     |_=>none
   |_=>none
 |none=>none
def there(v:Value)(bk:Nat):Value:=
 match v with
 |.pointer _=>.pointer (some ⟨bk,0,none⟩)
 |.slice _ k c=>.slice (some ⟨bk,0,none⟩) k c
 |.map _=>.map (some bk)
 |v=>v
section
variable [Rd] {P:Program} {B:Exit->Act->Ψ->Prop} {b:Nat->Value} {n:Nat} {d:List Deferred} {w0 w:Ψ} {x:St} {L0 L:List Item}
theorem wx{q : Array Oper × List Nat × Oper}(h : hd b n x = some q)
   (g:∀i,q.1[i]?=some q.2.2->Region.wanted q.2.2 (yl q.1 b n x.l)=true->∀(Q:Exit->Act->Ψ->Prop)(K:Act->Ψ->Prop),(∀v w',Goal P B b n d (nx x q v) w'->K (Fr b n (iE q.2.2 v x.l) d) w')->wpOp P q.1 Q i K (Fr b n x.l d) w):Goal P B b n d x w:=by
 obtain⟨f,k,l⟩:=x;unfold hd at h;cases f with
 |code c=>simp at h
 |ex e=>simp at h
 |kk K=>simp at h
 |any o L D f li=>simp at h
 |ZW ops i K=>
   simp only at h;cases ho:ops[i]? with
   |none=>simp[ho] at h
   |some o=>
     simp only[ho] at h;cases hw:Region.wanted o (yl ops b n l) with
     |false=>simp[hw] at h
     |true=>simp only[hw,Option.some.injEq] at h;subst h;exact g i ho hw _ K fun v w' hK=>hK
 |ops ops js=>
   cases js with
   |nil=>simp at h
   |cons i r=>
     simp only at h;cases ho:ops[i]? with
     |none=>simp[ho] at h
     |some o=>
       simp only[ho] at h;cases hw:Region.wanted o (yl ops b n l) with
       |false=>simp[hw] at h
       |true=>
         simp only[hw] at h;cases hn:Ij o with
         |false=>simp[hn] at h
         |true=>simp only[hn,Option.some.injEq] at h;subst h;exact X5 (fun o' Mz _=>by rw[ho] at Mz;cases Mz;exact hn) fun Q0=>g i ho hw Q0 (wpOpsIn fw 1 P ops (post P B k) r) fun v w' hK=>hK
theorem cO{q:Array Oper×List Nat×Oper}{v:Value}{w':Ψ}(h:hd b n x=some q)(hr:(execOp (ev b n x.l) q.2.2).run P w=.ok (.value v) w')(g:Goal P B b n d (nx x q v) w'):Goal P B b n d x w:=
 wx h fun _ ho hw _ K hK=>Df ho hw hr (hK _ _ g)
theorem g(m : Nat)(k : Goal P B b n d (vX (via P b n m w x fun y => some (0, 0, y))) w)
   (h:vA (via P b n m w x fun y=>some (0,0,y))=vB w (via P b n m w x fun y=>some (0,0,y)):=by kernel_rfl):Goal P B b n d x w:=by
 obtain⟨a,y,hr,hf⟩:=gK h;simp only[Option.some.injEq,Prod.mk.injEq] at hf;rw[<- hf.2.2] at k;exact aE hr k
theorem O9{i a:Nat}{x':St}(h:ldR P b n L i x=some (a,a,x'))(H:Sp w L)(k:Goal P B b n d x' w):Goal P B b n d x w:=by
 unfold ldR at h;split at h<;>try contradiction
 rename_i q hq;split at h<;>try contradiction
 rename_i t ad hop;split at h<;>try contradiction
 rename_i bk off hx;split at h<;>try contradiction
 rename_i Ob cs e fr hL;split at h<;>try contradiction
 rename_i v hv;simp only[Option.some.injEq,Prod.mk.injEq] at h;obtain⟨rfl,rfl,rfl⟩:=h;exact wx hq fun i ho hw _ K hK=>J1 ho hw hop off v hx (H.all _ (List.mem_of_getElem? hL)) hv (hK _ _ k)
theorem l(m i : Nat)(H : Hs w0 L0 w L)(k : Goal P B b n d (vX (via P b n m w x (ldR P b n L i))) w)
   (h:vA (via P b n m w x (ldR P b n L i))=vB w (via P b n m w x (ldR P b n L i)):=by kernel_rfl):Goal P B b n d x w:=by
 obtain⟨a,y,hr,hf⟩:=gK h;exact aE hr (O9 hf H.sp k)
theorem s(m i : Nat)(H : Hs w0 L0 w L)
   (k:∀w',Hs w0 L0 w' (L.set i (.ar (vA (via P b n m w x (X6 P b n L i))).get!.2 (vX (via P b n m w x (X6 P b n L i))).1))->Goal P B b n d (vX (via P b n m w x (X6 P b n L i))).2 w')
   (h:vA (via P b n m w x (X6 P b n L i))=vB w (via P b n m w x (X6 P b n L i)):=by kernel_rfl):Goal P B b n d x w:=by
 obtain⟨a,y,hr,hf⟩:=gK h;have ha:(vA (via P b n m w x (X6 P b n L i))).get!.2=a:=by unfold via;rw[hr];simp only[hf,vA];rfl
 rw[ha] at k;refine aE hr ?_;generalize vX (via P b n m w x (X6 P b n L i))=z at *;obtain⟨ob,x'⟩:=z;unfold X6 at hf;split at hf<;>try contradiction
 rename_i q hq;split at hf<;>try contradiction
 rename_i t ad vl hop;split at hf<;>try contradiction
 rename_i bk off hx;split at hf<;>try contradiction
 rename_i Ob cs e fz hL;split at hf<;>try contradiction
 split at hf<;>try contradiction
 rename_i inf ff;split at hf<;>try contradiction
 rename_i hc;simp only[Bool.and_eq_true] at hc;simp only[Option.some.injEq,Prod.mk.injEq] at hf;obtain⟨rfl,rfl,rfl,rfl⟩:=hf;exact wx hq fun i ho hw _ K hK=>Ft ho hw hop off _ hx rfl (H.sp.all _ (List.mem_of_getElem? hL)) (by rw[ff,Option.map_some,Nat.eq_of_beq_eq_true hc.1]) hc.2.1 hc.2.2 _ rfl
   (fun w' k1 k2=>hK _ _ (k w' (H.set hL k1 k2)))
theorem nw(m : Nat)(H : Hs w0 L0 w L)
   (k:∀bk w',Hs w0 L0 w' (L++[.ar bk (vX (via P b n m w x (Oc P b n w))).ob])->Goal P B b n d (nx (vX (via P b n m w x (Oc P b n w))).y (vX (via P b n m w x (Oc P b n w))).q (there (vX (via P b n m w x (Oc P b n w))).v bk)) w')
   (h:vA (via P b n m w x (Oc P b n w))=vB w (via P b n m w x (Oc P b n w)):=by kernel_rfl)
   (h2:(execOp (ev b n (vX (via P b n m w x (Oc P b n w))).y.l) (vX (via P b n m w x (Oc P b n w))).q.2.2).run P w=.ok (.value (there (vX (via P b n m w x (Oc P b n w))).v w.heap.size)) (w.alloc (vX (via P b n m w x (Oc P b n w))).ob):=by kernel_rfl):
   Goal P B b n d x w:=by
 obtain⟨a,y,hr,hf⟩:=gK h;refine aE hr ?_;generalize vX (via P b n m w x (Oc P b n w))=z at *;unfold Oc at hf;split at hf<;>try contradiction
 rename_i q hq;split at hf<;>try contradiction
 split at hf<;>try contradiction
 simp only[Option.some.injEq,Prod.mk.injEq] at hf;obtain⟨_,_,rfl⟩:=hf;exact cO hq h2 (k _ _ (H.new (Di w _) (Cf w _) (Nat.le_refl _)))
theorem v(m : Nat)(u v : Value)(e : u = v)
   (k:Goal P B b n d (nx (vX (via P b n m w x fun y=>(hd b n y).map fun q=>(0,0,y,q))).1 (vX (via P b n m w x fun y=>(hd b n y).map fun q=>(0,0,y,q))).2 v) w)
   (h:vA (via P b n m w x fun y=>(hd b n y).map fun q=>(0,0,y,q))=vB w (via P b n m w x fun y=>(hd b n y).map fun q=>(0,0,y,q)):=by kernel_rfl)
   (h2:(execOp (ev b n (vX (via P b n m w x fun y=>(hd b n y).map fun q=>(0,0,y,q))).1.l) (vX (via P b n m w x fun y=>(hd b n y).map fun q=>(0,0,y,q))).2.2.2).run P w=.ok (.value u) w:=by kernel_rfl):
   Goal P B b n d x w:=by
 obtain⟨a,y,hr,hf⟩:=gK h;refine aE hr ?_;generalize vX (via P b n m w x fun y=>(hd b n y).map fun q=>(0,0,y,q))=z at *;cases hq:hd b n y with
 |none=>simp[hq] at hf
 |some q=>
   simp only[hq,Option.map_some,Option.some.injEq,Prod.mk.injEq] at hf;obtain⟨_,_,rfl⟩:=hf;subst e;exact cO hq h2 k
theorem o(m : Nat)(v : Value){y : St}{q : Array Oper × List Nat × Oper}(hy : (via P b n m w x fun y => (hd b n y).map fun q => (0, 0, y, q)) = some (w, 0, 0, y, q))
   (h2:(execOp (ev b n y.l) q.2.2).run P w=.ok (.value v) w) (k:Goal P B b n d (nx y q v) w):Goal P B b n d x w:=by
 unfold via at hy;split at hy<;>try contradiction
 rename_i w1 y1 hr;cases hq:hd b n y1 with
 |none=>simp[hq] at hy
 |some q1=>
   simp only[hq,Option.map_some,Option.some.injEq,Prod.mk.injEq] at hy;obtain⟨rfl,_,_,rfl,rfl⟩:=hy;exact aE hr (cO hq h2 k)
def ZY(b:Nat->Value)(n:Nat)(x:St):Option (Nat×Nat×Value×St×St):=
 match x.f with
 |.code c=>match c with
   |.cond c p q=>some (0,0,ev b n x.l c,⟨.code p,x.k,x.l⟩,⟨.code q,x.k,x.l⟩)
   |_=>none
 |_=>none
theorem br(m : Nat)(T : Bool)(k1 : T = true -> Goal P B b n d (vX (via P b n m w x (ZY b n))).2.1 w)(k2 : T = false -> Goal P B b n d (vX (via P b n m w x (ZY b n))).2.2 w)
   (h:vA (via P b n m w x (ZY b n))=vB w (via P b n m w x (ZY b n)):=by kernel_rfl) (h2:(vX (via P b n m w x (ZY b n))).1=.bool T:=by kernel_rfl):Goal P B b n d x w:=by
 obtain⟨a,y,hr,hf⟩:=gK h;refine aE hr ?_;generalize vX (via P b n m w x (ZY b n))=z at *;obtain⟨f,k,l⟩:=y;unfold ZY at hf;split at hf<;>try contradiction
 rename_i c hc;split at hf<;>try contradiction
 simp only at hc;subst hc;simp only[Option.some.injEq,Prod.mk.injEq] at hf;obtain⟨_,_,rfl⟩:=hf;exact wpIn_cond_split (t:=T) (by rw[iD];exact h2) k1 k2
omit [Rd] in
theorem O_{l:List (Nat×Value)}{s:Nat}{v:Value}(h:get b l s=v):Fr b n l d=Fr b n ((s,v)::l) d:=by
 unfold Fr;congr 1;apply Array.ext
 . simp
 . intro j h1 h2;simp only[Array.getElem_ofFn,Gx.get];cases hk:Nat.beq s j with
   |true=>have:=Nat.eq_of_beq_eq_true hk;subst this;exact h
   |false=>rfl
theorem J9{x:St}{b':Nat->Value}{l':List (Nat×Value)}(h:Fr b n x.l d=Fr b' n l' d)(k:Goal P B b' n d ⟨x.f,x.k,l'⟩ w):Goal P B b n d x w:=by
 unfold Goal at *;rw[h];exact k
def say(y:St)(s:Nat)(v:Value):St:=⟨y.f,y.k,(s,v)::y.l⟩
theorem sl(m s : Nat)(u v : Value)(e : u = v)(k : Goal P B b n d (say (vX (via P b n m w x fun y => some (0, 0, y))) s v) w)
   (h:vA (via P b n m w x fun y=>some (0,0,y))=vB w (via P b n m w x fun y=>some (0,0,y)):=by kernel_rfl)
   (h2:get b (vX (via P b n m w x fun y=>some (0,0,y))).l s=u:=by kernel_rfl):Goal P B b n d x w:=by
 refine g m ?_ h;subst e;exact J9 (O_ h2) k
theorem sp(m s : Nat)(T : Bool)(k1 : T = true -> Goal P B b n d (say (vX (via P b n m w x fun y => some (0, 0, y))) s (.bool true)) w)
   (k2:T=false->Goal P B b n d (say (vX (via P b n m w x fun y=>some (0,0,y))) s (.bool false)) w)
   (h:vA (via P b n m w x fun y=>some (0,0,y))=vB w (via P b n m w x fun y=>some (0,0,y)):=by kernel_rfl)
   (h2:get b (vX (via P b n m w x fun y=>some (0,0,y))).l s=.bool T:=by kernel_rfl):Goal P B b n d x w:=by
 cases T
 . exact sl m s _ _ rfl (k2 rfl) h h2
 . exact sl m s _ _ rfl (k1 rfl) h h2
theorem fg(m : Nat)(l' : List (Nat × Value))(k : ∀ b' : Nat -> Value, Goal P B b' n d ⟨(vX (via P b n m w x fun y => some (0, 0, y))).f, (vX (via P b n m w x fun y => some (0, 0, y))).k, l'⟩ w)
   (h:vA (via P b n m w x fun y=>some (0,0,y))=vB w (via P b n m w x fun y=>some (0,0,y)):=by kernel_rfl)
   (h2:l'.map (fun p=>get b (vX (via P b n m w x fun y=>some (0,0,y))).l p.1)=l'.map (fun p=>p.2):=by kernel_rfl):Goal P B b n d x w:=
 g m (J9 (forget l' h2) (k _)) h
def X7(P:Program)(b:Nat->Value)(n:Nat)(w:Ψ)(x:St):Option (Nat×Nat×(FuncId×Array Value)×St×Array Oper×List Nat×Oper):=
 match hd b n x with
 |some q=>match(execOp (ev b n x.l) q.2.2).run P w with
   |.ok (.enter f args) _=>some (0,0,(f,args),x,q)
   |_=>none
 |none=>none
instance:Inhabited Oper:=⟨default⟩
theorem c(m : Nat)(I : List Nat)(H : Hs w0 L0 w L){f : FuncId}{args : Array Value}{L1 : List Item}
   (k:Sp w L1->∀R:Ending->Ψ->Prop,(∀v w' ZV,Hs w L1 w' ZV->(Hs w0 L0 w' (ZV++rest I L)->Goal P B b n d (nx (vX (via P b n m w x (X7 P b n w))).2.1 (vX (via P b n m w x (X7 P b n w))).2.2 v) w')->R (.returned v) w')->Calls P f args w R)
   (h:vA (via P b n m w x (X7 P b n w))=vB w (via P b n m w x (X7 P b n w)):=by kernel_rfl)
   (h2:(execOp (ev b n (vX (via P b n m w x (X7 P b n w))).2.1.l) (vX (via P b n m w x (X7 P b n w))).2.2.2.2).run P w=.ok (.enter f args) w:=by kernel_rfl)
   (hp:bB I L=some L1:=by kernel_rfl):Goal P B b n d x w:=by
 obtain⟨a,y,hr,hf⟩:=gK h;refine aE hr ?_;generalize vX (via P b n m w x (X7 P b n w))=z at *;unfold X7 at hf;split at hf<;>try contradiction
 rename_i q hq;split at hf<;>try contradiction
 simp only[Option.some.injEq,Prod.mk.injEq] at hf;obtain⟨_,_,rfl⟩:=hf;exact wx hq fun i ho hw _ K hK=>U9 ho hw h2 fun R hR=>k (H.sub I hp) R fun v w' ZV H1 hg=>hR v w' (hK _ _ (hg (H.call I hp H1)))
def X8(P:Program)(b:Nat->Value)(n:Nat)(L:List Item)(l:List (Nat×Value)):List ResultVar->List Nat->Option (List (Nat×Nat)×Θ)
 |[],_=>some ([],[])
 |.tmp t::r,I=>match X8 P b n L l r I with
   |some (e,vs)=>some (e,ev b n l (.tmp t)::vs)
   |none=>none
 |.cell a t::r,I=>match I with
   |i::I=>match ev b n l (.tmp a) with
     |.pointer (some ⟨bk,off,none⟩)=>match L[i]? with
       |some (.ar Ob (.cells cs _ _))=>match rJ P t cs off with
         |some v=>match X8 P b n L l r I with
           |some (e,vs)=>some ((bk,Ob)::e,v::vs)
           |none=>none
         |none=>none
       |_=>none
     |_=>none
   |[]=>none
def aeU(vs:Θ):Value:=match vs with
 |[v]=>v
 |vs=>.tuple vs.toArray
omit [Rd] in
inductive Dq {α β:Type} (R:α->β->Prop):List α->List β->Prop
 |nil:Dq R [] []
 |cons {x:α} {y:β} {xs:List α} {ys:List β} (h:R x y) (t:Dq R xs ys):Dq R (x::xs) (y::ys)
omit [Rd] in
theorem Dq.imp{α β:Type}{R S:α->β->Prop}(k:∀x y,R x y->S x y){xs:List α}{ys:List β}(h:Dq R xs ys):Dq S xs ys:=by
 induction h with
 |nil=>exact .nil
 |cons h _ ih=>exact .cons (k _ _ h) ih
omit [Rd] in
theorem mapM_ok{α β:Type}(f:α->Sem β)(rs:List α)(vs:List β)(h:Dq (fun r v=>(f r).run P w=.ok v w) rs vs):(rs.mapM f).run P w=.ok vs w:=by
 induction h with
 |nil=>rfl
 |cons h1 _ ih=>
   rw[List.mapM_cons];simp only[Sem.run_bind,h1,Result.andThen_ok,ih];rfl
def ZZ(P:Program)(b:Nat->Value)(n:Nat)(l:List (Nat×Value))(w:Ψ)(r:ResultVar)(v:Value):Prop:=
 match r with
 |.tmp t=>v=ev b n l (.tmp t)
 |.cell a t=>∃bk off cs e fr,ev b n l (.tmp a)=.pointer (some ⟨bk,off,none⟩)/\Has w bk (.cells cs e fr)/\rJ P t cs off=some v
omit [Rd] in
theorem Vr{rs:List ResultVar}{I:List Nat}{l:List (Nat×Value)}{e:List (Nat×Nat)}{vs:Θ}(h:X8 P b n L l rs I=some (e,vs))(he:e.map (·.1)=e.map (·.2))(H:Sp w L):Dq (ZZ P b n l w) rs vs:=by
 induction rs generalizing I e vs with
 |nil=>simp only[X8,Option.some.injEq,Prod.mk.injEq] at h;obtain⟨rfl,rfl⟩:=h;exact .nil
 |cons r rs ih=>
   cases r with
   |tmp t=>
     simp only[X8] at h;cases hr:X8 P b n L l rs I with
     |none=>simp[hr] at h
     |some p=>
       obtain⟨e1,vs1⟩:=p;simp only[hr,Option.some.injEq,Prod.mk.injEq] at h;obtain⟨rfl,rfl⟩:=h;exact .cons rfl (ih hr he)
   |cell a t=>
     simp only[X8] at h;split at h<;>try contradiction
     rename_i i I';split at h<;>try contradiction
     rename_i bk off hx;split at h<;>try contradiction
     rename_i Ob cs e' fr hL;split at h<;>try contradiction
     rename_i v hv;split at h<;>try contradiction
     rename_i e1 vs1 hr;simp only[Option.some.injEq,Prod.mk.injEq] at h;obtain⟨rfl,rfl⟩:=h;simp only[List.map_cons,List.cons.injEq] at he;obtain⟨rfl,he⟩:=he;exact .cons ⟨bk,off,cs,e',fr,hx,H.all _ (List.mem_of_getElem? hL),hv⟩ (ih hr he)
omit [Rd] in
theorem Z0{fn:Func}{l:List (Nat×Value)}{vs:Θ}(h:Dq (ZZ P b n l w) fn.results.toList vs):(results fn (Fr b n l []).tmps).run P w=.ok (aeU vs) w:=by
 unfold results;rw[Array.mapM_eq_mapM_toList];simp only[Sem.run_bind,bind_pure_comp,Sem.run_map];rw[mapM_ok _ _ vs (h.imp fun r v hr=>?_)]
 . cases vs with
   |nil=>rfl
   |cons v r=>cases r<;>rfl
 . cases r with
   |tmp t=>simp only[ZZ] at hr;subst hr;simp only[Ce];rfl
   |cell a t=>
     obtain⟨bk,off,cs,e,fr,hx,hb,hv⟩:=hr;simp only[Sem.run_bind,Ce,hx,asAddr];exact kO hb hv
def Z1(P:Program)(fn:Func)(b:Nat->Value)(n:Nat)(L:List Item)(I:List Nat)(x:St):Option (Nat×Nat×List (Nat×Nat)×Value):=
 match x.k with
 |[]=>match(match x.f with|.ex .ret=>true|.ex .normal=>true|_=>false) with
   |true=>match X8 P b n L x.l fn.results.toList I with
     |some (e,vs)=>some (0,0,e,aeU vs)
     |none=>none
   |false=>none
 |_=>none
theorem rt{fn : Func}{K : Ending -> Ψ -> Prop}(m : Nat)(I : List Nat)(H : Hs w0 L0 w L)(v : Value)(k : K (.returned v) w)
   (h:vA (via P b n m w x (Z1 P fn b n L I))=vB w (via P b n m w x (Z1 P fn b n L I)):=by kernel_rfl)
   (he:(vX (via P b n m w x (Z1 P fn b n L I))).1.map (·.1)=(vX (via P b n m w x (Z1 P fn b n L I))).1.map (·.2):=by kernel_rfl)
   (hv:(vX (via P b n m w x (Z1 P fn b n L I))).2=v:=by kernel_rfl):Goal P (bodyPost P fn K) b n [] x w:=by
 obtain⟨a,y,hr,hf⟩:=gK h;refine aE hr ?_;generalize vX (via P b n m w x (Z1 P fn b n L I))=z at *;obtain⟨f,k',l⟩:=y;unfold Z1 at hf;split at hf<;>try contradiction
 rename_i hk;split at hf<;>try contradiction
 rename_i u4;split at hf<;>try contradiction
 rename_i e vs hl;simp only[Option.some.injEq,Prod.mk.injEq] at hf;obtain⟨_,_,rfl⟩:=hf;simp only at hk u4 he hv hl;subst hk hv;have aeV:=Z0 (Vr hl he H.sp);unfold Goal;cases f with
 | ex e => cases e <;> simp only [reduceCtorEq] at u4
           . exact Gx.aeG aeV k
           . exact Gx.ret aeV k
 |code c=>simp at u4
 |ops o j=>simp at u4
 |ZW _ _ _=>simp at u4
 |kk _=>simp at u4
 |any _ _ _ _ _=>simp at u4
def Dr(fn:Func):Code:=match fn.body with
 |some c=>c
 |none=>.skip
omit [Rd] in
theorem en{P : Program}{f : FuncId}{fn : Func}{vs : Θ}{w : Ψ}{K : Ending -> Ψ -> Prop}(n : Nat)
   (hf:P.funcs[f]?=some fn) (k:@Goal rd0 P (bodyPost P fn K) (fun _=>undef) n [] ⟨.code (Dr fn),[],sC vs 0⟩ w) (hb:fn.body.isSome=true:=by kernel_rfl) (hn:fn.ntmps=n:=by kernel_rfl) (hle:Nat.ble vs.length n=true:=by kernel_rfl):Calls P f vs.toArray w K:=by
 unfold Dr at k;cases h:fn.body with
 |none=>simp[h] at hb
 |some c=>rw[h] at k;exact Gx.enter n hf h hn (Nat.le_of_ble_eq_true hle) (wpIn_wide.1 k)
structure Cd where
 p:Code
 q:Code
 k:List Kt
 l:List (Nat×Value)
instance:Inhabited Cd:=⟨⟨.skip,.skip,[],[]⟩⟩
def Ds(x:St):Option (Nat×Nat×Cd):=
 match x.f with
 |.code c=>match c with
   |.seq p q=>some (0,0,⟨p,q,x.k,x.l⟩)
   |_=>none
 |_=>none
def Z2(x:St):Option (Nat×Nat×Cd):=
 match x.f with
 |.code c=>match c with
   |.loop p=>some (0,0,⟨p,.skip,x.k,x.l⟩)
   |_=>none
 |_=>none
def Il(x:St):Option (Nat×Nat×(Act->Ψ->Prop)×List (Nat×Value)):=
 match x.f with
 |.ex e=>match e with
   |.normal=>match x.k with
     |.to K::_=>some (0,0,K,x.l)
     |_=>none
   |_=>none
 |_=>none
instance:Inhabited (Act->Ψ->Prop):=⟨fun _ _=>True⟩
omit [Rd] in
theorem wZ{F : Fence}{n : Nat}{P : Program}{Q : Exit -> Act -> Ψ -> Prop}{a : Act}{w : Ψ}{c : Code}(I : Nat -> Act -> Ψ -> Prop)(Fq : Nat)(OK : I Fq a w)
   (round:∀m a w,I m a w->c.wpIn F n P (Exit.then (fun a' w'=>∃m',m'<m/\I m' a' w') Q) a w):(Code.loop c).wpIn F n P Q a w:=by
 classical
 have low:∀(p:Φ)(k:Nat),p k->∃m,p m/\m<=k/\∀j,j<m->¬p j:=fun p k=>by
   induction k using Nat.strongRecOn with
   |_ k ih=>
     intro hk;rcases Classical.em (∃j,j<k/\p j) with⟨j,hj,hp⟩|h
     . obtain⟨m,h1,h2,h3⟩:=ih j hj hp;exact⟨m,h1,by omega,h3⟩
     . exact⟨k,hk,Nat.le_refl _,fun j hj hp=>h ⟨j,hj,hp⟩⟩
 refine wpIn_loop (fun a w=>∃m,I m a w) (fun a w=>if h:∃m,I m a w then(low (fun m=>I m a w) h.choose h.choose_spec).choose else 0) ⟨Fq,OK⟩ fun a w hI=>?_;have key:=(low (fun m=>I m a w) hI.choose hI.choose_spec).choose_spec;rw[dif_pos hI];refine wpIn_mono (round _ a w key.1) fun e a' w' hq=>?_;cases e<;>try exact hq
 obtain⟨m',eK,hI'⟩:=hq;have hx:∃m,I m a' w':=⟨m',hI'⟩;refine⟨hx,?_⟩;rw[dif_pos hx];have k2:=(low (fun m=>I m a' w') hx.choose hx.choose_spec).choose_spec;rcases Nat.lt_or_ge m' (low (fun m=>I m a' w') hx.choose hx.choose_spec).choose with q|q
 . exact absurd hI' (k2.2.2 _ q)
 . exact Nat.lt_of_le_of_lt q eK
omit [Rd] in
theorem Z3{F : Fence}{m : Nat}{P : Program}{Q : Exit -> Act -> Ψ -> Prop}{w : Ψ}{c : Code}{n' : Nat}{d' : List Deferred}(I : Nat -> List (Nat × Value) -> Ψ -> Prop)(Fq : Nat)(OJ : Nat -> Value)(HU : List (Nat × Value)){a : Act}
   (ha:a=Fr OJ n' HU d') (OK:I Fq HU w)
   (round:∀(b':Nat->Value)(z:Nat)(l':List (Nat×Value))(w':Ψ),I z l' w'->∀K:Act->Ψ->Prop,
     (∀(U_:Nat->Value)(z':Nat)(N8:List (Nat×Value))(n8:Ψ),z'<z->I z' N8 n8->K (Fr U_ n' N8 d') n8)->c.wpIn F m P (Exit.then K Q) (Fr b' n' l' d') w'):
   (Code.loop c).wpIn F m P Q a w:=by
 refine wZ (fun z a w=>∃b' l',a=Fr b' n' l' d'/\I z l' w) Fq ⟨OJ,HU,ha,OK⟩ ?_;rintro z a w ⟨b',l',rfl,hI⟩;exact round b' z l' w hI _ fun U_ z' N8 n8 eK hI'=>⟨z',eK,U_,N8,rfl,hI'⟩
theorem to(m : Nat){K : Act -> Ψ -> Prop}(l' : List (Nat × Value))(hK : K (Fr (get b (vX (via P b n m w x Il)).2) n l' d) w)
   (h:vA (via P b n m w x Il)=vB w (via P b n m w x Il):=by kernel_rfl)
   (h1:(vX (via P b n m w x Il)).1=K:=by kernel_rfl)
   (h2:l'.map (fun p=>get b (vX (via P b n m w x Il)).2 p.1)=l'.map (fun p=>p.2):=by kernel_rfl):Goal P B b n d x w:=by
 obtain⟨a,y,hr,hf⟩:=gK h;refine aE hr ?_;generalize vX (via P b n m w x Il)=z at *;subst h1;obtain⟨f,k,l⟩:=y;unfold Il at hf;split at hf<;>try contradiction
 rename_i e he;split at hf<;>try contradiction
 split at hf<;>try contradiction
 rename_i K' r hk;simp only[Option.some.injEq,Prod.mk.injEq] at hf;obtain⟨_,_,rfl⟩:=hf;simp only at he hk;subst he hk;rw[<- forget l' h2] at hK;exact hK
theorem cut(m : Nat)(I : List (Nat × Value) -> Ψ -> Prop)
   (k1:∀K:Act->Ψ->Prop,(∀b' l' w',I l' w'->K (Fr b' n l' d) w')->Goal P B b n d ⟨.code (vX (via P b n m w x Ds)).p,.to K::(vX (via P b n m w x Ds)).k,(vX (via P b n m w x Ds)).l⟩ w)
   (k2:∀b' l' w',I l' w'->Goal P B b' n d ⟨.code (vX (via P b n m w x Ds)).q,(vX (via P b n m w x Ds)).k,l'⟩ w')
   (h:vA (via P b n m w x Ds)=vB w (via P b n m w x Ds):=by kernel_rfl):Goal P B b n d x w:=by
 obtain⟨a,y,hr,hf⟩:=gK h;refine aE hr ?_;generalize vX (via P b n m w x Ds)=z at *;obtain⟨f,k,l⟩:=y;unfold Ds at hf;split at hf<;>try contradiction
 rename_i c hc;split at hf<;>try contradiction
 simp only at hc;subst hc;simp only[Option.some.injEq,Prod.mk.injEq] at hf;obtain⟨_,_,rfl⟩:=hf;exact wpIn_seq (k1 _ k2)
theorem lp(m : Nat)(I : Nat -> List (Nat × Value) -> Ψ -> Prop)(z : Nat)(l0 : List (Nat × Value))(h0 : I z l0 w)
   (k:∀(b':Nat->Value)(z:Nat)(l':List (Nat×Value))(w':Ψ),I z l' w'->∀K:Act->Ψ->Prop,(∀U_ z' N8 n8,z'<z->I z' N8 n8->K (Fr U_ n N8 d) n8)->Goal P B b' n d ⟨.code (vX (via P b n m w x Z2)).p,.to K::(vX (via P b n m w x Z2)).k,l'⟩ w')
   (h:vA (via P b n m w x Z2)=vB w (via P b n m w x Z2):=by kernel_rfl)
   (h2:l0.map (fun p=>get b (vX (via P b n m w x Z2)).l p.1)=l0.map (fun p=>p.2):=by kernel_rfl):Goal P B b n d x w:=by
 obtain⟨a,y,hr,hf⟩:=gK h;refine aE hr ?_;generalize vX (via P b n m w x Z2)=zz at *;obtain⟨f,k',l⟩:=y;unfold Z2 at hf;split at hf<;>try contradiction
 rename_i c hc;split at hf<;>try contradiction
 simp only at hc;subst hc;simp only[Option.some.injEq,Prod.mk.injEq] at hf;obtain⟨_,_,rfl⟩:=hf;exact Z3 I z (get b l) l0 (forget l0 h2) h0 k
end
section
variable {w0 w w':Ψ} {L0 L L' L1 ZV:List Item}
theorem Hs.put(H:Hs w0 L0 w L)(i:Nat){it UB:Item}(hi:L[i]?=some it)(hw:it.wr=true)(k:Kp it.fp w w')(h:UB.holds w')(hf:∀c,UB.fp c->it.fp c∨w.heap.size<=c):Hs w0 L0 w' (L.set i UB):=by
 have hm:it∈L:=List.mem_of_getElem? hi;obtain⟨pG,ei⟩:=List.getElem?_eq_some_iff.1 hi;have pw:=List.pairwise_iff_getElem.1 H.sp.Bm;have ap:∀(j:Nat)(hj:j<L.length),j≠i->apart it L[j]:=by
   intro j hj jQ;rcases Nat.lt_or_ge i j with r|r
   . have:=pw i j pG hj r;rwa [ei] at this
   . have:=pw j i hj pG (by omega);rw[ei] at this;exact this.symm
 have ap':∀(j:Nat)(hj:j<L.length),j≠i->apart UB L[j]:=by
   intro j hj jQ _ c hc X9;rcases hf c hc with q|q
   . exact ap j hj jQ (by rw[hw];rfl) c q X9
   . have:=Item.lt (H.sp.all _ (List.getElem_mem hj)) X9;omega
 have mem:∀x∈L.set i UB,x=UB∨∃(j:Nat) (hj:j<L.length),j≠i/\x=L[j]:=by
   intro x hx;obtain⟨j,hj⟩:=List.mem_iff_getElem?.1 hx;rw[List.getElem?_set] at hj;by_cases q:i=j
   . subst q;rw[if_pos rfl,if_pos pG] at hj;exact .inl (Option.some.inj hj).symm
   . rw[if_neg q] at hj;obtain⟨Uy,ej⟩:=List.getElem?_eq_some_iff.1 hj;exact .inr ⟨j,Uy,fun e=>q e.symm,ej.symm⟩
 refine H.step k (fun c q _=>⟨_,hm,hw,q⟩) ⟨fun x hx=>?_,?_⟩ (fun x hx c hc hl=>?_) (fun x hx HA c hc hl=>?_)
 . rcases mem x hx with rfl|⟨j,hj,jQ,rfl⟩
   . exact h
   . refine Item.jh (H.sp.all _ (List.getElem_mem hj)) k.size (fun c hc=>k.block c (Item.lt (H.sp.all _ (List.getElem_mem hj)) hc) (fun q=>ap j hj jQ (by rw[hw];rfl) c q hc))
 . rw[List.pairwise_iff_getElem];intro a b ha hb HB;rw[List.length_set] at ha hb;rw[List.getElem_set,List.getElem_set];split
   . split
     . omega
     . exact ap' b hb (by omega)
   . split
     . exact(ap' a ha (by omega)).symm
     . exact pw a b ha hb HB
 . rcases mem x hx with rfl|⟨j,hj,jQ,rfl⟩
   . rcases hf c hc with q|q
     . exact⟨_,hm,q⟩
     . omega
   . exact⟨_,List.getElem_mem hj,hc⟩
 . rcases mem x hx with rfl|⟨j,hj,jQ,rfl⟩
   . rcases hf c hc with q|q
     . exact⟨_,hm,hw,q⟩
     . omega
   . exact⟨_,List.getElem_mem hj,HA,hc⟩
theorem Hs.ayy(H:Hs w0 L0 w L)(i:Nat){it:Item}(UB:Item)(hi:L[i]?=some it)(hw:it.wr=true)(h:UB.holds w)(hf:∀c,UB.fp c->it.fp c):Hs w0 L0 w (L.set i UB):=
 H.put i hi hw (Kp.refl _ _) h (fun c q=>.inl (hf c q))
theorem Hs.at(H:Hs w0 L0 w L)(i:Nat){it:Item}(hi:L[i]?=some it):it.holds w:=H.sp.all _ (List.mem_of_getElem? hi)
theorem vc{w:Ψ}{e sz n:Nat}{v:Value}{xs:Θ}(h:w.ownsRow 0 e sz v n xs):∃A cap,v=.slice A n cap:=by
 rcases h.2 with⟨rfl,rfl⟩|⟨g,cap,cur,rfl,_⟩
 . exact⟨_,_,rfl⟩
 . exact⟨_,_,rfl⟩
theorem Hs.row(H:Hs w0 L0 w L)(i:Nat){e sz cap n:Nat}{A:Ω}{xs:Θ}(hi:L[i]?=some (.own e sz A cap n xs))(hn:0<n):∃g,A=some ⟨g,0,none⟩:=by
 rcases(H.at i hi).2 with⟨_,h0⟩|⟨g,dj,cur,hv,_⟩
 . omega
 . injection hv with h1;exact⟨g,h1⟩
theorem FD{w:Ψ}{e sz g cap n:Nat}{xs:Θ}(h:w.ownsRow 0 e sz (.slice (some ⟨g,0,none⟩) n cap) n xs):∃cur,Has w g (.cells cur e)/\cur.toList.take (n*sz)=xs/\n*sz<=cur.size:=by
 rcases h.2 with⟨h0,_⟩|⟨g',dj,cur,hv,_,hg,Bl,O4,o9,ht⟩
 . cases h0
 . injection hv with h1 h2 h3;injection h1 with h1;injection h1 with h1;subst h1;exact⟨cur,hg,ht,by rw[o9];exact Nat.mul_le_mul_right _ Bl⟩
def fO(P:Program)(t:TypeId)(xs:Θ)(off:Nat)(v:Value):Prop:=
 match P.underlying t with
 |some (.struct _)|some (.array _ _)=>∃i,P.info? t=some i/\off+i.size<=xs.length/\v=.agg ((xs.drop off).take i.size).toArray
 |some _=>xs[off]?=some v
 |none=>False
theorem J_{P:Program}{t:TypeId}{xs:Θ}{off k:Nat}{v:Value}{cur:Array Value}(h:fO P t xs off v)(ht:cur.toList.take k=xs):rJ P t cur off=some v:=by
 subst ht;unfold fO at h;unfold rJ;cases hu:P.underlying t with
 |none=>simp[hu] at h
 |some Dj=>
   rw[hu] at h
   have agg : (∃ i, P.info? t = some i /\ off + i.size <= (cur.toList.take k).length /\ v = .agg (((cur.toList.take k).drop off).take i.size).toArray) -> (match P.info? t with
       |some i=>match Nat.ble (off+i.size) cur.size with
         |true=>some (Value.agg ((cur.toList.drop off).take i.size).toArray)
         |false=>none
       |none=>none)=some v:=by
     rintro⟨i,hi,hl,rfl⟩
     rw[List.length_take,Array.length_toList] at hl
     simp only[hi]
     rw[Nat.ble_eq_true_of_le (by omega)]
     simp only[Option.some.injEq,Value.agg.injEq]
     congr 1
     rw[List.drop_take,List.take_take]
     congr 1
     omega
   cases Dj with
   |struct fs=>exact agg h
   |array q e=>exact agg h
   |_=>
     simp only at h ⊢;rw[List.getElem?_take] at h;split at h
     . simpa using h
     . cases h
end
def slR(b:Nat->Value)(n:Nat)(x:St):Option (Nat×Nat×St×Array Oper×List Nat×Oper):=(hd b n x).map fun q=>(0,0,x,q)
section
variable [Rd] {P:Program} {B:Exit->Act->Ψ->Prop} {b:Nat->Value} {n:Nat} {d:List Deferred} {w0 w:Ψ} {x:St} {L0 L:List Item}
theorem eR(m : Nat)(k : ∀ y : St, ∀ q : Array Oper × List Nat × Oper, y = (vX (via P b n m w x (slR b n))).1 -> q = (vX (via P b n m w x (slR b n))).2 -> hd b n y = some q -> Goal P B b n d y w)
   (h:vA (via P b n m w x (slR b n))=vB w (via P b n m w x (slR b n)):=by kernel_rfl):Goal P B b n d x w:=by
 obtain⟨a,y,hr,hf⟩:=gK h;refine aE hr ?_;cases hq:hd b n y with
 |none=>simp[slR,hq] at hf
 |some q=>
   simp only[slR,hq,Option.map_some,Option.some.injEq,Prod.mk.injEq] at hf;exact k y q (by rw[<- hf.2.2]) (by rw[<- hf.2.2]) hq
structure Ask where
 u:Θ
 t:List Nat
 y:St
 q:Array Oper×List Nat×Oper
instance:Inhabited Ask:=⟨⟨[],[],default,(#[],[],default)⟩⟩
def ask(f:St->Option Ask)(x:St):Option (Nat×Nat×Ask):=match f x with
 |some a=>some (0,0,a)
 |none=>none
theorem cP{f:St->Option Ask}{m:Nat}(h:vA (via P b n m w x (ask f))=vB w (via P b n m w x (ask f))):∃y,run P b n m w x=some (w,y)/\f y=some (vX (via P b n m w x (ask f))):=by
 obtain⟨a,y,hr,hf⟩:=gK h;unfold ask at hf;cases hq:f y with
 |none=>simp[hq] at hf
 |some z=>simp only[hq,Option.some.injEq,Prod.mk.injEq] at hf;exact⟨y,hr,hq.trans (congrArg some hf.2.2)⟩
def Ka(P:Program)(b:Nat->Value)(n:Nat)(x:St):Option Ask:=
 match hd b n x with
 |some q=>match q.2.2.op with
   |.indexAddr t s ix=>match P.underlying t with
     |some (.slice e)=>match P.info? e with
       |some inf=>some ⟨[ev b n x.l s,ev b n x.l ix],[inf.size],x,q⟩
       |none=>none
     |_=>none
   |_=>none
 |none=>none
theorem ia(m : Nat)(a : Addr)(i sz len cap : Nat){A : Ω}(hA : A = some a)(hi : i < len)
   (k:Goal P B b n d (nx (vX (via P b n m w x (ask (Ka P b n)))).y (vX (via P b n m w x (ask (Ka P b n)))).q (.pointer (some (a.add (i*sz))))) w)
   (h:vA (via P b n m w x (ask (Ka P b n)))=vB w (via P b n m w x (ask (Ka P b n))):=by kernel_rfl)
   (h2:((vX (via P b n m w x (ask (Ka P b n)))).u,(vX (via P b n m w x (ask (Ka P b n)))).t)=([.slice A len cap,.int .i64 (i:Int)],[sz]):=by kernel_rfl):Goal P B b n d x w:=by
 obtain⟨y,hr,hf⟩:=cP h;refine aE hr ?_;generalize vX (via P b n m w x (ask (Ka P b n)))=z at *;unfold Ka at hf;split at hf<;>try contradiction
 rename_i q hq;split at hf<;>try contradiction
 rename_i t s ix hop;split at hf<;>try contradiction
 rename_i e hu;split at hf<;>try contradiction
 rename_i inf ff;simp only[Option.some.injEq] at hf;subst hf;simp only[Prod.mk.injEq,List.cons.injEq,and_true] at h2;obtain⟨⟨h3,h4⟩,rfl⟩:=h2;exact cO hq (px hop e inf.size hu (by rw[ff];rfl) a hA len cap h3 .i64 i h4 hi) k
theorem ir(m g i sz len cap : Nat)(hi : i < len)
   (k:Goal P B b n d (nx (vX (via P b n m w x (ask (Ka P b n)))).y (vX (via P b n m w x (ask (Ka P b n)))).q (.pointer (some ⟨g,i*sz,none⟩))) w)
   (h:vA (via P b n m w x (ask (Ka P b n)))=vB w (via P b n m w x (ask (Ka P b n))):=by kernel_rfl)
   (h2:((vX (via P b n m w x (ask (Ka P b n)))).u,(vX (via P b n m w x (ask (Ka P b n)))).t)=([.slice (some ⟨g,0,none⟩) len cap,.int .i64 (i:Int)],[sz]):=by kernel_rfl):Goal P B b n d x w:=by
 refine ia m ⟨g,0,none⟩ i sz len cap rfl hi ?_ h h2;have e:(⟨g,0,none⟩:Addr).add (i*sz)=⟨g,i*sz,none⟩:=by unfold Addr.add;split<;>simp_all
 rw[e];exact k
def HC(b:Nat->Value)(n:Nat)(x:St):Option Ask:=
 match hd b n x with
 |some q=>match q.2.2.op with
   |.load t s=>some ⟨[ev b n x.l s],[t],x,q⟩
   |_=>none
 |none=>none
theorem lr(m i e sz t g cap c off : Nat)(xs : Θ)(H : Hs w0 L0 w L)(v : Value)(hv : fO P t xs off v)
   (k:Goal P B b n d (nx (vX (via P b n m w x (ask (HC b n)))).y (vX (via P b n m w x (ask (HC b n)))).q v) w)
   (h:vA (via P b n m w x (ask (HC b n)))=vB w (via P b n m w x (ask (HC b n))):=by kernel_rfl)
   (h2:((vX (via P b n m w x (ask (HC b n)))).u,(vX (via P b n m w x (ask (HC b n)))).t)=([.pointer (some ⟨g,off,none⟩)],[t]):=by kernel_rfl) (hi:L[i]?=some (.own e sz (some ⟨g,0,none⟩) cap c xs):=by kernel_rfl):Goal P B b n d x w:=by
 obtain⟨y,hr,hf⟩:=cP h;refine aE hr ?_;generalize vX (via P b n m w x (ask (HC b n)))=z at *;unfold HC at hf;split at hf<;>try contradiction
 rename_i q hq;split at hf<;>try contradiction
 rename_i t' s hop;simp only[Option.some.injEq] at hf;subst hf;simp only[Prod.mk.injEq,List.cons.injEq,and_true] at h2;obtain⟨h3,rfl⟩:=h2;obtain⟨cur,hg,ht,_⟩:=FD (H.at i hi);exact wx hq fun j ho hw _ K hK=>J1 ho hw hop off v h3 hg (J_ hv ht) (hK _ _ k)
theorem lo(m : Nat){a : Addr}{t c : Nat}(cs : Θ)(v : Value)(hc : w.cells? 0 a c = some cs)
   (k:Goal P B b n d (nx (vX (via P b n m w x (ask (HC b n)))).y (vX (via P b n m w x (ask (HC b n)))).q v) w)
   (h:vA (via P b n m w x (ask (HC b n)))=vB w (via P b n m w x (ask (HC b n))):=by kernel_rfl)
   (h2:((vX (via P b n m w x (ask (HC b n)))).u,(vX (via P b n m w x (ask (HC b n)))).t)=([.pointer (some a)],[t]):=by kernel_rfl)
   (hm:Nat.beq cs.length c=true:=by kernel_rfl) (hv:Fv P t cs=some v:=by kernel_rfl):Goal P B b n d x w:=by
 obtain⟨y,hr,hf⟩:=cP h;refine aE hr ?_;generalize vX (via P b n m w x (ask (HC b n)))=z at *;unfold HC at hf;split at hf<;>try contradiction
 rename_i q hq;split at hf<;>try contradiction
 rename_i t' s hop;simp only[Option.some.injEq] at hf;subst hf;simp only[Prod.mk.injEq,List.cons.injEq,and_true] at h2;obtain⟨h3,rfl⟩:=h2;exact cO hq (Ci hop cs v h3 c hc hm hv) k
def Vs(b:Nat->Value)(n:Nat)(x:St):Option Ask:=
 match hd b n x with
 |some q=>match q.2.2.op with
   |.fieldAddr t s f=>some ⟨[ev b n x.l s],[t,f],x,q⟩
   |_=>none
 |none=>none
theorem fa(m : Nat)(a : Addr)(off : Nat)
   (k:Goal P B b n d (nx (vX (via P b n m w x (ask (Vs b n)))).y (vX (via P b n m w x (ask (Vs b n)))).q (.pointer (some (a.add off)))) w)
   (h:vA (via P b n m w x (ask (Vs b n)))=vB w (via P b n m w x (ask (Vs b n))):=by kernel_rfl)
   (h2:(vX (via P b n m w x (ask (Vs b n)))).u=[.pointer (some a)]:=by kernel_rfl)
   (h3:J4 P ((vX (via P b n m w x (ask (Vs b n)))).t.getD 0 0) ((vX (via P b n m w x (ask (Vs b n)))).t.getD 1 0) off=true:=by kernel_rfl):Goal P B b n d x w:=by
 obtain⟨y,hr,hf⟩:=cP h;refine aE hr ?_;generalize vX (via P b n m w x (ask (Vs b n)))=z at *;unfold Vs at hf;split at hf<;>try contradiction
 rename_i q hq;split at hf<;>try contradiction
 rename_i t' s f hop;simp only[Option.some.injEq] at hf;subst hf;simp only[List.cons.injEq,and_true] at h2;exact cO hq (py hop a h2 off h3) k
def X_(b:Nat->Value)(n:Nat)(x:St):Option Ask:=
 match hd b n x with
 |some q=>match q.2.2.op with
   |.store t s y=>some ⟨[ev b n x.l s,ev b n x.l y],[t],x,q⟩
   |_=>none
 |none=>none
theorem sr(m i e sz t g cap c off : Nat)(xs : Θ)(H : Hs w0 L0 w L)(v : Value)(ho : off < xs.length){BA : Θ}(hx : xs.set off v = BA)
   (k:∀w',Hs w0 L0 w' (L.set i (.own e sz (some ⟨g,0,none⟩) cap c BA))->Goal P B b n d (nx (vX (via P b n m w x (ask (X_ b n)))).y (vX (via P b n m w x (ask (X_ b n)))).q undef) w')
   (h:vA (via P b n m w x (ask (X_ b n)))=vB w (via P b n m w x (ask (X_ b n))):=by kernel_rfl)
   (h2:((vX (via P b n m w x (ask (X_ b n)))).u,(vX (via P b n m w x (ask (X_ b n)))).t)=([.pointer (some ⟨g,off,none⟩),v],[t]):=by kernel_rfl)
   (hi:L[i]?=some (.own e sz (some ⟨g,0,none⟩) cap c xs):=by kernel_rfl) (hs:(P.info? t).map (·.size)=some 1:=by kernel_rfl) (hv:v.cells=#[v]:=by kernel_rfl) (h1:v.oneCell'=true:=by kernel_rfl):Goal P B b n d x w:=by
 subst hx;obtain⟨y,hr,hf⟩:=cP h;refine aE hr ?_;generalize vX (via P b n m w x (ask (X_ b n)))=z at *;unfold X_ at hf;split at hf<;>try contradiction
 rename_i q hq;split at hf<;>try contradiction
 rename_i t' s vl hop;simp only[Option.some.injEq] at hf;subst hf;simp only[Prod.mk.injEq,List.cons.injEq,and_true] at h2;obtain⟨⟨h3,h4⟩,rfl⟩:=h2;have kQ:=H.at i hi;rcases kQ.2 with⟨h0,_⟩|⟨g',dj,cur,hvv,Ya,hg,Bl,O4,o9,ht⟩
 . cases h0
 . injection hvv with q1 q2 q3;injection q1 with q1;injection q1 with q1;subst q1 q3;have hlen:xs.length=c*sz:=kQ.1;have akq:off<cur.size:=by rw[o9];exact Nat.lt_of_lt_of_le (hlen▸ho) (Nat.mul_le_mul_right _ Bl)
   refine wx hq fun j Mz hw _ K hK=>Mf Mz hw hop off v h3 h4 hg hs hv h1 akq (fun w' k1 k2=>hK _ _ (k w' ?_));refine H.put i hi rfl (Kp.mono (Kp.FB k1) (fun c hc=>by simpa[Item.fp,Value.ownBlock] using hc)) ⟨by rw[List.length_set];exact hlen,.inr ⟨g,cap,_,rfl,Ya,k2,Bl,O4,by rw[Array.size_setIfInBounds];exact o9,?_⟩⟩ (fun c hc=>.inl hc);rw[Array.toList_setIfInBounds,List.take_set,ht]
def yz(P:Program)(b:Nat->Value)(n:Nat)(x:St):Option Ask:=
 match hd b n x with
 |some q=>match q.2.2.op with
   |.call c=>match c.callee with
     |.builtin .append=>match c.args.toList,c.argTypes.toList with
       |[s,y],[t,t']=>match P.underlying t with
         |some (.slice e)=>match P.info? e with
           |some inf=>some ⟨[ev b n x.l s,ev b n x.l y],[t,t',e,inf.size,inf.bytes,(inf.zero.map (·.cells.size)).getD 0,(match inf.zero with|some _=>1|none=>0)],x,q⟩
           |none=>none
         |_=>none
       |_,_=>none
     |_=>none
   |_=>none
 |none=>none
def Pa(L:List Item)(j off k:Nat):Option (Nat×Θ):=match L[j]? with
 |some (.ar bk (.cells cs _ _))=>some (bk,(cs.toList.drop off).take k)
 |_=>none
theorem ap(m i j Pb k' off e sz t c' bk : Nat)(A : Ω)(cap c : Nat)(xs news : Θ)(H : Hs w0 L0 w L)
   (hb:(c+k')*Pb<=140737488355328) (hn:c+k'<=9223372036854775807) {BA:Θ} (hx:xs++news=BA)
   (k:∀A' dj w',Hs w0 L0 w' (L.set i (.own e sz A' dj (c+k') BA))->Goal P B b n d (nx (vX (via P b n m w x (ask (yz P b n)))).y (vX (via P b n m w x (ask (yz P b n)))).q (.slice A' (c+k') dj)) w')
   (h:vA (via P b n m w x (ask (yz P b n)))=vB w (via P b n m w x (ask (yz P b n))):=by kernel_rfl)
   (hi:L[i]?=some (.own e sz A cap c xs):=by kernel_rfl) (hj:Pa L j off (k'*sz)=some (bk,news):=by kernel_rfl)
   (h2:((vX (via P b n m w x (ask (yz P b n)))).u,(vX (via P b n m w x (ask (yz P b n)))).t)=([.slice A c cap,.slice (some ⟨bk,off,none⟩) k' c'],[t,t,e,sz,Pb,sz,1]):=by kernel_rfl)
   (hz:Nat.blt 0 sz=true:=by kernel_rfl) (hl:Nat.beq news.length (k'*sz)=true:=by kernel_rfl) (h1:news.all (·.oneCell')=true:=by kernel_rfl):Goal P B b n d x w:=by
 subst hx;unfold Pa at hj;split at hj<;>try contradiction
 rename_i Ob cs e' fr hL;simp only[Option.some.injEq,Prod.mk.injEq] at hj;obtain⟨rfl,rfl⟩:=hj;obtain⟨y,hr,hf⟩:=cP h;refine aE hr ?_;generalize vX (via P b n m w x (ask (yz P b n)))=z at *;unfold yz at hf;split at hf<;>try contradiction
 rename_i q hq;split at hf<;>try contradiction
 rename_i cl hop;split at hf<;>try contradiction
 rename_i tV;split at hf<;>try contradiction
 rename_i s yv t1 t2 hO kS;split at hf<;>try contradiction
 rename_i e1 hu;split at hf<;>try contradiction
 rename_i inf ff;simp only[Option.some.injEq] at hf;subst hf;simp only[Prod.mk.injEq,List.cons.injEq,and_true] at h2;obtain⟨⟨h3,h4⟩,rfl,rfl,rfl,rfl,rfl,h5,h6⟩:=h2;have Z4:inf.zero.map (·.cells.size)=some inf.size:=by
   cases Yb:inf.zero with
   |none=>simp[Yb] at h6
   |some zv=>simp only[Yb,Option.map_some,Option.getD_some] at h5;simp[h5]
 have wq:cl={ callee:=.builtin .append,args:=#[s,yv],argTypes:=#[t2,t2] }:=by
   obtain⟨ce,ca,ct⟩:=cl;simp only at tV hO kS;subst tV;congr 1
   . exact Array.toList_inj.1 hO
   . exact Array.toList_inj.1 kS
 refine wx hq fun jj ho hw _ K hK=>Fw ho hw (by rw[hop,wq]) e1 inf.size inf.bytes hu (by rw[ff,Option.map_some,Z4]) hz 0 h3 (H.at i hi) off k' c' h4 (H.at j hL) _ rfl (Nat.eq_of_beq_eq_true hl)
   (fun u hu=>List.all_eq_true.1 h1 u hu) (by unfold maxLen;omega) hb (Nat.zero_le _) (fun v' w' kQ hG Pc=>?_)
 obtain⟨A',dj,rfl⟩:=vc kQ;refine hK _ _ (k A' dj w' (H.put i hi rfl (Kp.FB hG) kQ (fun c hc=>?_)));rcases Pc with q|q
 . exact .inl (q.symm.trans hc)
 . exact .inr (Nat.le_of_eq (Option.some.inj (q.symm.trans hc)))
end
def drR(x:St):Option (Nat×Nat×Array Oper×List Kt×List (Nat×Value)):=
 match x.f with
 |.code c=>match c with
   |.region _ ops true=>some (0,0,ops,x.k,x.l)
   |_=>none
 |_=>none
def drX(z:Array Oper×List Kt×List (Nat×Value))(LJ:List Item)(D:List Nat):St:=⟨.any z.1 LJ D z.1.size (Array.replicate z.1.size false),z.2.1,z.2.2⟩
abbrev Tk:=Nat×Option (Nat×List Nat)
def Vt(P:Program)(b:Nat->Value)(n:Nat)(w:Ψ)(t:Tk)(x:St):Option (St×Ψ×Nat×Nat):=
 match x.f with
 |.any ops LJ D fuel al=>match fuel with
   |fuel+1=>match ops[t.1]? with
     |some o=>match Region.noSelect ops&&(Region.free .any ops al t.1&&((Region.ready .any ops al).contains t.1&&!D.contains t.1)) with
       |true=>match Region.wanted o (yl ops b n x.l) with
         |false=>some (⟨.any ops LJ D fuel (al.setIfInBounds t.1 true),x.k,iE o undef x.l⟩,w,0,0)
         |true=>match t.2 with
           |none=>match o.dst with
             |some _=>match(execOp (ev b n x.l) o).run P w with
               |.ok (.value v) w'=>some (⟨.any ops LJ D fuel (al.setIfInBounds t.1 true),x.k,iE o v x.l⟩,w',0,0)
               |_=>none
             |none=>none
           |some (j,C)=>match waits .any ops C t.1&&!C.contains t.1&&D.all C.contains&&C.all (fun c=>!al.getD c true) with
             |true=>match o.op with
               |.load ty a=>match ev b n x.l a with
                 |.pointer (some ⟨bk,off,none⟩)=>match LJ[j]? with
                   |some (.ar Ob (.cells cs _ _))=>match rJ P ty cs off with
                     |some v=>some (⟨.any ops LJ D fuel (al.setIfInBounds t.1 true),x.k,iE o v x.l⟩,w,bk,Ob)
                     |none=>none
                   |_=>none
                 |_=>none
               |_=>none
             |false=>none
       |false=>none
     |none=>none
   |0=>none
 |_=>none
def Pd(P:Program)(b:Nat->Value)(n:Nat)(w:Ψ):List Tk->St->Option (List St×List Ψ×List Nat×List Nat)
 |[],_=>some ([],[],[],[])
 |t::r,x=>match Vt P b n w t x with
   |some (y,w',p,q)=>match Pd P b n w r y with
     |some (zs,ws,ps,qs)=>some (y::zs,w'::ws,p::ps,q::qs)
     |none=>none
   |none=>none
def tkL(r:Option (List St×List Ψ×List Nat×List Nat)):List St:=match r with
 |some (zs,_)=>zs
 |none=>[]
def Pe:List St->St->St
 |[],x=>x
 |y::r,_=>Pe r y
def tkA(r:Option (List St×List Ψ×List Nat×List Nat)):List Ψ×List Nat:=match r with
 |some (_,ws,ps,_)=>(ws,ps)
 |none=>([],[0])
def tkB(w:Ψ)(r:Option (List St×List Ψ×List Nat×List Nat)):List Ψ×List Nat:=match r with
 |some (_,ws,_,qs)=>(ws.map fun _=>w,qs)
 |none=>([],[])
class Pn [Rd] (B:Exit->Act->Ψ->Prop):Prop where
 pn:∀c a w o v,B (.panic c) (Act.put a o v) w->B (.panic c) a w
 og:Rd.r=none∨∀a w,¬B .outgrown a w
instance pnB {P:Program} {fn:Func} {R:Ending->Ψ->Prop}:@Pn rd0 (bodyPost P fn R):=@Pn.mk rd0 _ (fun c a w o v h=>⟨by have:=h.1;cases o<;>exact this,h.2⟩) (.inl rfl)
theorem wpQ [Rd] {P:Program} {Q:Exit->Act->Ψ->Prop} {o:Oper} {a:Act} {w:Ψ} {K:Act->Ψ->Prop} (hn:Ij o=true) (h:o.wp P a w K Q):o.wpIn fw 1 P a w K Q:=by
 refine⟨fun _ _=>trivial,?_⟩;show o.uponIn fw 1 P a K Q ((o.semAt fw.round a.eval).run P w);rw[aeS hn];unfold Oper.wp at h;generalize (execOp a.eval o).run P w=r at *;cases r with
 |ok n w'=>
   cases n<;>simp only[Oper.upon,Oper.uponIn] at h ⊢<;>try exact h
   case enter f args=>exact⟨fun _=>Nat.le_refl _,(callsIn_wide (n:=0)).2 h⟩
   case row row args=>exact⟨fun _=>Nat.le_refl _,fun c cs hr=>by obtain⟨v,w1,r,s⟩:=h c cs;exact⟨v,w1,r,stepsIn_wide.2 s⟩⟩
 |halt y w'=>cases y<;>simp only[Oper.upon] at h ⊢<;>first|exact h.elim|exact h
theorem Vu [Rd] {P:Program} {ops:Array Oper} {Q:Exit->Act->Ψ->Prop} (hn:ops.toList.all Ij=true) (hQ:∀a w,¬Q .outgrown a w):∀(js:List Nat)(a:Act)(w:Ψ),wpOps P ops Q js a w->wpOpsIn fw 1 P ops Q js a w
 |[],_,_,h=>h
 |i::js,a,w,h=>by
   rw[wpOps_cons] at h;unfold wpOp at h;simp only[wpOpsIn];cases ho:ops[i]? with
   |none=>simp only[ho] at h;exact Vu hn hQ js _ _ h
   |some o=>
     simp only[ho] at h ⊢;have hm:Ij o=true:=List.all_eq_true.1 hn o (by simpa using Array.mem_of_getElem? ho);split at h
     . rename_i hw;rw[if_pos hw];rcases h with h|⟨_,a',w',q⟩
       . exact wpQ hm (Oper.wp_mono (fun a w=>Vu hn hQ js a w) h)
       . exact absurd q (hQ a' w')
     . rename_i hw;rw[if_neg hw];exact⟨fun _ _=>trivial,Vu hn hQ js _ _ h⟩
section
variable [Rd] {P:Program} {B:Exit->Act->Ψ->Prop} [Pn B] {b:Nat->Value} {n:Nat} {d:List Deferred} {w0 w:Ψ} {x:St} {L0 L:List Item}
theorem tW{k:List Kt}{c:List PanicEntry}{a:Act}{o:Option Tmp}{v:Value}:post P B k (.panic c) (a.put o v) w->post P B k (.panic c) a w:=by
 induction k with
 |nil=>exact Pn.pn (B:=B) c a w o v
 |cons t k ih=>cases t<;>exact ih
omit [Pn B] in
theorem Pf(h:∀a w,¬B .outgrown a w){k:List Kt}{a:Act}:¬post P B k .outgrown a w:=by
 induction k with
 |nil=>exact h a w
 |cons t k ih=>cases t<;>exact ih
theorem dr(m : Nat)(H : Hs w0 L0 w L)(J D : List Nat){LJ : List Item}(hm : P.follows .mixedOrders = true)
   (k:∀w',Hs w0 L0 w' L->Goal P B b n d (drX (vX (via P b n m w x drR)) LJ D) w')
   (h:vA (via P b n m w x drR)=vB w (via P b n m w x drR):=by kernel_rfl) (hd:(vX (via P b n m w x drR)).1.toList.all Ij=true:=by kernel_rfl):Goal P B b n d x w:=by
 obtain⟨a,y,hr,hf⟩:=gK h;refine aE hr ?_;generalize vX (via P b n m w x drR)=z at *;obtain⟨f,k',l⟩:=y;unfold drR at hf;split at hf<;>try contradiction
 rename_i c hc;split at hf<;>try contradiction
 simp only at hc;subst hc;simp only[Option.some.injEq,Prod.mk.injEq] at hf;obtain⟨_,_,rfl⟩:=hf;cases hr:Rd.r with
 |none=>
   have e:(fw:Fence)=Fence.wide:=by unfold fw;rw[hr];rfl
   unfold Goal;simp only;rw[e];exact wpIn_wide.2 (aeL D hm fun w' hE=>k w' (H.ext hE))
 |some lr=>
   have og:∀a w,¬B .outgrown a w:=(Pn.og (B:=B)).resolve_left (by rw[hr];simp);refine wpIn_region_draw fun t=>?_;simp only[Region.schedule,hm,Bool.true_or,if_true];exact Vu hd (fun a w=>Pf og) _ _ _ (wpAny_sound _ t _ _ _ (zl _ _ _ _ (k _ (H.ext (Ext.drawn w _)))))
def onK(i:Nat)(P:Program)(B:Exit->Act->Ψ->Prop)(x:St):Act->Ψ->Prop:=match x.f with
 |.any ops LJ D fuel al=>match fuel with
   |fuel+1=>fun a' w'=>(clear D (al.setIfInBounds i true)=true->Sp w' LJ)/\ru P .any ops (post P B x.k) (fun w=>Sp w LJ) D fuel (al.setIfInBounds i true) a' w'
   |0=>fun _ _=>False
 |_=>fun _ _=>False
def opsOf(x:St):Array Oper:=match x.f with
 |.any ops _ _ _ _=>ops
 |_=>#[]
def onX(i:Nat)(P:Program)(B:Exit->Act->Ψ->Prop)(x:St):St:=⟨.ZW (opsOf x) i (onK i P B x),x.k,x.l⟩
def Vv(x:St):List Nat:=match x.f with
 |.any ops _ _ fuel al=>match fuel with
   |_+1=>Region.ready .any ops al
   |0=>[]
 |_=>[]
omit [Pn B] in
theorem on(i:Nat)(k:Goal P B b n d (onX i P B x) w)(h:Vv x=[i]:=by kernel_rfl):Goal P B b n d x w:=by
 obtain⟨f,kk,l⟩:=x;cases f with
 |any ops LJ D fuel al=>
   cases fuel with
   |zero=>simp[Vv] at h
   |succ fuel=>exact OT i h k
 |_=>simp[Vv] at h
omit [Pn B] in
theorem Od(i j:Nat)(k1:Goal P B b n d (onX i P B x) w)(k2:Goal P B b n d (onX j P B x) w)(h:Vv x=[i,j]:=by kernel_rfl):Goal P B b n d x w:=by
 obtain⟨f,kk,l⟩:=x;cases f with
 |any ops LJ D fuel al=>
   cases fuel with
   |zero=>simp[Vv] at h
   |succ fuel=>
     have h':Region.ready .any ops al=[i,j]:=h;refine⟨fun h0=>absurd (h'▸h0) (by simp),fun q hq=>?_⟩;rw[h'] at hq;simp only[List.mem_cons,List.not_mem_nil,or_false] at hq;rcases hq with rfl|rfl
     . exact k1
     . exact k2
 |_=>simp[Vv] at h
def bkX(i:Nat)(x:St)(l:List (Nat×Value)):St:=match x.f with
 |.any ops LJ D fuel al=>⟨.any ops LJ D (fuel-1) (al.setIfInBounds i true),x.k,l⟩
 |_=>x
def kU(x:St):List Item:=match x.f with
 |.any _ LJ _ _ _=>LJ
 |_=>[]
def clr(i:Nat)(x:St):Bool:=match x.f with
 |.any _ _ D _ al=>clear D (al.setIfInBounds i true)
 |_=>true
def okA(x:St):Bool:=match x.f with
 |.any _ _ _ fuel _=>match fuel with
   |_+1=>true
   |0=>false
 |_=>false
omit [Pn B] in
theorem bk{x y : St}(i : Nat)(hS : clr i x = true -> Sp w (kU x))(k : Goal P B b n d (bkX i x y.l) w)
   (h:y.f=.kk (onK i P B x):=by kernel_rfl) (ho:okA x=true:=by kernel_rfl):Goal P B b n d y w:=by
 obtain⟨f,kk,l⟩:=y;simp only at h;subst h;obtain⟨fx,kx,lx⟩:=x;cases fx with
 |any ops LJ D fuel al=>
   cases fuel with
   |zero=>simp[okA] at ho
   |succ fuel=>exact⟨hS,k⟩
 |_=>simp[okA] at ho
def dnR(x:St):Option (Nat×Nat×St):=match x.f with
 |.any ops _ _ _ al=>match Region.ready .any ops al with
   |[]=>some (0,0,⟨.ex .normal,x.k,x.l⟩)
   |_=>none
 |_=>none
omit [Pn B] in
theorem dn(k:Goal P B b n d (vX (via P b n 0 w x dnR)) w)(h:vA (via P b n 0 w x dnR)=vB w (via P b n 0 w x dnR):=by kernel_rfl):Goal P B b n d x w:=by
 obtain⟨a,y,hr,hf⟩:=gK h;simp only[run,Option.some.injEq,Prod.mk.injEq,true_and] at hr;subst hr;generalize vX (via P b n 0 w x dnR)=z at *;obtain⟨f,kk,l⟩:=x;unfold dnR at hf;split at hf<;>try contradiction
 rename_i ops LJ D fuel al u4;split at hf<;>try contradiction
 rename_i hrd;simp only at u4;subst u4;simp only[Option.some.injEq,Prod.mk.injEq] at hf;obtain⟨_,_,rfl⟩:=hf;exact Mk hrd k fuel
def pL(x:St):Bool:=match x.f with
 |.any _ _ D _ al=>clear D al
 |_=>true
omit [Rd] in
theorem Pg{o:Oper}{v v':Value}{l:List (Nat×Value)}{d:Nat}(h:o.dst=some d)(e:iE o v l=iE o v' l):v=v':=by
 unfold iE at e;rw[h] at e;simp only[List.cons.injEq,Prod.mk.injEq,true_and,and_true] at e;exact e
theorem MA{t : Tk}{y : St}(h : ∀ w', ∃ q, Vt P b n w' t x = some (y, w', q, q))(hS : pL x = true -> Sp w (kU x))(k : Goal P B b n d y w) :
   Goal P B b n d x w:=by
 obtain⟨f,kk,l⟩:=x;obtain⟨i,tj⟩:=t;cases f with
 |any ops LJ D fuel al=>
   cases fuel with
   |zero=>obtain⟨q,hq⟩:=h w;simp[Vt] at hq
   |succ fuel=>
     simp only[Vt] at h;cases ho:ops[i]? with
     |none=>obtain⟨q,hq⟩:=h w;simp[ho] at hq
     |some o=>
       simp only[ho] at h;cases hc:(Region.noSelect ops&&(Region.free .any ops al i&&((Region.ready .any ops al).contains i&&!D.contains i))) with
       |false=>obtain⟨q,hq⟩:=h w;simp only[hc,reduceCtorEq] at hq
       |true=>
         simp only[hc] at h;simp only[Bool.and_eq_true,Bool.not_eq_true'] at hc;obtain⟨h1,h2,h3,h4⟩:=hc;cases hw:Region.wanted o (yl ops b n l) with
         |false=>
           obtain⟨q,hq⟩:=h w;simp only[hw,Option.some.injEq,Prod.mk.injEq] at hq;obtain⟨rfl,_⟩:=hq;exact Mj i ho h1 h2 h3 h4 (fun _ _ _=>tW) hS hw k
         |true=>
           simp only[hw] at h;cases tj with
           |none=>
             simp only at h;cases hd:o.dst with
             |none=>obtain⟨q,hq⟩:=h w;simp[hd] at hq
             |some dd=>
               simp only[hd] at h;have key:∀w',∃v,(execOp (ev b n l) o).run P w'=.ok (.value v) w'/\y=⟨.any ops LJ D fuel (al.setIfInBounds i true),kk,iE o v l⟩:=by
                 intro w';obtain⟨q,hq⟩:=h w';cases hr:(execOp (ev b n l) o).run P w' with
                 |halt a c=>simp[hr] at hq
                 |ok r n8=>
                   rw[hr] at hq;cases r<;>simp only[reduceCtorEq,Option.some.injEq,Prod.mk.injEq] at hq;obtain⟨rfl,rfl,_⟩:=hq;exact⟨_,rfl,rfl⟩
               obtain⟨v,hv,rfl⟩:=key w;refine Mi i v v rfl ho h1 h2 h3 h4 (fun _ _ _=>tW) hS hw (fun w'=>?_) k;obtain⟨v',hv',e⟩:=key w';simp only[St.mk.injEq,true_and] at e;rw[Pg hd e];exact hv'
           |some jc=>
             obtain⟨j,C⟩:=jc;obtain⟨q,hq⟩:=h w;simp only at hq;split at hq<;>try contradiction
             rename_i hC;split at hq<;>try contradiction
             rename_i ty a hop;split at hq<;>try contradiction
             rename_i bk off hx;split at hq<;>try contradiction
             rename_i Ob cs e fr hL;split at hq<;>try contradiction
             rename_i v hv;simp only[Option.some.injEq,Prod.mk.injEq] at hq;obtain⟨rfl,_,rfl,rfl⟩:=hq;have wq:clear D al=true:=by
               simp only[Bool.and_eq_true] at hC;exact zm hC.1.2 (fun c hc=>by simpa using List.all_eq_true.1 hC.2 c hc)
             exact zn i C v v rfl ho h1 h2 h3 h4 hC (fun _ _ _=>tW) (hS wq) hw (fun w' hs=>Gx.run_load hop off v hx (hs.all _ (List.mem_of_getElem? hL)) hv) k
 |_=>obtain⟨q,hq⟩:=h w;simp[Vt] at hq
omit [Rd] in
theorem MB{t:Tk}{y:St}{w':Ψ}{p q:Nat}(h:Vt P b n w t x=some (y,w',p,q)):kU y=kU x/\pL y=pL x:=by
 obtain⟨f,kk,l⟩:=x;obtain⟨i,tj⟩:=t;cases f with
 |any ops LJ D fuel al=>
   have fin:∀(Yc:Nat)(l':List (Nat×Value)),D.contains i=false->kU ⟨.any ops LJ D Yc (al.setIfInBounds i true),kk,l'⟩=LJ/\pL ⟨.any ops LJ D Yc (al.setIfInBounds i true),kk,l'⟩=clear D al:=
     fun _ _ hD=>⟨rfl,qO hD⟩
   unfold Vt at h;simp only at h;split at h<;>try contradiction
   split at h<;>try contradiction
   split at h<;>try contradiction
   rename_i hc;simp only[Bool.and_eq_true,Bool.not_eq_true'] at hc;split at h
   . simp only[Option.some.injEq,Prod.mk.injEq] at h;obtain⟨rfl,_⟩:=h;exact fin _ _ hc.2.2.2
   . split at h
     . split at h<;>try contradiction
       split at h<;>try contradiction
       simp only[Option.some.injEq,Prod.mk.injEq] at h;obtain⟨rfl,_⟩:=h;exact fin _ _ hc.2.2.2
     . split at h<;>try contradiction
       split at h<;>try contradiction
       split at h<;>try contradiction
       split at h<;>try contradiction
       split at h<;>try contradiction
       simp only[Option.some.injEq,Prod.mk.injEq] at h;obtain⟨rfl,_⟩:=h;exact fin _ _ hc.2.2.2
 |_=>simp[Vt] at h
theorem MC{ts : List Tk}{zs : List St}(h : ∀ w', ∃ ws qs, Pd P b n w' ts x = some (zs, ws, qs, qs) /\ ws = ws.map fun _ => w')(hS : pL x = true -> Sp w (kU x))(k : Goal P B b n d (Pe zs x) w) :
   Goal P B b n d x w:=by
 induction ts generalizing x zs with
 |nil=>obtain⟨ws,qs,hq,_⟩:=h w;simp only[Pd,Option.some.injEq,Prod.mk.injEq] at hq;obtain⟨rfl,_⟩:=hq;exact k
 |cons t r ih=>
   have key:∀w',∃z zs' q,zs=z::zs'/\Vt P b n w' t x=some (z,w',q,q)/\∃ws qs,Pd P b n w' r z=some (zs',ws,qs,qs)/\ws=ws.map fun _=>w':=by
     intro w';obtain⟨ws,qs,hq,hw⟩:=h w';simp only[Pd] at hq;split at hq<;>try contradiction
     rename_i z w1 p q h1;split at hq<;>try contradiction
     rename_i z' ws' ps' qs' h2;simp only[Option.some.injEq,Prod.mk.injEq] at hq;obtain⟨rfl,rfl,rfl,hqs⟩:=hq;simp only[List.cons.injEq] at hqs;obtain⟨rfl,rfl⟩:=hqs;simp only[List.map_cons,List.cons.injEq] at hw;obtain⟨rfl,hw⟩:=hw;exact⟨z,z',q,rfl,h1,ws',qs',h2,hw⟩
   obtain⟨z,zs',q,rfl,h1,_⟩:=key w;have kp:=MB h1;refine MA (t:=t) (y:=z) (fun w'=>?_) hS (ih (zs:=zs') (fun w'=>?_) (fun hc=>?_) k)
   . obtain⟨z2,zs2,q2,e,h2,_⟩:=key w';injection e with e1 _;subst e1;exact⟨q2,h2⟩
   . obtain⟨z2,zs2,q2,e,_,h3⟩:=key w';injection e with e1 e2;subst e1 e2;exact h3
   . rw[kp.1];exact hS (by rw[<- kp.2];exact hc)
theorem tk(ts : List Tk)(hS : pL x = true -> Sp w (kU x))(k : Goal P B b n d (Pe (tkL (Pd P b n w ts x)) x) w)
   (h1:(fun w'=>tkA (Pd P b n w' ts x))=(fun w'=>tkB w' (Pd P b n w' ts x)):=by kernel_rfl)
   (h2:(fun w'=>tkL (Pd P b n w' ts x))=(fun _=>tkL (Pd P b n w ts x)):=by kernel_rfl):Goal P B b n d x w:=by
 refine MC (ts:=ts) (fun w'=>?_) hS k;have a1:=congrFun h1 w';have a2:=congrFun h2 w';cases hr:Pd P b n w' ts x with
 |none=>simp[hr,tkA,tkB] at a1
 |some p=>
   obtain⟨zs,ws,ps,qs⟩:=p;rw[hr] at a1 a2;simp only[tkA,tkB,Prod.mk.injEq] at a1;obtain⟨b1,rfl⟩:=a1;refine⟨ws,ps,?_,b1⟩;rw[<- a2];rfl
end
end Go.Sx
namespace Go.Sx
open Go.RowKit Go.Gx Go.MapKept
def comp(shape:List Item->Prop)(S:Φ):Item:=.abs S (fun w=>∃L,shape L/\(∀c,Ig L c↔S c)/\(∀it∈L,it.wr=true)/\Sp w L)
theorem Sp.jh{w w':Ψ}{L:List Item}(h:Sp w L)(hs:w.heap.size<=w'.heap.size)(k:∀c,Ig L c->w'.heap[c]?=w.heap[c]?):Sp w' L:=
 ⟨fun it hi=>Item.jh (h.all it hi) hs (fun c hc=>k c ⟨it,hi,hc⟩),h.Bm⟩
theorem zy{w:Ψ}{shape:List Item->Prop}{L:List Item}(h:Sp w L)(hs:shape L)(hw:∀it∈L,it.wr=true):(comp shape (Ig L)).holds w:=by
 refine⟨⟨L,hs,fun _=>Iff.rfl,hw,h⟩,fun c ⟨it,hi,hc⟩=>Item.lt (h.all it hi) hc,?_⟩;rintro w1 w2 Ch hk ⟨L',a,b,c,d⟩;exact⟨L',a,b,c,d.jh Ch (fun c hc=>hk c ((b c).1 hc))⟩
section
variable {w0 w w':Ψ} {L0 L R L1:List Item}
theorem Hs.eR(H:Hs w0 L0 w L)(i:Nat){shape:List Item->Prop}{S:Nat->Prop}(hi:bB [i] L=some [comp shape S]):∃L',shape L'/\Hs w0 L0 w (L'++rest [i] L):=by
 have k:=H.perm (ic hi);have pw:=List.pairwise_append.1 k.sp.Bm;have hm:comp shape S∈[comp shape S]++rest [i] L:=List.mem_append_left _ (.head _);obtain⟨⟨L',a,b,c,d⟩,_,_⟩:=k.sp.all _ hm;refine⟨L',a,k.kp,⟨fun it hi=>?_,List.pairwise_append.2 ⟨d.Bm,pw.2.1,fun x hx y hy=>?_⟩⟩,fun it hi c hc hl=>?_,fun it hi hw c hc hl=>?_⟩
 . rcases List.mem_append.1 hi with q|q
   . exact d.all it q
   . exact k.sp.all it (List.mem_append_right _ q)
 . intro _ cc hcx hcy;exact pw.2.2 _ (.head _) y hy rfl cc ((b cc).1 ⟨x,hx,hcx⟩) hcy
 . rcases List.mem_append.1 hi with q|q
   . exact k.E0 _ hm c ((b c).1 ⟨it,q,hc⟩) hl
   . exact k.E0 it (List.mem_append_right _ q) c hc hl
 . rcases List.mem_append.1 hi with q|q
   . exact k.J8 _ hm rfl c ((b c).1 ⟨it,q,hc⟩) hl
   . exact k.J8 it (List.mem_append_right _ q) hw c hc hl
theorem Hs.cls(H:Hs w0 L0 w L)(I:List Nat)(hi:bB I L=some L1){shape:List Item->Prop}(hs:shape L1)(hw:L1.all (·.wr)=true):Hs w0 L0 w (comp shape (Ig L1)::rest I L):=by
 have hw':∀it∈L1,it.wr=true:=fun it hi=>List.all_eq_true.1 hw it hi;have k:=H.perm (ic hi);have pw:=List.pairwise_append.1 k.sp.Bm;refine⟨k.kp,⟨fun it hi=>?_,List.pairwise_cons.2 ⟨fun y hy=>?_,pw.2.1⟩⟩,fun it hi c hc hl=>?_,fun it hi hww c hc hl=>?_⟩
 . rcases List.mem_cons.1 hi with rfl|q
   . exact zy ⟨fun it hi=>k.sp.all it (List.mem_append_left _ hi),pw.1⟩ hs hw'
   . exact k.sp.all it (List.mem_append_right _ q)
 . rintro _ c ⟨x,hx,hc⟩ hcy;exact pw.2.2 x hx y hy (by rw[hw' x hx];rfl) c hc hcy
 . rcases List.mem_cons.1 hi with rfl|q
   . obtain⟨x,hx,hc⟩:=hc;exact k.E0 x (List.mem_append_left _ hx) c hc hl
   . exact k.E0 it (List.mem_append_right _ q) c hc hl
 . rcases List.mem_cons.1 hi with rfl|q
   . obtain⟨x,hx,hc⟩:=hc;exact k.J8 x (List.mem_append_left _ hx) (hw' x hx) c hc hl
   . exact k.J8 it (List.mem_append_right _ q) hww c hc hl
end
section
variable {α:Type} [DecidableEq α]
def pos(a:α):List (α×Value)->Option Nat
 |[]=>none
 |p::r=>if p.1=a then some 0 else(pos a r).map (·+1)
def look(a:α)(m:List (α×Value)):Option Value:=(pos a m).bind fun j=>(m[j]?).map (·.2)
def Dh(a:α)(v:Value)(m:List (α×Value)):List (α×Value):=match pos a m with
 |some j=>m.set j (a,v)
 |none=>m++[(a,v)]
def del(a:α)(m:List (α×Value)):List (α×Value):=match pos a m with
 |some j=>m.eraseIdx j
 |none=>m
def FE(kd:TypeDesc)(enc:α->Value)(es:Array MapEntry)(ck:Nat)(m:List (α×Value)):Prop:=
 Stamped es ck/\(∀x∈es.toList,IsKey kd x.key)/\es.toList.map (fun e=>(e.key,e.val))=m.map (fun p=>(enc p.1,p.2))
def t_(kd:TypeDesc)(enc:α->Value)(b:Nat)(m:List (α×Value)):Item:=.abs (fun c=>c=b) (fun w=>∃es ck,Has w b (.map es ck)/\FE kd enc es ck m)
omit [DecidableEq α] in
theorem Ph(kd:TypeDesc)(enc:α->Value)(b:Nat)(m:List (α×Value)):Loc (fun c=>c=b) (fun w=>∃es ck,Has w b (.map es ck)/\FE kd enc es ck m):=by
 rintro w w' _ hk ⟨es,ck,h1,h2⟩;exact⟨es,ck,(hk b rfl).trans h1,h2⟩
omit [DecidableEq α] in
theorem kV{kd:TypeDesc}{enc:α->Value}{b:Nat}{m:List (α×Value)}{w:Ψ}{es:Array MapEntry}{ck:Nat}(h:Has w b (.map es ck))(hm:FE kd enc es ck m):(t_ kd enc b m).holds w:=
 ⟨⟨es,ck,h,hm⟩,fun c hc=>by cases hc;exact h.lt,Ph _ _ _ _⟩
theorem jC{kd : TypeDesc}{enc : α -> Value}(hk : ∀ a, IsKey kd (enc a))(vk : ∀ a b, enc a = enc b -> a = b)(a : α) : ∀(l : List MapEntry)(m : List (α × Value))(i : Nat), l.map (fun e => (e.key, e.val)) = m.map (fun p => (enc p.1, p.2)) ->
   Instr.findNow kd (enc a) l i=some ((pos a m).bind fun j=>(m[j]?).map fun p=>(i+j,p.2))
 |[],[],_,_=>rfl
 |[],_::_,_,h=>by simp at h
 |_::_,[],_,h=>by simp at h
 |e::l,p::m,i,h=>by
   simp only[List.map_cons,List.cons.injEq,Prod.mk.injEq] at h;obtain⟨⟨h1,h2⟩,h3⟩:=h;obtain⟨r,hr,aeZ⟩:=sameNow_of_keys (hk a) (b:=e.key) (by rw[h1];exact hk p.1);have ih:=jC hk vk a l m (i+1) h3;cases r with
   |true=>
     have:a=p.1:=vk _ _ ((aeZ.1 rfl).trans h1);subst this;simp[Instr.findNow,hr,pos,h2]
   |false=>
     have jQ:¬p.1=a:=fun q=>by have:=aeZ.2 (by rw[h1,q]);cases this
     simp only[Instr.findNow,hr,ih,pos,if_neg jQ,Option.bind_map];congr 1;cases pos a m with
     |none=>rfl
     |some j=>simp only[Option.bind_some,Function.comp,List.getElem?_cons_succ];congr 1;funext q;congr 1;omega
theorem Pj{a:α}{m:List (α×Value)}(h:pos a m=none):∀p∈m,p.1≠a:=by
 induction m with
 |nil=>simp
 |cons p r ih=>
   unfold pos at h;split at h
   . cases h
   . rename_i jQ;cases hp:pos a r with
     |some j=>simp[hp] at h
     |none=>intro q hq;rcases List.mem_cons.1 hq with rfl|q';exact jQ;exact ih hp q q'
theorem pM{a:α}{m:List (α×Value)}{j:Nat}(h:pos a m=some j):∃v,m[j]?=some (a,v):=by
 induction m generalizing j with
 |nil=>simp[pos] at h
 |cons p r ih=>
   unfold pos at h;split at h
   . rename_i e;cases h;exact⟨p.2,by rw[<- e];rfl⟩
   . cases hp:pos a r with
     |none=>simp[hp] at h
     |some i=>rw[hp,Option.map_some] at h;cases h;obtain⟨v,hv⟩:=ih hp;exact⟨v,hv⟩
theorem look_eq{a:α}{m:List (α×Value)}:(pos a m).bind (fun j=>(m[j]?).map fun p=>(0+j,p.2))=match pos a m with|some j=>(look a m).map fun v=>(j,v)|none=>none:=by
 unfold look;cases hp:pos a m with
 |none=>rfl
 |some j=>simp only[Option.bind_some,Option.map_map,Nat.zero_add];rfl
theorem Co{a:α}{m:List (α×Value)}:look a m=none↔pos a m=none:=by
 unfold look;cases hp:pos a m with
 |none=>simp
 |some j=>obtain⟨v,hv⟩:=pM hp;simp[hv]
end
section
variable {α:Type} [DecidableEq α]
variable [Rd] {P:Program} {B:Exit->Act->Ψ->Prop} {b:Nat->Value} {n:Nat} {d:List Deferred} {w0 w:Ψ} {x:St} {L0 L:List Item}
def lS(P:Program)(t:TypeId):Option (TypeId×TypeId):=match P.underlying t with
 |some (.map k e)=>some (k,e)
 |_=>none
omit [Rd] in
theorem oh{t k e:TypeId}(h:lS P t=some (k,e)):P.underlying t=some (.map k e):=by
 unfold lS at h;split at h
 . rename_i k' e' hu;simp only[Option.some.injEq,Prod.mk.injEq] at h;obtain⟨rfl,rfl⟩:=h;exact hu
 . cases h
def nV(b:Nat->Value)(n:Nat)(x:St):Option Ask:=
 match hd b n x with
 |some q=>match q.2.2.op with
   |.lookup t mp ix ok=>some ⟨[ev b n x.l mp,ev b n x.l ix],[t,(match ok with|true=>1|false=>0)],x,q⟩
   |_=>none
 |none=>none
theorem lk(m i : Nat)(H : Hs w0 L0 w L){kd : TypeDesc}{enc : α -> Value}{bt t kt et : Nat}{mp : List (α × Value)}{r : Nat}(a : α)(z : Value)(hi : L[i]? = some (t_ kd enc bt mp))(hk : ∀ a, IsKey kd (enc a))(vk : ∀ a b, enc a = enc b -> a = b)
   (k:Goal P B b n d (nx (vX (via P b n m w x (ask (nV b n)))).y (vX (via P b n m w x (ask (nV b n)))).q (match r with|0=>(look a mp).getD z|_=>.tuple #[(look a mp).getD z,.bool (look a mp).isSome])) w)
   (h:vA (via P b n m w x (ask (nV b n)))=vB w (via P b n m w x (ask (nV b n))):=by kernel_rfl)
   (h2:((vX (via P b n m w x (ask (nV b n)))).u,(vX (via P b n m w x (ask (nV b n)))).t)=([.map (some bt),enc a],[t,r]):=by kernel_rfl)
   (ht:lS P t=some (kt,et):=by kernel_rfl) (nv:P.underlying kt=some kd:=by kernel_rfl) (hz:(P.info? et).bind (·.zero)=some z:=by kernel_rfl):Goal P B b n d x w:=by
 obtain⟨y,hr,hf⟩:=cP h;refine aE hr ?_;generalize vX (via P b n m w x (ask (nV b n)))=zz at *;unfold nV at hf;split at hf<;>try contradiction
 rename_i q hq;split at hf<;>try contradiction
 rename_i t' mo ix ok hop;simp only[Option.some.injEq] at hf;subst hf;simp only[Prod.mk.injEq,List.cons.injEq,and_true] at h2;obtain⟨⟨h3,h4⟩,rfl,h5⟩:=h2;obtain⟨⟨es,ck,hb,cT,Yd,hm⟩,_,_⟩:=H.at i hi;have FF:=oh ht;have ub:=jC hk vk a es.toList mp 0 hm;rw[look_eq] at ub;have Pk:(zeroValue et).run P w=.ok z w:=by
   cases ff:P.info? et with
   |none=>simp[ff] at hz
   |some inf=>rw[ff] at hz;simp only[Option.bind_some] at hz;simp[zeroValue,typeInfo,ff,hz]
 refine cO hq ?_ k;unfold execOp;have Im:=MapKept.run_getObj_map (P:=P) (w:=w) hb;have MD:(Instr.checkKey es.isEmpty 10000 kt (enc a)).run P w=.ok () w:=run_checkKey nv (hk a) _ 9999;cases hp:pos a mp with
 |none=>
   have hl:=Co.2 hp;rw[hp] at ub;have yC:=run_findKey (P:=P) (w:=w) nv ub;cases ok<;>simp only at h5<;>subst h5<;>simp[hop,h3,h4,Instr.lookup,run_underlying FF,Sem.run_bind,Im,MD,yC,Pk,hl,Result.andThen]
 |some j=>
   obtain⟨v,hv⟩:=pM hp;have hl:look a mp=some v:=by unfold look;rw[hp];simp[hv]
   rw[hp] at ub;simp only[hl,Option.map_some] at ub;have yC:=run_findKey (P:=P) (w:=w) nv ub;cases ok<;>simp only at h5<;>subst h5<;>simp[hop,h3,h4,Instr.lookup,run_underlying FF,Sem.run_bind,Im,MD,yC,hl,Result.andThen]
def rQ(b:Nat->Value)(n:Nat)(x:St):Option Ask:=
 match hd b n x with
 |some q=>match q.2.2.op with
   |.mapUpdate t mp ix v=>some ⟨[ev b n x.l mp,ev b n x.l ix,ev b n x.l v],[t],x,q⟩
   |_=>none
 |none=>none
theorem mu(m i : Nat)(H : Hs w0 L0 w L){kd : TypeDesc}{enc : α -> Value}{bt t kt et : Nat}{mp : List (α × Value)}(a : α)(v : Value)(hi : L[i]? = some (t_ kd enc bt mp))(hk : ∀ a, IsKey kd (enc a))(vk : ∀ a b, enc a = enc b -> a = b)(hsb : ∀ a, Instr.sameBits 10000 (enc a) (enc a) = true)
   (k:∀w',Hs w0 L0 w' (L.set i (t_ kd enc bt (Dh a v mp)))->Goal P B b n d (nx (vX (via P b n m w x (ask (rQ b n)))).y (vX (via P b n m w x (ask (rQ b n)))).q undef) w')
   (h:vA (via P b n m w x (ask (rQ b n)))=vB w (via P b n m w x (ask (rQ b n))):=by kernel_rfl)
   (h2:((vX (via P b n m w x (ask (rQ b n)))).u,(vX (via P b n m w x (ask (rQ b n)))).t)=([.map (some bt),enc a,v],[t]):=by kernel_rfl)
   (ht:lS P t=some (kt,et):=by kernel_rfl) (nv:P.underlying kt=some kd:=by kernel_rfl):Goal P B b n d x w:=by
 obtain⟨y,hr,hf⟩:=cP h;refine aE hr ?_;generalize vX (via P b n m w x (ask (rQ b n)))=zz at *;unfold rQ at hf;split at hf<;>try contradiction
 rename_i q hq;split at hf<;>try contradiction
 rename_i t' mo ix vo hop;simp only[Option.some.injEq] at hf;subst hf;simp only[Prod.mk.injEq,List.cons.injEq,and_true] at h2;obtain⟨⟨h3,h4,h6⟩,rfl⟩:=h2;obtain⟨⟨es,ck,hb,cT,Yd,hm⟩,_,_⟩:=H.at i hi;have FF:=oh ht;have ub:=jC hk vk a es.toList mp 0 hm;rw[look_eq] at ub;have Im:=MapKept.run_getObj_map (P:=P) (w:=w) hb;have MD:(Instr.checkKey false 10000 kt (enc a)).run P w=.ok () w:=run_checkKey nv (hk a) _ 9999;have fin:∀Z5 Z6,FE kd enc Z5 Z6 (Dh a v mp)->(execOp (ev b n y.l) q.2.2).run P w=.ok .skip { w with heap:=w.heap.setIfInBounds bt (.map Z5 Z6) }->Goal P B b n d y w:=by
   intro Z5 Z6 hm' pC;refine wx hq fun j ho hw _ K hK=>Dg ho hw pC (hK _ _ (k _ ?_));exact H.put i hi rfl (Kp.mono (Kp.FB (zg w bt _)) (fun c hc=>(Option.some.inj hc).symm)) (kV (sD _ hb) hm') (fun c hc=>.inl hc)
 cases hp:pos a mp with
 |none=>
   rw[hp] at ub;have yC:=run_findKey (P:=P) (w:=w) nv ub;have jQ:∀x∈es.toList,x.key≠enc a:=by
     intro x hx e;have:(x.key,x.val)∈es.toList.map (fun e=>(e.key,e.val)):=List.mem_map.2 ⟨x,hx,rfl⟩;rw[hm] at this;obtain⟨p,sP,e'⟩:=List.mem_map.1 this;simp only[Prod.mk.injEq] at e';exact Pj hp p sP (vk _ _ (e'.1.trans e))
   refine fin (es.push { key:=enc a,val:=v,born:=ck }) (ck+1) ⟨stamped_push cT jQ,?_,?_⟩ ?_
   . intro x hx;rw[Array.toList_push] at hx;rcases List.mem_append.1 hx with r|r
     . exact Yd x r
     . rw[List.mem_singleton.1 r];exact hk a
   . rw[Array.toList_push,List.map_append,hm];simp[Dh,hp]
   . unfold execOp;simp[hop,h3,h4,h6,Instr.mapUpdate,run_underlying FF,Sem.run_bind,Im,MD,yC,Result.andThen,MapKept.run_setObj_map _ hb]
 |some j=>
   obtain⟨v0,hv⟩:=pM hp;have hl:look a mp=some v0:=by unfold look;rw[hp];simp[hv]
   rw[hp] at ub;simp only[hl,Option.map_some] at ub;have yC:=run_findKey (P:=P) (w:=w) nv ub;have Z7:∀e,es[j]?=some e->e.key=enc a:=by
     intro e he;have h1:(es.toList.map (fun e=>(e.key,e.val)))[j]?=some (e.key,e.val):=by rw[List.getElem?_map];simp[he]
     rw[hm,List.getElem?_map,hv] at h1;simp only[Option.map_some,Option.some.injEq,Prod.mk.injEq] at h1;exact h1.1.symm
   have hlen:j<es.size:=by
     have h1:=congrArg List.length hm;simp only[List.length_map,Array.length_toList] at h1;have:=(List.getElem?_eq_some_iff.1 hv).1;omega
   refine fin (es.modify j fun e=>{ e with key:=enc a,val:=v }) ck ⟨stamped_modify cT _ _ (fun _ _=>rfl) (fun e _ he=>(Z7 e he).symm),isKey_modify Yd _ _ (fun e he=>(Z7 e he).symm),?_⟩ ?_
   . simp only[Dh,hp];apply List.ext_getElem?;intro i';have h1:=congrArg (fun l=>l[i']?) hm;simp only[List.getElem?_map] at h1 ⊢;rw[List.getElem?_set];simp only[Array.getElem?_toList,Array.getElem?_modify] at h1 ⊢;split
     . rename_i e;subst e;have:=(List.getElem?_eq_some_iff.1 hv).1;simp[hlen,this]
     . exact h1
   . unfold execOp;have hkk : ((es[j]?).map (·.key)).getD (enc a) = enc a := by
       cases he:es[j]? with
       |none=>rfl
       |some e=>simp[Z7 e he]
     simp[hop,h3,h4,h6,Instr.mapUpdate,run_underlying FF,Sem.run_bind,Im,MD,yC,Result.andThen,MapKept.run_setObj_map _ hb,hkk,Instr.keyThatStays,hsb]
omit [DecidableEq α] [Rd] in
theorem iI(kd:TypeDesc)(enc:α->Value){bt i:Nat}(H:Hs w0 L0 w L)(hi:L[i]?=some (.ar bt (.map #[] 0))):Hs w0 L0 w (L.set i (t_ kd enc bt [])):=
 H.ayy i _ hi rfl (kV (H.at i hi) ⟨stamped_empty 0,by simp,rfl⟩) (fun _ h=>h)
def Kb(b:Nat->Value)(n:Nat)(x:St):Option Ask:=
 match hd b n x with
 |some q=>match q.2.2.op with
   |.call c=>match c.callee with
     |.builtin .len=>match c.args.toList,c.argTypes.toList with
       |[s],[t]=>some ⟨[ev b n x.l s],[t],x,q⟩
       |_,_=>none
     |_=>none
   |_=>none
 |none=>none
omit [DecidableEq α] in
theorem ml(m i : Nat)(H : Hs w0 L0 w L){kd : TypeDesc}{enc : α -> Value}{bt t kt et : Nat}{mp : List (α × Value)}(hi : L[i]? = some (t_ kd enc bt mp))
   (k:Goal P B b n d (nx (vX (via P b n m w x (ask (Kb b n)))).y (vX (via P b n m w x (ask (Kb b n)))).q (.int .i64 (mp.length:Int))) w)
   (h:vA (via P b n m w x (ask (Kb b n)))=vB w (via P b n m w x (ask (Kb b n))):=by kernel_rfl)
   (h2:((vX (via P b n m w x (ask (Kb b n)))).u,(vX (via P b n m w x (ask (Kb b n)))).t)=([.map (some bt)],[t]):=by kernel_rfl)
   (ht:lS P t=some (kt,et):=by kernel_rfl):Goal P B b n d x w:=by
 obtain⟨y,hr,hf⟩:=cP h;refine aE hr ?_;generalize vX (via P b n m w x (ask (Kb b n)))=zz at *;unfold Kb at hf;split at hf<;>try contradiction
 rename_i q hq;split at hf<;>try contradiction
 rename_i cl hop;split at hf<;>try contradiction
 rename_i tV;split at hf<;>try contradiction
 rename_i s t1 hO kS;simp only[Option.some.injEq] at hf;subst hf;simp only[Prod.mk.injEq,List.cons.injEq,and_true] at h2;obtain⟨h3,rfl⟩:=h2;obtain⟨⟨es,ck,hb,cT,Yd,hm⟩,_,_⟩:=H.at i hi;have FF:=oh ht;have wq:cl={ callee:=.builtin .len,args:=#[s],argTypes:=#[t1] }:=by
   obtain⟨ce,ca,ct⟩:=cl;simp only at tV hO kS;subst tV;congr 1
   . exact Array.toList_inj.1 hO
   . exact Array.toList_inj.1 kS
 have Ch:es.size=mp.length:=by have:=congrArg List.length hm;simpa using this
 refine cO hq ?_ k;unfold execOp;rw[hop,wq];simp[h3,resolve,invoke,builtin,Builtin.len_,Builtin.lenOf,run_underlying FF,Sem.run_bind,MapKept.run_getObj_map hb,Result.andThen,Ch,goInt]
omit [Rd] in
theorem vm{β γ:Type}(f:β->γ):∀(l:List β)(i:Nat),(l.eraseIdx i).map f=(l.map f).eraseIdx i
 |[],_=>rfl
 |_::_,0=>rfl
 |x::l,i+1=>by simp only[List.eraseIdx_cons_succ,List.map_cons,vm f l i]
def Kc(b:Nat->Value)(n:Nat)(x:St):Option Ask:=
 match hd b n x with
 |some q=>match q.2.2.op with
   |.call c=>match c.callee with
     |.builtin .delete=>match c.args.toList,c.argTypes.toList with
       |[s,y],[t,t']=>some ⟨[ev b n x.l s,ev b n x.l y],[t,t'],x,q⟩
       |_,_=>none
     |_=>none
   |_=>none
 |none=>none
theorem de(m i : Nat)(H : Hs w0 L0 w L){kd : TypeDesc}{enc : α -> Value}{bt t t' kt et : Nat}{mp : List (α × Value)}(a : α)(hi : L[i]? = some (t_ kd enc bt mp))(hk : ∀ a, IsKey kd (enc a))(vk : ∀ a b, enc a = enc b -> a = b)
   (k:∀w',Hs w0 L0 w' (L.set i (t_ kd enc bt (del a mp)))->Goal P B b n d (nx (vX (via P b n m w x (ask (Kc b n)))).y (vX (via P b n m w x (ask (Kc b n)))).q (.tuple #[])) w')
   (h:vA (via P b n m w x (ask (Kc b n)))=vB w (via P b n m w x (ask (Kc b n))):=by kernel_rfl)
   (h2:((vX (via P b n m w x (ask (Kc b n)))).u,(vX (via P b n m w x (ask (Kc b n)))).t)=([.map (some bt),enc a],[t,t']):=by kernel_rfl)
   (ht:lS P t=some (kt,et):=by kernel_rfl) (nv:P.underlying kt=some kd:=by kernel_rfl):Goal P B b n d x w:=by
 obtain⟨y,hr,hf⟩:=cP h;refine aE hr ?_;generalize vX (via P b n m w x (ask (Kc b n)))=zz at *;unfold Kc at hf;split at hf<;>try contradiction
 rename_i q hq;split at hf<;>try contradiction
 rename_i cl hop;split at hf<;>try contradiction
 rename_i tV;split at hf<;>try contradiction
 rename_i s yv t1 t2 hO kS;simp only[Option.some.injEq] at hf;subst hf;simp only[Prod.mk.injEq,List.cons.injEq,and_true] at h2;obtain⟨⟨h3,h4⟩,rfl,rfl⟩:=h2;obtain⟨⟨es,ck,hb,cT,Yd,hm⟩,_,_⟩:=H.at i hi;have FF:=oh ht;have ub:=jC hk vk a es.toList mp 0 hm;rw[look_eq] at ub;have Im:=MapKept.run_getObj_map (P:=P) (w:=w) hb;have MD:(Instr.checkKey es.isEmpty 10000 kt (enc a)).run P w=.ok () w:=run_checkKey nv (hk a) _ 9999;have wq:cl={ callee:=.builtin .delete,args:=#[s,yv],argTypes:=#[t1,t2] }:=by
   obtain⟨ce,ca,ct⟩:=cl;simp only at tV hO kS;subst tV;congr 1
   . exact Array.toList_inj.1 hO
   . exact Array.toList_inj.1 kS
 have fin:∀Z5 Z6,FE kd enc Z5 Z6 (del a mp)->(execOp (ev b n y.l) q.2.2).run P w=.ok (.value (.tuple #[])) { w with heap:=w.heap.setIfInBounds bt (.map Z5 Z6) }->Goal P B b n d y w:=by
   intro Z5 Z6 hm' pC;refine cO hq pC (k _ ?_);exact H.put i hi rfl (Kp.mono (Kp.FB (zg w bt _)) (fun c hc=>(Option.some.inj hc).symm)) (kV (sD _ hb) hm') (fun c hc=>.inl hc)
 cases hp:pos a mp with
 |none=>
   rw[hp] at ub;have yC:=run_findKey (P:=P) (w:=w) nv ub;refine fin es ck ⟨cT,Yd,by simp[del,hp,hm]⟩ ?_;unfold execOp;rw[hop,wq];simp[h3,h4,resolve,invoke,builtin,Builtin.delete_,run_underlying FF,Sem.run_bind,Im,MD,yC,Result.andThen,MapKept.run_setObj_map _ hb]
 |some j=>
   obtain⟨v0,hv⟩:=pM hp;have hl:look a mp=some v0:=by unfold look;rw[hp];simp[hv]
   rw[hp] at ub;simp only[hl,Option.map_some] at ub;have yC:=run_findKey (P:=P) (w:=w) nv ub;have hlen:j<es.size:=by
     have h1:=congrArg List.length hm;simp only[List.length_map,Array.length_toList] at h1;have:=(List.getElem?_eq_some_iff.1 hv).1;omega
   have jX:(es.eraseIdxIfInBounds j).toList=es.toList.eraseIdx j:=by unfold Array.eraseIdxIfInBounds;rw[dif_pos hlen,Array.toList_eraseIdx]
   refine fin (es.eraseIdxIfInBounds j) ck ⟨stamped_erase cT j,fun x hx=>Yd x (List.mem_of_mem_eraseIdx (jX▸hx)),?_⟩ ?_
   . simp only[del,hp];rw[jX,vm,hm,vm]
   . unfold execOp;rw[hop,wq];simp[h3,h4,resolve,invoke,builtin,Builtin.delete_,run_underlying FF,Sem.run_bind,Im,MD,yC,Result.andThen,MapKept.run_setObj_map _ hb]
end
end Go.Sx
