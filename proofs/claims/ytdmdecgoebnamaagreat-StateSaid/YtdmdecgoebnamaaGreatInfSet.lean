/- Sets of numbers in memory: maps to true, in whatever order. -/
import Derived.Test.YtdmdecgoebnamaaGreatYb
import Derived.Test.YtdmdecgoebnamaaGreatSx7
import Derived.Test.YtdmdecgoebnamaaGreatMm
import Derived.Maps.AppendAt
import Derived.Test.YtdmdecgoebnamaaGreatProg
set_option linter.unusedVariables false
set_option linter.unusedSimpArgs false
namespace Go.aR
open Go.RowKit Go.Sx Go.Gx Go.MapKept
def xB(l:List Nat):List (Int×Value):=l.map fun n:Nat=>((n:Int),.bool true)
def lV(s t:List Nat):Prop:=∀n,n∈s↔n∈t
theorem lV.rfl'{s:List Nat}:lV s s:=fun _=>Iff.rfl
theorem lV.symm{s t:List Nat}(h:lV s t):lV t s:=fun n=>(h n).symm
theorem lV.trans{s t u:List Nat}(h:lV s t)(k:lV t u):lV s u:=fun n=>(h n).trans (k n)
def BC(w:Ψ)(b:Nat)(s:List Nat):Prop:=∃l,lV l s/\∃es ck,Has w b (.map es ck)/\FE (.int .i64) lU es ck (xB l)
theorem BC.jh{w w':Ψ}{b:Nat}{s:List Nat}(h:BC w b s)(k:w'.heap[b]?=w.heap[b]?):BC w' b s:=by
 obtain⟨l,h1,es,ck,h2,h3⟩:=h;exact⟨l,h1,es,ck,k.trans h2,h3⟩
theorem BC.ayy{w:Ψ}{b:Nat}{s t:List Nat}(h:BC w b s)(k:lV s t):BC w b t:=by
 obtain⟨l,h1,h2⟩:=h;exact⟨l,h1.trans k,h2⟩
def dv(b:Nat)(s:List Nat):Sx.Item:=.abs (fun c=>c=b) (fun w=>BC w b s)
theorem PQ(b:Nat)(s:List Nat):Sx.Loc (fun c=>c=b) (fun w=>BC w b s):=fun _ _ _ hk h=>h.jh (hk b rfl)
theorem sQ{w:Ψ}{b:Nat}{s:List Nat}(h:BC w b s):(dv b s).holds w:=by
 refine⟨h,fun c hc=>?_,PQ _ _⟩;obtain⟨_,_,_,_,h2,_⟩:=h;subst hc;exact Has.lt h2
abbrev smap(b:Nat)(l:List Nat):Sx.Item:=t_ (.int .i64) lU b (xB l)
section
variable {w0 w:Ψ} {L0 L:List Sx.Item}
theorem ug(H:Hs w0 L0 w L)(i:Nat){b:Nat}{s:List Nat}(hi:L[i]?=some (dv b s)):∃l,lV l s/\Hs w0 L0 w (L.set i (smap b l)):=by
 obtain⟨⟨l,h1,es,ck,h2,h3⟩,_,_⟩:=H.at i hi;exact⟨l,h1,H.ayy i _ hi rfl (kV h2 h3) (fun _ h=>h)⟩
theorem Cv(H:Hs w0 L0 w L)(i:Nat){b:Nat}{l s:List Nat}(hi:L[i]?=some (smap b l))(hm:lV l s):Hs w0 L0 w (L.set i (dv b s)):=by
 obtain⟨⟨es,ck,h2,h3⟩,_,_⟩:=H.at i hi;exact H.ayy i _ hi rfl (sQ ⟨l,hm,es,ck,h2,h3⟩) (fun _ h=>h)
theorem zJ(H:Hs w0 L0 w L)(i:Nat){b:Nat}{s t:List Nat}(hi:L[i]?=some (dv b s))(hm:lV s t):Hs w0 L0 w (L.set i (dv b t)):=
 H.ayy i _ hi rfl (sQ ((H.at i hi).1.ayy hm)) (fun _ h=>h)
theorem kE(H:Hs w0 L0 w L)(i:Nat){b:Nat}(hi:L[i]?=some (.ar b (.map #[] 0))):Hs w0 L0 w (L.set i (dv b [])):=
 H.ayy i _ hi rfl (sQ ⟨[],lV.rfl',#[],0,H.at i hi,⟨stamped_empty 0,by simp,rfl⟩⟩) (fun _ h=>h)
end
theorem Kv(q:Nat)(l:List Nat):(Sx.look (q:Int) (xB l))=if l.contains q then some (.bool true) else none:=by
 induction l with
 |nil=>rfl
 |cons n l ih=>
   rw[show xB (n::l)=((n:Int),Value.bool true)::xB l from rfl,Ct,ih];by_cases e:n=q
   . subst e;simp
   . have h1:¬((n:Int)=(q:Int)):=by omega
     have h2:(q==n)=false:=by simp;exact fun h=>e h.symm
     rw[if_neg (by simpa using h1),List.contains_cons,h2,Bool.false_or]
theorem VL(q:Nat)(l:List Nat):Dh (q:Int) (.bool true) (xB l)=xB (add l q):=by
 unfold add;induction l with
 |nil=>rfl
 |cons n l ih=>
   rw[show xB (n::l)=((n:Int),Value.bool true)::xB l from rfl,zG,ih];by_cases e:n=q
   . subst e;simp[xB]
   . have h1:¬((n:Int)=(q:Int)):=by omega
     have h2:(q==n)=false:=by simp;exact fun h=>e h.symm
     rw[if_neg (by simpa using h1),List.contains_cons,h2,Bool.false_or];split<;>rfl
theorem PR(a:Int)(p:Int×Value)(r:List (Int×Value)):del a (p::r)=if p.1=a then r else p::del a r:=by
 unfold del;rw[pos];by_cases e:p.1=a
 . rw[if_pos e,if_pos e];rfl
 . rw[if_neg e,if_neg e];cases pos a r<;>rfl
theorem yE{l:List Nat}{q n:Nat}:n∈add l q↔n∈l∨n=q:=by
 unfold add;split
 . rename_i h;have h:=List.contains_iff_mem.1 h;constructor
   . exact .inl
   . rintro(h'|rfl)
     . exact h'
     . exact h
 . simp
theorem PS{es:Array MapEntry}{ck:Nat}{l:List Nat}(h:FE (.int .i64) lU es ck (xB l)):l.Nodup:=by
 obtain⟨h1,_,h3⟩:=h;have hp:=((stamped_iff es ck).1 h1).2.2;have e:es.toList.map (·.key)=l.map fun n:Nat=>lU (n:Int):=by
   have:=congrArg (List.map Prod.fst) h3;simpa[xB,Function.comp_def] using this
 have:(es.toList.map (·.key)).Nodup:=by unfold List.Nodup;rw[List.pairwise_map];exact hp
 rw[e] at this;rw[List.Nodup,List.pairwise_map] at this;exact this.imp fun h e=>h (by rw[e])
theorem VM{q:Nat}{l:List Nat}(h:l.Nodup):del (q:Int) (xB l)=xB (l.filter fun n=>n != q):=by
 induction l with
 |nil=>rfl
 |cons n l ih=>
   obtain⟨h1,h2⟩:=List.nodup_cons.1 h;rw[show xB (n::l)=((n:Int),Value.bool true)::xB l from rfl,PR,ih h2];by_cases e:n=q
   . subst e;rw[if_pos rfl,List.filter_cons];simp only[bne_self_eq_false,Bool.false_eq_true,if_false];congr 1;refine(List.filter_eq_self.2 fun y hy=>?_).symm;have:y≠n:=fun q=>h1 (q▸hy);simp[this]
   . have h3:¬((n:Int)=(q:Int)):=by omega
     rw[if_neg (by simpa using h3),List.filter_cons];simp[e,xB]
theorem rS{s t:List Nat}(h:lV s t)(q:Nat):s.contains q=t.contains q:=by
 rw[Bool.eq_iff_iff,List.contains_iff_mem,List.contains_iff_mem];exact h q
section
variable {P:Program} {B:Exit->Act->Ψ->Prop} {b:Nat->Value} {n:Nat} {d:List Deferred} {w0 w:Ψ} {x:St} {L0 L:List Sx.Item}
theorem lkb(m i bt q : Nat)(s : List Nat)(H : Hs w0 L0 w L){t kt et : Nat}(hi : L[i]? = some (dv bt s))
   (k:Goal P B b n d (Sx.nx (vX (via P b n m w x (Sx.ask (nV b n)))).y (vX (via P b n m w x (Sx.ask (nV b n)))).q (.bool (s.contains q))) w)
   (h:vA (via P b n m w x (Sx.ask (nV b n)))=vB w (via P b n m w x (Sx.ask (nV b n))):=by kernel_rfl)
   (h2:((vX (via P b n m w x (Sx.ask (nV b n)))).u,(vX (via P b n m w x (Sx.ask (nV b n)))).t)=([.map (some bt),.int .i64 (q:Int)],[t,0]):=by kernel_rfl)
   (ht:lS P t=some (kt,et):=by kernel_rfl) (nv:P.underlying kt=some (.int .i64):=by kernel_rfl) (hz:(P.info? et).bind (·.zero)=some (.bool false):=by kernel_rfl):Goal P B b n d x w:=by
 obtain⟨l,hl,H'⟩:=ug H i hi;have hlen:=(List.getElem?_eq_some_iff.1 hi).1;refine lk (r:=0) m i H' (q:Int) (.bool false) (List.getElem?_set_self hlen) BB Dx ?_ h h2 ht nv hz;rw[show(Sx.look (q:Int) (xB l)).getD (.bool false)=.bool (s.contains q) by rw[Kv,rS hl];cases s.contains q<;>rfl];exact k
theorem mub(m i bt q : Nat)(s : List Nat)(H : Hs w0 L0 w L){t kt et : Nat}(hi : L[i]? = some (dv bt s))
   (k:∀w',Hs w0 L0 w' (L.set i (dv bt (add s q)))->Goal P B b n d (Sx.nx (vX (via P b n m w x (Sx.ask (rQ b n)))).y (vX (via P b n m w x (Sx.ask (rQ b n)))).q undef) w')
   (h:vA (via P b n m w x (Sx.ask (rQ b n)))=vB w (via P b n m w x (Sx.ask (rQ b n))):=by kernel_rfl)
   (h2:((vX (via P b n m w x (Sx.ask (rQ b n)))).u,(vX (via P b n m w x (Sx.ask (rQ b n)))).t)=([.map (some bt),.int .i64 (q:Int),.bool true],[t]):=by kernel_rfl)
   (ht:lS P t=some (kt,et):=by kernel_rfl) (nv:P.underlying kt=some (.int .i64):=by kernel_rfl):Goal P B b n d x w:=by
 obtain⟨l,hl,H'⟩:=ug H i hi;have hlen:=(List.getElem?_eq_some_iff.1 hi).1;refine mu m i H' (q:Int) (.bool true) (List.getElem?_set_self hlen) BB Dx PE (fun w' H2=>?_) h h2 ht nv;rw[VL,List.set_set] at H2;have H3:=Cv H2 i (List.getElem?_set_self hlen) (s:=add s q) (fun n=>by rw[yE,yE,hl n]);rw[List.set_set] at H3;exact k w' H3
theorem deb(m i bt q : Nat)(s : List Nat)(H : Hs w0 L0 w L){t t' kt et : Nat}(hi : L[i]? = some (dv bt s))
   (k:∀w',Hs w0 L0 w' (L.set i (dv bt (s.filter fun n=>n != q)))->Goal P B b n d (Sx.nx (vX (via P b n m w x (Sx.ask (Kc b n)))).y (vX (via P b n m w x (Sx.ask (Kc b n)))).q (.tuple #[])) w')
   (h:vA (via P b n m w x (Sx.ask (Kc b n)))=vB w (via P b n m w x (Sx.ask (Kc b n))):=by kernel_rfl)
   (h2:((vX (via P b n m w x (Sx.ask (Kc b n)))).u,(vX (via P b n m w x (Sx.ask (Kc b n)))).t)=([.map (some bt),.int .i64 (q:Int)],[t,t']):=by kernel_rfl)
   (ht:lS P t=some (kt,et):=by kernel_rfl) (nv:P.underlying kt=some (.int .i64):=by kernel_rfl):Goal P B b n d x w:=by
 obtain⟨l,hl,H'⟩:=ug H i hi;have hlen:=(List.getElem?_eq_some_iff.1 hi).1;have hnd:l.Nodup:=by obtain⟨⟨es,ck,_,hm⟩,_,_⟩:=H'.at i (List.getElem?_set_self hlen);exact PS hm
 refine de m i H' (q:Int) (List.getElem?_set_self hlen) BB Dx (fun w' H2=>?_) h h2 ht nv;rw[VM hnd,List.set_set] at H2;have H3:=Cv H2 i (List.getElem?_set_self hlen) (s:=s.filter fun n=>n != q) (fun n=>by rw[List.mem_filter,List.mem_filter,hl n]);rw[List.set_set] at H3;exact k w' H3
abbrev Yl(bt r:Nat)(l left:List Nat)(cur:Option Nat):Sx.Item:=itI (.int .i64) lU bt r (xB l) (xB left) (cur.map fun n:Nat=>((n:Int),.bool true))
theorem rgb(m i bt : Nat)(s : List Nat)(H : Hs w0 L0 w L){t kt et : Nat}(hi : L[i]? = some (dv bt s))
   (k:∀l r w',lV l s->Hs w0 L0 w' (L.set i (Yl bt r l l none))->Goal P B b n d (Sx.nx (vX (via P b n m w x (Sx.ask (Ku b n)))).y (vX (via P b n m w x (Sx.ask (Ku b n)))).q (.pointer (some ⟨r,0,none⟩))) w')
   (h:vA (via P b n m w x (Sx.ask (Ku b n)))=vB w (via P b n m w x (Sx.ask (Ku b n))):=by kernel_rfl)
   (h2:((vX (via P b n m w x (Sx.ask (Ku b n)))).u,(vX (via P b n m w x (Sx.ask (Ku b n)))).t)=([.map (some bt)],[t]):=by kernel_rfl)
   (ht:lS P t=some (kt,et):=by kernel_rfl):Goal P B b n d x w:=by
 obtain⟨l,hl,H'⟩:=ug H i hi;have hlen:=(List.getElem?_eq_some_iff.1 hi).1;refine rg m i H' (List.getElem?_set_self hlen) (fun r w' H2=>?_) h h2 ht;rw[List.set_set] at H2;exact k l r w' hl H2
theorem ntb(m i : Nat){bt r : Nat}{l left : List Nat}{cur : Option Nat}(H : Hs w0 L0 w L)(hi : L[i]? = some (Yl bt r l left cur))
   (k0:left=[]->Goal P B b n d (Sx.nx (vX (via P b n m w x (Sx.ask (HF b n)))).y (vX (via P b n m w x (Sx.ask (HF b n)))).q (.tuple #[.bool false])) w)
   (k1:∀q pP w',left.Perm (q::pP)->Hs w0 L0 w' (L.set i (Yl bt r l pP (some q)))->Goal P B b n d (Sx.nx (vX (via P b n m w x (Sx.ask (HF b n)))).y (vX (via P b n m w x (Sx.ask (HF b n)))).q (.tuple #[.bool true,.int .i64 (q:Int),.bool true])) w')
   (h:vA (via P b n m w x (Sx.ask (HF b n)))=vB w (via P b n m w x (Sx.ask (HF b n))):=by kernel_rfl)
   (h2:(vX (via P b n m w x (Sx.ask (HF b n)))).u=[.pointer (some ⟨r,0,none⟩)]:=by kernel_rfl):Goal P B b n d x w:=by
 refine nt m i H hi (fun e=>k0 (by cases left with|nil=>rfl|cons _ _=>simp[xB] at e)) (fun p pP w' hp H2=>?_) h h2;have Mg:∀z∈p::pP,∃n:Nat,z=((n:Int),Value.bool true):=by
   intro z hz;have:=hp.symm.subset hz;obtain⟨n,_,rfl⟩:=List.mem_map.1 this;exact⟨n,rfl⟩
 obtain⟨q,rfl⟩:=Mg p (.head _);have VK:pP=xB (pP.map fun z=>z.1.toNat):=by
   unfold xB;rw[List.map_map];conv=>lhs;rw[<- List.map_id pP]
   refine List.map_congr_left fun z hz=>?_;obtain⟨n,rfl⟩:=Mg z (.tail _ hz);simp
 have hpp:left.Perm (q::pP.map fun z=>z.1.toNat):=by
   have:=hp.map fun z=>z.1.toNat
   simpa[xB,Function.comp_def] using this
 rw[VK] at H2;exact k1 q _ w' hpp H2
theorem VN(m i : Nat){bt r q : Nat}{l left : List Nat}(H : Hs w0 L0 w L)(hi : L[i]? = some (Yl bt r l left (some q)))
   (k:Goal P B b n d (Sx.nx (vX (via P b n m w x (Sx.ask (Og b n)))).y (vX (via P b n m w x (Sx.ask (Og b n)))).q (.tuple #[.int .i64 (q:Int),.bool true])) w)
   (h:vA (via P b n m w x (Sx.ask (Og b n)))=vB w (via P b n m w x (Sx.ask (Og b n))):=by kernel_rfl)
   (h2:(vX (via P b n m w x (Sx.ask (Og b n)))).u=[.pointer (some ⟨r,0,none⟩)]:=by kernel_rfl):Goal P B b n d x w:=
 ent m i (p:=((q:Int),.bool true)) H hi k h h2
def Dy(w:Ψ)(S:Φ)(o:Option Nat)(s:List Nat):Prop:=match o with
 |none=>s=[]
 |some k=>S k/\BC w k s
theorem Dy.jh{w w':Ψ}{S:Nat->Prop}{o:Option Nat}{s:List Nat}(h:Dy w S o s)(k:∀c,S c->w'.heap[c]?=w.heap[c]?):Dy w' S o s:=by
 cases o with
 |none=>exact h
 |some b=>exact⟨h.1,h.2.jh (k b h.1)⟩
theorem Dy.mono{w:Ψ}{S S':Nat->Prop}{o:Option Nat}{s:List Nat}(h:Dy w S o s)(k:∀c,S c->S' c):Dy w S' o s:=by
 cases o with
 |none=>exact h
 |some b=>exact⟨k _ h.1,h.2⟩
theorem lkr(m : Nat){S : Nat -> Prop}{o : Option Nat}(q : Nat)(s : List Nat)(hs : Dy w S o s){t kt et : Nat}
   (k:Goal P B b n d (Sx.nx (vX (via P b n m w x (Sx.ask (nV b n)))).y (vX (via P b n m w x (Sx.ask (nV b n)))).q (.bool (s.contains q))) w)
   (h:vA (via P b n m w x (Sx.ask (nV b n)))=vB w (via P b n m w x (Sx.ask (nV b n))):=by kernel_rfl)
   (h2:((vX (via P b n m w x (Sx.ask (nV b n)))).u,(vX (via P b n m w x (Sx.ask (nV b n)))).t)=([.map o,.int .i64 (q:Int)],[t,0]):=by kernel_rfl)
   (ht:lS P t=some (kt,et):=by kernel_rfl) (nv:P.underlying kt=some (.int .i64):=by kernel_rfl) (hz:(P.info? et).bind (·.zero)=some (.bool false):=by kernel_rfl):Goal P B b n d x w:=by
 cases o with
 |some bt=>
   obtain⟨_,l,hl,es,ck,h3,h4⟩:=hs;have H:Hs w [smap bt l] w [smap bt l]:=Hs.refl ⟨fun it hi=>by rw[List.mem_singleton.1 hi];exact kV h3 h4,List.pairwise_singleton _ _⟩;refine lk (r:=0) m 0 H (q:Int) (.bool false) rfl BB Dx ?_ h h2 ht nv hz;rw[show(Sx.look (q:Int) (xB l)).getD (.bool false)=.bool (s.contains q) by rw[Kv,rS hl];cases s.contains q<;>rfl];exact k
 |none=>
   have hs:s=[]:=hs;subst hs;obtain⟨y,hr,hf⟩:=cP h;refine aE hr ?_;generalize vX (via P b n m w x (Sx.ask (nV b n)))=zz at *;unfold nV at hf;split at hf<;>try contradiction
   rename_i q' hq;split at hf<;>try contradiction
   rename_i t' mo ix ok hop;simp only[Option.some.injEq] at hf;subst hf;simp only[Prod.mk.injEq,List.cons.injEq,and_true] at h2;obtain⟨⟨h3,h4⟩,rfl,h5⟩:=h2;have FF:=oh ht;have Pk:(zeroValue et).run P w=.ok (.bool false) w:=by
     cases ff:P.info? et with
     |none=>simp[ff] at hz
     |some inf=>rw[ff] at hz;simp only[Option.bind_some] at hz;simp[zeroValue,typeInfo,ff,hz]
   have MD:(Instr.checkKey true 10000 kt (lU (q:Int))).run P w=.ok () w:=run_checkKey nv (BB _) _ 9999;have yC:(Instr.findKey kt (.int .i64 (q:Int)) []).run P w=.ok none w:=run_findKey (P:=P) (w:=w) nv rfl;refine cO hq (v:=.bool false) ?_ k;unfold execOp;cases ok<;>simp only at h5<;>try contradiction
   simp[hop,h3,h4,Instr.lookup,run_underlying FF,Sem.run_bind,MD,Pk,yC,Result.andThen]
end
end Go.aR
namespace Go.aR
open Go.RowKit Go.Sx Go.Gx Go.dy
def eO(Q:Φ)(a:Addr)(n:Nat)(cs:Θ):Sx.Item:=.ro Q (fun w=>Q a.block/\w.cells? 0 a n=some cs)
theorem nD(Q:Φ)(a:Addr)(n:Nat)(cs:Θ):Sx.Loc Q (fun w=>Q a.block/\w.cells? 0 a n=some cs):=fun _ _ _ hk h=>⟨h.1,fW h.2 (hk _ h.1)⟩
theorem aa{w:Ψ}{a:Addr}{n i m:Nat}{cs:Θ}(h:w.cells? 0 a n=some cs)(hi:i+m<=n):w.cells? 0 (a.add i) m=some ((cs.drop i).take m):=by
 have q:=World.cells?_some h;have hl:((cs.drop i).take m).length=m:=by rw[List.length_take,List.length_drop,q.2.1];omega
 have hc:∀j,j<m->w.cell? ((a.add i).add j)=((cs.drop i).take m)[j]?:=fun j hj=>by
   rw[add_add,q.2.2 (i+j) (by omega),List.getElem?_take,if_pos hj,List.getElem?_drop]
 cases m with
 |zero=>
   have:(cs.drop i).take 0=[]:=by simp
   rw[this];unfold World.cells?;simp
 |succ m=>
   have h0:=hc 0 (by omega);generalize a.add i=a' at *;have e0:a'.add 0=a':=by unfold Addr.add;simp
   rw[e0] at h0;have hs:a'.spot=none:=by
     have hx:((cs.drop i).take (m+1))[0]?≠none:=by rw[List.getElem?_eq_getElem (by omega)];simp
     rw[<- h0] at hx;unfold World.cell? at hx;cases hsp:a'.spot with
     |none=>rfl
     |some z=>exfalso;apply hx;rw[hsp];split<;>rfl
   obtain⟨ab,ao,ayy⟩:=a';simp only at hs;subst hs;refine ChangeShapes.cells?_of (Nat.zero_le _) hl (fun j hj=>?_);rw[<- hc j hj];unfold Addr.add;split
   . rename_i e;subst e;rfl
   . rfl
end Go.aR
namespace Go.Sx
open Go.RowKit Go.Gx
section
variable {P:Program} {fn:Func} {R:Ending->Ψ->Prop} {b:Nat->Value} {n:Nat} {d:List Deferred} {w0 w:Ψ} {x:St} {L0 L:List Sx.Item}
def faO(b:Nat->Value)(n:Nat)(z:Tz):Option (Θ×List Nat):=match z.o.op with
 |.fieldAddr t s f=>some ([ev b n z.l s],[t,f])
 |_=>none
theorem tvf(i : Nat)(C : List Nat)(a : Addr)(off : Nat)(hS : pL x = true -> Sp w (kU x))
   (k:Goal P (bodyPost P fn R) b n d ((vX (via P b n 0 w x (iX b n i C))).k (.pointer (some (a.add off)))) w)
   (h:vA (via P b n 0 w x (iX b n i C))=vB w (via P b n 0 w x (iX b n i C)):=by kernel_rfl)
   (h2:(faO b n (vX (via P b n 0 w x (iX b n i C)))).map (·.1)=some [.pointer (some a)]:=by kernel_rfl)
   (h3:(match faO b n (vX (via P b n 0 w x (iX b n i C))) with|some q=>J4 P (q.2.getD 0 0) (q.2.getD 1 0) off|none=>false)=true:=by kernel_rfl):Goal P (bodyPost P fn R) b n d x w:=by
 refine tv i C _ hS (fun w' hs=>?_) k h;generalize vX (via P b n 0 w x (iX b n i C))=z at *;unfold faO at h2 h3;split at h2<;>try contradiction
 rename_i t s f hop;rw[hop] at h3;simp only[Option.map_some,Option.some.injEq,List.cons.injEq,and_true] at h2;exact py hop a h2 off h3
end
end Go.Sx
namespace Go.aR
open Go.RowKit Go.Sx Go.Gx Go.dy
section
variable {w0 w:Ψ} {L0 L:List Sx.Item}
theorem aG(H:Hs w0 L0 w L)(j:Nat){Q:Nat->Prop}{a:Addr}{n:Nat}{cs:Θ}(hi:L[j]?=some (eO Q a n cs):=by kernel_rfl):w.cells? 0 a n=some cs:=(H.at j hi).1.2
theorem hU{LJ:List Sx.Item}(H:Sp w LJ)(j:Nat){Q:Nat->Prop}{a:Addr}{n:Nat}{cs:Θ}(hi:LJ[j]?=some (eO Q a n cs):=by kernel_rfl):w.cells? 0 a n=some cs:=(H.all _ (List.mem_of_getElem? hi)).1.2
theorem aM(H : Hs w0 L0 w L)(j : Nat){Q : Nat -> Prop}{ks : List Nd}{A : Ω}{c i : Nat}{d : Nd}(hi : L[j]? = some (fK Q ks A c))(hd : ks[i]? = some d) :
   ∃(B:Ω) (cb:Nat) (a:Addr),A=some a/\Hs w0 L0 w (L++[eO Q (a.add (i*5)) 5 (zx d B cb)]++[fK Q d.ks B cb]):=by
 have k:=(H.at j hi).1;obtain⟨B,cb,a,ha,hc,hk⟩:=aaf k hd;refine⟨B,cb,a,ha,?_⟩;have hq:Q a.block:=by
   cases k with
   |mk As cs _ _ hA _ _=>
     obtain⟨a',h1,h2⟩:=hA i (List.getElem?_eq_some_iff.1 hd).1;rw[ha] at h1;cases h1;exact h2
 have H1:=H.ro j (S:=Q) (A:=fun w=>KV Q w ks A c) (B:=fun w=>Q (a.add (i*5)).block/\w.cells? 0 (a.add (i*5)) 5=some (zx d B cb)) hi ⟨by rw[ie];exact hq,hc⟩ (nD _ _ _ _);have pG:(L++[eO Q (a.add (i*5)) 5 (zx d B cb)])[j]?=some (fK Q ks A c):=by
   rw[List.getElem?_append_left (List.getElem?_eq_some_iff.1 hi).1];exact hi
 exact H1.ro j (S:=Q) (A:=fun w=>KV Q w ks A c) (B:=fun w=>KV Q w d.ks B cb) pG hk (yD _ _ _ _)
end
end Go.aR
namespace Go.aR
open Go.RowKit Go.Sx Go.Gx Go.dy
theorem MO{ks:List Nd}{i:Nat}{acc:List Nm}{kd na:Nat}{nm:Nm}{nn:Int}{k2:List Nd}(h:ks[i]?=some (.mk kd na nm nn k2)):(ks.drop i).foldl It acc=(ks.drop (i+1)).foldl It (jg acc nm):=by
 obtain⟨hi,e⟩:=List.getElem?_eq_some_iff.1 h;rw[List.drop_eq_getElem_cons hi,List.foldl_cons,e];rfl
end Go.aR
namespace Go.Mn
open Go.RowKit Go.Sx Go.aR Go.Gx
inductive PK (w:Ψ) (S:Φ):PN->Prop
 | mk {k a : Nat} {nm : Nm} {n : Int} {A : Ω} {c : Nat} {ks : List PN} (hc : ks.length <= c /\ ks.length < 1000000000) (hr : ∀(i : Nat)(d : PN), ks[i]? = some d -> ∃ g, A = some g /\ S g.block /\ w.cells? 0 (g.add (i * 5)) 5 = some d.cells)
     (h:∀(i:Nat)(d:PN),ks[i]?=some d->PK w S d):PK w S (.mk k a nm n A c ks)
theorem PK.jh{w w':Ψ}{S:Nat->Prop}{d:PN}(h:PK w S d)(k:∀c,S c->w'.heap[c]?=w.heap[c]?):PK w' S d:=by
 induction h with
 |mk hc hr _ ih=>exact .mk hc (fun i d hi=>by obtain⟨g,e,hS,o9⟩:=hr i d hi;exact⟨g,e,hS,fW o9 (by rw[ie];exact k _ hS)⟩) ih
theorem PK.mono{w:Ψ}{S S':Nat->Prop}{d:PN}(h:PK w S d)(k:∀c,S c->S' c):PK w S' d:=by
 induction h with
 |mk hc hr _ ih=>exact .mk hc (fun i d hi=>by obtain⟨g,e,hS,o9⟩:=hr i d hi;exact⟨g,e,k _ hS,o9⟩) ih
theorem PK.pd{w:Ψ}{S:Nat->Prop}{d d':PN}{i:Nat}(h:PK w S d)(hi:d.ks[i]?=some d'):PK w S d':=by
 cases h with
 |mk _ _ h=>exact h i d' hi
def pO(o:Option Nat):Value:=.pointer (o.map fun b=>⟨b,0,none⟩)
def oZ(k:Nat)(n:Int)(a b:Option Nat)(fn:PN)(e:Option Nat):Θ:=[.int .i64 (k:Int),.int .i64 n,pO a,pO b]++fn.cells++[pO e,.slice none 0 0,.string ⟨#[]⟩,.bool false,.bool false]
def PT(A:Ω)(n c:Nat)(op:Nm)(once used:Bool):Θ:=[.int .i64 7,.int .i64 0,pO none,pO none]++pz.cells++[pO none,.slice A n c,.string op,.bool once,.bool used]
structure RR where
 b:Nat
 A:Ω
 n:Nat
 c:Nat
 op:Nm
 once:Bool
structure FP where
 f:Fr
 e:Option Nat
 v:Option Nat
def Iv(f:FP):Θ:=match f.f with
 |.mk nd at_ _ _=>nd.cells++[.int .i64 (at_:Int),pO f.e,pO f.v]
def bx(l:List FP):Θ:=l.flatMap Iv
section
variable (w:Ψ) (S:Φ) (T:List RR)
mutual
inductive d_:Nat->Vl->Prop
 |int {b n} (hS:S b) (h:w.cells? 0 ⟨b,0,none⟩ 14=some (oZ 0 n none none pz none)):d_ b (.int n)
 |bool {b x} (hS:S b) (h:w.cells? 0 ⟨b,0,none⟩ 14=some (oZ 1 (if x then 1 else 0) none none pz none)):d_ b (.bool x)
 |unit {b} (hS:S b) (h:w.cells? 0 ⟨b,0,none⟩ 14=some (oZ 2 0 none none pz none)):d_ b .unit
 |nil {b} (hS:S b) (h:w.cells? 0 ⟨b,0,none⟩ 14=some (oZ 3 0 none none pz none)):d_ b .nil
 |cons {b c d x y} (hS:S b) (h:w.cells? 0 ⟨b,0,none⟩ 14=some (oZ 4 0 (some c) (some d) pz none)) (hx:d_ c x) (hy:d_ d y):d_ b (.cons x y)
 |pair {b c d x y} (hS:S b) (h:w.cells? 0 ⟨b,0,none⟩ 14=some (oZ 5 0 (some c) (some d) pz none)) (hx:d_ c x) (hy:d_ d y):d_ b (.pair x y)
 |fn {b nd e o} (hS:S b) (h:w.cells? 0 ⟨b,0,none⟩ 14=some (oZ 6 0 none none nd o)) (he:zK o e) (hk:PK w S nd):d_ b (.fn nd e)
 |res {b i A c op once fr} (fp:List FP) (hi:T[i]?=some ⟨b,A,fr.length,c,op,once⟩) (hf:fp.map (·.f)=fr) (hl:fr.length<=c) (hr:∀(j:Nat)(f:FP),fp[j]?=some f->∃g,A=some g/\S g.block/\w.cells? 0 (g.add (j*8)) 8=some (Iv f)) (h:∀(j:Nat)(f:FP),fp[j]?=some f->wz f.e f.v f.f):d_ b (.res i fr op once)
inductive zK:Option Nat->En->Prop
 |nil:zK none .nil
 |put {b vb uo nm v up} (hS:S b) (h:w.cells? 0 ⟨b,0,none⟩ 3=some [.string nm,pO (some vb),pO uo]) (hv:d_ vb v) (hu:zK uo up):zK (some b) (.put nm v up)
 |rc {b wb uo nm nd up} (hS:S b/\S wb) (h:w.cells? 0 ⟨b,0,none⟩ 3=some [.string nm,pO (some wb),pO uo]) (hw:w.cells? 0 ⟨wb,0,none⟩ 14=some (oZ 6 0 none none nd (some b))) (hk:PK w S nd) (hu:zK uo up):zK (some b) (.rc nm nd up)
inductive wz:Option Nat->Option Nat->Fr->Prop
 |no {o nd at_ e} (he:zK o e) (hk:PK w S nd):wz o none (.mk nd at_ e none)
 |so {o vb nd at_ e v} (he:zK o e) (hv:d_ vb v) (hk:PK w S nd):wz o (some vb) (.mk nd at_ e (some v))
end
end
structure Up (w w':Ψ) (S S':Φ) (T T':List RR):Prop where
 k:∀c,S c->w'.heap[c]?=w.heap[c]?
 s:∀c,S c->S' c
 t:∀(i:Nat)(r:RR),T[i]?=some r->T'[i]?=some r
section
variable {w w':Ψ} {S S':Nat->Prop} {T T':List RR}
theorem Up.c{b n:Nat}{cs:Θ}(u:Up w w' S S' T T')(hS:S b)(h:w.cells? 0 ⟨b,0,none⟩ n=some cs):w'.cells? 0 ⟨b,0,none⟩ n=some cs:=fW h (u.k _ hS)
theorem Up.pk{d:PN}(u:Up w w' S S' T T')(h:PK w S d):PK w' S' d:=(h.jh u.k).mono u.s
mutual
theorem d_.up(u:Up w w' S S' T T'):∀{b:Nat}{v:Vl},d_ w S T b v->d_ w' S' T' b v
 |_,_,.int hS h=>.int (u.s _ hS) (u.c hS h)
 |_,_,.bool hS h=>.bool (u.s _ hS) (u.c hS h)
 |_,_,.unit hS h=>.unit (u.s _ hS) (u.c hS h)
 |_,_,.nil hS h=>.nil (u.s _ hS) (u.c hS h)
 |_,_,.cons hS h hx hy=>.cons (u.s _ hS) (u.c hS h) (d_.up u hx) (d_.up u hy)
 |_,_,.pair hS h hx hy=>.pair (u.s _ hS) (u.c hS h) (d_.up u hx) (d_.up u hy)
 |_,_,.fn hS h he hk=>.fn (u.s _ hS) (u.c hS h) (zK.up u he) (u.pk hk)
 |_,_,.res fp hi hf hl hr h=>.res fp (u.t _ _ hi) hf hl (fun j f hj=>by obtain⟨g,e,hS,hc⟩:=hr j f hj;exact⟨g,e,u.s _ hS,fW hc (by rw[ie];exact u.k _ hS)⟩) (fun j f hj=>wz.up u (h j f hj))
theorem zK.up(u:Up w w' S S' T T'):∀{o:Option Nat}{e:En},zK w S T o e->zK w' S' T' o e
 |_,_,.nil=>.nil
 |_,_,.put hS h hv hu=>.put (u.s _ hS) (u.c hS h) (d_.up u hv) (zK.up u hu)
 |_,_,.rc hS h hw hk hu=>.rc ⟨u.s _ hS.1,u.s _ hS.2⟩ (u.c hS.1 h) (u.c hS.2 hw) (u.pk hk) (zK.up u hu)
theorem wz.up(u:Up w w' S S' T T'):∀{o v:Option Nat}{f:Fr},wz w S T o v f->wz w' S' T' o v f
 |_,_,_,.no he hk=>.no (zK.up u he) (u.pk hk)
 |_,_,_,.so he hv hk=>.so (zK.up u he) (d_.up u hv) (u.pk hk)
end
end
end Go.Mn
namespace Go.Sx
open Go.RowKit Go.Gx
theorem VO{w:Ψ}{e sz n k:Nat}{v:Value}{xs:Θ}{A:Ω}{cap:Nat}(hv:v=.slice A n cap)(h:w.ownsRow 0 e sz v n xs)(hk:k<=n):w.ownsRow 0 e sz (.slice A k cap) k (xs.take (k*sz)):=by
 subst hv;refine⟨?_,?_⟩
 . rw[List.length_take,h.1];exact Nat.min_eq_left (Nat.mul_le_mul_right _ hk)
 . rcases h.2 with⟨h1,h2⟩|⟨g,dj,cur,h1,h2,h3,h4,h5,h6,h7⟩
   . injection h1 with e1 e2 e3;subst e1 e3;have:k=0:=by omega
     subst this;exact .inl ⟨rfl,rfl⟩
   . injection h1 with e1 e2 e3;subst e1 e3;refine .inr ⟨g,cap,cur,rfl,h2,h3,by omega,h5,h6,?_⟩;rw[<- h7,List.take_take,Nat.min_eq_left (Nat.mul_le_mul_right _ hk)]
section
variable [Rd] {P:Program} {B:Exit->Act->Ψ->Prop} {b:Nat->Value} {n:Nat} {d:List Deferred} {w0 w:Ψ} {x:St} {L0 L:List Item}
def BD(P:Program)(b:Nat->Value)(n:Nat)(x:St):Option Ask:=
 match hd b n x with
 |some q=>match q.2.2.op with
   |.slice t s lo hi mx=>match lo,hi,mx with
     |none,some k,none=>match P.underlying t with
       |some (.slice e)=>match P.info? e with
         |some inf=>some ⟨[ev b n x.l s,ev b n x.l k],[inf.size],x,q⟩
         |none=>none
       |_=>none
     |_,_,_=>none
   |_=>none
 |none=>none
theorem slp(m i k : Nat)(H : Hs w0 L0 w L){e sz cap len : Nat}{A : Ω}{xs : Θ}(hi : L[i]? = some (.own e sz A cap len xs))(hk : k <= len){BA : Θ}(hx : xs.take (k * sz) = BA)
   (g:Hs w0 L0 w (L.set i (.own e sz A cap k BA))->Goal P B b n d (nx (vX (via P b n m w x (ask (BD P b n)))).y (vX (via P b n m w x (ask (BD P b n)))).q (.slice A k cap)) w)
   (h:vA (via P b n m w x (ask (BD P b n)))=vB w (via P b n m w x (ask (BD P b n))):=by kernel_rfl)
   (h2:(vX (via P b n m w x (ask (BD P b n)))).u=[.slice A len cap,.int .i64 (k:Int)]:=by kernel_rfl):Goal P B b n d x w:=by
 obtain⟨y,hr,hf⟩:=cP h;refine aE hr ?_;generalize vX (via P b n m w x (ask (BD P b n)))=z at *;unfold BD at hf;split at hf<;>try contradiction
 rename_i q hq;split at hf<;>try contradiction
 rename_i t s lo pG mx hop;split at hf<;>try contradiction
 rename_i ko;split at hf<;>try contradiction
 rename_i e' hu;split at hf<;>try contradiction
 rename_i inf ff;simp only[Option.some.injEq] at hf;subst hf;simp only[List.cons.injEq,and_true] at h2;obtain⟨h3,h4⟩:=h2;have FR:len<=cap:=ma (H.at i hi);have hA:(if cap=0 then A else A.map (·.add (0*inf.size)))=A:=by
   split
   . rfl
   . cases A with
     |none=>rfl
     |some a=>simp[Addr.add]
 refine cO hq (v:=.slice A k cap) ?_ (g (H.ayy i _ hi rfl (by have:=VO rfl (H.at i hi) hk;rw[hx] at this;exact this) (fun c hc=>?_)))
 . unfold execOp;have hl:((k:Int)<=(cap:Int)):=by omega
   simp[hop,h3,h4,Instr.sliceAt,Instr.slice,run_underlying hu,Sem.run_bind,Instr.sliceBounds,Instr.sliceBound,asIntOf,go_sem,hl,sizeOf,typeInfo,ff];intro eK;omega
 . cases A with
   |none=>simp[Item.fp,Value.ownBlock] at hc
   |some a=>simpa[Item.fp,Value.ownBlock] using hc
end
def cat:List Nat->Code->Code
 |[],c=>c
 |i::r,c=>match c with
   |.seq a b=>match i with
     |0=>cat r a
     |_+1=>cat r b
   |.cond _ a b=>match i with
     |0=>cat r a
     |_+1=>cat r b
   |.block _ c=>cat r c
   |.loop c=>cat r c
   |.scope c=>cat r c
   |c=>c
section
variable [Rd] {P:Program} {B:Exit->Act->Ψ->Prop} {b:Nat->Value} {n:Nat} {d:List Deferred} {w:Ψ} {x:St}
theorem nz(m : Nat)(f' : Fo)(k' : List Kt)(l' : List (Nat × Value))(k : ∀ b' : Nat -> Value, Goal P B b' n d ⟨f', k', l'⟩ w)
   (h:vA (via P b n m w x fun y=>some (0,0,y))=vB w (via P b n m w x fun y=>some (0,0,y)):=by kernel_rfl)
   (h1:(vX (via P b n m w x fun y=>some (0,0,y))).f=f':=by kernel_rfl)
   (h3:(vX (via P b n m w x fun y=>some (0,0,y))).k=k':=by kernel_rfl)
   (h2:l'.map (fun p=>get b (vX (via P b n m w x fun y=>some (0,0,y))).l p.1)=l'.map (fun p=>p.2):=by kernel_rfl):Goal P B b n d x w:=
 fg m l' (fun b'=>by rw[h1,h3];exact k b') h h2
end
end Go.Sx
namespace Go
abbrev Value.n(x:Nat):Value:=.int .i64 (x:Int)
abbrev Value.p(b:Nat):Value:=.pointer (some ⟨b,0,none⟩)
namespace Sx
abbrev xb:=@Sx.l
abbrev xd:=@Sx.c
abbrev xe:=@Sx.s
abbrev xf:=@Sx.rt
abbrev xg:=@Sx.nw
abbrev xh:=@Sx.br
abbrev xi:=@Sx.to
abbrev xj:=@Sx.bk
abbrev xl:=@Sx.nmx
abbrev xm:=@Sx.tk
abbrev xp:=@Sx.on
abbrev xq:=@Sx.v
abbrev xr:=@Sx.nz
abbrev xt:=@Sx.lo
abbrev xu:=@Sx.en
abbrev xv:=@Sx.ia
abbrev xw:=@Sx.dn
abbrev xy:=@Sx.dr
abbrev xz:=@Sx.fa
abbrev y0:=@Sx.lp
abbrev yd:=@Sx.lr
abbrev ye:=@Sx.sp
abbrev yf:=@Sx.ir
abbrev yg:=@Sx.cut
abbrev yh:=@Sx.tvo
abbrev yi:=@Sx.ap
abbrev yj:=@Sx.tvi
abbrev ym:=@Sx.tvg
abbrev yp:=@Sx.tvf
abbrev yq:=@Sx.tvl
abbrev yr:=@Sx.sl
open Go.dy
theorem cw{w:Ψ}{L:List Item}(H0:Sp w L):∃L0,L0=L/\Hs w L0 w L:=⟨_,rfl,Hs.refl H0⟩
section
variable {w0 w:Ψ} {L0 L:List Item}
theorem Hs.pk(H:Hs w0 L0 w L)(I:List Nat){a:List Item}(h:bB I L=some a:=by kernel_rfl):Hs w0 L0 w a:=H.pick I h
theorem Hs.sb(H:Hs w0 L0 w L)(I:List Nat){a:List Item}{b:Prop}(h:bB I L=some a:=by kernel_rfl):b->Sp w a:=fun _=>H.sub I h
theorem np{b:Bool}{p:Prop}(h0:b=false:=by kernel_rfl):b=true->p:=fun h=>akv h h0
theorem sn{w:Ψ}{LJ:List Item}{b:Prop}(h:LJ=[]:=by kernel_rfl):b->Sp w LJ:=fun _=>spN h
end
def bits:Nat->Nat->List Nat->List Nat
 |0,_,r=>r
 |k+1,n,r=>bif Nat.ble n 1 then r else bits k (n/2) (n%2::r)
abbrev ct(n:Nat)(f:Func):Code:=cat (bits 70 n []) (Dr f)
abbrev nC{α:Type}(k a:Nat)(x:Ξ)(n:Int)(A:Ω)(l:List α)(c:Nat):Θ:=[.n k,.n a,.string x,.int .i64 n,.slice A l.length c]
abbrev nA{α:Type}(k a:Nat)(x:Ξ)(n:Int)(A:Ω)(l:List α)(c:Nat):Value:=.agg #[.n k,.n a,.string x,.int .i64 n,.slice A l.length c]
abbrev cB(b g:Nat)(A:Ω)(n c:Nat)(B:Ω)(m d k:Nat)(a:Int):Item:=.ar b (.cells #[.p g,.slice A n c,.slice B m d,.n k,.int .i64 a] 115)
section
variable [Rd] {P:Program} {B:Exit->Act->Ψ->Prop} {b:Nat->Value} {n:Nat} {d:List Deferred} {w:Ψ} {x:St}
theorem vi(m : Nat)(a c : Int)(e : IntKind.i64.wrap a = c)
   (k:Goal P B b n d (nx (vX (via P b n m w x fun y=>(hd b n y).map fun q=>(0,0,y,q))).1 (vX (via P b n m w x fun y=>(hd b n y).map fun q=>(0,0,y,q))).2 (.int .i64 c)) w)
   (h:vA (via P b n m w x fun y=>(hd b n y).map fun q=>(0,0,y,q))=vB w (via P b n m w x fun y=>(hd b n y).map fun q=>(0,0,y,q)):=by kernel_rfl)
   (h2:(execOp (Gx.ev b n (vX (via P b n m w x fun y=>(hd b n y).map fun q=>(0,0,y,q))).1.l) (vX (via P b n m w x fun y=>(hd b n y).map fun q=>(0,0,y,q))).2.2.2).run P w=.ok (.value (.int .i64 (IntKind.i64.wrap a))) w:=by kernel_rfl):
   Goal P B b n d x w:=v m _ _ (congrArg (Value.int .i64) e) k h h2
end
end Sx
end Go
namespace Go.Sx
open Go.RowKit Go.Gx
def iu(w:Ψ)(e sz:Nat)(A:Ω)(cap n:Nat)(xs:Θ):Prop:=xs.length=n*sz/\
 ((A=none/\n=0/\cap=0)∨∃(g:Nat) (cur:Array Value),A=some ⟨g,0,none⟩/\Has w g (.cells cur e)/\n<=cap/\cap<=maxLen/\cap*sz<=cur.size/\cur.toList.take (n*sz)=xs)
def wI(e sz:Nat)(A:Ω)(cap n:Nat)(xs:Θ):Item:=.abs (fun c=>(Value.slice A n cap).ownBlock=some c) (fun w=>iu w e sz A cap n xs)
section
variable {w w' w0:Ψ} {e sz cap n k:Nat} {A:Ω} {xs:Θ} {L0 L:List Item}
theorem iu.lt(h:iu w e sz A cap n xs){c:Nat}(k:(Value.slice A n cap).ownBlock=some c):c<w.heap.size:=by
 rcases h.2 with⟨rfl,_⟩|⟨g,cur,rfl,hg,_⟩
 . cases k
 . simp only[Value.ownBlock,Option.some.injEq] at k;subst k;exact hg.lt
theorem iu.loc:Loc (fun c=>(Value.slice A n cap).ownBlock=some c) (fun w=>iu w e sz A cap n xs):=fun w w' _ k h=>by
 refine⟨h.1,?_⟩;rcases h.2 with q|⟨g,cur,rfl,hg,r⟩
 . exact .inl q
 . exact .inr ⟨g,cur,rfl,(k g rfl).trans hg,r⟩
theorem uh(h:iu w e sz A cap n xs):(wI e sz A cap n xs).holds w:=⟨h,fun _ hc=>h.lt hc,iu.loc⟩
theorem iu.of(h:w.ownsRow 0 e sz (.slice A n cap) n xs):iu w e sz A cap n xs:=by
 refine⟨h.1,?_⟩;rcases h.2 with⟨hv,h0⟩|⟨g,dj,cur,hv,_,hg,Bl,O4,o9,ht⟩
 . injection hv with h1 h2 h3;exact .inl ⟨h1,h2,h3⟩
 . injection hv with h1 h2 h3;subst h1 h3;exact .inr ⟨g,cur,rfl,hg,Bl,O4,by omega,ht⟩
theorem Hs.wide(H:Hs w0 L0 w L)(i:Nat)(hi:L[i]?=some (.own e sz A cap n xs)):Hs w0 L0 w (L.set i (wI e sz A cap n xs)):=H.ayy i _ hi rfl (uh (.of (H.at i hi))) (fun _ h=>h)
theorem iu.at(h:iu w e sz A cap n xs){a:Addr}(ha:A=some a):∀(j:Nat)(u:Value),xs[j]?=some u->w.cell? (a.add j)=some u:=fun j u hu=>by
 rcases h.2 with⟨rfl,_⟩|⟨g,cur,rfl,hg,Bl,O4,o9,ht⟩
 . cases ha
 . cases ha;rw[Addr.add_lit,cell_of_row w g (0+j) cur e (0,0) hg,Nat.zero_add,<-Array.getElem?_toList];subst ht;have:=(List.getElem?_eq_some_iff.1 hu).1;rw[List.length_take] at this;rw[List.getElem?_take_of_lt (by omega)] at hu;exact hu
theorem iu.pQ(h:iu w e sz A cap n xs):n<=cap:=by rcases h.2 with⟨_,h1,h2⟩|⟨_,_,_,_,q,_⟩<;>omega
theorem iu.nil(h:iu w e sz none cap n xs):n=0/\cap=0:=by
 rcases h.2 with⟨_,h1,h2⟩|⟨_,_,q,_⟩
 . exact⟨h1,h2⟩
 . cases q
theorem PU(H:Hs w0 L0 w L)(i:Nat)(hi:L[i]?=some (wI e sz A cap n xs))(hn:0<n):∃g,A=some ⟨g,0,none⟩:=by
 rcases(H.at i hi).1.2 with⟨_,h0,_⟩|⟨g,cur,hv,_⟩
 . omega
 . exact⟨g,hv⟩
theorem iu.cells(h:iu w e sz A cap n xs){g:Nat}(ha:A=some ⟨g,0,none⟩){o c:Nat}{cs:Θ}(o9:(xs.drop o).take c=cs)(hl:cs.length=c):w.cells? 0 ((⟨g,0,none⟩:Addr).add o) c=some cs:=by
 subst o9;rw[Addr.add_lit,Nat.zero_add];refine ChangeShapes.cells?_of (Nat.zero_le _) hl (fun j hj=>?_);have hx:o+j<xs.length:=by have:=hj;rw[<- hl,List.length_take,List.length_drop] at this;omega
 have:=h.at ha (o+j) xs[o+j] (List.getElem?_eq_getElem hx);rw[Addr.add_lit,Nat.zero_add] at this;rw[this];rw[List.getElem?_take_of_lt (by omega),List.getElem?_drop,List.getElem?_eq_getElem hx]
theorem iu.cut(h:iu w e sz A cap n xs){dj:Nat}(hk:k<=n)(h1:k<=dj)(h2:dj<=cap):iu w e sz A dj k (xs.take (k*sz)):=by
 refine⟨by rw[List.length_take,h.1];exact Nat.min_eq_left (Nat.mul_le_mul_right _ hk),?_⟩;rcases h.2 with⟨h3,h4,h5⟩|⟨g,cur,rfl,hg,Bl,O4,o9,ht⟩
 . exact .inl ⟨h3,by omega,by omega⟩
 . exact .inr ⟨g,cur,rfl,hg,h1,by omega,Nat.le_trans (Nat.mul_le_mul_right _ h2) o9,by rw[<- ht,List.take_take,Nat.min_eq_left (Nat.mul_le_mul_right _ hk)]⟩
theorem Iw(H:Hs w0 L0 w L)(i:Nat){dj:Nat}(hi:L[i]?=some (wI e sz A cap n xs))(hk:k<=n)(h1:k<=dj)(h2:dj<=cap){BA:Θ}(hx:xs.take (k*sz)=BA):Hs w0 L0 w (L.set i (wI e sz A dj k BA)):=
 H.ayy i _ hi rfl (uh (by subst hx;exact(H.at i hi).1.cut hk h1 h2)) (fun c hc=>by
   cases A with
   |none=>cases hc
   |some a=>exact hc)
end
theorem FT{P : Program}{w : Ψ}(t ty e : TypeId)(i : TypeInfo)(z : Value)(ht : P.underlying t = some (.slice e))(hi : P.info? e = some i)(hz : i.zero = some z)(X0 : z.cells.size = i.size)
   {A C:Ω} {cap n m c:Nat} {xs news:Θ} (h:iu w e i.size A cap n xs) (hC:C=none->m=0) (ud:∀a,C=some a->∀j u,news[j]?=some u->w.cell? (a.add j)=some u)
   (hl:news.length=m*i.size) (h1:∀u∈news,u.oneCell'=true) (h63:n+m<=maxLen) (hb:(n+m)*i.bytes<=140737488355328):
   ∃A' dj w',(Builtin.append_ #[t,t] ty #[.slice A n cap,.slice C m c]).run P w=.ok (.slice A' (n+m) dj) w'/\iu w' e i.size A' dj (n+m) (xs++news)/\w.grownBy w' (Value.slice A n cap).ownBlock/\
     ((Value.slice A' (n+m) dj).ownBlock=(Value.slice A n cap).ownBlock∨(Value.slice A' (n+m) dj).ownBlock=some w.heap.size):=by
 have akD:n+m<=9223372036854775807:=by simp only[maxLen] at h63;omega
 have hlen:(xs++news).length=(n+m)*i.size:=by rw[List.length_append,h.1,hl,Nat.add_mul]
 by_cases hm:m=0
 . subst hm;have hn:news=[]:=List.eq_nil_of_length_eq_zero (by simpa using hl);subst hn;have hc:=h.pQ;refine⟨A,cap,w,?_,by simpa using h,⟨rfl,rfl,rfl,Nat.le_refl _,fun _ _ _=>rfl⟩,.inl rfl⟩;cases A<;>cases C<;>simp[Builtin.append_,run_underlying ht,sizeOf,typeInfo,hi,Builtin.lenOf,Builtin.firstCells,hc,storeCells,loadCells,loadCellsFrom,Sem.run_bind,Result.andThen]
 obtain⟨a,rfl⟩:∃a,C=some a:=by
   cases C with
   |none=>exact absurd (hC rfl) hm
   |some a=>exact⟨a,rfl⟩
 have grown : ∀(N9 : Nat), N9 < n + m -> ∀(row : Option Nat),
     iu (w.drew.alloc (.cells (xs.toArray++news.toArray++Builtin.zeroCells z.cells (grownCap w (n+m) N9 e-(n+m))) e)) e i.size (some ⟨w.heap.size,0,none⟩) (grownCap w (n+m) N9 e) (n+m) (xs++news)/\
     w.grownBy (w.drew.alloc (.cells (xs.toArray++news.toArray++Builtin.zeroCells z.cells (grownCap w (n+m) N9 e-(n+m))) e)) row:=by
   intro N9 ho row
   have hge:=grownCap_ge w (n+m) N9 e
   have O4:grownCap w (n+m) N9 e<=maxLen:=grownCap_le_maxLen w (n+m) N9 e h63
   refine⟨⟨hlen,.inr ⟨w.heap.size,_,rfl,heap_alloc_new w.drew _,hge,O4,Nat.le_of_eq ?_,?_⟩⟩,⟨rfl,rfl,rfl,by simp,fun k hk _=>heap_alloc_old w.drew _ hk⟩⟩
   . simp only[Array.size_append,List.size_toArray,size_zeroCells,X0,h.1,hl,<-Nat.add_mul]
     congr 1
     omega
   . simp only[Array.toList_append,List.append_assoc]
     rw[<- List.append_assoc,<-hlen]
     exact List.take_left
 have h2:=h.2;rcases h2 with⟨rfl,rfl,rfl⟩|⟨g,cur,rfl,hg,Bl,O4,o9,OU⟩
 . have hx:xs=[]:=List.eq_nil_of_length_eq_zero (by simpa using h.1);subst hx;have hr:=run_append_nil (P:=P) w t ty e i z ht hi hz a m c news hl (ud a rfl) (by omega) (by omega) (by have hb:=hb;simp only[Nat.zero_add] at hb;omega);have X1:=grown 0 (by omega) (Value.ownBlock (.slice none 0 0));simp only[Nat.zero_add,List.nil_append,Array.empty_append] at X1 ⊢;exact⟨_,_,_,hr,X1.1,X1.2,Or.inr rfl⟩
 . by_cases zL:n+m<=cap
   . have ON:n*i.size+news.length<=cur.size:=by rw[hl,<-Nat.add_mul];exact Nat.le_trans (Nat.mul_le_mul_right _ zL) o9
     have hr:=run_append_room (P:=P) w t ty e i ht hi g n cap cur hg a m c news hl (ud a rfl) h1 zL ON;refine⟨_,_,_,hr,⟨hlen,.inr ⟨g,_,rfl,setRow_heap w g cur _ e _ hg,zL,O4,?_,?_⟩⟩,⟨rfl,rfl,rfl,by simp,fun k _ hk=>setRow_other w g k _ (fun e=>hk (by simp[Value.ownBlock,e]))⟩,Or.inl rfl⟩
     . simp only[List.size_toArray,List.length_append,List.length_take,List.length_drop,Array.length_toList];omega
     . rw[OU,<-hlen];exact List.take_left
   . have hr:=run_append_grow (P:=P) w t ty e i z ht hi hz ⟨g,0,none⟩ n cap xs h.1 (h.at rfl) a m c news hl (ud a rfl) (by omega) (by omega) (growslice_fits (by omega) hb);have X1:=grown cap (by omega) (Value.ownBlock (.slice (some ⟨g,0,none⟩) n cap));exact⟨_,_,_,hr,X1.1,X1.2,Or.inr rfl⟩
section
variable [Rd] {P:Program} {B:Exit->Act->Ψ->Prop} {b:Nat->Value} {n:Nat} {d:List Deferred} {w0 w:Ψ} {x:St} {L0 L:List Item}
theorem apw(m i Pb k' e sz t c' : Nat)(C A : Ω)(cap c : Nat)(xs news : Θ)(H : Hs w0 L0 w L)(hC : C = none -> k' = 0)(ud : ∀ a, C = some a -> ∀ j u, news[j]? = some u -> w.cell? (a.add j) = some u)
   (hl:news.length=k'*sz) (h1:∀u∈news,u.oneCell'=true)
   (hb:(c+k')*Pb<=140737488355328) (hn:c+k'<=9223372036854775807) {BA:Θ} (hx:xs++news=BA)
   (k:∀A' dj w',Hs w0 L0 w' (L.set i (wI e sz A' dj (c+k') BA))->Goal P B b n d (nx (vX (via P b n m w x (ask (yz P b n)))).y (vX (via P b n m w x (ask (yz P b n)))).q (.slice A' (c+k') dj)) w')
   (h:vA (via P b n m w x (ask (yz P b n)))=vB w (via P b n m w x (ask (yz P b n))):=by kernel_rfl)
   (hi:L[i]?=some (wI e sz A cap c xs):=by kernel_rfl)
   (h2:((vX (via P b n m w x (ask (yz P b n)))).u,(vX (via P b n m w x (ask (yz P b n)))).t)=([.slice A c cap,.slice C k' c'],[t,t,e,sz,Pb,sz,1]):=by kernel_rfl):Goal P B b n d x w:=by
 subst hx;obtain⟨y,hr,hf⟩:=cP h;refine aE hr ?_;generalize vX (via P b n m w x (ask (yz P b n)))=z at *;unfold yz at hf;split at hf<;>try contradiction
 rename_i q hq;split at hf<;>try contradiction
 rename_i cl hop;split at hf<;>try contradiction
 rename_i tV;split at hf<;>try contradiction
 rename_i s yv t1 t2 hO kS;split at hf<;>try contradiction
 rename_i e1 hu;split at hf<;>try contradiction
 rename_i inf ff;simp only[Option.some.injEq] at hf;subst hf;simp only[Prod.mk.injEq,List.cons.injEq,and_true] at h2;obtain⟨⟨h3,h4⟩,rfl,rfl,rfl,rfl,rfl,h5,h6⟩:=h2;have Z4:inf.zero.map (·.cells.size)=some inf.size:=by
   cases Yb:inf.zero with
   |none=>simp[Yb] at h6
   |some zv=>simp only[Yb,Option.map_some,Option.getD_some] at h5;simp[h5]
 have wq:cl={ callee:=.builtin .append,args:=#[s,yv],argTypes:=#[t2,t2] }:=by
   obtain⟨ce,ca,ct⟩:=cl;simp only at tV hO kS;subst tV;congr 1
   . exact Array.toList_inj.1 hO
   . exact Array.toList_inj.1 kS
 obtain⟨zv,Pk,X0⟩:=Option.map_eq_some_iff.1 Z4;obtain⟨A',dj,w',pC,Cj,hG,Pc⟩:=FT (P:=P) t2 q.2.2.type e1 inf zv hu ff Pk X0 (H.at i hi).1 (c:=c') hC ud hl h1 (by unfold maxLen;omega) hb;refine cO hq ?_ ?_ (v:=.slice A' (c+k') dj) (w':=w')
 . unfold execOp;rw[hop,wq];simp[h3,h4,resolve,invoke,builtin,Sem.run_bind,pC]
 . refine k A' dj w' (H.put i hi rfl (Kp.FB hG) (uh Cj) (fun cc hc=>?_));rcases Pc with q|q
   . exact .inl (q.symm.trans hc)
   . exact .inr (Nat.le_of_eq (Option.some.inj (q.symm.trans hc)))
theorem sw(m k : Nat){cap len : Nat}{A : Ω}(hk : k <= len)(FR : len <= cap)
   (g:Goal P B b n d (nx (vX (via P b n m w x (ask (BD P b n)))).y (vX (via P b n m w x (ask (BD P b n)))).q (.slice A k cap)) w)
   (h:vA (via P b n m w x (ask (BD P b n)))=vB w (via P b n m w x (ask (BD P b n))):=by kernel_rfl)
   (h2:(vX (via P b n m w x (ask (BD P b n)))).u=[.slice A len cap,.int .i64 (k:Int)]:=by kernel_rfl):Goal P B b n d x w:=by
 obtain⟨y,hr,hf⟩:=cP h;refine aE hr ?_;generalize vX (via P b n m w x (ask (BD P b n)))=z at *;unfold BD at hf;split at hf<;>try contradiction
 rename_i q hq;split at hf<;>try contradiction
 rename_i t s lo pG mx hop;split at hf<;>try contradiction
 rename_i ko;split at hf<;>try contradiction
 rename_i e' hu;split at hf<;>try contradiction
 rename_i inf ff;simp only[Option.some.injEq] at hf;subst hf;simp only[List.cons.injEq,and_true] at h2;obtain⟨h3,h4⟩:=h2;refine cO hq (v:=.slice A k cap) ?_ g;unfold execOp;have hl:((k:Int)<=(cap:Int)):=by omega
 simp[hop,h3,h4,Instr.sliceAt,Instr.slice,run_underlying hu,Sem.run_bind,Instr.sliceBounds,Instr.sliceBound,asIntOf,go_sem,hl,sizeOf,typeInfo,ff];intro eK;omega
def s3A(P:Program)(b:Nat->Value)(n:Nat)(x:St):Option Ask:=
 match hd b n x with
 |some q=>match q.2.2.op with
   |.slice t s lo hi mx=>match lo,hi,mx with
     |none,some k,some j=>match P.underlying t with
       |some (.slice e)=>match P.info? e with
         |some inf=>some ⟨[ev b n x.l s,ev b n x.l k,ev b n x.l j],[inf.size],x,q⟩
         |none=>none
       |_=>none
     |_,_,_=>none
   |_=>none
 |none=>none
theorem s3(m k : Nat){cap len : Nat}{A : Ω}(hk : k <= len)(FR : len <= cap)
   (g:Goal P B b n d (nx (vX (via P b n m w x (ask (s3A P b n)))).y (vX (via P b n m w x (ask (s3A P b n)))).q (.slice A k k)) w)
   (h:vA (via P b n m w x (ask (s3A P b n)))=vB w (via P b n m w x (ask (s3A P b n))):=by kernel_rfl)
   (h2:(vX (via P b n m w x (ask (s3A P b n)))).u=[.slice A len cap,.int .i64 (k:Int),.int .i64 (k:Int)]:=by kernel_rfl):Goal P B b n d x w:=by
 obtain⟨y,hr,hf⟩:=cP h;refine aE hr ?_;generalize vX (via P b n m w x (ask (s3A P b n)))=z at *;unfold s3A at hf;split at hf<;>try contradiction
 rename_i q hq;split at hf<;>try contradiction
 rename_i t s lo pG mx hop;split at hf<;>try contradiction
 rename_i ko jo;split at hf<;>try contradiction
 rename_i e' hu;split at hf<;>try contradiction
 rename_i inf ff;simp only[Option.some.injEq] at hf;subst hf;simp only[List.cons.injEq,and_true] at h2;obtain⟨h3,h4,h5⟩:=h2;refine cO hq (v:=.slice A k k) ?_ g;unfold execOp;have hl:((k:Int)<=(cap:Int)):=by omega
 simp[hop,h3,h4,h5,Instr.sliceAt,Instr.slice,run_underlying hu,Sem.run_bind,Instr.sliceBounds,Instr.sliceBound,asIntOf,go_sem,hl,sizeOf,typeInfo,ff];intro eK;omega
end
end Go.Sx
namespace Go.Mn
open Go.RowKit Go.Sx Go.aR Go.Gx
inductive MF
 |val (b:Nat) (v:Vl)
 |env (o:Option Nat) (e:En)
 |aJ (d:PN)
 |vo (o:Option Nat) (v:Option Vl)
def MF.ok(w:Ψ)(S:Φ)(T:List RR):MF->Prop
 |.val b v=>d_ w S T b v
 |.env o e=>zK w S T o e
 |.aJ d=>PK w S d
 |.vo o v=>match o,v with
   |none,none=>True
   |some b,some v=>d_ w S T b v
   |_,_=>False
def aO(w:Ψ)(S:Φ)(T:List RR)(sp:List FP)(l:List MF):Prop:=(∀f∈sp,wz w S T f.e f.v f.f)/\∀x∈l,x.ok w S T
theorem MF.up{w w':Ψ}{S S':Nat->Prop}{T T':List RR}{x:MF}(u:Up w w' S S' T T')(h:x.ok w S T):x.ok w' S' T':=by
 cases x with
 |val b v=>exact d_.up u h
 |env o e=>exact zK.up u h
 |aJ d=>exact u.pk h
 |vo o v=>
   cases o with
   |none=>cases v with
     |none=>exact h
     |some v=>exact h
   |some b=>cases v with
     |none=>exact h
     |some v=>exact d_.up u h
theorem aO.up{w w':Ψ}{S S':Nat->Prop}{T T':List RR}{sp:List FP}{l:List MF}(u:Up w w' S S' T T')(h:aO w S T sp l):aO w' S' T' sp l:=⟨fun f hf=>wz.up u (h.1 f hf),fun x hx=>MF.up u (h.2 x hx)⟩
def mI(S:Φ)(T:List RR)(sp:List FP)(l:List MF):Sx.Item:=.ro S (fun w=>aO w S T sp l)
theorem sR(S:Φ)(T:List RR)(sp:List FP)(l:List MF):Sx.Loc S (fun w=>aO w S T sp l):=fun _ _ _ hk h=>h.up ⟨hk,fun _ h=>h,fun _ _ h=>h⟩
section
variable {w0 w:Ψ} {L0 L:List Sx.Item} {S:Nat->Prop} {T:List RR} {sp kv:List FP} {l l':List MF}
theorem aD(H:Hs w0 L0 w L)(j:Nat)(hi:L[j]?=some (mI S T sp l):=by kernel_rfl):aO w S T sp l:=(H.at j hi).1
theorem akE(H:Hs w0 L0 w L)(j:Nat)(hi:L[j]?=some (mI S T sp l))(h:aO w S T kv l'):Hs w0 L0 w (L++[mI S T kv l']):=H.ro j hi h (sR _ _ _ _)
theorem ae9(H : Hs w0 L0 w L)(I : List Nat){b ty : Nat}{cs : Array Value}(hp : bB I L = some [mI S T sp l, .ar b (.cells cs ty)])(h : ∀ S' : Nat -> Prop, aO w S' T sp l -> S' b -> w.cells? 0 ⟨b, 0, none⟩ cs.size = some cs.toList -> aO w S' T kv l') :
   ∃S',Hs w0 L0 w (mI S' T kv l'::rest I L):=by
 refine⟨_,H.fz I hp (fun s=>?_) (sR _ _ _ _)⟩;have h0:aO w S T sp l:=(s.all _ (.head _)).1;have h1:Has w b (.cells cs ty):=s.all _ (.tail _ (.head _));refine h _ (h0.up ⟨fun _ _=>rfl,fun c hc=>⟨_,.head _,hc⟩,fun _ _ h=>h⟩) ⟨_,.tail _ (.head _),rfl⟩ ?_;refine ChangeShapes.cells?_of (Nat.zero_le _) (by simp) (fun j hj=>?_);rw[cell_of_row w b _ cs ty (0,0) h1,Nat.zero_add];simp
theorem eE(z:aO w S T sp l)(H:Hs w0 L0 w L)(j:Nat)(hi:L[j]?=some (mI S T sp l))(kv:List FP)(l':List MF)(h:aO w S T kv l'):Hs w0 L0 w (L++[mI S T kv l']):=akE H j hi h
theorem o0(_ : aO w S T sp l)(H : Hs w0 L0 w L)(I : List Nat)(kv : List FP)(l' : List MF)(b ty : Nat)(cs : Array Value)(hp : bB I L = some [mI S T sp l, .ar b (.cells cs ty)])(h : ∀ S' : Nat -> Prop, aO w S' T sp l -> S' b -> w.cells? 0 ⟨b, 0, none⟩ cs.size = some cs.toList -> aO w S' T kv l') :
   ∃S',Hs w0 L0 w (mI S' T kv l'::rest I L):=ae9 H I hp h
theorem j0{a:MF}{l:List MF}:a∈a::l:=.head _
theorem j1{a b:MF}{l:List MF}:b∈a::b::l:=.tail _ (.head _)
theorem j2{a b c:MF}{l:List MF}:c∈a::b::c::l:=.tail _ (.tail _ (.head _))
theorem j3{a b c d:MF}{l:List MF}:d∈a::b::c::d::l:=.tail _ (.tail _ (.tail _ (.head _)))
theorem PV{T:List RR}:(mI (fun _=>False) T [] []).holds w:=⟨⟨fun _ h=>(by cases h),fun _ h=>(by cases h)⟩,fun _ h=>h.elim,sR _ _ _ _⟩
theorem PW(H:Hs w0 L0 w L)(I:List Nat){S2:Nat->Prop}{sp2:List FP}{l2:List MF}(hp:bB I L=some [mI S T sp l,mI S2 T sp2 l2])(h:∀S':Nat->Prop,aO w S' T sp l->aO w S' T sp2 l2->aO w S' T kv l'):∃S',Hs w0 L0 w (mI S' T kv l'::rest I L):=by
 refine⟨_,H.fz I hp (fun s=>?_) (sR _ _ _ _)⟩;have h0:aO w S T sp l:=(s.all _ (.head _)).1;have h1:aO w S2 T sp2 l2:=(s.all _ (.tail _ (.head _))).1;exact h _ (h0.up ⟨fun _ _=>rfl,fun c hc=>⟨_,.head _,hc⟩,fun _ _ h=>h⟩) (h1.up ⟨fun _ _=>rfl,fun c hc=>⟨_,.tail _ (.head _),hc⟩,fun _ _ h=>h⟩)
end
theorem aai{w0 w:Ψ}{L0 L:List Sx.Item}(H:Hs w0 L0 w L)(j:Nat){b ty:Nat}{cs:Array Value}(hj:L[j]?=some (.ar b (.cells cs ty))):∀a,some (⟨b,0,none⟩:Addr)=some a->∀(i:Nat)(u:Value),cs.toList[i]?=some u->w.cell? (a.add i)=some u:=fun a ha i u hu=>by
 cases ha;rw[Addr.add_lit,cell_of_row w b (0+i) cs ty (0,0) (H.at j hj),Nat.zero_add,<-Array.getElem?_toList];exact hu
theorem VP(l:List FP)(f:FP):bx l++Iv f=bx (l++[f]):=by simp[bx]
theorem PK.at{w:Ψ}{S:Nat->Prop}{k a:Nat}{nm:Nm}{n:Int}{A:Ω}{c:Nat}{ks:List PN}(h:PK w S (.mk k a nm n A c ks)){i:Nat}{d:PN}(hi:ks[i]?=some d):(ks.length<=c/\ks.length<1000000000)/\(∃g,A=some g/\S g.block/\w.cells? 0 (g.add (i*5)) 5=some d.cells)/\PK w S d:=by
 cases h with
 |mk hc hr h=>exact⟨hc,hr i d hi,h i d hi⟩
theorem ey{a b:Nm}:dh a b=true↔a=b:=by
 unfold dh;rw[beq_iff_eq];exact⟨fun h=>ByteArray.ext (Array.toList_inj.1 h),fun h=>by rw[h]⟩
def _root_.Go.Mn.En.dep:En->Nat
 |.nil=>0
 |.put _ _ up=>up.dep+1
 |.rc _ _ up=>up.dep+1
theorem VQ{w : Ψ}{S : Nat -> Prop}{T : List RR}{o : Option Nat}{e : En}{x : Nm}{v : Vl}(h : zK w S T o e)(hf : find e x = some v) :
   ∃(b vb:Nat) (nm:Nm) (uo:Option Nat) (up:En),o=some b/\(S b/\w.cells? 0 ⟨b,0,none⟩ 3=some [.string nm,.pointer (some ⟨vb,0,none⟩),pO uo])/\zK w S T uo up/\up.dep<e.dep/\((nm=x/\d_ w S T vb v)∨(nm≠x/\find up x=some v)):=by
 cases h with
 |nil=>cases hf
 |@put b vb uo nm vv up hS h hv hu=>
   refine⟨b,vb,nm,uo,up,rfl,⟨hS,h⟩,hu,Nat.lt_succ_self _,?_⟩;unfold find at hf;split at hf
   . rename_i q;cases hf;exact .inl ⟨ey.1 q,hv⟩
   . rename_i q;exact .inr ⟨fun e=>q (ey.2 e),hf⟩
 |@rc b wb uo nm nd up hS h hw hk hu=>
   refine⟨b,wb,nm,uo,up,rfl,⟨hS.1,h⟩,hu,Nat.lt_succ_self _,?_⟩;unfold find at hf;split at hf
   . rename_i q;cases hf;exact .inl ⟨ey.1 q,.fn hS.2 hw (.rc hS h hw hk hu) hk⟩
   . rename_i q;exact .inr ⟨fun e=>q (ey.2 e),hf⟩
theorem dT{p:Prop}[Decidable p] (h:p):Value.bool (decide p)=.bool true:=by rw[decide_eq_true h]
theorem dF{p:Prop}[Decidable p] (h:¬p):Value.bool (decide p)=.bool false:=by rw[decide_eq_false h]
theorem eT{a b:Int}(h:a=b):Value.bool (a==b)=.bool true:=by rw[h];simp
theorem eF{a b:Int}(h:¬a=b):Value.bool (a==b)=.bool false:=by simp[h]
theorem nT{a b:Int}(h:¬a=b):Value.bool (a != b)=.bool true:=by simp[h]
theorem nF{a b:Int}(h:a=b):Value.bool (a != b)=.bool false:=by rw[h];simp
theorem akF(s:Nm):Value.bool (s.toList==s.toList)=.bool true:=by simp
theorem aaj{r s:Nm}(h:r≠s):Value.bool (r.toList==s.toList)=.bool false:=by
 congr 1;cases q:r.toList==s.toList with
 |false=>rfl
 |true=>
   have e:r.toList=s.toList:=by simpa using q
   rw[ByteArray.toList_eq,ByteArray.toList_eq] at e;exact absurd (ByteArray.ext (Array.toList_inj.1 e)) h
theorem aO.snoc{w:Ψ}{S:Nat->Prop}{T:List RR}{sp:List FP}{l:List MF}{x:MF}(h:aO w S T sp l)(k:x.ok w S T):aO w S T sp (l++[x]):=⟨h.1,fun y hy=>by
 rcases List.mem_append.1 hy with q|q
 . exact h.2 y q
 . rw[List.mem_singleton.1 q];exact k⟩
theorem aO.val{w:Ψ}{S:Nat->Prop}{T:List RR}{b:Nat}{v:Vl}(h:aO w S T [] [.val b v]):d_ w S T b v:=h.2 (.val b v) (.head _)
theorem aO.l3{w:Ψ}{S:Nat->Prop}{T:List RR}{sp:List FP}{a b c:MF}(h:∀f∈sp,wz w S T f.e f.v f.f)(ha:a.ok w S T)(hb:b.ok w S T)(hc:c.ok w S T):aO w S T sp [a,b,c]:=⟨h,fun y hy=>by
 rcases List.mem_cons.1 hy with rfl|hy
 . exact ha
 . rcases List.mem_cons.1 hy with rfl|hy
   . exact hb
   . rw[List.mem_singleton.1 hy];exact hc⟩
theorem sV{w:Ψ}{S:Nat->Prop}{T:List RR}{sp:List FP}{f:FP}(h:∀f∈sp,wz w S T f.e f.v f.f)(k:wz w S T f.e f.v f.f):∀g∈sp++[f],wz w S T g.e g.v g.f:=fun g hg=>by
 rcases List.mem_append.1 hg with q|q
 . exact h g q
 . rw[List.mem_singleton.1 q];exact k
theorem VR{st : List Fr}{k ta : Nat}{nm : Nm}{nn : Int}{nA : Ω}{nc : Nat}{ks : List PN}{e : En}{us : List Bool}{r' : Rn}(h : gU ⟨st, .mk k ta nm nn nA nc ks, e, none, us⟩ = some r') :
   (k=3/\r'=⟨st,.mk k ta nm nn nA nc ks,e,some (.int nn),us⟩)∨(k=4/\r'=⟨st,.mk k ta nm nn nA nc ks,e,some (.bool (nn==1)),us⟩)∨(k=5/\r'=⟨st,.mk k ta nm nn nA nc ks,e,some .unit,us⟩)∨(k=15/\r'=⟨st,.mk k ta nm nn nA nc ks,e,some .nil,us⟩)∨
   (k=6/\∃v,find e nm=some v/\r'=⟨st,.mk k ta nm nn nA nc ks,e,some v,us⟩)∨(k=7/\r'=⟨st,.mk k ta nm nn nA nc ks,e,some (.fn (.mk k ta nm nn nA nc ks) e),us⟩)∨
   ((k≠3/\k≠4/\k≠5/\k≠15/\k≠6/\k≠7)/\∃d,ks[0]?=some d/\r'=⟨st++[.mk (.mk k ta nm nn nA nc ks) 0 e none],d,e,none,us⟩):=by
 unfold gU at h;simp only[PN.k] at h;split at h
 . cases h;exact .inl ⟨rfl,rfl⟩
 . cases h;exact .inr (.inl ⟨rfl,rfl⟩)
 . cases h;exact .inr (.inr (.inl ⟨rfl,rfl⟩))
 . cases h;exact .inr (.inr (.inr (.inl ⟨rfl,rfl⟩)))
 . split at h
   . rename_i v hv;cases h;exact .inr (.inr (.inr (.inr (.inl ⟨rfl,v,hv,rfl⟩))))
   . cases h
 . cases h;exact .inr (.inr (.inr (.inr (.inr (.inl ⟨rfl,rfl⟩)))))
 . unfold oY at h;split at h
   . rename_i d hd;cases h;exact .inr (.inr (.inr (.inr (.inr (.inr ⟨⟨by omega,by omega,by omega,by omega,by omega,by omega⟩,d,hd,rfl⟩)))))
   . cases h
end Go.Mn
namespace Go.Mn
open Go.Sx
abbrev eB:Ξ:=⟨#[]⟩
abbrev bR(b:Nat)(A:Ω)(n c:Nat)(k a:Value)(x:Ξ)(m:Value)(B:Ω)(l d:Nat)(e v:Value)(o:Nat)(kd:Value)(t:Ξ)(st:Value):Sx.Item:=Sx.Item.ar b (.cells #[.slice A n c,k,a,.string x,m,.slice B l d,e,v,.map (some o),kd,.string eB,.string t,st,.nilFunc] 75)
abbrev Cw(k:Int)(n a b e:Value):Θ:=[.int .i64 k,n,a,b,.int .i64 0,.int .i64 0,.string eB,.int .i64 0,.slice none 0 0,e,.slice none 0 0,.string eB,.bool false,.bool false]
abbrev Ym(k:Int)(n a b e:Value):Array Value:=#[.int .i64 k,n,a,b,.int .i64 0,.int .i64 0,.string eB,.int .i64 0,.slice none 0 0,e,.slice none 0 0,.string eB,.bool false,.bool false]
end Go.Mn
namespace Go.Proofs.YtdmdecgoebnamaaGreat
open Go.RowKit Go.Sx Go.aR Go.Mn
attribute [local irreducible] Go.wpOps Go.Code.wp Go.wpOp Go.wpAnyH Go.Calls Go.Sx.Goal
set_option maxRecDepth 20000
namespace Mr
theorem aak(S : Φ)(T : List RR)(e : En)(v : Vl)(o : Option Nat)(x : Nm)(w : Ψ)(K : Ending -> Ψ -> Prop)(H0 : Sp w [mI S T ([]) [.env o e]])(hf : find e x = some v)(hK : ∀(vb : Nat) w', Hs w [mI S T ([]) [.env o e]] w' [mI S T [] [.env o e], mI S T [] [.val vb v]] -> K (.returned (.pointer (Χ vb))) w') :
   Calls Tryz.prog 71 #[pO o,.string x] w K:=by
 obtain⟨L0,aq,H⟩:=Sx.cw H0;refine xu (vs:=[pO o,.string x]) 21 Tryz.func71 ?_;have m1:aO w S T ([]) [.env o e]:=aD H 0;have H1:=eE m1 H 0 (by kernel_rfl) ([]) [.env o e] (m1);refine y0 7 (fun z l' w'=>∃(oi:Option Nat) (ei:En),l'=[(0,pO oi),(1,.string x)]/\z=ei.dep/\Hs w L0 w' [mI S T ([]) [.env o e],mI S T ([]) [.env oi ei]]/\(find ei x=some v)) _ _ ⟨o,e,rfl,rfl,H1.pk [0,0],hf⟩ (fun b1 z1 l1 w1 cm K1 aU=>?_);obtain⟨oi,ei,rfl,rfl,H3,hfi⟩:=cm;have ax:=VQ ((aD (S:=S) (T:=T) (sp:=[]) (l:=[.env oi ei]) H3 1).2 _ (.head _)) hfi;obtain⟨b,vb,nm,uo,up,ho,wq,hup,hdp,o9⟩:=ax;subst ho;rcases o9 with⟨PX,hvv⟩|⟨PX,hfu⟩
 . subst PX;refine xz 16 (Υ b) 0<|xt (c:=1) (t:=9) 0 [.string nm] (.string nm) (aa wq.2 (by decide:0+1<=3))<|xq 1 (.bool (nm.toList==nm.toList)) (.bool true) (akF _)<|xz 7 (Υ b) 1<|xt (c:=1) (t:=71) 0 [.pointer (Χ vb)] (.pointer (Χ vb)) (aa wq.2 (by decide:1+1<=3))<|xf 9 [] H3 (.pointer (Χ vb)) ?_;have m2:aO w1 S T ([]) [.env (some b) ei]:=aD H3 1;have H4:=eE m2 H3 1 (by kernel_rfl) ([]) [.val vb v] (⟨fun _ h=>(by cases h),fun _ h=>(by rw[List.mem_singleton.1 h];exact hvv)⟩);subst aq;exact hK vb _ (H4.pick [0,1] (by kernel_rfl))
 have m3:aO w1 S T ([]) [.env (some b) ei]:=aD H3 1;have H5:=eE m3 H3 1 (by kernel_rfl) ([]) [.env uo up] (⟨fun _ h=>(by cases h),fun _ h=>(by rw[List.mem_singleton.1 h];exact hup)⟩);refine xz 16 (Υ b) 0<|xt (c:=1) (t:=9) 0 [.string nm] (.string nm) (aa wq.2 (by decide:0+1<=3))<|xq 1 (.bool (nm.toList==x.toList)) (.bool false) (aaj PX)<|xz 8 (Υ b) 2<|xt (c:=1) (t:=70) 0 [pO uo] (pO uo) (aa wq.2 (by decide:2+1<=3)) ?_;exact xi 3 _ (aU _ _ _ _ hdp ⟨uo,up,rfl,rfl,H5.pk [0,1],hfu⟩)
theorem VS(T : List RR)(w : Ψ)(K : Ending -> Ψ -> Prop)(H0 : Sp w [])(hK : ∀(b : Nat)(S : Φ) w', Hs w [] w' [mI S T [] [.val b (.bool true)]] -> K (.returned (.pointer (Χ b))) w') :
   Calls Tryz.prog 70 #[.bool true] w K:=by
 obtain⟨L0,aq,H⟩:=Sx.cw H0;refine xu (vs:=[.bool true]) 8 Tryz.func70<|xg 15 H fun k1 w1 H1=>xf 5 [] H1 (.p k1) ?_;have H2:=H1.add (Gx.Ext.refl _) (it:=mI (fun _=>False) T [] []) PV (fun _ h=>h.elim);have m1:aO w1 (fun _=>False) T ([]) []:=aD H2 1;have ax:=o0 m1 H2 [1,0] ([]) [.val k1 (.bool true)] k1 137 (Ym 1 (.int .i64 1) (.pointer none) (.pointer none) (.pointer none)) (by kernel_rfl) (fun S' h hb hc=>⟨fun _ h=>(by cases h),fun _ h=>(by rw[List.mem_singleton.1 h];exact .bool hb hc)⟩);obtain⟨S1,H3⟩:=ax;subst aq;exact hK k1 S1 _ (H3.pick [0] (by kernel_rfl))
theorem VT(T : List RR)(w : Ψ)(K : Ending -> Ψ -> Prop)(H0 : Sp w [])(hK : ∀(b : Nat)(S : Φ) w', Hs w [] w' [mI S T [] [.val b (.bool false)]] -> K (.returned (.pointer (Χ b))) w') :
   Calls Tryz.prog 70 #[.bool false] w K:=by
 obtain⟨L0,aq,H⟩:=Sx.cw H0;refine xu (vs:=[.bool false]) 8 Tryz.func70<|xg 17 H fun k1 w1 H1=>xf 4 [] H1 (.p k1) ?_;have H2:=H1.add (Gx.Ext.refl _) (it:=mI (fun _=>False) T [] []) PV (fun _ h=>h.elim);have m1:aO w1 (fun _=>False) T ([]) []:=aD H2 1;have ax:=o0 m1 H2 [1,0] ([]) [.val k1 (.bool false)] k1 137 (Ym 1 (.int .i64 0) (.pointer none) (.pointer none) (.pointer none)) (by kernel_rfl) (fun S' h hb hc=>⟨fun _ h=>(by cases h),fun _ h=>(by rw[List.mem_singleton.1 h];exact .bool hb hc)⟩);obtain⟨S1,H3⟩:=ax;subst aq;exact hK k1 S1 _ (H3.pick [0] (by kernel_rfl))
theorem Dz(T:List RR)(x:Bool)(w:Ψ)(K:Ending->Ψ->Prop)(H0:Sp w [])(hK:∀(b:Nat)(S:Φ) w',Hs w [] w' [mI S T [] [.val b (.bool x)]]->K (.returned (.p b)) w'):Calls Tryz.prog 70 #[.bool x] w K:=by
 cases x with
 |true=>exact VS T w K H0 hK
 |false=>exact VT T w K H0 hK
theorem PY(br : Nat)(As : Ω)(ns cs : Nat)(sp : List FP)(k ta : Nat)(nm : Nm)(nn : Int)(nA : Ω)(nc : Nat)(ks : List PN)(eo vo : Option Nat)(bo : Nat)(steps : Int)(at_ : Nat)(wo : Option Nat)(e : En)(u : Option Vl)(w : Ψ)(K : Ending -> Ψ -> Prop)(H0 : Sp w [bR br As ns cs (.n k) (.n ta) nm (.int .i64 nn) nA ks.length nc (pO eo) (pO vo) bo (.int .i64 0) eB (.int .i64 steps), wI 135 8 As cs ns (bx sp)])(pR : ns < 1000000000)(hK : ∀(A' : Ω)(c' : Nat) w', Hs w [bR br As ns cs (.n k) (.n ta) nm (.int .i64 nn) nA ks.length nc (pO eo) (pO vo) bo (.int .i64 0) eB (.int .i64 steps), wI 135 8 As cs ns (bx sp)] w' [bR br A' (ns + 1) c' (.n k) (.n ta) nm (.int .i64 nn) nA ks.length nc (pO eo) (pO vo) bo (.int .i64 0) eB (.int .i64 steps), wI 135 8 A' c' (ns + 1) (bx (sp ++ [⟨.mk (PN.mk k ta nm nn nA nc ks) at_ e u, eo, wo⟩]))] -> K (.returned (.tuple #[])) w') :
   Calls Tryz.prog 39 #[.p br,.n at_,pO wo] w K:=by
 obtain⟨L0,aq,H⟩:=Sx.cw H0;refine xu (vs:=[.p br,.n at_,pO wo]) 26 Tryz.func39<|xy 0 H [0] [20] (LJ:=[bR br As ns cs (.n k) (.n ta) nm (.int .i64 nn) nA ks.length nc (pO eo) (pO vo) bo (.int .i64 0) eB (.int .i64 steps)]) (by kernel_rfl) fun w1 H1=>xm [(0,none),(1,none),(2,none),(3,none),(4,some (0,[17,18,19,20])),(5,none),(6,none),(7,none),(8,some (0,[15,16,17,18,19,20])),(9,none),(10,none),(11,none),(12,none),(13,some (0,[15,16,17,18,19,20])),(14,none),(15,none)] (H1.sb [0])<|xl ?_;intro iU;refine xp 16<|xg 0 H1 fun k1 w2 H2=>xj (x:=iU) 16 (H2.sb [0])<|xl ?_;intro ky;refine xp 17<|Sx.apw 0 1 88 1 135 8 69 1 (Χ k1) As cs ns (bx sp) [.n k,.n ta,.string nm,.int .i64 nn,.slice nA ks.length nc,.n at_,pO eo,pO wo] H2 (fun h=>(by cases h)) (aai (b:=k1) (ty:=135) (cs:=#[.n k,.n ta,.string nm,.int .i64 nn,.slice nA ks.length nc,.n at_,pO eo,pO wo]) H2 2 (by kernel_rfl)) rfl (List.all_eq_true.1 (by kernel_rfl)) (by omega) (by omega) (VP sp ⟨.mk (PN.mk k ta nm nn nA nc ks) at_ e u,eo,wo⟩) fun A1 bT w3 H3=>xj (x:=ky) 17 (H3.sb [0])<|xm [(18,none),(19,none)] (H3.sb [0])<|xl ?_;intro mJ;refine xp 20<|xe 0 0 H3 fun w4 H4=>xj (x:=mJ) 20 Sx.np<|xw<|xf 0 [] H4 (.tuple #[]) ?_;subst aq;exact hK A1 bT _ (H4.pk [0,0])
theorem Yn(S : Φ)(T : List RR)(dk da : Nat)(bX : Nm)(dn : Int)(dA : Ω)(dc : Nat)(db : List PN)(br : Nat)(As : Ω)(ns cs : Nat)(sp : List FP)(k ta : Nat)(nm : Nm)(nn : Int)(nA : Ω)(nc : Nat)(ks : List PN)(eo vo : Option Nat)(bo : Nat)(steps : Int)(at_ : Nat)(wo : Option Nat)(e : En)(u : Option Vl)(w : Ψ)(K : Ending -> Ψ -> Prop)(H0 : Sp w [bR br As ns cs (.n k) (.n ta) nm (.int .i64 nn) nA ks.length nc (pO eo) (pO vo) bo (.int .i64 0) eB (.int .i64 steps), wI 135 8 As cs ns (bx sp), mI S T ([]) [.aJ (PN.mk k ta nm nn nA nc ks)]])(pR : ns < 1000000000)(hd : ks[at_]? = some (PN.mk dk da bX dn dA dc db))(hK : ∀(A' : Ω)(c' : Nat) w', Hs w [bR br As ns cs (.n k) (.n ta) nm (.int .i64 nn) nA ks.length nc (pO eo) (pO vo) bo (.int .i64 0) eB (.int .i64 steps), wI 135 8 As cs ns (bx sp), mI S T ([]) [.aJ (PN.mk k ta nm nn nA nc ks)]] w' [bR br A' (ns + 1) c' (.n dk) (.n da) bX (.int .i64 dn) dA db.length dc (pO eo) (pO vo) bo (.int .i64 0) eB (.int .i64 steps), wI 135 8 A' c' (ns + 1) (bx (sp ++ [⟨.mk (PN.mk k ta nm nn nA nc ks) at_ e u, eo, wo⟩])), mI S T [] [.aJ (PN.mk k ta nm nn nA nc ks)]] -> K (.returned (.tuple #[])) w') :
   Calls Tryz.prog 68 #[.p br,.n at_,pO wo] w K:=by
 obtain⟨L0,aq,H⟩:=Sx.cw H0;refine xu (vs:=[.p br,.n at_,pO wo]) 21 Tryz.func68 ?_;refine xd 5 [0,0] H (fun Hp R hZ=>PY br As ns cs sp k ta nm nn nA nc ks eo vo bo steps at_ wo e u w R Hp pR (fun A1 c1 w1 G1=>hZ _ _ _ G1 fun H1=>?_));have m1:aO w1 S T ([]) [.aJ (PN.mk k ta nm nn nA nc ks)]:=aD H1 2;have ax:=PK.at (m1.2 _ j0) hd;obtain⟨FU,⟨gk,BE,_,Yo⟩,_⟩:=ax;have Yp:=(List.getElem?_eq_some_iff.1 hd).1;refine xb 8 0 H1<|xv 1 gk at_ 5 ks.length nc BE (by omega)<|xt (c:=5) (t:=62) 0 (Sx.nC dk da bX dn dA db dc) (Sx.nA dk da bX dn dA db dc) Yo<|xe 2 0 H1 fun w2 H2=>xf 1 [] H2 (.tuple #[]) ?_;subst aq;exact hK A1 c1 _ (H2.pk [0,0,0])
set_option maxHeartbeats 4000000 in
theorem aal(S : Φ)(T : List RR)(e : En)(us : List Bool)(r' : Rn)(br : Nat)(As : Ω)(ns cs : Nat)(sp : List FP)(k ta : Nat)(nm : Nm)(nn : Int)(nA : Ω)(nc : Nat)(ks : List PN)(eo : Option Nat)(bo : Nat)(steps : Int)(w : Ψ)(K : Ending -> Ψ -> Prop)(H0 : Sp w [bR br As ns cs (.n k) (.n ta) nm (.int .i64 nn) nA ks.length nc (pO eo) (.pointer none) bo (.int .i64 0) eB (.int .i64 steps), wI 135 8 As cs ns (bx sp), mI S T sp [.env eo e, .aJ (PN.mk k ta nm nn nA nc ks)]])(pR : ns = sp.length /\ ns < 100000000)(hf : gU ⟨sp.map (·.f), (PN.mk k ta nm nn nA nc ks), e, none, us⟩ = some r')(hK : ∀(S' : Φ)(A' : Ω)(n' : Nat)(c' : Nat)(kv : List FP)(k' : Nat)(a' : Nat)(sW : Nm)(sY : Int)(sZ : Ω)(s5 : Nat)(pf : List PN)(HG : Option Nat)(v' : Option Vl) w', Hs w [bR br As ns cs (.n k) (.n ta) nm (.int .i64 nn) nA ks.length nc (pO eo) (.pointer none) bo (.int .i64 0) eB (.int .i64 steps), wI 135 8 As cs ns (bx sp), mI S T sp [.env eo e, .aJ (PN.mk k ta nm nn nA nc ks)]] w' [bR br A' n' c' (.n k') (.n a') sW (.int .i64 sY) sZ pf.length s5 (pO eo) (pO HG) bo (.int .i64 0) eB (.int .i64 steps), wI 135 8 A' c' n' (bx kv), mI S' T kv [.env eo e, .aJ (PN.mk k' a' sW sY sZ s5 pf), .vo HG v']] -> (r' = ⟨kv.map (·.f), (PN.mk k' a' sW sY sZ s5 pf), e, v', us⟩) -> (n' = kv.length) -> K (.returned (.tuple #[])) w') :
   Calls Tryz.prog 40 #[.p br] w K:=by
 obtain⟨L0,aq,H⟩:=Sx.cw H0;refine xu (vs:=[.p br]) 76 Tryz.func40 ?_;have ax:=VR hf;rcases ax with⟨hk,hr⟩|⟨hk,hr⟩|⟨hk,hr⟩|⟨hk,hr⟩|⟨hk,v,hv,hr⟩|⟨hk,hr⟩|⟨⟨n3,n4,n5,n15,n6,n7⟩,⟨dk,da,bX,dn,dA,dc,db⟩,hd,hr⟩
 . refine xb 5 0 H ?_;refine xg 0 H fun k1 w1 H1=>xe 0 3 H1 fun w2 H2=>xb 5 3 H2<|xq 5 (.bool ((k:Int)==(3:Int))) (.bool true) (eT (by omega))<|xb 7 3 H2<|xg 1 H2 fun k2 w3 H3=>?_;refine xe 2 0 H3 fun w4 H4=>xf 2 [] H4 (.tuple #[]) ?_;have m1:aO w4 S T sp [.env eo e,.aJ (PN.mk k ta nm nn nA nc ks)]:=aD H4 2;have ax:=o0 m1 H4 [2,3] sp [.env eo e,.aJ (PN.mk k ta nm nn nA nc ks),.vo (some k2) (some (.int nn))] k2 137 (Ym 0 (.int .i64 nn) (.pointer none) (.pointer none) (.pointer none)) (by kernel_rfl) (fun S' h hb hc=>h.snoc (x:=.vo (some k2) (some (.int nn))) (.int hb hc));obtain⟨S1,H5⟩:=ax;subst aq;exact hK S1 As ns cs sp k ta nm nn nA nc ks (some k2) (some (.int nn)) _ (H5.pick [1,1,0] (by kernel_rfl)) (by rw[hr]) pR.1
 . refine xb 5 0 H ?_;refine xg 0 H fun k3 w5 H6=>xe 0 3 H6 fun w6 H7=>xb 5 3 H7<|xq 5 (.bool ((k:Int)==(3:Int))) (.bool false) (eF (by omega))<|xq 6 (.bool ((k:Int)==(4:Int))) (.bool true) (eT (by omega))<|xb 7 3 H7 ?_;refine xq 0 (.bool (nn==(1:Int))) (.bool (nn==1)) (rfl) ?_;refine xd 0 [] H7 (fun Hp R hZ=>Dz T (nn==1) w6 R Hp  (fun b1 S2 w7 G1=>hZ _ _ _ G1 fun H8=>?_));refine xe 2 1 H8 fun w8 H9=>xf 2 [] H9 (.tuple #[]) ?_;have ax:=PW (S:=S) (S2:=S2) (T:=T) (sp:=sp) (l:=[.env eo e,.aJ (PN.mk k ta nm nn nA nc ks)]) (sp2:=[]) (l2:=[.val b1 (.bool (nn==1))]) (kv:=sp) (l':=[.env eo e,.aJ (PN.mk k ta nm nn nA nc ks),.vo (some b1) (some (.bool (nn==1)))]) H9 [3,0] (by kernel_rfl) (fun S' h h2=>h.snoc (x:=.vo (some b1) (some (.bool (nn==1)))) h2.val);obtain⟨S3,bh⟩:=ax;subst aq;exact hK S3 As ns cs sp k ta nm nn nA nc ks (some b1) (some (.bool (nn==1))) _ (bh.pick [1,1,0] (by kernel_rfl)) (by rw[hr]) pR.1
 . refine xb 5 0 H ?_;refine xg 0 H fun k4 w9 bp=>xe 0 3 bp fun df aV=>xb 5 3 aV<|xq 5 (.bool ((k:Int)==(3:Int))) (.bool false) (eF (by omega))<|xq 6 (.bool ((k:Int)==(4:Int))) (.bool false) (eF (by omega))<|xq 6 (.bool ((k:Int)==(5:Int))) (.bool true) (eT (by omega)) ?_;refine xg 7 aV fun k5 gV bS=>xe 2 0 bS fun jk bD=>xf 2 [] bD (.tuple #[]) ?_;have m2:aO jk S T sp [.env eo e,.aJ (PN.mk k ta nm nn nA nc ks)]:=aD bD 2;have ax:=o0 m2 bD [2,3] sp [.env eo e,.aJ (PN.mk k ta nm nn nA nc ks),.vo (some k5) (some (.unit))] k5 137 (Ym 2 (.int .i64 0) (.pointer none) (.pointer none) (.pointer none)) (by kernel_rfl) (fun S' h hb hc=>h.snoc (x:=.vo (some k5) (some (.unit))) (.unit hb hc));obtain⟨S4,bG⟩:=ax;subst aq;exact hK S4 As ns cs sp k ta nm nn nA nc ks (some k5) (some (.unit)) _ (bG.pick [1,1,0] (by kernel_rfl)) (by rw[hr]) pR.1
 . refine xb 5 0 H ?_;refine xg 0 H fun k6 jT cC=>xe 0 3 cC fun jZ bL=>xb 5 3 bL<|xq 5 (.bool ((k:Int)==(3:Int))) (.bool false) (eF (by omega))<|xq 6 (.bool ((k:Int)==(4:Int))) (.bool false) (eF (by omega))<|xq 6 (.bool ((k:Int)==(5:Int))) (.bool false) (eF (by omega)) ?_;refine xq 6 (.bool ((k:Int)==(15:Int))) (.bool true) (eT (by omega))<|xg 7 bL fun k7 mn dG=>xe 2 0 dG fun mq cx=>xf 2 [] cx (.tuple #[]) ?_;have m3:aO mq S T sp [.env eo e,.aJ (PN.mk k ta nm nn nA nc ks)]:=aD cx 2;have ax:=o0 m3 cx [2,3] sp [.env eo e,.aJ (PN.mk k ta nm nn nA nc ks),.vo (some k7) (some (.nil))] k7 137 (Ym 3 (.int .i64 0) (.pointer none) (.pointer none) (.pointer none)) (by kernel_rfl) (fun S' h hb hc=>h.snoc (x:=.vo (some k7) (some (.nil))) (.nil hb hc));obtain⟨S5,cM⟩:=ax;subst aq;exact hK S5 As ns cs sp k ta nm nn nA nc ks (some k7) (some (.nil)) _ (cM.pick [1,1,0] (by kernel_rfl)) (by rw[hr]) pR.1
 . refine xb 5 0 H ?_;refine xg 0 H fun k8 lW dt=>xe 0 3 dt fun oN ep=>xb 5 3 ep<|xq 5 (.bool ((k:Int)==(3:Int))) (.bool false) (eF (by omega))<|xq 6 (.bool ((k:Int)==(4:Int))) (.bool false) (eF (by omega))<|xq 6 (.bool ((k:Int)==(5:Int))) (.bool false) (eF (by omega)) ?_;refine xq 6 (.bool ((k:Int)==(15:Int))) (.bool false) (eF (by omega))<|xq 6 (.bool ((k:Int)==(6:Int))) (.bool true) (eT (by omega))<|xy 5 ep [0,3] [10] (LJ:=[bR br As ns cs (.n k) (.n ta) nm (.int .i64 nn) nA ks.length nc (pO eo) (.pointer none) bo (.int .i64 0) eB (.int .i64 steps),.ar k8 (.cells #[.n k,.n ta,.string nm,.int .i64 nn,.slice nA ks.length nc] 62)]) (by kernel_rfl) fun rB fi=>xm [(0,none),(1,none),(2,none),(3,none),(4,some (0,[7,8,9,10])),(5,none),(6,some (1,[7,8,9,10]))] (fi.sb [0,2])<|xl ?_;intro iU;refine xp 7 ?_;have m4:aO rB S T sp [.env eo e,.aJ (PN.mk k ta nm nn nA nc ks)]:=aD fi 2;have dI:=eE m4 fi 2 (by kernel_rfl) ([]) [.env eo e] (⟨fun _ h=>(by cases h),fun _ h=>(by rw[List.mem_singleton.1 h];exact m4.2 _ (.head _))⟩);refine xd 0 [4] dI (fun Hp R hZ=>aak S T e v eo nm rB R Hp hv (fun vb1 s6 G2=>hZ _ _ _ G2 fun dp=>?_));refine xj (x:=iU) 7 (dp.sb [2,4])<|xm [(8,none),(9,none)] (dp.sb [2,4])<|xl ?_;intro ky;refine xp 10<|xe 0 2 dp fun m_ fE=>xj (x:=ky) 10 Sx.np<|xw<|xb 6 2 fE<|xf 6 [] fE (.tuple #[]) ?_;have m5:aO m_ S T ([]) [.val vb1 v]:=aD fE 1;have m6:aO m_ S T sp [.env eo e,.aJ (PN.mk k ta nm nn nA nc ks)]:=aD fE 4;have fV:=eE m6 fE 4 (by kernel_rfl) sp [.env eo e,.aJ (PN.mk k ta nm nn nA nc ks),.vo (some vb1) (some v)] (m6.snoc (x:=.vo (some vb1) (some v)) m5.val);subst aq;exact hK S As ns cs sp k ta nm nn nA nc ks (some vb1) (some v) _ (fV.pick [2,2,4] (by kernel_rfl)) (by rw[hr]) pR.1
 . refine xb 5 0 H ?_;refine xg 0 H fun k9 u5 jU=>xe 0 3 jU fun xC fG=>xb 5 3 fG<|xq 5 (.bool ((k:Int)==(3:Int))) (.bool false) (eF (by omega))<|xq 6 (.bool ((k:Int)==(4:Int))) (.bool false) (eF (by omega))<|xq 6 (.bool ((k:Int)==(5:Int))) (.bool false) (eF (by omega)) ?_;refine xq 6 (.bool ((k:Int)==(15:Int))) (.bool false) (eF (by omega))<|xq 6 (.bool ((k:Int)==(6:Int))) (.bool false) (eF (by omega))<|xq 6 (.bool ((k:Int)==(7:Int))) (.bool true) (eT (by omega))<|xy 4 fG [3,0] [10] (LJ:=[.ar k9 (.cells #[.n k,.n ta,.string nm,.int .i64 nn,.slice nA ks.length nc] 62),bR br As ns cs (.n k) (.n ta) nm (.int .i64 nn) nA ks.length nc (pO eo) (.pointer none) bo (.int .i64 0) eB (.int .i64 steps)]) (by kernel_rfl) fun tz eU=>xm [(0,none),(1,some (0,[6,7,8,9,10])),(2,none),(3,none),(4,none),(5,some (1,[6,7,8,9,10])),(6,none)] (eU.sb [3,0])<|xl ?_;intro mJ;refine xp 7<|xg 0 eU fun rU yF fj=>xj (x:=mJ) 7 (fj.sb [3,0])<|xm [(8,none),(9,none)] (fj.sb [3,0])<|xl ?_;intro s7;refine xp 10<|xe 0 0 fj fun s8 gM=>xj (x:=s7) 10 Sx.np<|xw<|xf 1 [] gM (.tuple #[]) ?_;have m7:aO s8 S T sp [.env eo e,.aJ (PN.mk k ta nm nn nA nc ks)]:=aD gM 2;have ax:=o0 m7 gM [2,3] sp [.env eo e,.aJ (PN.mk k ta nm nn nA nc ks),.vo (some rU) (some (.fn (PN.mk k ta nm nn nA nc ks) e))] rU 137 #[.int .i64 6,.int .i64 0,.pointer none,.pointer none,.n k,.n ta,.string nm,.int .i64 nn,.slice nA ks.length nc,pO eo,.slice none 0 0,.string eB,.bool false,.bool false] (by kernel_rfl) (fun S' h hb hc=>h.snoc (x:=.vo (some rU) (some (.fn (PN.mk k ta nm nn nA nc ks) e))) (.fn hb hc (h.2 _ j0) (h.2 _ j1)));obtain⟨S6,lX⟩:=ax;subst aq;exact hK S6 As ns cs sp k ta nm nn nA nc ks (some rU) (some (.fn (PN.mk k ta nm nn nA nc ks) e)) _ (lX.pick [1,1,0] (by kernel_rfl)) (by rw[hr]) pR.1
 refine xb 5 0 H<|xg 0 H fun UC xD iT=>xe 0 3 iT fun xE iv=>xb 5 3 iv<|xq 5 (.bool ((k:Int)==(3:Int))) (.bool false) (eF (by omega))<|xq 6 (.bool ((k:Int)==(4:Int))) (.bool false) (eF (by omega)) ?_;refine xq 6 (.bool ((k:Int)==(5:Int))) (.bool false) (eF (by omega))<|xq 6 (.bool ((k:Int)==(15:Int))) (.bool false) (eF (by omega))<|xq 6 (.bool ((k:Int)==(6:Int))) (.bool false) (eF (by omega))<|xq 6 (.bool ((k:Int)==(7:Int))) (.bool false) (eF (by omega)) ?_;have m8:aO xE S T sp [.env eo e,.aJ (PN.mk k ta nm nn nA nc ks)]:=aD iv 2;have jV:=eE m8 iv 2 (by kernel_rfl) ([]) [.aJ (PN.mk k ta nm nn nA nc ks)] (⟨fun _ h=>(by cases h),fun _ h=>(by rw[List.mem_singleton.1 h];exact m8.2 _ j1)⟩);refine xd 6 [0,0,2] jV (fun Hp R hZ=>Yn S T dk da bX dn dA dc db br As ns cs sp k ta nm nn nA nc ks eo none bo steps 0 none e none xE R Hp (by omega) hd (fun A1 c1 Cx G3=>hZ _ _ _ G3 fun mr=>?_));refine xf 2 [] mr (.tuple #[]) ?_;have m9:aO Cx S T sp [.env eo e,.aJ (PN.mk k ta nm nn nA nc ks)]:=aD mr 3;have kF:=eE m9 mr 3 (by kernel_rfl) (sp++[⟨.mk (PN.mk k ta nm nn nA nc ks) 0 e none,eo,none⟩]) [.env eo e,.aJ (PN.mk dk da bX dn dA dc db),.vo none none] (aO.l3 (sV m9.1 (.no (m9.2 _ j0) (m9.2 _ j1))) (m9.2 _ j0) (PK.pd (m9.2 _ j1) hd) trivial);subst aq;exact hK S A1 (ns+1) c1 (sp++[⟨.mk (PN.mk k ta nm nn nA nc ks) 0 e none,eo,none⟩]) dk da bX dn dA dc db none none _ (kF.pick [0,0,3] (by kernel_rfl)) (by rw[hr];simp) (by rw[pR.1];simp)
end Mr
end Go.Proofs.YtdmdecgoebnamaaGreat
namespace Go.Mn
open Go.RowKit Go.Sx Go.aR Go.Gx
theorem f_{α:Type}{l:List α}{x:α}{i:Nat}{y:α}(h:(l++[x])[i]?=some y):i<l.length/\l[i]?=some y∨i=l.length/\y=x:=by
 rcases Nat.lt_or_ge i l.length with q|q
 . rw[List.getElem?_append_left q] at h;exact .inl ⟨q,h⟩
 . have:=(List.getElem?_eq_some_iff.1 h).1;have e:i=l.length:=by simp at this;omega
   subst e;simp at h;exact .inr ⟨rfl,h.symm⟩
def ig(ty:Nat)(T:List Nat)(C:Nat->Θ)(hs:List Nat):Sx.Item:=.abs (fun c=>∃i:Nat,T[i]?=some c/\i∉hs) (fun w=>(∀(i b:Nat),T[i]?=some b->i∉hs->Has w b (.cells (C i).toArray ty))/\∀(i j b:Nat),T[i]?=some b->T[j]?=some b->i∉hs->j∉hs->i=j)
section
variable {w0 w:Ψ} {L0 L:List Sx.Item} {ty n b:Nat} {T hs:List Nat} {C C':Nat->Θ}
theorem om(h1:∀(i b:Nat),T[i]?=some b->i∉hs->Has w b (.cells (C i).toArray ty))(h2:∀(i j b:Nat),T[i]?=some b->T[j]?=some b->i∉hs->j∉hs->i=j):(ig ty T C hs).holds w:=
 ⟨⟨h1,h2⟩,fun _ ⟨i,hi,hn⟩=>(h1 i _ hi hn).lt,fun _ _ _ hk h=>⟨fun i b hi hn=>(hk b ⟨i,hi,hn⟩).trans (h.1 i b hi hn),h.2⟩⟩
theorem MP(H : Hs w0 L0 w L)(i : Nat)(hi : bB [i] L = some [ig ty T C hs])(hb : T[n]? = some b)(hn : n ∉ hs){v : Θ}(hv : C n = v) :
   Hs w0 L0 w (.ar b (.cells v.toArray ty)::ig ty T C (n::hs)::rest [i] L):=by
 subst hv;have k:Hs w0 L0 w (ig ty T C hs::rest [i] L):=H.perm (ic hi);have hh:=k.at 0 rfl;have sp:Sp w [.ar b (.cells (C n).toArray ty),ig ty T C (n::hs)]:=by
   refine⟨fun it rP=>?_,List.pairwise_cons.2 ⟨fun it rP=>?_,List.pairwise_singleton _ _⟩⟩
   . rcases List.mem_cons.1 rP with rfl|q
     . exact hh.1.1 n b hb hn
     . rw[List.mem_singleton.1 q];exact om (fun i b hi h=>hh.1.1 i b hi fun q=>h (.tail _ q)) (fun i j b hi hj h1 h2=>hh.1.2 i j b hi hj (fun q=>h1 (.tail _ q)) fun q=>h2 (.tail _ q))
   . rw[List.mem_singleton.1 rP];rintro _ c hc ⟨j,hj,Kw⟩;have hc:c=b:=hc;subst hc;exact Kw (by rw[hh.1.2 j n c hj hb (fun q=>Kw (.tail _ q)) hn];exact .head _)
 have k2 := k.ayy 0 (comp (fun L => L = [.ar b (.cells (C n).toArray ty), ig ty T C (n :: hs)]) (Ig [.ar b (.cells (C n).toArray ty), ig ty T C (n :: hs)])) rfl rfl (zy sp rfl (fun it rP => by
     rcases List.mem_cons.1 rP with rfl|q
     . rfl
     . rw[List.mem_singleton.1 q];rfl)) (fun c ⟨it,rP,hc⟩=>by
     rcases List.mem_cons.1 rP with rfl|q
     . have hc:c=b:=hc;subst hc;exact⟨n,hb,hn⟩
     . rw[List.mem_singleton.1 q] at hc;obtain⟨j,hj,Kw⟩:=hc
       exact⟨j,hj,fun q=>Kw (.tail _ q)⟩)
 obtain⟨L',rfl,k3⟩:=k2.eR 0 rfl;exact k3
theorem PZ(H : Hs w0 L0 w L)(I : List Nat){v : Θ}(hp : bB I L = some [.ar b (.cells v.toArray ty), ig ty T C (n :: hs)])(hb : T[n]? = some b)(hn : n ∉ hs)(hv : C' n = v)(hC : ∀ i, i ≠ n -> i < T.length -> C' i = C i) :
   Hs w0 L0 w (ig ty T C' hs::rest I L):=by
 subst hv;have sp:=(H.pick I hp).sp;have h1:Has w b (.cells (C' n).toArray ty):=sp.all _ (.head _);have h2:(ig ty T C (n::hs)).holds w:=sp.all _ (.tail _ (.head _));have ap:∀j:Nat,T[j]?=some b->j∉hs->j=n:=fun j hj Kw=>by
   by_cases e:j=n
   . exact e
   . exact absurd ⟨j,hj,fun q=>(List.mem_cons.1 q).elim e Kw⟩ ((List.pairwise_cons.1 sp.Bm).1 _ (.head _) rfl b rfl)
 have nm:∀{i:Nat},i≠n->i∉hs->i∉n::hs:=fun h1 h2 q=>(List.mem_cons.1 q).elim h1 h2;have k:=H.cls I hp (shape:=fun L=>L=[.ar b (.cells (C' n).toArray ty),ig ty T C (n::hs)]) rfl rfl;refine k.ayy 0 (ig ty T C' hs) rfl rfl (om (fun i c hi MQ=>?_) (fun i j c hi hj MQ Kw=>?_)) (fun c ⟨i,hi,MQ⟩=>?_)
 . by_cases e:i=n
   . subst e;rw[hb] at hi;cases hi;exact h1
   . rw[hC i e (List.getElem?_eq_some_iff.1 hi).1];exact h2.1.1 i c hi (nm e MQ)
 . by_cases e:i=n
   . subst e;rw[hb] at hi;cases hi;exact(ap j hj Kw).symm
   . by_cases e2:j=n
     . subst e2;rw[hb] at hj;cases hj;exact ap i hi MQ
     . exact h2.1.2 i j c hi hj (nm e MQ) (nm e2 Kw)
 . by_cases e:i=n
   . subst e;rw[hb] at hi;cases hi;exact⟨_,.head _,rfl⟩
   . exact⟨_,.tail _ (.head _),i,hi,nm e MQ⟩
theorem P0(H : Hs w0 L0 w L)(I : List Nat){v : Θ}(hp : bB I L = some [.ar b (.cells v.toArray ty), ig ty T C hs])(hv : C' T.length = v)(hC : ∀ i, i < T.length -> C' i = C i) :
   Hs w0 L0 w (ig ty (T++[b]) C' hs::rest I L):=by
 subst hv;have sp:=(H.pick I hp).sp;have h1:Has w b (.cells (C' T.length).toArray ty):=sp.all _ (.head _);have h2:(ig ty T C hs).holds w:=sp.all _ (.tail _ (.head _));have ap:∀j:Nat,T[j]?=some b->j∉hs->False:=fun j hj Kw=>(List.pairwise_cons.1 sp.Bm).1 _ (.head _) rfl b rfl ⟨j,hj,Kw⟩;have k:=H.cls I hp (shape:=fun L=>L=[.ar b (.cells (C' T.length).toArray ty),ig ty T C hs]) rfl rfl;refine k.ayy 0 (ig ty (T++[b]) C' hs) rfl rfl (om (fun i c hi MQ=>?_) (fun i j c hi hj MQ Kw=>?_)) (fun c ⟨i,hi,MQ⟩=>?_)
 . rcases f_ hi with⟨q,e⟩|⟨rfl,rfl⟩
   . rw[hC i q];exact h2.1.1 i c e MQ
   . exact h1
 . rcases f_ hi with⟨q,e⟩|⟨rfl,rfl⟩<;>rcases f_ hj with⟨q2,e2⟩|⟨rfl,e2⟩
   . exact h2.1.2 i j c e e2 MQ Kw
   . subst e2;exact(ap i e MQ).elim
   . exact(ap j e2 Kw).elim
   . rfl
 . rcases f_ hi with⟨q,e⟩|⟨rfl,rfl⟩
   . exact⟨_,.tail _ (.head _),i,e,MQ⟩
   . exact⟨_,.head _,rfl⟩
end
def Yq(T:List RR)(us:List Bool)(i:Nat):Θ:=match T[i]? with
 |some r=>PT r.A r.n r.c r.op r.once (us[i]?.getD false)
 |none=>[]
def wA(T:List RR)(us:List Bool):Sx.Item:=ig 137 (T.map (·.b)) (Yq T us) []
theorem Ix{T:List RR}{us:List Bool}{i:Nat}{r:RR}{u:Bool}(h:T[i]?=some r)(hu:us[i]?=some u):Yq T us i=PT r.A r.n r.c r.op r.once u:=by
 unfold Yq;rw[h,hu];rfl
section
variable {w0 w:Ψ} {L0 L:List Sx.Item} {T:List RR} {us:List Bool}
theorem VU(H : Hs w0 L0 w L)(i : Nat)(hi : bB [i] L = some [wA T us]){n : Nat}{r : RR}{u : Bool}(hn : T[n]? = some r)(hu : us[n]? = some u) :
   Hs w0 L0 w (.ar r.b (.cells (PT r.A r.n r.c r.op r.once u).toArray 137)::ig 137 (T.map (·.b)) (Yq T us) [n]::rest [i] L):=
 MP H i hi (by simp[hn]) (fun h=>by cases h) (Ix hn hu)
theorem aam(H : Hs w0 L0 w L)(I : List Nat){n : Nat}{r : RR}{u : Bool}(hp : bB I L = some [.ar r.b (.cells (PT r.A r.n r.c r.op r.once u).toArray 137), ig 137 (T.map (·.b)) (Yq T us) [n]])(hn : T[n]? = some r)(hu : n < us.length) :
   Hs w0 L0 w (wA T (us.set n u)::rest I L):=
 PZ H I hp (by simp[hn]) (fun h=>by cases h) (Ix hn (by simp[hu])) (fun i hi _=>by unfold Yq;rw[List.getElem?_set_ne (Ne.symm hi)])
theorem aan(H : Hs w0 L0 w L)(I : List Nat){r : RR}{u : Bool}(hp : bB I L = some [.ar r.b (.cells (PT r.A r.n r.c r.op r.once u).toArray 137), wA T us])(hl : us.length = T.length) :
   Hs w0 L0 w (wA (T++[r]) (us++[u])::rest I L):=by
 have:=P0 (C':=Yq (T++[r]) (us++[u])) H I hp (by rw[List.length_map];exact Ix (by simp) (by simp[<- hl])) (fun i hi=>by
   rw[List.length_map] at hi
   unfold Yq;rw[List.getElem?_append_left hi,List.getElem?_append_left (by omega)])
 rw[wA,List.map_append];exact this
end
def xF(b:Nat)(mp:List (Nm×Value)):Sx.Item:=t_ .string Value.string b mp
def E1(mp:List (Nm×Value))(x:Nm):Bool:=match Sx.look x mp with
 |some (.bool b)=>b
 |_=>false
def xG(mp:List (Nm×Value)):Prop:=∀p∈mp,∃b,p.2=.bool b
theorem aao{mp:List (Nm×Value)}(h:xG mp)(x:Nm):(Sx.look x mp).getD (.bool false)=.bool (E1 mp x):=by
 unfold E1;cases e:Sx.look x mp with
 |none=>rfl
 |some v=>
   unfold Sx.look at e;obtain⟨j,_,e⟩:=Option.bind_eq_some_iff.1 e;obtain⟨p,hp,rfl⟩:=Option.map_eq_some_iff.1 e;obtain⟨b,hb⟩:=h p (List.mem_of_getElem? hp);rw[hb];rfl
theorem ae_(a:Nm):MapKept.IsKey .string (Value.string a):=trivial
theorem str_inj(a b:Nm)(h:Value.string a=.string b):a=b:=by injection h
section
variable [Rd] {P:Program} {B:Exit->Act->Ψ->Prop} {b:Nat->Value} {n:Nat} {d:List Deferred} {w0 w:Ψ} {x:Sx.St} {L0 L:List Sx.Item}
theorem lkO{t kt et : Nat}(m i : Nat)(H : Hs w0 L0 w L){bt : Nat}{mp : List (Nm × Value)}(a : Nm)(hi : L[i]? = some (xF bt mp))(ho : xG mp)
   (k:Goal P B b n d (nx (vX (via P b n m w x (Sx.ask (nV b n)))).y (vX (via P b n m w x (Sx.ask (nV b n)))).q (.bool (E1 mp a))) w)
   (h:vA (via P b n m w x (Sx.ask (nV b n)))=vB w (via P b n m w x (Sx.ask (nV b n))):=by kernel_rfl)
   (h2:((vX (via P b n m w x (Sx.ask (nV b n)))).u,(vX (via P b n m w x (Sx.ask (nV b n)))).t)=([.map (some bt),.string a],[t,0]):=by kernel_rfl)
   (ht:lS P t=some (kt,et):=by kernel_rfl) (nv:P.underlying kt=some .string:=by kernel_rfl) (hz:(P.info? et).bind (·.zero)=some (.bool false):=by kernel_rfl):Goal P B b n d x w:=
 lk (r:=0) m i H (enc:=Value.string) a (.bool false) hi ae_ str_inj (by rw[aao ho];exact k) h h2 ht nv hz
end
theorem aO.akH{w:Ψ}{S:Nat->Prop}{T:List RR}{sp:List FP}{b:Nat}{v:Vl}(h:aO w S T sp [.val b v]):d_ w S T b v:=h.2 (.val b v) (.head _)
def cR:Option Nat->Int
 |none=> -1
 |some k=>(k:Int)
theorem afa{a b:Nm}(h:dh a b=false):a≠b:=fun e=>by rw[ey.2 e] at h;cases h
theorem MR{op : Nm}{ks : List PN}{i : Nat}{o : Option Nat}(h : cJ op (ks.drop i) i = o) : (¬ i < ks.length /\ o = none) ∨
   (∃(k a:Nat) (nm:Nm) (n:Int) (A:Ω) (c:Nat) (l:List PN),ks[i]?=some (.mk k a nm n A c l)/\i<ks.length/\op=nm/\o=some i)∨
   (∃(k a:Nat) (nm:Nm) (n:Int) (A:Ω) (c:Nat) (l:List PN),ks[i]?=some (.mk k a nm n A c l)/\i<ks.length/\nm≠op/\cJ op (ks.drop (i+1)) (i+1)=o):=by
 by_cases hi:i<ks.length
 . rw[List.drop_eq_getElem_cons hi,cJ] at h;have hk:ks[i]?=some ks[i]:=List.getElem?_eq_getElem hi;revert hk h;generalize ks[i]=d;intro h hk;obtain⟨k,a,nm,n,A,c,l⟩:=d;split at h
   . rename_i q;exact .inr (.inl ⟨k,a,nm,n,A,c,l,hk,hi,(ey.1 q).symm,h.symm⟩)
   . rename_i q;exact .inr (.inr ⟨k,a,nm,n,A,c,l,hk,hi,fun e=>q (ey.2 e),h⟩)
 . rw[List.drop_eq_nil_of_le (by omega),cJ] at h;exact .inl ⟨hi,h.symm⟩
theorem Kx{op:Nm}:∀{l:List Fr}{i0:Nat},hand op l i0=none->∀(j:Nat)(f:Fr),l[j]?=some f->f.nd.k=20->cJ op (f.nd.ks.drop 2) 2=none
 |[],_,_,j,f,hj,_=>by cases hj
 |g::l,i0,h,j,f,hj,hk=>by
   unfold hand at h;split at h
   . cases h
   . rename_i hn;cases j with
     |zero=>
       cases hj;rw[if_pos hk] at h;split at h
       . cases h
       . rename_i q;exact q
     |succ j=>exact Kx hn j f hj hk
theorem Ky{op:Nm}:∀{l:List Fr}{i0 i k:Nat},hand op l i0=some (i,k)->∃f,i0<=i/\l[i-i0]?=some f/\f.nd.k=20/\cJ op (f.nd.ks.drop 2) 2=some k/\∀(j:Nat)(f':Fr),i-i0<j->l[j]?=some f'->f'.nd.k=20->cJ op (f'.nd.ks.drop 2) 2=none
 |[],_,_,_,h=>by cases h
 |g::l,i0,i,k,h=>by
   unfold hand at h;split at h
   . rename_i q hq;cases h;obtain⟨f,h1,h2,h3,h4,h5⟩:=Ky hq;refine⟨f,by omega,?_,h3,h4,fun j f' hj hf=>?_⟩
     . rw[show i-i0=(i-(i0+1))+1 from by omega];exact h2
     . obtain⟨j,rfl⟩:∃m,j=m+1:=⟨j-1,by omega⟩;exact h5 j f' (by omega) hf
   . rename_i hn;split at h
     . rename_i hk;split at h
       . rename_i k' hc;cases h;refine⟨g,Nat.le_refl _,by rw[Nat.sub_self];rfl,hk,hc,fun j f' hj hf=>?_⟩;obtain⟨j,rfl⟩:∃m,j=m+1:=⟨j-1,by omega⟩;exact Kx hn j f' hf
       . cases h
     . cases h
theorem P2{sp:List FP}{i:Nat}{f:Fr}(h:(sp.map (·.f))[i]?=some f):∃o v,sp[i]?=some ⟨f,o,v⟩:=by
 rw[List.getElem?_map] at h;obtain⟨p,hp,rfl⟩:=Option.map_eq_some_iff.1 h;exact⟨p.e,p.v,hp⟩
theorem VW{once : Nm -> Bool}{sp : List FP}{gS : PN}{e0 : En}{v0 : Option Vl}{us : List Bool}{op : Nm}{x : Vl}{r' : Rn}(h : kq once ⟨sp.map (·.f), gS, e0, v0, us⟩ op x = some r') :
   ∃(i k fa:Nat) (eV:Nm) (fn:Int) (fA:Ω) (fc:Nat) (gF:List PN) (UD:Nat) (fe:En) (fv:Option Vl) (fo Yr:Option Nat) (ck ca:Nat) (FV:Nm) (cn:Int) (cA:Ω) (cc:Nat) (a b d:PN),
     sp[i]?=some ⟨.mk (.mk 20 fa eV fn fA fc gF) UD fe fv,fo,Yr⟩/\cJ op (gF.drop 2) 2=some k/\gF[k]?=some (.mk ck ca FV cn cA cc [a,b,d])/\
     (∀(j:Nat)(f':Fr),i<j->(sp.map (·.f))[j]?=some f'->f'.nd.k=20->cJ op (f'.nd.ks.drop 2) 2=none)/\
     r'=⟨(sp.take i).map (·.f),d,.put b.nm (.res us.length ((sp.drop (if fn==1 then i+1 else i)).map (·.f)) op (once op)) (.put a.nm x fe),none,us++[false]⟩:=by
 unfold kq at h;split at h
 . rename_i i k hh;obtain⟨f,h1,h2,h3,h4,h5⟩:=Ky hh;simp only at h;rw[Nat.sub_zero] at h2 h5;rw[h2] at h;obtain⟨⟨fk,fa,eV,fn,fA,fc,gF⟩,UD,fe,fv⟩:=f;simp only[PN.ks,PN.n] at h;split at h
   . rename_i c hc;obtain⟨ck,ca,FV,cn,cA,cc,cks⟩:=c;rcases cks with _|⟨a,_|⟨b,_|⟨d,_|⟨_,_⟩⟩⟩⟩
     . cases h
     . cases h
     . cases h
     . cases h;have h3:fk=20:=h3;subst h3;obtain⟨o,v,hs⟩:=P2 h2;exact⟨i,k,fa,eV,fn,fA,fc,gF,UD,fe,fv,o,v,ck,ca,FV,cn,cA,cc,a,b,d,hs,h4,hc,h5,by rw[List.map_take,List.map_drop];rfl⟩
     . cases h
   . cases h
 . cases h
theorem VX{op : Nm}{sp : List FP}{i j : Nat}(Ux : i <= j)(hj : j < sp.length)(h : ∀(j : Nat)(f' : Fr), i < j -> (sp.map (·.f))[j]? = some f' -> f'.nd.k = 20 -> cJ op (f'.nd.ks.drop 2) 2 = none) :
   i=j∨∃(qk qa:Nat) (cD:Nm) (qn:Int) (qA:Ω) (qc:Nat) (bU:List PN) (DA:Nat) (qe:En) (qv:Option Vl) (qo ij:Option Nat),sp[j]?=some ⟨.mk (.mk qk qa cD qn qA qc bU) DA qe qv,qo,ij⟩/\i<j/\(qk≠20∨qk=20/\cJ op (bU.drop 2) 2=none):=by
 rcases Nat.eq_or_lt_of_le Ux with e|e
 . exact .inl e
 . have hs:sp[j]?=some sp[j]:=List.getElem?_eq_getElem hj;revert hs;generalize sp[j]=f;intro hs;obtain⟨⟨⟨qk,qa,cD,qn,qA,qc,bU⟩,DA,qe,qv⟩,qo,ij⟩:=f;refine .inr ⟨qk,qa,cD,qn,qA,qc,bU,DA,qe,qv,qo,ij,hs,e,?_⟩;by_cases q:qk=20
   . exact .inr ⟨q,h j (.mk (.mk qk qa cD qn qA qc bU) DA qe qv) e (by rw[List.getElem?_map,hs];rfl) q⟩
   . exact .inl q
theorem wz.nd{w:Ψ}{S:Nat->Prop}{T:List RR}{o vo:Option Nat}{nd:PN}{at_:Nat}{e:En}{v:Option Vl}(h:wz w S T o vo (.mk nd at_ e v)):PK w S nd/\zK w S T o e:=by
 cases h with
 |no he hk=>exact⟨hk,he⟩
 |so he hv hk=>exact⟨hk,he⟩
theorem akJ{r s:Nm}(h:r=s):Value.bool (s.toList==r.toList)=.bool true:=by rw[h];simp
theorem qR(f:FP):(Iv f).length=8:=by obtain⟨⟨⟨⟩,_,_,_⟩,_,_⟩:=f;rfl
theorem VY(f:FP):∀u∈Iv f,u.oneCell'=true:=by obtain⟨⟨⟨⟩,_,_,_⟩,_,_⟩:=f;exact List.all_eq_true.1 rfl
theorem nE(l:List FP):(bx l).length=l.length*8:=by
 induction l with
 |nil=>rfl
 |cons f l ih=>rw[bx,List.flatMap_cons,List.length_append,qR];rw[bx] at ih;rw[ih,List.length_cons];omega
theorem FW(l:List FP):∀u∈bx l,u.oneCell'=true:=fun u hu=>by
 obtain⟨f,_,hf⟩:=List.mem_flatMap.1 hu;exact VY f u hf
theorem P3(l m:List FP):bx l++bx m=bx (l++m):=by simp[bx]
theorem vq(l:List FP):∀k,(bx l).take (k*8)=bx (l.take k):=by
 induction l with
 |nil=>intro k;simp[bx]
 |cons f l ih=>
   intro k;cases k with
   |zero=>simp[bx]
   |succ k=>
     have:=ih k;simp only[bx,List.flatMap_cons,List.take_succ_cons] at this ⊢;rw[<- this,show(k+1)*8=(Iv f).length+k*8 from by rw[qR];omega,List.take_length_add_append]
theorem Cy(l:List FP):∀k,(bx l).drop (k*8)=bx (l.drop k):=by
 induction l with
 |nil=>intro k;simp[bx]
 |cons f l ih=>
   intro k;cases k with
   |zero=>simp[bx]
   |succ k=>
     have:=ih k;simp only[bx,List.flatMap_cons,List.drop_succ_cons] at this ⊢;rw[<- this,show(k+1)*8=(Iv f).length+k*8 from by rw[qR];omega,List.drop_length_add_append]
theorem vr{l:List FP}{i:Nat}{f:FP}(h:l[i]?=some f):((bx l).drop (i*8)).take 8=Iv f:=by
 obtain⟨hi,rfl⟩:=List.getElem?_eq_some_iff.1 h;rw[Cy,List.drop_eq_getElem_cons hi,bx,List.flatMap_cons,List.take_append_of_le_length (Nat.le_of_eq (qR _).symm),List.take_of_length_le (Nat.le_of_eq (qR _))]
theorem P4{w : Ψ}{A C : Ω}{cap n k : Nat}{sp : List FP}(h : iu w 135 8 A cap n (bx sp))(hC : ∀ a, C = some a -> ∃ a0, A = some a0 /\ (k < n -> a = a0.add (k * 8))) :
   ∀a,C=some a->∀(j:Nat)(u:Value),(bx (sp.drop k))[j]?=some u->w.cell? (a.add j)=some u:=fun a ha j u hu=>by
 obtain⟨a0,h0,hk⟩:=hC a ha;have hl:=(List.getElem?_eq_some_iff.1 hu).1;have h1:=h.1;rw[nE,List.length_drop] at hl;rw[nE] at h1;rw[hk (by omega),add_add];refine h.at h0 _ _ ?_;rw[<- Cy,List.getElem?_drop] at hu;exact hu
theorem P5{w:Ψ}{A:Ω}{cap n:Nat}{fp:List FP}(h:w.ownsRow 0 135 8 (.slice A n cap) n (bx fp)){j:Nat}{f:FP}(hj:fp[j]?=some f):∃g,A=some g/\(Value.slice A n cap).ownBlock=some g.block/\w.cells? 0 (g.add (j*8)) 8=some (Iv f):=by
 have hl:=(List.getElem?_eq_some_iff.1 hj).1;have h1:=h.1;rw[nE] at h1;rcases h.2 with⟨_,h0⟩|⟨g,dj,cur,hv,_⟩
 . omega
 . injection hv with h2;exact⟨_,h2,by rw[h2];rfl,(iu.of h).cells h2 (vr hj) (qR f)⟩
theorem PK.cell{w:Ψ}{S:Nat->Prop}{k a:Nat}{nm:Nm}{n:Int}{A:Ω}{c:Nat}{ks:List PN}(h:PK w S (.mk k a nm n A c ks)){g:Addr}(hA:A=some g){i:Nat}{d:PN}(hi:ks[i]?=some d):w.cells? 0 (g.add (i*5)) 5=some d.cells:=by
 obtain⟨_,⟨g',h1,_,h2⟩,_⟩:=h.at hi;rw[hA] at h1;cases h1;exact h2
section
variable {w0 w:Ψ} {L0 L:List Sx.Item} {S:Nat->Prop} {T T':List RR} {sp kv:List FP} {l l':List MF}
theorem afb(H : Hs w0 L0 w L)(I : List Nat){A : Ω}{cap n : Nat}{fp : List FP}{b1 b2 t1 t2 : Nat}{c1 c2 : Array Value}(hp : bB I L = some [mI S T sp l, .own 135 8 A cap n (bx fp), .ar b1 (.cells c1 t1), .ar b2 (.cells c2 t2)])
   (hT:∀(i:Nat)(r:RR),T[i]?=some r->T'[i]?=some r)
   (h:∀S':Nat->Prop,aO w S' T' sp l->(∀(j:Nat)(f:FP),fp[j]?=some f->∃g,A=some g/\S' g.block/\w.cells? 0 (g.add (j*8)) 8=some (Iv f))->n<=cap->S' b1->w.cells? 0 ⟨b1,0,none⟩ c1.size=some c1.toList->S' b2->w.cells? 0 ⟨b2,0,none⟩ c2.size=some c2.toList->aO w S' T' kv l'):
   ∃S',Hs w0 L0 w (mI S' T' kv l'::rest I L):=by
 refine⟨_,H.fz I hp (fun s=>?_) (sR _ _ _ _)⟩;have h0:aO w S T sp l:=(s.all _ (.head _)).1;have h1:w.ownsRow 0 135 8 (.slice A n cap) n (bx fp):=s.all _ (.tail _ (.head _));have h2:Has w b1 (.cells c1 t1):=s.all _ (.tail _ (.tail _ (.head _)));have h3:Has w b2 (.cells c2 t2):=s.all _ (.tail _ (.tail _ (.tail _ (.head _))));refine h _ (h0.up ⟨fun _ _=>rfl,fun c hc=>⟨_,.head _,hc⟩,hT⟩) (fun j f hj=>?_) (ma h1) ⟨_,.tail _ (.tail _ (.head _)),rfl⟩ ?_ ⟨_,.tail _ (.tail _ (.tail _ (.head _))),rfl⟩ ?_
 . obtain⟨g,hg,hb,hc⟩:=P5 h1 hj;exact⟨g,hg,⟨_,.tail _ (.head _),hb⟩,hc⟩
 . refine ChangeShapes.cells?_of (Nat.zero_le _) (by simp) (fun j hj=>?_);rw[cell_of_row w b1 _ c1 t1 (0,0) h2,Nat.zero_add];simp
 . refine ChangeShapes.cells?_of (Nat.zero_le _) (by simp) (fun j hj=>?_);rw[cell_of_row w b2 _ c2 t2 (0,0) h3,Nat.zero_add];simp
end
theorem VZ{w : Ψ}{S : Nat -> Prop}{T : List RR}{sp : List FP}{i kk fr m vb id bk cap b1 b2 UD : Nat}{x : Vl}{nd c a b d : PN}{fe : En}{fv : Option Vl}{fo Yr : Option Nat}{A : Ω}{op : Nm}{once : Bool}
   (h:aO w S T sp [.val vb x]) (hs:sp[i]?=some ⟨.mk nd UD fe fv,fo,Yr⟩) (hk:nd.ks[kk]?=some c) (ui:c.ks=[a,b,d]) (hid:T[id]?=some ⟨bk,A,m,cap,op,once⟩) (hlen:((sp.drop fr).map (·.f)).length=m) (Bl:m<=cap)
   (hrw:∀(j:Nat)(f:FP),(sp.drop fr)[j]?=some f->∃g,A=some g/\S g.block/\w.cells? 0 (g.add (j*8)) 8=some (Iv f)) (Of:S b1) (nX:w.cells? 0 ⟨b1,0,none⟩ 3=some [.string a.nm,pO (some vb),pO fo])
   (Ys:S b2) (xH:w.cells? 0 ⟨b2,0,none⟩ 3=some [.string b.nm,pO (some bk),pO (some b1)]):
   aO w S T (sp.take i) [.env (some b2) (.put b.nm (.res id ((sp.drop fr).map (·.f)) op once) (.put a.nm x fe)),.aJ d,.vo none none]:=by
 obtain⟨Yj,hen⟩:=wz.nd (h.1 _ (List.mem_of_getElem? hs));subst hlen;refine aO.l3 (fun f hf=>h.1 f (List.mem_of_mem_take hf)) ?_ (PK.pd (PK.pd Yj hk) (i:=2) (by rw[ui];rfl)) trivial;exact .put Ys xH (.res _ hid rfl Bl hrw (fun j f hj=>h.1 f (List.mem_of_mem_drop (List.mem_of_getElem? hj)))) (.put Of nX h.akH hen)
end Go.Mn
namespace Go.Proofs.YtdmdecgoebnamaaGreat
open Go.RowKit Go.Sx Go.aR Go.Mn
attribute [local irreducible] Go.wpOps Go.Code.wp Go.wpOp Go.wpAnyH Go.Calls Go.Sx.Goal
set_option maxRecDepth 20000
namespace Mr
theorem FX(S : Φ)(T : List RR)(k ta : Nat)(nm : Nm)(nn : Int)(nA : Ω)(nc : Nat)(ks : List PN)(op : Nm)(o : Option Nat)(w : Ψ)(K : Ending -> Ψ -> Prop)(H0 : Sp w [mI S T ([]) [.aJ (PN.mk k ta nm nn nA nc ks)]])(hf : cJ op (ks.drop 2) 2 = o)(hK : ∀ w', Hs w [mI S T ([]) [.aJ (PN.mk k ta nm nn nA nc ks)]] w' [mI S T [] [.aJ (PN.mk k ta nm nn nA nc ks)]] -> K (.returned (.int .i64 (cR o))) w') :
   Calls Tryz.prog 108 #[Sx.nA k ta nm nn nA ks nc,.string op] w K:=by
 obtain⟨L0,aq,H⟩:=Sx.cw H0;refine xu (vs:=[Sx.nA k ta nm nn nA ks nc,.string op]) 22 Tryz.func108<|xg 2 H fun k1 w1 H1=>?_;refine y0 10 (fun z l' w'=>∃(i:Nat),l'=[(1,.string op),(2,.p k1),(5,.n i)]/\z=ks.length-i/\Hs w L0 w' [mI S T ([]) [.aJ (PN.mk k ta nm nn nA nc ks)],.ar k1 (.cells #[.n k,.n ta,.string nm,.int .i64 nn,.slice nA ks.length nc] 62)]/\(cJ op (ks.drop i) i=o)) _ _ ⟨2,rfl,rfl,H1,hf⟩ (fun b1 z1 l1 w2 cm K1 aU=>?_);obtain⟨i,rfl,rfl,H2,hi⟩:=cm;have ax:=MR hi;rcases ax with⟨hge,ho⟩|⟨dk,da,bX,dn,dA,dc,db,hd,afc,PX,ho⟩|⟨dk,da,bX,dn,dA,dc,db,hd,afc,PX,hn⟩
 . subst ho;refine xb 5 1 H2<|xq 1 (.bool (decide ((i:Int)<(ks.length:Int)))) (.bool false) (dF (by omega))<|xf 14 [] H2 (.int .i64 (-1)) ?_;subst aq;exact hK _ (H2.pick [0] (by kernel_rfl))
 . subst ho;have m1:aO w2 S T ([]) [.aJ (PN.mk k ta nm nn nA nc ks)]:=aD H2 0;have ax:=PK.at (m1.2 _ j0) hd;obtain⟨FU,⟨gk,BE,_,Yo⟩,_⟩:=ax;refine xb 5 1 H2<|xq 1 (.bool (decide ((i:Int)<(ks.length:Int)))) (.bool true) (dT (by omega))<|xb 10 1 H2<|xv 1 gk i 5 ks.length nc BE (by omega)<|xz 0 (Addr.add gk (i*5)) 2<|xt (c:=1) (t:=9) 0 [.string bX] (.string bX) (aa Yo (by decide:2+1<=5)) ?_;refine xq 1 (.bool (bX.toList==op.toList)) (.bool true) (akJ PX)<|xf 15 [] H2 (.n i) ?_;subst aq;exact hK _ (H2.pick [0] (by kernel_rfl))
 have m2:aO w2 S T ([]) [.aJ (PN.mk k ta nm nn nA nc ks)]:=aD H2 0;have ax:=PK.at (m2.2 _ j0) hd;obtain⟨FU,⟨gk,BE,_,Yo⟩,_⟩:=ax;refine xb 5 1 H2<|xq 1 (.bool (decide ((i:Int)<(ks.length:Int)))) (.bool true) (dT (by omega))<|xb 10 1 H2<|xv 1 gk i 5 ks.length nc BE (by omega)<|xz 0 (Addr.add gk (i*5)) 2<|xt (c:=1) (t:=9) 0 [.string bX] (.string bX) (aa Yo (by decide:2+1<=5)) ?_;refine xq 1 (.bool (bX.toList==op.toList)) (.bool false) (aaj (Ne.symm (Ne.symm PX)))<|Sx.vi 8 ((i:Int)+(1:Int)) ((i+1:Nat):Int) (Gx.bq (by omega) (by omega)) ?_;exact xi 2 _ (aU _ _ _ _ (by omega) ⟨(i+1),rfl,rfl,H2,hn⟩)
set_option maxHeartbeats 4000000 in
theorem Iy(S : Φ)(T : List RR)(us : List Bool)(mp : List (Nm × Value))(e : En)(r' : Rn)(br : Nat)(As : Ω)(ns cs : Nat)(sp : List FP)(k ta : Nat)(nm : Nm)(nn : Int)(nA : Ω)(nc : Nat)(ks : List PN)(eo : Option Nat)(bo : Nat)(steps : Int)(op : Nm)(vb : Nat)(x : Vl)(w : Ψ)(K : Ending -> Ψ -> Prop)(H0 : Sp w [bR br As ns cs (.n k) (.n ta) nm (.int .i64 nn) nA ks.length nc (pO eo) (.pointer none) bo (.int .i64 0) eB (.int .i64 steps), wI 135 8 As cs ns (bx sp), mI S T sp [.val vb x], wA T us, xF bo mp])(pR : ns = sp.length /\ ns < 100000000)(o4 : us.length = T.length)(gv : xG mp)(hf : kq (E1 mp) ⟨sp.map (·.f), (PN.mk k ta nm nn nA nc ks), e, none, us⟩ op x = some r')(hK : ∀(S' : Φ)(T' : List RR)(A' : Ω)(n' : Nat)(c' : Nat)(kv : List FP)(k' : Nat)(a' : Nat)(sW : Nm)(sY : Int)(sZ : Ω)(s5 : Nat)(pf : List PN)(MS : Option Nat)(e' : En)(HG : Option Nat)(v' : Option Vl)(FY : List Bool) w', Hs w [bR br As ns cs (.n k) (.n ta) nm (.int .i64 nn) nA ks.length nc (pO eo) (.pointer none) bo (.int .i64 0) eB (.int .i64 steps), wI 135 8 As cs ns (bx sp), mI S T sp [.val vb x], wA T us, xF bo mp] w' [bR br A' n' c' (.n k') (.n a') sW (.int .i64 sY) sZ pf.length s5 (pO MS) (pO HG) bo (.int .i64 0) eB (.int .i64 steps), wI 135 8 A' c' n' (bx kv), mI S' T' kv [.env MS e', .aJ (PN.mk k' a' sW sY sZ s5 pf), .vo HG v'], wA T' FY, xF bo mp] -> (r' = ⟨kv.map (·.f), (PN.mk k' a' sW sY sZ s5 pf), e', v', FY⟩) -> (n' = kv.length) -> (FY.length = T'.length) -> K (.returned (.tuple #[])) w') :
   Calls Tryz.prog 67 #[.p br,.string op,.pointer (Χ vb)] w K:=by
 obtain⟨L0,aq,H⟩:=Sx.cw H0;refine xu (vs:=[.p br,.string op,.pointer (Χ vb)]) 117 Tryz.func67 ?_;have ax:=VW hf;obtain⟨i,kk,fa,eV,fn,fA,fc,gF,UD,fe,fv,fo,Yr,ck,ca,FV,cn,cA,cc,⟨xk,xa,vt,xn,xA,xc,Bn⟩,⟨yk,ya,P6,yn,yA,yc,yks⟩,⟨dk,da,bX,dn,dA,dc,db⟩,Oh,akL,Iz,Mh,hr⟩:=ax;have UA:=(List.getElem?_eq_some_iff.1 Oh).1;have ax:=PU (e:=135) (sz:=8) (A:=As) (cap:=cs) (n:=ns) (xs:=bx sp) H 1 (by kernel_rfl) (by omega);obtain⟨g0,V0⟩:=ax;refine xb 6 0 H<|Sx.vi 1 ((ns:Int)-(1:Int)) ((ns-1:Nat):Int) ((by rw[show((ns:Int)-(1:Int))=((ns-1:Nat):Int) by omega];exact IntWalk.i64_in _ (by omega))) ?_;refine y0 4 (fun z l' w'=>∃(j:Nat),l'=[(0,.p br),(1,.string op),(2,.pointer (Χ vb)),(6,.n j)]/\z=j+1/\Hs w L0 w' [bR br As ns cs (.n k) (.n ta) nm (.int .i64 nn) nA ks.length nc (pO eo) (.pointer none) bo (.int .i64 0) eB (.int .i64 steps),wI 135 8 As cs ns (bx sp),mI S T sp [.val vb x],wA T us,xF bo mp]/\(i<=j/\j<sp.length)) _ _ ⟨(ns-1),rfl,rfl,H,(by omega)⟩ (fun b1 z1 l1 w1 cm K1 aU=>?_);obtain⟨j,rfl,rfl,H1,hj⟩:=cm;have ax:=VX hj.1 hj.2 Mh;rcases ax with Ux|⟨qk,qa,cD,qn,qA,qc,bU,DA,qe,qv,qo,ij,hq,eK,aap|⟨aap,hqc⟩⟩
 . subst Ux;refine xb 17 0 H1<|xv 1 (Υ g0) i 8 ns cs V0 (by omega) ?_;have m1:=H1.at 1 (it:=wI 135 8 As cs ns (bx sp)) (by kernel_rfl);refine xt (c:=8) (t:=135) 0 [.n 20,.n fa,.string eV,.int .i64 fn,.slice fA gF.length fc,.n UD,pO fo,pO Yr] (.agg #[.n 20,.n fa,.string eV,.int .i64 fn,.slice fA gF.length fc,.n UD,pO fo,pO Yr]) ((m1).1.cells V0 (vr Oh) rfl)<|xg 0 H1 fun k1 w2 H2=>xe 0 5 H2 fun w3 H3=>xb 7 5 H3<|xq 0 (.bool (((20:Nat):Int) != (20:Int))) (.bool false) (nF (by omega))<|xb 8 5 H3 ?_;have m2:aO w3 S T sp [.val vb x]:=aD H3 2;have H4:=eE m2 H3 2 (by kernel_rfl) ([]) [.aJ (PN.mk 20 fa eV fn fA fc gF)] (⟨fun _ h=>(by cases h),fun _ h=>(by rw[List.mem_singleton.1 h];exact(wz.nd (m2.1 _ (List.mem_of_getElem? Oh))).1)⟩);refine xd 1 [6] H4 (fun Hp R hZ=>FX S T 20 fa eV fn fA fc gF op (some kk) w3 R Hp akL (fun w4 G1=>hZ _ _ _ G1 fun H5=>?_));refine yg 19 (fun l' w'=>∃(fr:Nat),l'=[(0,.p br),(1,.string op),(2,.pointer (Χ vb)),(6,.n i),(7,.p k1),(8,.n kk),(9,.n fr)]/\Hs w L0 w' [mI S T ([]) [.aJ (PN.mk 20 fa eV fn fA fc gF)],bR br As ns cs (.n k) (.n ta) nm (.int .i64 nn) nA ks.length nc (pO eo) (.pointer none) bo (.int .i64 0) eB (.int .i64 steps),wI 135 8 As cs ns (bx sp),mI S T sp [.val vb x],wA T us,xF bo mp,.ar k1 (.cells #[.n 20,.n fa,.string eV,.int .i64 fn,.slice fA gF.length fc,.n UD,pO fo,pO Yr] 135)]/\(fr=if fn==1 then i+1 else i)) (fun K2 eC=>?_) (fun b2 l2 w5 iw=>?_)
   . refine xb 4 6 H5 ?_;refine xh 3 (fn==(1:Int)) (fun kY=>?_) (fun kY=>?_)
     . have zM:=Gx.k1 kY;refine Sx.vi 2 ((i:Int)+(1:Int)) ((i+1:Nat):Int) (Gx.bq (by omega) (by omega)) ?_;exact xi 2 _ (eC _ _ _ ⟨(i+1),rfl,H5.pk [0,0,0,0,0,0,0],(by simp[kY])⟩)
     have zM:=Gx.k0 kY;exact xi 1 _ (eC _ _ _ ⟨i,rfl,H5.pk [0,0,0,0,0,0,0],(by simp[kY])⟩)
   obtain⟨fr,rfl,H8,hfr⟩:=iw;have hfl:fr<=ns/\i<ns:=by split at hfr<;>omega
   refine xb 6 1 H8<|lkO (bt:=bo) (mp:=mp) (t:=72) (kt:=9) (et:=4) 1 5 H8 op (by kernel_rfl) gv<|xg 1 H8 fun k2 w6 H9=>xy 4 H9 [7,1] [14] (LJ:=[.ar k2 (.cells #[.int .i64 7,.int .i64 0,.pointer none,.pointer none,.int .i64 0,.int .i64 0,.string eB,.int .i64 0,.slice none 0 0,.pointer none,.slice none 0 0,.string op,.bool (E1 mp op),.bool false] 137),bR br As ns cs (.n k) (.n ta) nm (.int .i64 nn) nA ks.length nc (pO eo) (.pointer none) bo (.int .i64 0) eB (.int .i64 steps)]) (by kernel_rfl) fun w7 bh=>xm [(0,none),(1,none),(2,none),(3,none),(4,some (0,[11,12,13,14])),(5,none),(6,none),(7,none),(8,some (1,[10,11,12,13,14])),(9,none)] (bh.sb [7,1])<|xl ?_;intro iU;refine xp 10 ?_;have m3:=bh.at 2 (it:=wI 135 8 As cs ns (bx sp)) (by kernel_rfl);have ZS:=(m3).1;refine Sx.sf 0 As ns cs fr 8 (by omega) ZS.pQ (fun C1 zN hD1=>?_);refine xj (x:=iU) 10 (bh.sb [7,1])<|xl ?_;intro ky;refine xp 11 ?_;have bp:=bh.add (Gx.Ext.refl _) (it:=.own 135 8 none 0 0 []) (World.ownsRow_nil _ _ _ _) (fun _ h=>by cases h);have m4:=bp.at 2 (it:=wI 135 8 As cs ns (bx sp)) (by kernel_rfl);have P7:=(m4).1;refine Sx.aps 0 8 88 (ns-fr) 135 8 69 (cs-fr) C1 none 0 0 [] (bx (sp.drop fr)) bp (fun h=>by have hz:=zN h;rw[hz] at P7;have:=P7.nil;omega) (P4 P7 hD1) (by rw[nE,List.length_drop,pR.1]) (FW _) (by omega) (by omega) (Nat.le_refl 0) (BA:=bx (sp.drop fr)) rfl fun A1 bT w8 aV=>xj (x:=ky) 11 (aV.sb [7,1])<|xm [(12,none),(13,none)] (aV.sb [7,1])<|xl ?_;intro mJ;refine xp 14<|xe 0 7 aV fun w9 bS=>xj (x:=mJ) 14 Sx.np<|xw<|xb 7 1 bS ?_;have m5:=bS.at 2 (it:=wI 135 8 As cs ns (bx sp)) (by kernel_rfl);refine Sx.s3 2 i (len:=ns) (cap:=cs) (A:=As) (by omega) (iu.pQ (m5).1)<|xe 2 1 bS fun df bD=>?_;have m6:aO df S T sp [.val vb x]:=aD bD 3;have ax:=PK.at (wz.nd (m6.1 _ (List.mem_of_getElem? Oh))).1 Iz;obtain⟨FU,⟨gk,BE,_,Yo⟩,_⟩:=ax;have P8:=(List.getElem?_eq_some_iff.1 Iz).1;have ax:=PK.at (PK.pd (wz.nd (m6.1 _ (List.mem_of_getElem? Oh))).1 Iz) (i:=0) rfl;obtain⟨_,⟨gc,MT,_,_⟩,_⟩:=ax;refine xb 6 6 bD<|xv 1 gk kk 5 gF.length fc BE (by omega)<|xt (c:=5) (t:=62) 0 [.n ck,.n ca,.string FV,.int .i64 cn,.slice cA ([(PN.mk xk xa vt xn xA xc Bn),(PN.mk yk ya P6 yn yA yc yks),(PN.mk dk da bX dn dA dc db)].length) cc] (.agg #[.n ck,.n ca,.string FV,.int .i64 cn,.slice cA ([(PN.mk xk xa vt xn xA xc Bn),(PN.mk yk ya P6 yn yA yc yks),(PN.mk dk da bX dn dA dc db)].length) cc]) Yo<|xg 0 bD fun k3 gV bG=>xe 0 9 bG fun jk cC=>xy 3 cC [9,3,6] [] (LJ:=[.ar k3 (.cells #[.n ck,.n ca,.string FV,.int .i64 cn,.slice cA ([(PN.mk xk xa vt xn xA xc Bn),(PN.mk yk ya P6 yn yA yc yks),(PN.mk dk da bX dn dA dc db)].length) cc] 62),mI S T sp [.val vb x],.ar k1 (.cells #[.n 20,.n fa,.string eV,.int .i64 fn,.slice fA gF.length fc,.n UD,pO fo,pO Yr] 135)]) (by kernel_rfl) fun jT bL=>?_;refine xm [(0,none),(1,none),(2,some (0,[]))] (bL.sb [9,3,5])<|yj 3 [] gc 1 5 ([(PN.mk xk xa vt xn xA xc Bn),(PN.mk yk ya P6 yn yA yc yks),(PN.mk dk da bX dn dA dc db)].length) cc MT (by simp) (bL.sb [9,3,5])<|yp 4 [] (Addr.add gc (1*5)) 2 (bL.sb [9,3,5]) ?_;have m7:aO jT S T sp [.val vb x]:=aD bL 3;refine yh (c:=1) (t:=9) 5 [] [.string P6] (.string P6) (fun w' hs=>(aa (PK.cell (PK.pd (wz.nd ((Go.aR.dJ hs 1 (it:=mI S T sp [.val vb x])).1.1 _ (List.mem_of_getElem? Oh))).1 Iz) MT (i:=1) rfl) (by decide:2+1<=5))) (bL.sb [9,3,5])<|xm [(6,none),(7,none),(8,some (0,[]))] (bL.sb [9,3,5])<|yj 9 [] gc 0 5 ([(PN.mk xk xa vt xn xA xc Bn),(PN.mk yk ya P6 yn yA yc yks),(PN.mk dk da bX dn dA dc db)].length) cc MT (by simp) (bL.sb [9,3,5])<|yp 10 [] (Addr.add gc (0*5)) 2 (bL.sb [9,3,5])<|yh (c:=1) (t:=9) 11 [] [.string vt] (.string vt) (fun w' hs=>(aa (PK.cell (PK.pd (wz.nd ((Go.aR.dJ hs 1 (it:=mI S T sp [.val vb x])).1.1 _ (List.mem_of_getElem? Oh))).1 Iz) MT (i:=0) rfl) (by decide:2+1<=5))) (bL.sb [9,3,5])<|xm [(12,none),(13,none),(14,some (2,[])),(15,none)] (bL.sb [9,3,5]) ?_;refine xl ?_;intro s7;refine xp 16<|xg 0 bL fun k4 jZ dG=>xj (x:=s7) 16 (dG.sb [9,3,5])<|xm [(17,none)] (dG.sb [9,3,5])<|xl ?_;intro yG;refine xp 18<|xg 0 dG fun k5 mn cx=>xj (x:=yG) 18 (cx.sb [9,3,5])<|xm [(19,none),(20,none)] (cx.sb [9,3,5])<|xl ?_;intro E2;refine xp 21<|xe 0 1 cx fun mq cM=>xj (x:=E2) 21 (cM.sb [9,3,5])<|xw<|xb 5 9 cM<|xv 0 gc 2 5 ([(PN.mk xk xa vt xn xA xc Bn),(PN.mk yk ya P6 yn yA yc yks),(PN.mk dk da bX dn dA dc db)].length) cc MT (by simp) ?_;have m8:aO mq S T sp [.val vb x]:=aD cM 3;refine xt (c:=5) (t:=62) 0 (Sx.nC dk da bX dn dA db dc) (Sx.nA dk da bX dn dA db dc) (PK.cell (PK.pd (wz.nd (m8.1 _ (List.mem_of_getElem? Oh))).1 Iz) MT (i:=2) rfl)<|xe 2 1 cM fun lW dt=>xf 8 [] dt (.tuple #[]) ?_;have m9:=dt.at 2 (it:=wI 135 8 As cs ns (bx sp)) (by kernel_rfl);have ep:=Iw (e:=135) (sz:=8) (A:=As) (cap:=cs) (n:=ns) (xs:=bx sp) (k:=i) (dj:=i) dt 2 (by kernel_rfl) (by omega) (Nat.le_refl _) (by have:=(m9).1.pQ;omega) (vq sp i);have hlen:((sp.drop fr).map (fun x:FP=>x.f)).length=0+(ns-fr):=by rw[List.length_map,List.length_drop,pR.1,Nat.zero_add]
   have ax:=afb (A:=A1) (cap:=bT) (n:=0+(ns-fr)) (t1:=139) (t2:=139) (S:=S) (T:=T) (T':=(T++[⟨k2,A1,0+(ns-fr),bT,op,E1 mp op⟩])) (sp:=sp) (l:=[.val vb x]) (kv:=sp.take i) (l':=[.env (some k5) (.put P6 (.res us.length ((sp.drop fr).map (fun x:FP=>x.f)) op (E1 mp op)) (.put vt x fe)),.aJ (PN.mk dk da bX dn dA dc db),.vo none none]) (fp:=sp.drop fr) (b1:=k4) (b2:=k5) (c1:=#[.string vt,.pointer (Χ vb),pO fo]) (c2:=#[.string P6,.p k2,.p k4]) ep [3,7,8,8] (by kernel_rfl) (fun i r h=>by rw[List.getElem?_append_left (List.getElem?_eq_some_iff.1 h).1];exact h) (fun S' h hrw Bl Of nX Ys xH=>VZ (id:=us.length) (A:=A1) (cap:=bT) (bk:=k2) (op:=op) (once:=E1 mp op) h Oh Iz rfl (by rw[o4];simp) hlen Bl hrw Of nX Ys xH);obtain⟨S1,fi⟩:=ax;have dI:=aan (r:=⟨k2,A1,0+(ns-fr),bT,op,E1 mp op⟩) (u:=false) fi [7,4] (by kernel_rfl) o4;subst aq;exact hK S1 (T++[⟨k2,A1,0+(ns-fr),bT,op,E1 mp op⟩]) As i i (sp.take i) dk da bX dn dA dc db (some k5) (.put P6 (.res us.length ((sp.drop fr).map (fun x:FP=>x.f)) op (E1 mp op)) (.put vt x fe)) none none (us++[false]) _ (dI.pick [3,3,1,0,1] (by kernel_rfl)) (by rw[hr,<-hfr];rfl) (by rw[List.length_take];omega) (by simp[o4])
 . refine xb 17 0 H1 ?_;refine xv 1 (Υ g0) j 8 ns cs V0 (by omega) ?_;have E4:=H1.at 1 (it:=wI 135 8 As cs ns (bx sp)) (by kernel_rfl);refine xt (c:=8) (t:=135) 0 [.n qk,.n qa,.string cD,.int .i64 qn,.slice qA bU.length qc,.n DA,pO qo,pO ij] (.agg #[.n qk,.n qa,.string cD,.int .i64 qn,.slice qA bU.length qc,.n DA,pO qo,pO ij]) ((E4).1.cells V0 (vr hq) rfl)<|xg 0 H1 fun k6 oN dp=>xe 0 5 dp fun rB fE=>xb 7 5 fE<|xq 0 (.bool ((qk:Int) != (20:Int))) (.bool true) (nT (by omega))<|Sx.vi 9 ((j:Int)-(1:Int)) ((j-1:Nat):Int) ((by rw[show((j:Int)-(1:Int))=((j-1:Nat):Int) by omega];exact IntWalk.i64_in _ (by omega))) ?_;exact xi 2 _ (aU _ _ _ _ (by omega) ⟨(j-1),rfl,rfl,fE.pk [0,0,0,0,0],(by omega)⟩)
 refine xb 17 0 H1<|xv 1 (Υ g0) j 8 ns cs V0 (by omega) ?_;have Kz:=H1.at 1 (it:=wI 135 8 As cs ns (bx sp)) (by kernel_rfl);refine xt (c:=8) (t:=135) 0 [.n qk,.n qa,.string cD,.int .i64 qn,.slice qA bU.length qc,.n DA,pO qo,pO ij] (.agg #[.n qk,.n qa,.string cD,.int .i64 qn,.slice qA bU.length qc,.n DA,pO qo,pO ij]) ((Kz).1.cells V0 (vr hq) rfl)<|xg 0 H1 fun k7 s6 jU=>xe 0 5 jU fun m_ fG=>xb 7 5 fG<|xq 0 (.bool ((qk:Int) != (20:Int))) (.bool false) (nF (by omega))<|xb 8 5 fG ?_;have IA:aO m_ S T sp [.val vb x]:=aD fG 2;have eU:=eE IA fG 2 (by kernel_rfl) ([]) [.aJ (PN.mk qk qa cD qn qA qc bU)] (⟨fun _ h=>(by cases h),fun _ h=>(by rw[List.mem_singleton.1 h];exact(wz.nd (IA.1 _ (List.mem_of_getElem? hq))).1)⟩);refine xd 1 [6] eU (fun Hp R hZ=>FX S T qk qa cD qn qA qc bU op none m_ R Hp hqc (fun u5 G2=>hZ _ _ _ G2 fun fj=>?_));refine Sx.vi 17 ((j:Int)-(1:Int)) ((j-1:Nat):Int) ((by rw[show((j:Int)-(1:Int))=((j-1:Nat):Int) by omega];exact IntWalk.i64_in _ (by omega))) ?_;exact xi 2 _ (aU _ _ _ _ (by omega) ⟨(j-1),rfl,rfl,fj.pk [1,1,1,1,1],(by omega)⟩)
end Mr
end Go.Proofs.YtdmdecgoebnamaaGreat
