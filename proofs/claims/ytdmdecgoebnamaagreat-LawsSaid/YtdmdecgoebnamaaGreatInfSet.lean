/- Sets of numbers in memory: maps to true, in whatever order. -/
import Derived.Test.YtdmdecgoebnamaaGreatSx7
import Derived.Test.YtdmdecgoebnamaaGreatMm
import Derived.Test.YtdmdecgoebnamaaGreatYb
import Derived.Maps.AppendAt
import Derived.Test.YtdmdecgoebnamaaGreatProg
set_option linter.unusedVariables false
set_option linter.unusedSimpArgs false
namespace Go.aS
open Go.RowKit Go.Sx Go.Gx Go.MapKept
def uj(l:List Nat):List (Int×Value):=l.map fun n:Nat=>((n:Int),.bool true)
def kq(s t:List Nat):Prop:=∀n,n∈s↔n∈t
theorem kq.rfl'{s:List Nat}:kq s s:=fun _=>Iff.rfl
theorem kq.symm{s t:List Nat}(h:kq s t):kq t s:=fun n=>(h n).symm
theorem kq.trans{s t u:List Nat}(h:kq s t)(k:kq t u):kq s u:=fun n=>(h n).trans (k n)
def za(w:World)(b:Nat)(s:List Nat):Prop:=∃l,kq l s∧∃es ck,Has w b (.map es ck)∧C6 (.int .i64) kj es ck (uj l)
theorem za.hO{w w':World}{b:Nat}{s:List Nat}(h:za w b s)(k:w'.heap[b]?=w.heap[b]?):za w' b s:=by
 obtain⟨l,h1,es,ck,h2,h3⟩:=h;exact ⟨l,h1,es,ck,k.trans h2,h3⟩
theorem za.auh{w:World}{b:Nat}{s t:List Nat}(h:za w b s)(k:kq s t):za w b t:=by
 obtain⟨l,h1,h2⟩:=h;exact ⟨l,h1.trans k,h2⟩
def cS(b:Nat)(s:List Nat):Sx.Item:=.abs (fun c=>c=b) (fun w=>za w b s)
theorem Mg(b:Nat)(s:List Nat):Sx.Loc (fun c=>c=b) (fun w=>za w b s):=fun _ _ _ hk h=>h.hO (hk b rfl)
theorem qq{w:World}{b:Nat}{s:List Nat}(h:za w b s):(cS b s).holds w:=by
 refine⟨h,fun c hc=>?_,Mg _ _⟩;obtain ⟨_,_,_,_,h2,_⟩:=h;subst hc;exact Has.lt h2
abbrev smap(b:Nat)(l:List Nat):Sx.Item:=rf (.int .i64) kj b (uj l)
section
variable {w0 w:World} {L0 L:List Sx.Item}
theorem rp(H:Hs w0 L0 w L)(i:Nat){b:Nat}{s:List Nat}(hi:L[i]?=some (cS b s)):∃l,kq l s∧Hs w0 L0 w (L.set i (smap b l)):=by
 obtain⟨⟨l,h1,es,ck,h2,h3⟩,_,_⟩:=H.at i hi;exact ⟨l,h1,H.auh i _ hi rfl (jN h2 h3) (fun _ h=>h)⟩
theorem zU(H:Hs w0 L0 w L)(i:Nat){b:Nat}{l s:List Nat}(hi:L[i]?=some (smap b l))(hm:kq l s):Hs w0 L0 w (L.set i (cS b s)):=by
 obtain⟨⟨es,ck,h2,h3⟩,_,_⟩:=H.at i hi;exact H.auh i _ hi rfl (qq ⟨l,hm,es,ck,h2,h3⟩) (fun _ h=>h)
theorem vY(H:Hs w0 L0 w L)(i:Nat){b:Nat}{s t:List Nat}(hi:L[i]?=some (cS b s))(hm:kq s t):Hs w0 L0 w (L.set i (cS b t)):=
 H.auh i _ hi rfl (qq ((H.at i hi).1.auh hm)) (fun _ h=>h)
theorem jA(H:Hs w0 L0 w L)(i:Nat){b:Nat}(hi:L[i]?=some (.al b (.map #[] 0))):Hs w0 L0 w (L.set i (cS b [])):=
 H.auh i _ hi rfl (qq ⟨[],kq.rfl',#[],0,H.at i hi,⟨stamped_empty 0,by simp,rfl⟩⟩) (fun _ h=>h)
end
theorem HB(q:Nat)(l:List Nat):(Sx.look (q:Int) (uj l))=if l.contains q then some (.bool true) else none:=by
 induction l with
 |nil=>rfl
 |cons n l ih=>
   rw[show uj (n::l)=((n:Int),Value.bool true)::uj l from rfl,zS,ih];by_cases e:n=q
   · subst e;simp
   · have h1:¬((n:Int)=(q:Int)):=by omega
     have h2:(q==n)=false:=by simp;exact fun h=>e h.symm
     rw[if_neg (by simpa using h1),List.contains_cons,h2,Bool.false_or]
theorem Rq(q:Nat)(l:List Nat):AM (q:Int) (.bool true) (uj l)=uj (add l q):=by
 unfold add;induction l with
 |nil=>rfl
 |cons n l ih=>
   rw[show uj (n::l)=((n:Int),Value.bool true)::uj l from rfl,vU,ih];by_cases e:n=q
   · subst e;simp[uj]
   · have h1:¬((n:Int)=(q:Int)):=by omega
     have h2:(q==n)=false:=by simp;exact fun h=>e h.symm
     rw[if_neg (by simpa using h1),List.contains_cons,h2,Bool.false_or];split<;>rfl
theorem Mh(a:Int)(p:Int×Value)(r:List (Int×Value)):del a (p::r)=if p.1=a then r else p::del a r:=by
 unfold del;rw [pos];by_cases e:p.1=a
 · rw[if_pos e,if_pos e];rfl
 · rw[if_neg e,if_neg e];cases pos a r<;>rfl
theorem uY{l:List Nat}{q n:Nat}:n∈add l q↔n∈l∨n=q:=by
 unfold add;split
 · rename_i h;have h:=List.contains_iff_mem.1 h;constructor
   · exact .inl
   · rintro(h'|rfl)
     · exact h'
     · exact h
 · simp
theorem Mi{es:Array MapEntry}{ck:Nat}{l:List Nat}(h:C6 (.int .i64) kj es ck (uj l)):l.Nodup:=by
 obtain⟨h1,_,h3⟩:=h;have hp:=((stamped_iff es ck).1 h1).2.2;have e:es.toList.map (·.key)=l.map fun n:Nat=>kj (n:Int):=by
   have:=congrArg (List.map Prod.fst) h3;simpa [uj,Function.comp_def] using this
 have:(es.toList.map (·.key)).Nodup:=by unfold List.Nodup;rw[List.pairwise_map];exact hp
 rw[e] at this;rw [List.Nodup,List.pairwise_map] at this;exact this.imp fun h e=>h (by rw[e])
theorem Rr{q:Nat}{l:List Nat}(h:l.Nodup):del (q:Int) (uj l)=uj (l.filter fun n=>n != q):=by
 induction l with
 |nil=>rfl
 |cons n l ih=>
   obtain⟨h1,h2⟩:=List.nodup_cons.1 h;rw [show uj (n::l)=((n:Int),Value.bool true)::uj l from rfl,Mh,ih h2];by_cases e:n=q
   · subst e;rw [if_pos rfl,List.filter_cons];simp only[bne_self_eq_false,Bool.false_eq_true,if_false];congr 1;refine (List.filter_eq_self.2 fun y hy=>?_).symm;have:y≠n:=fun q=>h1 (q▸hy);simp [this]
   · have h3:¬((n:Int)=(q:Int)):=by omega
     rw[if_neg (by simpa using h3),List.filter_cons];simp [e,uj]
theorem pJ{s t:List Nat}(h:kq s t)(q:Nat):s.contains q=t.contains q:=by
 rw[Bool.eq_iff_iff,List.contains_iff_mem,List.contains_iff_mem];exact h q
section
variable {P:Program} {B:Exit→Act→World→Prop} {b:Nat→Value} {n:Nat} {d:List Deferred} {w0 w:World} {x:St} {L0 L:List Sx.Item}
theorem lkb(m i bt q : Nat)(s : List Nat)(H : Hs w0 L0 w L){t kt et : Nat}(hi : L[i]? = some (cS bt s))
   (k:Goal P B b n d (Sx.nx (vX (via P b n m w x (Sx.ask (lU b n)))).y (vX (via P b n m w x (Sx.ask (lU b n)))).q (.bool (s.contains q))) w)
   (h:vA (via P b n m w x (Sx.ask (lU b n)))=vB w (via P b n m w x (Sx.ask (lU b n))):=by kernel_rfl)
   (h2:((vX (via P b n m w x (Sx.ask (lU b n)))).u,(vX (via P b n m w x (Sx.ask (lU b n)))).t)=([.map (some bt),.int .i64 (q:Int)],[t,0]):=by kernel_rfl)
   (ht:ki P t=some (kt,et):=by kernel_rfl) (lE:P.underlying kt=some (.int .i64):=by kernel_rfl) (hz:(P.info? et).bind (·.zero)=some (.bool false):=by kernel_rfl):Goal P B b n d x w:=by
 obtain⟨l,hl,H'⟩:=rp H i hi;have hlen:=(List.getElem?_eq_some_iff.1 hi).1;refine lk (r:=0) m i H' (q:Int) (.bool false) (List.getElem?_set_self hlen) y_ A_ ?_ h h2 ht lE hz;rw [show (Sx.look (q:Int) (uj l)).getD (.bool false)=.bool (s.contains q) by rw[HB,pJ hl];cases s.contains q<;>rfl];exact k
theorem mub(m i bt q : Nat)(s : List Nat)(H : Hs w0 L0 w L){t kt et : Nat}(hi : L[i]? = some (cS bt s))
   (k:∀w',Hs w0 L0 w' (L.set i (cS bt (add s q)))→Goal P B b n d (Sx.nx (vX (via P b n m w x (Sx.ask (pH b n)))).y (vX (via P b n m w x (Sx.ask (pH b n)))).q undef) w')
   (h:vA (via P b n m w x (Sx.ask (pH b n)))=vB w (via P b n m w x (Sx.ask (pH b n))):=by kernel_rfl)
   (h2:((vX (via P b n m w x (Sx.ask (pH b n)))).u,(vX (via P b n m w x (Sx.ask (pH b n)))).t)=([.map (some bt),.int .i64 (q:Int),.bool true],[t]):=by kernel_rfl)
   (ht:ki P t=some (kt,et):=by kernel_rfl) (lE:P.underlying kt=some (.int .i64):=by kernel_rfl):Goal P B b n d x w:=by
 obtain⟨l,hl,H'⟩:=rp H i hi;have hlen:=(List.getElem?_eq_some_iff.1 hi).1;refine mu m i H' (q:Int) (.bool true) (List.getElem?_set_self hlen) y_ A_ L7 (fun w' H2=>?_) h h2 ht lE;rw [Rq,List.set_set] at H2;have H3:=zU H2 i (List.getElem?_set_self hlen) (s:=add s q) (fun n=>by rw[uY,uY,hl n]);rw [List.set_set] at H3;exact k w' H3
theorem deb(m i bt q : Nat)(s : List Nat)(H : Hs w0 L0 w L){t t' kt et : Nat}(hi : L[i]? = some (cS bt s))
   (k:∀w',Hs w0 L0 w' (L.set i (cS bt (s.filter fun n=>n != q)))→Goal P B b n d (Sx.nx (vX (via P b n m w x (Sx.ask (Hi b n)))).y (vX (via P b n m w x (Sx.ask (Hi b n)))).q (.tuple #[])) w')
   (h:vA (via P b n m w x (Sx.ask (Hi b n)))=vB w (via P b n m w x (Sx.ask (Hi b n))):=by kernel_rfl)
   (h2:((vX (via P b n m w x (Sx.ask (Hi b n)))).u,(vX (via P b n m w x (Sx.ask (Hi b n)))).t)=([.map (some bt),.int .i64 (q:Int)],[t,t']):=by kernel_rfl)
   (ht:ki P t=some (kt,et):=by kernel_rfl) (lE:P.underlying kt=some (.int .i64):=by kernel_rfl):Goal P B b n d x w:=by
 obtain⟨l,hl,H'⟩:=rp H i hi;have hlen:=(List.getElem?_eq_some_iff.1 hi).1;have hnd:l.Nodup:=by obtain⟨⟨es,ck,_,hm⟩,_,_⟩:=H'.at i (List.getElem?_set_self hlen);exact Mi hm
 refine de m i H' (q:Int) (List.getElem?_set_self hlen) y_ A_ (fun w' H2=>?_) h h2 ht lE;rw [Rr hnd,List.set_set] at H2;have H3:=zU H2 i (List.getElem?_set_self hlen) (s:=s.filter fun n=>n != q) (fun n=>by rw[List.mem_filter,List.mem_filter,hl n]);rw [List.set_set] at H3;exact k w' H3
abbrev Ud(bt r:Nat)(l left:List Nat)(cur:Option Nat):Sx.Item:=YN (.int .i64) kj bt r (uj l) (uj left) (cur.map fun n:Nat=>((n:Int),.bool true))
theorem rgb(m i bt : Nat)(s : List Nat)(H : Hs w0 L0 w L){t kt et : Nat}(hi : L[i]? = some (cS bt s))
   (k:∀l r w',kq l s→Hs w0 L0 w' (L.set i (Ud bt r l l none))→Goal P B b n d (Sx.nx (vX (via P b n m w x (Sx.ask (Hz b n)))).y (vX (via P b n m w x (Sx.ask (Hz b n)))).q (.pointer (some ⟨r,0,none⟩))) w')
   (h:vA (via P b n m w x (Sx.ask (Hz b n)))=vB w (via P b n m w x (Sx.ask (Hz b n))):=by kernel_rfl)
   (h2:((vX (via P b n m w x (Sx.ask (Hz b n)))).u,(vX (via P b n m w x (Sx.ask (Hz b n)))).t)=([.map (some bt)],[t]):=by kernel_rfl)
   (ht:ki P t=some (kt,et):=by kernel_rfl):Goal P B b n d x w:=by
 obtain⟨l,hl,H'⟩:=rp H i hi;have hlen:=(List.getElem?_eq_some_iff.1 hi).1;refine rg m i H' (List.getElem?_set_self hlen) (fun r w' H2=>?_) h h2 ht;rw [List.set_set] at H2;exact k l r w' hl H2
theorem ntb(m i : Nat){bt r : Nat}{l left : List Nat}{cur : Option Nat}(H : Hs w0 L0 w L)(hi : L[i]? = some (Ud bt r l left cur))
   (k0:left=[]→Goal P B b n d (Sx.nx (vX (via P b n m w x (Sx.ask (EC b n)))).y (vX (via P b n m w x (Sx.ask (EC b n)))).q (.tuple #[.bool false])) w)
   (k1:∀q nU w',left.Perm (q::nU)→Hs w0 L0 w' (L.set i (Ud bt r l nU (some q)))→Goal P B b n d (Sx.nx (vX (via P b n m w x (Sx.ask (EC b n)))).y (vX (via P b n m w x (Sx.ask (EC b n)))).q (.tuple #[.bool true,.int .i64 (q:Int),.bool true])) w')
   (h:vA (via P b n m w x (Sx.ask (EC b n)))=vB w (via P b n m w x (Sx.ask (EC b n))):=by kernel_rfl)
   (h2:(vX (via P b n m w x (Sx.ask (EC b n)))).u=[.pointer (some ⟨r,0,none⟩)]:=by kernel_rfl):Goal P B b n d x w:=by
 refine nt m i H hi (fun e=>k0 (by cases left with|nil=>rfl|cons _ _=>simp[uj] at e)) (fun p nU w' hp H2=>?_) h h2;have I3:∀z∈p::nU,∃n:Nat,z=((n:Int),Value.bool true):=by
   intro z hz;have:=hp.symm.subset hz;obtain ⟨n,_,rfl⟩:=List.mem_map.1 this;exact ⟨n,rfl⟩
 obtain⟨q,rfl⟩:=I3 p (.head _);have hl':nU=uj (nU.map fun z=>z.1.toNat):=by
   unfold uj;rw [List.map_map];conv=>lhs;rw[← List.map_id nU]
   refine List.map_congr_left fun z hz=>?_;obtain ⟨n,rfl⟩:=I3 z (.tail _ hz);simp
 have hpp:left.Perm (q::nU.map fun z=>z.1.toNat):=by
   have:=hp.map fun z=>z.1.toNat
   simpa [uj,Function.comp_def] using this
 rw[hl'] at H2;exact k1 q _ w' hpp H2
theorem Rt(m i : Nat){bt r q : Nat}{l left : List Nat}(H : Hs w0 L0 w L)(hi : L[i]? = some (Ud bt r l left (some q)))
   (k:Goal P B b n d (Sx.nx (vX (via P b n m w x (Sx.ask (KM b n)))).y (vX (via P b n m w x (Sx.ask (KM b n)))).q (.tuple #[.int .i64 (q:Int),.bool true])) w)
   (h:vA (via P b n m w x (Sx.ask (KM b n)))=vB w (via P b n m w x (Sx.ask (KM b n))):=by kernel_rfl)
   (h2:(vX (via P b n m w x (Sx.ask (KM b n)))).u=[.pointer (some ⟨r,0,none⟩)]:=by kernel_rfl):Goal P B b n d x w:=
 ent m i (p:=((q:Int),.bool true)) H hi k h h2
def Ba(w:World)(S:Nat→Prop)(o:Option Nat)(s:List Nat):Prop:=match o with
 |none=>s=[]
 |some k=>S k∧za w k s
theorem Ba.hO{w w':World}{S:Nat→Prop}{o:Option Nat}{s:List Nat}(h:Ba w S o s)(k:∀c,S c→w'.heap[c]?=w.heap[c]?):Ba w' S o s:=by
 cases o with
 |none=>exact h
 |some b=>exact⟨h.1,h.2.hO (k b h.1)⟩
theorem Ba.mono{w:World}{S S':Nat→Prop}{o:Option Nat}{s:List Nat}(h:Ba w S o s)(k:∀c,S c→S' c):Ba w S' o s:=by
 cases o with
 |none=>exact h
 |some b=>exact⟨k _ h.1,h.2⟩
theorem lkr(m : Nat){S : Nat → Prop}{o : Option Nat}(q : Nat)(s : List Nat)(hs : Ba w S o s){t kt et : Nat}
   (k:Goal P B b n d (Sx.nx (vX (via P b n m w x (Sx.ask (lU b n)))).y (vX (via P b n m w x (Sx.ask (lU b n)))).q (.bool (s.contains q))) w)
   (h:vA (via P b n m w x (Sx.ask (lU b n)))=vB w (via P b n m w x (Sx.ask (lU b n))):=by kernel_rfl)
   (h2:((vX (via P b n m w x (Sx.ask (lU b n)))).u,(vX (via P b n m w x (Sx.ask (lU b n)))).t)=([.map o,.int .i64 (q:Int)],[t,0]):=by kernel_rfl)
   (ht:ki P t=some (kt,et):=by kernel_rfl) (lE:P.underlying kt=some (.int .i64):=by kernel_rfl) (hz:(P.info? et).bind (·.zero)=some (.bool false):=by kernel_rfl):Goal P B b n d x w:=by
 cases o with
 |some bt=>
   obtain⟨_,l,hl,es,ck,h3,h4⟩:=hs;have H:Hs w [smap bt l] w [smap bt l]:=Hs.refl ⟨fun it hi=>by rw[List.mem_singleton.1 hi];exact jN h3 h4,List.pairwise_singleton _ _⟩;refine lk (r:=0) m 0 H (q:Int) (.bool false) rfl y_ A_ ?_ h h2 ht lE hz;rw [show (Sx.look (q:Int) (uj l)).getD (.bool false)=.bool (s.contains q) by rw[HB,pJ hl];cases s.contains q<;>rfl];exact k
 |none=>
   have hs:s=[]:=hs;subst hs;obtain ⟨y,hr,hf⟩:=cG h;refine az hr ?_;generalize vX (via P b n m w x (Sx.ask (lU b n)))=zz at *;unfold lU at hf;split at hf<;>try contradiction
   rename_i q' hq;split at hf<;>try contradiction
   rename_i t' mo ix ok hop;simp only[Option.some.injEq] at hf;subst hf;simp only[Prod.mk.injEq,List.cons.injEq,and_true] at h2;obtain ⟨⟨h3,h4⟩,rfl,h5⟩:=h2;have C7:=mf ht;have LS:(zeroValue et).run P w=.ok (.bool false) w:=by
     cases eE:P.info? et with
     |none=>simp[eE] at hz
     |some inf=>rw[eE] at hz;simp only[Option.bind_some] at hz;simp[zeroValue,typeInfo,eE,hz]
   have Jm:(Instr.checkKey true 10000 kt (kj (q:Int))).run P w=.ok () w:=run_checkKey lE (y_ _) _ 9999;have uW:(Instr.findKey kt (.int .i64 (q:Int)) []).run P w=.ok none w:=run_findKey (P:=P) (w:=w) lE rfl;refine cF hq (v:=.bool false) ?_ k;unfold execOp;cases ok<;>simp only at h5<;>try contradiction
   simp[hop,h3,h4,Instr.lookup,run_underlying C7,Sem.run_bind,Jm,LS,uW,Result.andThen]
end
end Go.aS
namespace Go.aS
open Go.RowKit Go.Sx Go.Gx Go.fO
def dI(Q:Nat→Prop)(a:Addr)(n:Nat)(cs:List Value):Sx.Item:=.ro Q (fun w=>Q a.block∧w.cells? 0 a n=some cs)
theorem lI(Q:Nat→Prop)(a:Addr)(n:Nat)(cs:List Value):Sx.Loc Q (fun w=>Q a.block∧w.cells? 0 a n=some cs):=fun _ _ _ hk h=>⟨h.1,eZ h.2 (hk _ h.1)⟩
theorem aa{w:World}{a:Addr}{n i m:Nat}{cs:List Value}(h:w.cells? 0 a n=some cs)(hi:i+m≤n):w.cells? 0 (a.add i) m=some ((cs.drop i).take m):=by
 have q:=World.cells?_some h;have hl:((cs.drop i).take m).length=m:=by rw[List.length_take,List.length_drop,q.2.1];omega
 have hc:∀j,j<m→w.cell? ((a.add i).add j)=((cs.drop i).take m)[j]?:=fun j hj=>by
   rw[add_add,q.2.2 (i+j) (by omega),List.getElem?_take,if_pos hj,List.getElem?_drop]
 cases m with
 |zero=>
   have:(cs.drop i).take 0=[]:=by simp
   rw[this];unfold World.cells?;simp
 |succ m=>
   have h0:=hc 0 (by omega);generalize a.add i=a' at *;have e0:a'.add 0=a':=by unfold Addr.add;simp
   rw[e0] at h0;have hs:a'.spot=none:=by
     have hx:((cs.drop i).take (m+1))[0]?≠none:=by rw[List.getElem?_eq_getElem (by omega)];simp
     rw[← h0] at hx;unfold World.cell? at hx;cases hsp:a'.spot with
     |none=>rfl
     |some z=>exfalso;apply hx;rw[hsp];split<;>rfl
   obtain⟨ab,ao,auh⟩:=a';simp only at hs;subst hs;refine ChangeShapes.cells?_of (Nat.zero_le _) hl (fun j hj=>?_);rw [← hc j hj];unfold Addr.add;split
   · rename_i e;subst e;rfl
   · rfl
end Go.aS
namespace Go.Sx
open Go.RowKit Go.Gx
section
variable {P:Program} {fn:Func} {R:Ending→World→Prop} {b:Nat→Value} {n:Nat} {d:List Deferred} {w0 w:World} {x:St} {L0 L:List Sx.Item}
def faO(b:Nat→Value)(n:Nat)(z:Tz):Option (List Value×List Nat):=match z.o.op with
 |.fieldAddr t s f=>some ([ev b n z.l s],[t,f])
 |_=>none
theorem tvf(i : Nat)(C : List Nat)(a : Addr)(off : Nat)(hS : mW x = true → Sp w (jy x))
   (k:Goal P (bodyPost P fn R) b n d ((vX (via P b n 0 w x (gC b n i C))).k (.pointer (some (a.add off)))) w)
   (h:vA (via P b n 0 w x (gC b n i C))=vB w (via P b n 0 w x (gC b n i C)):=by kernel_rfl)
   (h2:(faO b n (vX (via P b n 0 w x (gC b n i C)))).map (·.1)=some [.pointer (some a)]:=by kernel_rfl)
   (h3:(match faO b n (vX (via P b n 0 w x (gC b n i C))) with|some q=>G_ P (q.2.getD 0 0) (q.2.getD 1 0) off|none=>false)=true:=by kernel_rfl):Goal P (bodyPost P fn R) b n d x w:=by
 refine tv i C _ hS (fun w' hs=>?_) k h;generalize vX (via P b n 0 w x (gC b n i C))=z at *;unfold faO at h2 h3;split at h2<;>try contradiction
 rename_i t s f hop;rw [hop] at h3;simp only[Option.map_some,Option.some.injEq,List.cons.injEq,and_true] at h2;exact nK hop a h2 off h3
end
end Go.Sx
namespace Go.aS
open Go.RowKit Go.Sx Go.Gx Go.fO
section
variable {w0 w:World} {L0 L:List Sx.Item}
theorem aD(H:Hs w0 L0 w L)(j:Nat){Q:Nat→Prop}{a:Addr}{n:Nat}{cs:List Value}(hi:L[j]?=some (dI Q a n cs)):w.cells? 0 a n=some cs:=(H.at j hi).1.2
theorem fZ{LJ:List Sx.Item}(H:Sp w LJ)(j:Nat){Q:Nat→Prop}{a:Addr}{n:Nat}{cs:List Value}(hi:LJ[j]?=some (dI Q a n cs)):w.cells? 0 a n=some cs:=(H.all _ (List.mem_of_getElem? hi)).1.2
theorem aJ(H : Hs w0 L0 w L)(j : Nat){Q : Nat → Prop}{ks : List Nd}{A : Option Addr}{c i : Nat}{d : Nd}(hi : L[j]? = some (eK Q ks A c))(hd : ks[i]? = some d) :
   ∃(B:Option Addr) (cb:Nat) (a:Addr),A=some a∧Hs w0 L0 w (L++[dI Q (a.add (i*5)) 5 (vM d B cb)]++[eK Q d.ks B cb]):=by
 have k:=(H.at j hi).1;obtain ⟨B,cb,a,ha,hc,hk⟩:=V4 k hd;refine ⟨B,cb,a,ha,?_⟩;have hq:Q a.block:=by
   cases k with
   |mk As cs _ _ hA _ _=>
     obtain⟨a',h1,h2⟩:=hA i (List.getElem?_eq_some_iff.1 hd).1;rw [ha] at h1;cases h1;exact h2
 have H1:=H.ro j (S:=Q) (A:=fun w=>KV Q w ks A c) (B:=fun w=>Q (a.add (i*5)).block∧w.cells? 0 (a.add (i*5)) 5=some (vM d B cb)) hi ⟨by rw[gh];exact hq,hc⟩ (lI _ _ _ _);have oN:(L++[dI Q (a.add (i*5)) 5 (vM d B cb)])[j]?=some (eK Q ks A c):=by
   rw[List.getElem?_append_left (List.getElem?_eq_some_iff.1 hi).1];exact hi
 exact H1.ro j (S:=Q) (A:=fun w=>KV Q w ks A c) (B:=fun w=>KV Q w d.ks B cb) oN hk (uX _ _ _ _)
end
end Go.aS
namespace Go.aS
open Go.RowKit Go.Sx Go.Gx Go.fO
theorem Jw{ks:List Nd}{i:Nat}{acc:List Nm}{kd na:Nat}{nm:Nm}{nn:Int}{k2:List Nd}(h:ks[i]?=some (.mk kd na nm nn k2)):(ks.drop i).foldl Fm acc=(ks.drop (i+1)).foldl Fm (iY acc nm):=by
 obtain⟨hi,e⟩:=List.getElem?_eq_some_iff.1 h;rw [List.drop_eq_getElem_cons hi,List.foldl_cons,e];rfl
end Go.aS
namespace Go.Mn
open Go.RowKit Go.Sx Go.aS Go.Gx
inductive PK (w:World) (S:Nat→Prop):PN→Prop
 | mk {k a : Nat} {nm : Nm} {n : Int} {A : Option Addr} {c : Nat} {ks : List PN} (hc : ks.length ≤ c ∧ ks.length < 1000000000) (hr : ∀(i : Nat)(d : PN), ks[i]? = some d → ∃ g, A = some g ∧ S g.block ∧ w.cells? 0 (g.add (i * 5)) 5 = some d.cells)
     (h:∀(i:Nat)(d:PN),ks[i]?=some d→PK w S d):PK w S (.mk k a nm n A c ks)
theorem PK.hO{w w':World}{S:Nat→Prop}{d:PN}(h:PK w S d)(k:∀c,S c→w'.heap[c]?=w.heap[c]?):PK w' S d:=by
 induction h with
 |mk hc hr _ ih=>exact .mk hc (fun i d hi=>by obtain⟨g,e,hS,pq⟩:=hr i d hi;exact⟨g,e,hS,eZ pq (by rw[gh];exact k _ hS)⟩) ih
theorem PK.mono{w:World}{S S':Nat→Prop}{d:PN}(h:PK w S d)(k:∀c,S c→S' c):PK w S' d:=by
 induction h with
 |mk hc hr _ ih=>exact .mk hc (fun i d hi=>by obtain⟨g,e,hS,pq⟩:=hr i d hi;exact⟨g,e,k _ hS,pq⟩) ih
theorem PK.nB{w:World}{S:Nat→Prop}{d d':PN}{i:Nat}(h:PK w S d)(hi:d.ks[i]?=some d'):PK w S d':=by
 cases h with
 |mk _ _ h=>exact h i d' hi
def pO(o:Option Nat):Value:=.pointer (o.map fun b=>⟨b,0,none⟩)
def mZ(k:Nat)(n:Int)(a b:Option Nat)(fn:PN)(e:Option Nat):List Value:=[.int .i64 (k:Int),.int .i64 n,pO a,pO b]++fn.cells++[pO e,.slice none 0 0,.string ⟨#[]⟩,.bool false,.bool false]
def Mj(A:Option Addr)(n c:Nat)(op:Nm)(once used:Bool):List Value:=[.int .i64 7,.int .i64 0,pO none,pO none]++pz.cells++[pO none,.slice A n c,.string op,.bool once,.bool used]
structure RR where
 b:Nat
 A:Option Addr
 n:Nat
 c:Nat
 op:Nm
 once:Bool
structure FP where
 f:Fr
 e:Option Nat
 v:Option Nat
def Fp(f:FP):List Value:=match f.f with
 |.mk nd at_ _ _=>nd.cells++[.int .i64 (at_:Int),pO f.e,pO f.v]
def bh(l:List FP):List Value:=l.flatMap Fp
section
variable (w:World) (S:Nat→Prop) (T:List RR)
mutual
inductive dm:Nat→Vl→Prop
 |int {b n} (hS:S b) (h:w.cells? 0 ⟨b,0,none⟩ 14=some (mZ 0 n none none pz none)):dm b (.int n)
 |bool {b x} (hS:S b) (h:w.cells? 0 ⟨b,0,none⟩ 14=some (mZ 1 (if x then 1 else 0) none none pz none)):dm b (.bool x)
 |unit {b} (hS:S b) (h:w.cells? 0 ⟨b,0,none⟩ 14=some (mZ 2 0 none none pz none)):dm b .unit
 |nil {b} (hS:S b) (h:w.cells? 0 ⟨b,0,none⟩ 14=some (mZ 3 0 none none pz none)):dm b .nil
 |cons {b c d x y} (hS:S b) (h:w.cells? 0 ⟨b,0,none⟩ 14=some (mZ 4 0 (some c) (some d) pz none)) (hx:dm c x) (hy:dm d y):dm b (.cons x y)
 |pair {b c d x y} (hS:S b) (h:w.cells? 0 ⟨b,0,none⟩ 14=some (mZ 5 0 (some c) (some d) pz none)) (hx:dm c x) (hy:dm d y):dm b (.pair x y)
 |fn {b nd e o} (hS:S b) (h:w.cells? 0 ⟨b,0,none⟩ 14=some (mZ 6 0 none none nd o)) (he:vZ o e) (hk:PK w S nd):dm b (.fn nd e)
 |res {b i A c op once fr} (fp:List FP) (hi:T[i]?=some ⟨b,A,fr.length,c,op,once⟩) (hf:fp.map (·.f)=fr) (hl:fr.length≤c) (hr:∀(j:Nat)(f:FP),fp[j]?=some f→∃g,A=some g∧S g.block∧w.cells? 0 (g.add (j*8)) 8=some (Fp f)) (h:∀(j:Nat)(f:FP),fp[j]?=some f→tJ f.e f.v f.f):dm b (.res i fr op once)
inductive vZ:Option Nat→En→Prop
 |nil:vZ none .nil
 |put {b vb uo nm v up} (hS:S b) (h:w.cells? 0 ⟨b,0,none⟩ 3=some [.string nm,pO (some vb),pO uo]) (hv:dm vb v) (hu:vZ uo up):vZ (some b) (.put nm v up)
 |rc {b wb uo nm nd up} (hS:S b∧S wb) (h:w.cells? 0 ⟨b,0,none⟩ 3=some [.string nm,pO (some wb),pO uo]) (hw:w.cells? 0 ⟨wb,0,none⟩ 14=some (mZ 6 0 none none nd (some b))) (hk:PK w S nd) (hu:vZ uo up):vZ (some b) (.rc nm nd up)
inductive tJ:Option Nat→Option Nat→Fr→Prop
 |no {o nd at_ e} (he:vZ o e) (hk:PK w S nd):tJ o none (.mk nd at_ e none)
 |so {o vb nd at_ e v} (he:vZ o e) (hv:dm vb v) (hk:PK w S nd):tJ o (some vb) (.mk nd at_ e (some v))
end
end
structure Up (w w':World) (S S':Nat→Prop) (T T':List RR):Prop where
 k:∀c,S c→w'.heap[c]?=w.heap[c]?
 s:∀c,S c→S' c
 t:∀(i:Nat)(r:RR),T[i]?=some r→T'[i]?=some r
section
variable {w w':World} {S S':Nat→Prop} {T T':List RR}
theorem Up.c{b n:Nat}{cs:List Value}(u:Up w w' S S' T T')(hS:S b)(h:w.cells? 0 ⟨b,0,none⟩ n=some cs):w'.cells? 0 ⟨b,0,none⟩ n=some cs:=eZ h (u.k _ hS)
theorem Up.pk{d:PN}(u:Up w w' S S' T T')(h:PK w S d):PK w' S' d:=(h.hO u.k).mono u.s
mutual
theorem dm.up(u:Up w w' S S' T T'):∀{b:Nat}{v:Vl},dm w S T b v→dm w' S' T' b v
 |_,_,.int hS h=>.int (u.s _ hS) (u.c hS h)
 |_,_,.bool hS h=>.bool (u.s _ hS) (u.c hS h)
 |_,_,.unit hS h=>.unit (u.s _ hS) (u.c hS h)
 |_,_,.nil hS h=>.nil (u.s _ hS) (u.c hS h)
 |_,_,.cons hS h hx hy=>.cons (u.s _ hS) (u.c hS h) (dm.up u hx) (dm.up u hy)
 |_,_,.pair hS h hx hy=>.pair (u.s _ hS) (u.c hS h) (dm.up u hx) (dm.up u hy)
 |_,_,.fn hS h he hk=>.fn (u.s _ hS) (u.c hS h) (vZ.up u he) (u.pk hk)
 |_,_,.res fp hi hf hl hr h=>.res fp (u.t _ _ hi) hf hl (fun j f hj=>by obtain⟨g,e,hS,hc⟩:=hr j f hj;exact⟨g,e,u.s _ hS,eZ hc (by rw[gh];exact u.k _ hS)⟩) (fun j f hj=>tJ.up u (h j f hj))
theorem vZ.up(u:Up w w' S S' T T'):∀{o:Option Nat}{e:En},vZ w S T o e→vZ w' S' T' o e
 |_,_,.nil=>.nil
 |_,_,.put hS h hv hu=>.put (u.s _ hS) (u.c hS h) (dm.up u hv) (vZ.up u hu)
 |_,_,.rc hS h hw hk hu=>.rc ⟨u.s _ hS.1,u.s _ hS.2⟩ (u.c hS.1 h) (u.c hS.2 hw) (u.pk hk) (vZ.up u hu)
theorem tJ.up(u:Up w w' S S' T T'):∀{o v:Option Nat}{f:Fr},tJ w S T o v f→tJ w' S' T' o v f
 |_,_,_,.no he hk=>.no (vZ.up u he) (u.pk hk)
 |_,_,_,.so he hv hk=>.so (vZ.up u he) (dm.up u hv) (u.pk hk)
end
end
end Go.Mn
namespace Go.Sx
open Go.RowKit Go.Gx
theorem Ru{w:World}{e sz n k:Nat}{v:Value}{xs:List Value}{A:Option Addr}{cap:Nat}(hv:v=.slice A n cap)(h:w.ownsRow 0 e sz v n xs)(hk:k≤n):w.ownsRow 0 e sz (.slice A k cap) k (xs.take (k*sz)):=by
 subst hv;refine ⟨?_,?_⟩
 · rw[List.length_take,h.1];exact Nat.min_eq_left (Nat.mul_le_mul_right _ hk)
 · rcases h.2 with⟨h1,h2⟩|⟨g,cM,cur,h1,h2,h3,h4,h5,h6,h7⟩
   · injection h1 with e1 e2 e3;subst e1 e3;have:k=0:=by omega
     subst this;exact .inl ⟨rfl,rfl⟩
   · injection h1 with e1 e2 e3;subst e1 e3;refine .inr ⟨g,cap,cur,rfl,h2,h3,by omega,h5,h6,?_⟩;rw [← h7,List.take_take,Nat.min_eq_left (Nat.mul_le_mul_right _ hk)]
section
variable [Rd] {P:Program} {B:Exit→Act→World→Prop} {b:Nat→Value} {n:Nat} {d:List Deferred} {w0 w:World} {x:St} {L0 L:List Item}
def HC(P:Program)(b:Nat→Value)(n:Nat)(x:St):Option Ask:=
 match hd b n x with
 |some q=>match q.2.2.op with
   |.slice t s lo hi mx=>match lo,hi,mx with
     |none,some k,none=>match P.underlying t with
       |some (.slice e)=>match P.info? e with
         |some inf=>some ⟨[ev b n x.l s,ev b n x.l k],[inf.size],x,q⟩
         |none=>none
       |_=>none
     |_,_,_=>none
   |_=>none
 |none=>none
theorem slp(m i k : Nat)(H : Hs w0 L0 w L){e sz cap len : Nat}{A : Option Addr}{xs : List Value}(hi : L[i]? = some (.own e sz A cap len xs))(hk : k ≤ len){yZ : List Value}(hx : xs.take (k * sz) = yZ)
   (g:Hs w0 L0 w (L.set i (.own e sz A cap k yZ))→Goal P B b n d (nx (vX (via P b n m w x (ask (HC P b n)))).y (vX (via P b n m w x (ask (HC P b n)))).q (.slice A k cap)) w)
   (h:vA (via P b n m w x (ask (HC P b n)))=vB w (via P b n m w x (ask (HC P b n))):=by kernel_rfl)
   (h2:(vX (via P b n m w x (ask (HC P b n)))).u=[.slice A len cap,.int .i64 (k:Int)]:=by kernel_rfl):Goal P B b n d x w:=by
 obtain⟨y,hr,hf⟩:=cG h;refine az hr ?_;generalize vX (via P b n m w x (ask (HC P b n)))=z at *;unfold HC at hf;split at hf<;>try contradiction
 rename_i q hq;split at hf<;>try contradiction
 rename_i t s lo oN mx hop;split at hf<;>try contradiction
 rename_i ko;split at hf<;>try contradiction
 rename_i e' hu;split at hf<;>try contradiction
 rename_i inf eE;simp only[Option.some.injEq] at hf;subst hf;simp only[List.cons.injEq,and_true] at h2;obtain ⟨h3,h4⟩:=h2;have Dh:len≤cap:=kD (H.at i hi);have hA:(if cap=0 then A else A.map (·.add (0*inf.size)))=A:=by
   split
   · rfl
   · cases A with
     |none=>rfl
     |some a=>simp[Addr.add]
 refine cF hq (v:=.slice A k cap) ?_ (g (H.auh i _ hi rfl (by have:=Ru rfl (H.at i hi) hk;rw[hx] at this;exact this) (fun c hc=>?_)))
 · unfold execOp;have hl:((k:Int)≤(cap:Int)):=by omega
   simp[hop,h3,h4,Instr.sliceAt,Instr.slice,run_underlying hu,Sem.run_bind,Instr.sliceBounds,Instr.sliceBound,asIntOf,go_sem,hl,sizeOf,typeInfo,eE];intro dO;omega
 · cases A with
   |none=>simp[Item.fp,Value.ownBlock] at hc
   |some a=>simpa [Item.fp,Value.ownBlock] using hc
end
def cat:List Nat→Code→Code
 |[],c=>c
 |i::r,c=>match c with
   |.seq a b=>match i with
     |0=>cat r a
     |_+1=>cat r b
   |.cond _ a b=>match i with
     |0=>cat r a
     |_+1=>cat r b
   |.block _ c=>cat r c
   |.loop c=>cat r c
   |.scope c=>cat r c
   |c=>c
section
variable [Rd] {P:Program} {B:Exit→Act→World→Prop} {b:Nat→Value} {n:Nat} {d:List Deferred} {w:World} {x:St}
theorem nz(m : Nat)(f' : Fo)(k' : List Kt)(l' : List (Nat × Value))(k : ∀ b' : Nat → Value, Goal P B b' n d ⟨f', k', l'⟩ w)
   (h:vA (via P b n m w x fun y=>some (0,0,y))=vB w (via P b n m w x fun y=>some (0,0,y)):=by kernel_rfl)
   (h1:(vX (via P b n m w x fun y=>some (0,0,y))).f=f':=by kernel_rfl)
   (h3:(vX (via P b n m w x fun y=>some (0,0,y))).k=k':=by kernel_rfl)
   (h2:l'.map (fun p=>get b (vX (via P b n m w x fun y=>some (0,0,y))).l p.1)=l'.map (fun p=>p.2):=by kernel_rfl):Goal P B b n d x w:=
 fg m l' (fun b'=>by rw[h1,h3];exact k b') h h2
end
end Go.Sx
namespace Go
abbrev Value.n(x:Nat):Value:=.int .i64 (x:Int)
abbrev Value.p(b:Nat):Value:=.pointer (some ⟨b,0,none⟩)
namespace Sx
abbrev x0:=@Sx.c
abbrev xb:=@Sx.l
abbrev xd:=@Sx.s
abbrev xe:=@Sx.bk
abbrev xf:=@Sx.nw
abbrev xg:=@Sx.nmx
abbrev xh:=@Sx.rt
abbrev xi:=@Sx.on
abbrev xj:=@Sx.to
abbrev xl:=@Sx.br
abbrev xm:=@Sx.tk
abbrev xp:=@Sx.v
abbrev xq:=@Sx.nz
abbrev xr:=@Sx.lo
abbrev xt:=@Sx.dn
abbrev xu:=@Sx.en
abbrev xv:=@Sx.ia
abbrev xw:=@Sx.dr
abbrev xy:=@Sx.fa
abbrev xz:=@Sx.lp
abbrev y0:=@Sx.lr
abbrev yd:=@Sx.cut
abbrev ye:=@Sx.sp
abbrev yf:=@Sx.ir
abbrev yg:=@Sx.tvo
abbrev yh:=@Sx.ap
abbrev yi:=@Sx.tvi
abbrev yj:=@Sx.tvg
abbrev ym:=@Sx.tvf
abbrev yp:=@Sx.on2
abbrev yq:=@Sx.tvl
abbrev yr:=@Sx.sl
open Go.fO
theorem bX{w:World}{L:List Item}(H0:Sp w L):∃L0,L0=L∧Hs w L0 w L:=⟨_,rfl,Hs.refl H0⟩
section
variable {w0 w:World} {L0 L:List Item}
theorem Hs.pk(H:Hs w0 L0 w L)(I:List Nat){a:List Item}(h:bp I L=some a:=by kernel_rfl):Hs w0 L0 w a:=H.pick I h
theorem Hs.sb(H:Hs w0 L0 w L)(I:List Nat){a:List Item}{b:Prop}(h:bp I L=some a:=by kernel_rfl):b→Sp w a:=fun _=>H.sub I h
theorem np{b:Bool}{p:Prop}(h0:b=false:=by kernel_rfl):b=true→p:=fun h=>afP h h0
theorem sn{w:World}{LJ:List Item}{b:Prop}(h:LJ=[]:=by kernel_rfl):b→Sp w LJ:=fun _=>spN h
end
def bits:Nat→Nat→List Nat→List Nat
 |0,_,r=>r
 |k+1,n,r=>bif Nat.ble n 1 then r else bits k (n/2) (n%2::r)
abbrev ct(n:Nat)(f:Func):Code:=cat (bits 70 n []) (AV f)
abbrev nC{α:Type}(k a:Nat)(x:ByteArray)(n:Int)(A:Option Addr)(l:List α)(c:Nat):List Value:=[.n k,.n a,.string x,.int .i64 n,.slice A l.length c]
abbrev nA{α:Type}(k a:Nat)(x:ByteArray)(n:Int)(A:Option Addr)(l:List α)(c:Nat):Value:=.agg #[.n k,.n a,.string x,.int .i64 n,.slice A l.length c]
abbrev cB(b g:Nat)(A:Option Addr)(n c:Nat)(B:Option Addr)(m d k:Nat)(a:Int):Item:=.al b (.cells #[.p g,.slice A n c,.slice B m d,.n k,.int .i64 a] 115)
section
variable [Rd] {P:Program} {B:Exit→Act→World→Prop} {b:Nat→Value} {n:Nat} {d:List Deferred} {w:World} {x:St}
theorem vi(m : Nat)(a c : Int)(e : IntKind.i64.wrap a = c)
   (k:Goal P B b n d (nx (vX (via P b n m w x fun y=>(hd b n y).map fun q=>(0,0,y,q))).1 (vX (via P b n m w x fun y=>(hd b n y).map fun q=>(0,0,y,q))).2 (.int .i64 c)) w)
   (h:vA (via P b n m w x fun y=>(hd b n y).map fun q=>(0,0,y,q))=vB w (via P b n m w x fun y=>(hd b n y).map fun q=>(0,0,y,q)):=by kernel_rfl)
   (h2:(execOp (Gx.ev b n (vX (via P b n m w x fun y=>(hd b n y).map fun q=>(0,0,y,q))).1.l) (vX (via P b n m w x fun y=>(hd b n y).map fun q=>(0,0,y,q))).2.2.2).run P w=.ok (.value (.int .i64 (IntKind.i64.wrap a))) w:=by kernel_rfl):
   Goal P B b n d x w:=v m _ _ (congrArg (Value.int .i64) e) k h h2
end
end Sx
end Go
namespace Go.Sx
open Go.RowKit Go.Gx
def gv(w:World)(e sz:Nat)(A:Option Addr)(cap n:Nat)(xs:List Value):Prop:=xs.length=n*sz∧
 ((A=none∧n=0∧cap=0)∨∃(g:Nat) (cur:Array Value),A=some ⟨g,0,none⟩∧Has w g (.cells cur e)∧n≤cap∧cap≤maxLen∧cap*sz≤cur.size∧cur.toList.take (n*sz)=xs)
def wI(e sz:Nat)(A:Option Addr)(cap n:Nat)(xs:List Value):Item:=.abs (fun c=>(Value.slice A n cap).ownBlock=some c) (fun w=>gv w e sz A cap n xs)
section
variable {w w' w0:World} {e sz cap n k:Nat} {A:Option Addr} {xs:List Value} {L0 L:List Item}
theorem gv.lt(h:gv w e sz A cap n xs){c:Nat}(k:(Value.slice A n cap).ownBlock=some c):c<w.heap.size:=by
 rcases h.2 with⟨rfl,_⟩|⟨g,cur,rfl,hg,_⟩
 · cases k
 · simp only[Value.ownBlock,Option.some.injEq] at k;subst k;exact hg.lt
theorem gv.loc:Loc (fun c=>(Value.slice A n cap).ownBlock=some c) (fun w=>gv w e sz A cap n xs):=fun w w' _ k h=>by
 refine⟨h.1,?_⟩;rcases h.2 with q|⟨g,cur,rfl,hg,r⟩
 · exact .inl q
 · exact .inr ⟨g,cur,rfl,(k g rfl).trans hg,r⟩
theorem ru(h:gv w e sz A cap n xs):(wI e sz A cap n xs).holds w:=⟨h,fun _ hc=>h.lt hc,gv.loc⟩
theorem gv.of(h:w.ownsRow 0 e sz (.slice A n cap) n xs):gv w e sz A cap n xs:=by
 refine⟨h.1,?_⟩;rcases h.2 with⟨hv,h0⟩|⟨g,cM,cur,hv,_,hg,zH,Lz,pq,ht⟩
 · injection hv with h1 h2 h3;exact .inl ⟨h1,h2,h3⟩
 · injection hv with h1 h2 h3;subst h1 h3;exact .inr ⟨g,cur,rfl,hg,zH,Lz,by omega,ht⟩
theorem Hs.wide(H:Hs w0 L0 w L)(i:Nat)(hi:L[i]?=some (.own e sz A cap n xs)):Hs w0 L0 w (L.set i (wI e sz A cap n xs)):=H.auh i _ hi rfl (ru (.of (H.at i hi))) (fun _ h=>h)
theorem gv.at(h:gv w e sz A cap n xs){a:Addr}(ha:A=some a):∀(j:Nat)(u:Value),xs[j]?=some u→w.cell? (a.add j)=some u:=fun j u hu=>by
 rcases h.2 with⟨rfl,_⟩|⟨g,cur,rfl,hg,zH,Lz,pq,ht⟩
 · cases ha
 · cases ha;rw [Addr.add_lit,cell_of_row w g (0+j) cur e (0,0) hg,Nat.zero_add,←Array.getElem?_toList];subst ht;have:=(List.getElem?_eq_some_iff.1 hu).1;rw [List.length_take] at this;rw [List.getElem?_take_of_lt (by omega)] at hu;exact hu
theorem gv.nV(h:gv w e sz A cap n xs):n≤cap:=by rcases h.2 with⟨_,h1,h2⟩|⟨_,_,_,_,q,_⟩<;>omega
theorem gv.nil(h:gv w e sz none cap n xs):n=0∧cap=0:=by
 rcases h.2 with⟨_,h1,h2⟩|⟨_,_,q,_⟩
 · exact⟨h1,h2⟩
 · cases q
theorem Mk(H:Hs w0 L0 w L)(i:Nat)(hi:L[i]?=some (wI e sz A cap n xs))(hn:0<n):∃g,A=some ⟨g,0,none⟩:=by
 rcases(H.at i hi).1.2 with⟨_,h0,_⟩|⟨g,cur,hv,_⟩
 · omega
 · exact⟨g,hv⟩
theorem gv.cells(h:gv w e sz A cap n xs){g:Nat}(ha:A=some ⟨g,0,none⟩){o c:Nat}{cs:List Value}(pq:(xs.drop o).take c=cs)(hl:cs.length=c):w.cells? 0 ((⟨g,0,none⟩:Addr).add o) c=some cs:=by
 subst pq;rw [Addr.add_lit,Nat.zero_add];refine ChangeShapes.cells?_of (Nat.zero_le _) hl (fun j hj=>?_);have hx:o+j<xs.length:=by have:=hj;rw[← hl,List.length_take,List.length_drop] at this;omega
 have:=h.at ha (o+j) xs[o+j] (List.getElem?_eq_getElem hx);rw [Addr.add_lit,Nat.zero_add] at this;rw [this];rw [List.getElem?_take_of_lt (by omega),List.getElem?_drop,List.getElem?_eq_getElem hx]
theorem gv.cut(h:gv w e sz A cap n xs){cM:Nat}(hk:k≤n)(h1:k≤cM)(h2:cM≤cap):gv w e sz A cM k (xs.take (k*sz)):=by
 refine⟨by rw[List.length_take,h.1];exact Nat.min_eq_left (Nat.mul_le_mul_right _ hk),?_⟩;rcases h.2 with⟨h3,h4,h5⟩|⟨g,cur,rfl,hg,zH,Lz,pq,ht⟩
 · exact .inl ⟨h3,by omega,by omega⟩
 · exact .inr ⟨g,cur,rfl,hg,h1,by omega,Nat.le_trans (Nat.mul_le_mul_right _ h2) pq,by rw[← ht,List.take_take,Nat.min_eq_left (Nat.mul_le_mul_right _ hk)]⟩
theorem Fq(H:Hs w0 L0 w L)(i:Nat){cM:Nat}(hi:L[i]?=some (wI e sz A cap n xs))(hk:k≤n)(h1:k≤cM)(h2:cM≤cap){yZ:List Value}(hx:xs.take (k*sz)=yZ):Hs w0 L0 w (L.set i (wI e sz A cM k yZ)):=
 H.auh i _ hi rfl (ru (by subst hx;exact(H.at i hi).1.cut hk h1 h2)) (fun c hc=>by
   cases A with
   |none=>cases hc
   |some a=>exact hc)
end
theorem Di{P : Program}{w : World}(t ty e : TypeId)(i : TypeInfo)(z : Value)(ht : P.underlying t = some (.slice e))(hi : P.info? e = some i)(hz : i.zero = some z)(TR : z.cells.size = i.size)
   {A C:Option Addr} {cap n m c:Nat} {xs news:List Value} (h:gv w e i.size A cap n xs) (hC:C=none→m=0) (ri:∀a,C=some a→∀j u,news[j]?=some u→w.cell? (a.add j)=some u)
   (hl:news.length=m*i.size) (h1:∀u∈news,u.oneCell'=true) (h63:n+m≤maxLen) (hb:(n+m)*i.bytes≤140737488355328):
   ∃A' cM w',(Builtin.append_ #[t,t] ty #[.slice A n cap,.slice C m c]).run P w=.ok (.slice A' (n+m) cM) w'∧gv w' e i.size A' cM (n+m) (xs++news)∧w.grownBy w' (Value.slice A n cap).ownBlock∧
     ((Value.slice A' (n+m) cM).ownBlock=(Value.slice A n cap).ownBlock∨(Value.slice A' (n+m) cM).ownBlock=some w.heap.size):=by
 have afX:n+m≤9223372036854775807:=by simp only[maxLen] at h63;omega
 have hlen:(xs++news).length=(n+m)*i.size:=by rw[List.length_append,h.1,hl,Nat.add_mul]
 by_cases hm:m=0
 · subst hm;have hn:news=[]:=List.eq_nil_of_length_eq_zero (by simpa using hl);subst hn;have hc:=h.nV;refine ⟨A,cap,w,?_,by simpa using h,⟨rfl,rfl,rfl,Nat.le_refl _,fun _ _ _=>rfl⟩,.inl rfl⟩;cases A<;>cases C<;>simp[Builtin.append_,run_underlying ht,sizeOf,typeInfo,hi,Builtin.lenOf,Builtin.firstCells,hc,storeCells,loadCells,loadCellsFrom,Sem.run_bind,Result.andThen]
 obtain⟨a,rfl⟩:∃a,C=some a:=by
   cases C with
   |none=>exact absurd (hC rfl) hm
   |some a=>exact⟨a,rfl⟩
 have grown : ∀(KE : Nat), KE < n + m → ∀(row : Option Nat),
     gv (w.drew.alloc (.cells (xs.toArray++news.toArray++Builtin.zeroCells z.cells (grownCap w (n+m) KE e-(n+m))) e)) e i.size (some ⟨w.heap.size,0,none⟩) (grownCap w (n+m) KE e) (n+m) (xs++news)∧
     w.grownBy (w.drew.alloc (.cells (xs.toArray++news.toArray++Builtin.zeroCells z.cells (grownCap w (n+m) KE e-(n+m))) e)) row:=by
   intro KE ho row
   have hge:=grownCap_ge w (n+m) KE e
   have Lz:grownCap w (n+m) KE e≤maxLen:=grownCap_le_maxLen w (n+m) KE e h63
   refine⟨⟨hlen,.inr ⟨w.heap.size,_,rfl,heap_alloc_new w.drew _,hge,Lz,Nat.le_of_eq ?_,?_⟩⟩,⟨rfl,rfl,rfl,by simp,fun k hk _=>heap_alloc_old w.drew _ hk⟩⟩
   · simp only[Array.size_append,List.size_toArray,size_zeroCells,TR,h.1,hl,←Nat.add_mul]
     congr 1
     omega
   · simp only[Array.toList_append,List.append_assoc]
     rw[← List.append_assoc,←hlen]
     exact List.take_left
 have h2:=h.2;rcases h2 with⟨rfl,rfl,rfl⟩|⟨g,cur,rfl,hg,zH,Lz,pq,Lo⟩
 · have hx:xs=[]:=List.eq_nil_of_length_eq_zero (by simpa using h.1);subst hx;have hr:=run_append_nil (P:=P) w t ty e i z ht hi hz a m c news hl (ri a rfl) (by omega) (by omega) (by have hb:=hb;simp only[Nat.zero_add] at hb;omega);have TS:=grown 0 (by omega) (Value.ownBlock (.slice none 0 0));simp only[Nat.zero_add,List.nil_append,Array.empty_append] at TS ⊢;exact ⟨_,_,_,hr,TS.1,TS.2,Or.inr rfl⟩
 · by_cases v7:n+m≤cap
   · have Li:n*i.size+news.length≤cur.size:=by rw[hl,←Nat.add_mul];exact Nat.le_trans (Nat.mul_le_mul_right _ v7) pq
     have hr:=run_append_room (P:=P) w t ty e i ht hi g n cap cur hg a m c news hl (ri a rfl) h1 v7 Li;refine ⟨_,_,_,hr,⟨hlen,.inr ⟨g,_,rfl,setRow_heap w g cur _ e _ hg,v7,Lz,?_,?_⟩⟩,⟨rfl,rfl,rfl,by simp,fun k _ hk=>setRow_other w g k _ (fun e=>hk (by simp[Value.ownBlock,e]))⟩,Or.inl rfl⟩
     · simp only[List.size_toArray,List.length_append,List.length_take,List.length_drop,Array.length_toList];omega
     · rw[Lo,←hlen];exact List.take_left
   · have hr:=run_append_grow (P:=P) w t ty e i z ht hi hz ⟨g,0,none⟩ n cap xs h.1 (h.at rfl) a m c news hl (ri a rfl) (by omega) (by omega) (growslice_fits (by omega) hb);have TS:=grown cap (by omega) (Value.ownBlock (.slice (some ⟨g,0,none⟩) n cap));exact ⟨_,_,_,hr,TS.1,TS.2,Or.inr rfl⟩
section
variable [Rd] {P:Program} {B:Exit→Act→World→Prop} {b:Nat→Value} {n:Nat} {d:List Deferred} {w0 w:World} {x:St} {L0 L:List Item}
theorem apw(m i LK k' e sz t c' : Nat)(C A : Option Addr)(cap c : Nat)(xs news : List Value)(H : Hs w0 L0 w L)(hC : C = none → k' = 0)(ri : ∀ a, C = some a → ∀ j u, news[j]? = some u → w.cell? (a.add j) = some u)
   (hl:news.length=k'*sz) (h1:∀u∈news,u.oneCell'=true)
   (hb:(c+k')*LK≤140737488355328) (hn:c+k'≤9223372036854775807) {yZ:List Value} (hx:xs++news=yZ)
   (k:∀A' cM w',Hs w0 L0 w' (L.set i (wI e sz A' cM (c+k') yZ))→Goal P B b n d (nx (vX (via P b n m w x (ask (uV P b n)))).y (vX (via P b n m w x (ask (uV P b n)))).q (.slice A' (c+k') cM)) w')
   (h:vA (via P b n m w x (ask (uV P b n)))=vB w (via P b n m w x (ask (uV P b n))):=by kernel_rfl)
   (hi:L[i]?=some (wI e sz A cap c xs):=by kernel_rfl)
   (h2:((vX (via P b n m w x (ask (uV P b n)))).u,(vX (via P b n m w x (ask (uV P b n)))).t)=([.slice A c cap,.slice C k' c'],[t,t,e,sz,LK,sz,1]):=by kernel_rfl):Goal P B b n d x w:=by
 subst hx;obtain ⟨y,hr,hf⟩:=cG h;refine az hr ?_;generalize vX (via P b n m w x (ask (uV P b n)))=z at *;unfold uV at hf;split at hf<;>try contradiction
 rename_i q hq;split at hf<;>try contradiction
 rename_i cl hop;split at hf<;>try contradiction
 rename_i q_;split at hf<;>try contradiction
 rename_i s yv t1 t2 fY jM;split at hf<;>try contradiction
 rename_i e1 hu;split at hf<;>try contradiction
 rename_i inf eE;simp only[Option.some.injEq] at hf;subst hf;simp only[Prod.mk.injEq,List.cons.injEq,and_true] at h2;obtain ⟨⟨h3,h4⟩,rfl,rfl,rfl,rfl,rfl,h5,h6⟩:=h2;have Z2:inf.zero.map (·.cells.size)=some inf.size:=by
   cases T4:inf.zero with
   |none=>simp[T4] at h6
   |some zv=>simp only[T4,Option.map_some,Option.getD_some] at h5;simp[h5]
 have tD:cl={ callee:=.builtin .append,args:=#[s,yv],argTypes:=#[t2,t2] }:=by
   obtain⟨ce,ca,ct⟩:=cl;simp only at q_ fY jM;subst q_;congr 1
   · exact Array.toList_inj.1 fY
   · exact Array.toList_inj.1 jM
 obtain⟨zv,LS,TR⟩:=Option.map_eq_some_iff.1 Z2;obtain ⟨A',cM,w',nL,zJ,hG,LL⟩:=Di (P:=P) t2 q.2.2.type e1 inf zv hu eE LS TR (H.at i hi).1 (c:=c') hC ri hl h1 (by unfold maxLen;omega) hb;refine cF hq ?_ ?_ (v:=.slice A' (c+k') cM) (w':=w')
 · unfold execOp;rw [hop,tD];simp [h3,h4,resolve,invoke,builtin,Sem.run_bind,nL]
 · refine k A' cM w' (H.put i hi rfl (Kp.C2 hG) (ru zJ) (fun cc hc=>?_));rcases LL with q|q
   · exact .inl (q.symm.trans hc)
   · exact .inr (Nat.le_of_eq (Option.some.inj (q.symm.trans hc)))
theorem sw(m k : Nat){cap len : Nat}{A : Option Addr}(hk : k ≤ len)(Dh : len ≤ cap)
   (g:Goal P B b n d (nx (vX (via P b n m w x (ask (HC P b n)))).y (vX (via P b n m w x (ask (HC P b n)))).q (.slice A k cap)) w)
   (h:vA (via P b n m w x (ask (HC P b n)))=vB w (via P b n m w x (ask (HC P b n))):=by kernel_rfl)
   (h2:(vX (via P b n m w x (ask (HC P b n)))).u=[.slice A len cap,.int .i64 (k:Int)]:=by kernel_rfl):Goal P B b n d x w:=by
 obtain⟨y,hr,hf⟩:=cG h;refine az hr ?_;generalize vX (via P b n m w x (ask (HC P b n)))=z at *;unfold HC at hf;split at hf<;>try contradiction
 rename_i q hq;split at hf<;>try contradiction
 rename_i t s lo oN mx hop;split at hf<;>try contradiction
 rename_i ko;split at hf<;>try contradiction
 rename_i e' hu;split at hf<;>try contradiction
 rename_i inf eE;simp only[Option.some.injEq] at hf;subst hf;simp only[List.cons.injEq,and_true] at h2;obtain ⟨h3,h4⟩:=h2;refine cF hq (v:=.slice A k cap) ?_ g;unfold execOp;have hl:((k:Int)≤(cap:Int)):=by omega
 simp[hop,h3,h4,Instr.sliceAt,Instr.slice,run_underlying hu,Sem.run_bind,Instr.sliceBounds,Instr.sliceBound,asIntOf,go_sem,hl,sizeOf,typeInfo,eE];intro dO;omega
def V6(P:Program)(b:Nat→Value)(n:Nat)(x:St):Option Ask:=
 match hd b n x with
 |some q=>match q.2.2.op with
   |.slice t s lo hi mx=>match lo,hi,mx with
     |none,some k,some j=>match P.underlying t with
       |some (.slice e)=>match P.info? e with
         |some inf=>some ⟨[ev b n x.l s,ev b n x.l k,ev b n x.l j],[inf.size],x,q⟩
         |none=>none
       |_=>none
     |_,_,_=>none
   |_=>none
 |none=>none
theorem s3(m k : Nat){cap len : Nat}{A : Option Addr}(hk : k ≤ len)(Dh : len ≤ cap)
   (g:Goal P B b n d (nx (vX (via P b n m w x (ask (V6 P b n)))).y (vX (via P b n m w x (ask (V6 P b n)))).q (.slice A k k)) w)
   (h:vA (via P b n m w x (ask (V6 P b n)))=vB w (via P b n m w x (ask (V6 P b n))):=by kernel_rfl)
   (h2:(vX (via P b n m w x (ask (V6 P b n)))).u=[.slice A len cap,.int .i64 (k:Int),.int .i64 (k:Int)]:=by kernel_rfl):Goal P B b n d x w:=by
 obtain⟨y,hr,hf⟩:=cG h;refine az hr ?_;generalize vX (via P b n m w x (ask (V6 P b n)))=z at *;unfold V6 at hf;split at hf<;>try contradiction
 rename_i q hq;split at hf<;>try contradiction
 rename_i t s lo oN mx hop;split at hf<;>try contradiction
 rename_i ko jo;split at hf<;>try contradiction
 rename_i e' hu;split at hf<;>try contradiction
 rename_i inf eE;simp only[Option.some.injEq] at hf;subst hf;simp only[List.cons.injEq,and_true] at h2;obtain ⟨h3,h4,h5⟩:=h2;refine cF hq (v:=.slice A k k) ?_ g;unfold execOp;have hl:((k:Int)≤(cap:Int)):=by omega
 simp[hop,h3,h4,h5,Instr.sliceAt,Instr.slice,run_underlying hu,Sem.run_bind,Instr.sliceBounds,Instr.sliceBound,asIntOf,go_sem,hl,sizeOf,typeInfo,eE];intro dO;omega
end
end Go.Sx
namespace Go.Mn
open Go.RowKit Go.Sx Go.aS Go.Gx
inductive MF
 |val (b:Nat) (v:Vl)
 |env (o:Option Nat) (e:En)
 |aG (d:PN)
 |vo (o:Option Nat) (v:Option Vl)
def MF.ok(w:World)(S:Nat→Prop)(T:List RR):MF→Prop
 |.val b v=>dm w S T b v
 |.env o e=>vZ w S T o e
 |.aG d=>PK w S d
 |.vo o v=>match o,v with
   |none,none=>True
   |some b,some v=>dm w S T b v
   |_,_=>False
def aL(w:World)(S:Nat→Prop)(T:List RR)(sp:List FP)(l:List MF):Prop:=(∀f∈sp,tJ w S T f.e f.v f.f)∧∀x∈l,x.ok w S T
theorem MF.up{w w':World}{S S':Nat→Prop}{T T':List RR}{x:MF}(u:Up w w' S S' T T')(h:x.ok w S T):x.ok w' S' T':=by
 cases x with
 |val b v=>exact dm.up u h
 |env o e=>exact vZ.up u h
 |aG d=>exact u.pk h
 |vo o v=>
   cases o with
   |none=>cases v with
     |none=>exact h
     |some v=>exact h
   |some b=>cases v with
     |none=>exact h
     |some v=>exact dm.up u h
theorem aL.up{w w':World}{S S':Nat→Prop}{T T':List RR}{sp:List FP}{l:List MF}(u:Up w w' S S' T T')(h:aL w S T sp l):aL w' S' T' sp l:=⟨fun f hf=>tJ.up u (h.1 f hf),fun x hx=>MF.up u (h.2 x hx)⟩
def mI(S:Nat→Prop)(T:List RR)(sp:List FP)(l:List MF):Sx.Item:=.ro S (fun w=>aL w S T sp l)
theorem qt(S:Nat→Prop)(T:List RR)(sp:List FP)(l:List MF):Sx.Loc S (fun w=>aL w S T sp l):=fun _ _ _ hk h=>h.up ⟨hk,fun _ h=>h,fun _ _ h=>h⟩
section
variable {w0 w:World} {L0 L:List Sx.Item} {S:Nat→Prop} {T:List RR} {sp jr:List FP} {l l':List MF}
theorem ay(H:Hs w0 L0 w L)(j:Nat)(hi:L[j]?=some (mI S T sp l)):aL w S T sp l:=(H.at j hi).1
theorem afY(H:Hs w0 L0 w L)(j:Nat)(hi:L[j]?=some (mI S T sp l))(h:aL w S T jr l'):Hs w0 L0 w (L++[mI S T jr l']):=H.ro j hi h (qt _ _ _ _)
theorem aaf(H : Hs w0 L0 w L)(I : List Nat){b ty : Nat}{cs : Array Value}(hp : bp I L = some [mI S T sp l, .al b (.cells cs ty)])(h : ∀ S' : Nat → Prop, aL w S' T sp l → S' b → w.cells? 0 ⟨b, 0, none⟩ cs.size = some cs.toList → aL w S' T jr l') :
   ∃S',Hs w0 L0 w (mI S' T jr l'::rest I L):=by
 refine⟨_,H.fz I hp (fun s=>?_) (qt _ _ _ _)⟩;have h0:aL w S T sp l:=(s.all _ (.head _)).1;have h1:Has w b (.cells cs ty):=s.all _ (.tail _ (.head _));refine h _ (h0.up ⟨fun _ _=>rfl,fun c hc=>⟨_,.head _,hc⟩,fun _ _ h=>h⟩) ⟨_,.tail _ (.head _),rfl⟩ ?_;refine ChangeShapes.cells?_of (Nat.zero_le _) (by simp) (fun j hj=>?_);rw [cell_of_row w b _ cs ty (0,0) h1,Nat.zero_add];simp
theorem dy(z:aL w S T sp l)(H:Hs w0 L0 w L)(j:Nat)(hi:L[j]?=some (mI S T sp l))(jr:List FP)(l':List MF)(h:aL w S T jr l'):Hs w0 L0 w (L++[mI S T jr l']):=afY H j hi h
theorem m0(_ : aL w S T sp l)(H : Hs w0 L0 w L)(I : List Nat)(jr : List FP)(l' : List MF)(b ty : Nat)(cs : Array Value)(hp : bp I L = some [mI S T sp l, .al b (.cells cs ty)])(h : ∀ S' : Nat → Prop, aL w S' T sp l → S' b → w.cells? 0 ⟨b, 0, none⟩ cs.size = some cs.toList → aL w S' T jr l') :
   ∃S',Hs w0 L0 w (mI S' T jr l'::rest I L):=aaf H I hp h
theorem j0{a:MF}{l:List MF}:a∈a::l:=.head _
theorem j1{a b:MF}{l:List MF}:b∈a::b::l:=.tail _ (.head _)
theorem j2{a b c:MF}{l:List MF}:c∈a::b::c::l:=.tail _ (.tail _ (.head _))
theorem j3{a b c d:MF}{l:List MF}:d∈a::b::c::d::l:=.tail _ (.tail _ (.tail _ (.head _)))
theorem Ml{T:List RR}:(mI (fun _=>False) T [] []).holds w:=⟨⟨fun _ h=>(by cases h),fun _ h=>(by cases h)⟩,fun _ h=>h.elim,qt _ _ _ _⟩
theorem Mm(H:Hs w0 L0 w L)(I:List Nat){S2:Nat→Prop}{sp2:List FP}{l2:List MF}(hp:bp I L=some [mI S T sp l,mI S2 T sp2 l2])(h:∀S':Nat→Prop,aL w S' T sp l→aL w S' T sp2 l2→aL w S' T jr l'):∃S',Hs w0 L0 w (mI S' T jr l'::rest I L):=by
 refine⟨_,H.fz I hp (fun s=>?_) (qt _ _ _ _)⟩;have h0:aL w S T sp l:=(s.all _ (.head _)).1;have h1:aL w S2 T sp2 l2:=(s.all _ (.tail _ (.head _))).1;exact h _ (h0.up ⟨fun _ _=>rfl,fun c hc=>⟨_,.head _,hc⟩,fun _ _ h=>h⟩) (h1.up ⟨fun _ _=>rfl,fun c hc=>⟨_,.tail _ (.head _),hc⟩,fun _ _ h=>h⟩)
end
theorem V7{w0 w:World}{L0 L:List Sx.Item}(H:Hs w0 L0 w L)(j:Nat){b ty:Nat}{cs:Array Value}(hj:L[j]?=some (.al b (.cells cs ty))):∀a,some (⟨b,0,none⟩:Addr)=some a→∀(i:Nat)(u:Value),cs.toList[i]?=some u→w.cell? (a.add i)=some u:=fun a ha i u hu=>by
 cases ha;rw [Addr.add_lit,cell_of_row w b (0+i) cs ty (0,0) (H.at j hj),Nat.zero_add,←Array.getElem?_toList];exact hu
theorem Rv(l:List FP)(f:FP):bh l++Fp f=bh (l++[f]):=by simp[bh]
theorem PK.at{w:World}{S:Nat→Prop}{k a:Nat}{nm:Nm}{n:Int}{A:Option Addr}{c:Nat}{ks:List PN}(h:PK w S (.mk k a nm n A c ks)){i:Nat}{d:PN}(hi:ks[i]?=some d):(ks.length≤c∧ks.length<1000000000)∧(∃g,A=some g∧S g.block∧w.cells? 0 (g.add (i*5)) 5=some d.cells)∧PK w S d:=by
 cases h with
 |mk hc hr h=>exact⟨hc,hr i d hi,h i d hi⟩
theorem kJ{a b:Nm}:ee a b=true↔a=b:=by
 unfold ee;rw [beq_iff_eq];exact ⟨fun h=>ByteArray.ext (Array.toList_inj.1 h),fun h=>by rw[h]⟩
def _root_.Go.Mn.En.dep:En→Nat
 |.nil=>0
 |.put _ _ up=>up.dep+1
 |.rc _ _ up=>up.dep+1
theorem Rw{w : World}{S : Nat → Prop}{T : List RR}{o : Option Nat}{e : En}{x : Nm}{v : Vl}(h : vZ w S T o e)(hf : find e x = some v) :
   ∃(b vb:Nat) (nm:Nm) (uo:Option Nat) (up:En),o=some b∧(S b∧w.cells? 0 ⟨b,0,none⟩ 3=some [.string nm,.pointer (some ⟨vb,0,none⟩),pO uo])∧vZ w S T uo up∧up.dep<e.dep∧((nm=x∧dm w S T vb v)∨(nm≠x∧find up x=some v)):=by
 cases h with
 |nil=>cases hf
 |@put b vb uo nm vv up hS h hv hu=>
   refine⟨b,vb,nm,uo,up,rfl,⟨hS,h⟩,hu,Nat.lt_succ_self _,?_⟩;unfold find at hf;split at hf
   · rename_i q;cases hf;exact .inl ⟨kJ.1 q,hv⟩
   · rename_i q;exact .inr ⟨fun e=>q (kJ.2 e),hf⟩
 |@rc b wb uo nm nd up hS h hw hk hu=>
   refine⟨b,wb,nm,uo,up,rfl,⟨hS.1,h⟩,hu,Nat.lt_succ_self _,?_⟩;unfold find at hf;split at hf
   · rename_i q;cases hf;exact .inl ⟨kJ.1 q,.fn hS.2 hw (.rc hS h hw hk hu) hk⟩
   · rename_i q;exact .inr ⟨fun e=>q (kJ.2 e),hf⟩
theorem dT{p:Prop}[Decidable p] (h:p):Value.bool (decide p)=.bool true:=by rw[decide_eq_true h]
theorem dF{p:Prop}[Decidable p] (h:¬p):Value.bool (decide p)=.bool false:=by rw[decide_eq_false h]
theorem eT{a b:Int}(h:a=b):Value.bool (a==b)=.bool true:=by rw[h];simp
theorem eF{a b:Int}(h:¬a=b):Value.bool (a==b)=.bool false:=by simp[h]
theorem nT{a b:Int}(h:¬a=b):Value.bool (a != b)=.bool true:=by simp[h]
theorem nF{a b:Int}(h:a=b):Value.bool (a != b)=.bool false:=by rw[h];simp
theorem afZ(s:Nm):Value.bool (s.toList==s.toList)=.bool true:=by simp
theorem V8{r s:Nm}(h:r≠s):Value.bool (r.toList==s.toList)=.bool false:=by
 congr 1;cases q:r.toList==s.toList with
 |false=>rfl
 |true=>
   have e:r.toList=s.toList:=by simpa using q
   rw[ByteArray.toList_eq,ByteArray.toList_eq] at e;exact absurd (ByteArray.ext (Array.toList_inj.1 e)) h
theorem aL.snoc{w:World}{S:Nat→Prop}{T:List RR}{sp:List FP}{l:List MF}{x:MF}(h:aL w S T sp l)(k:x.ok w S T):aL w S T sp (l++[x]):=⟨h.1,fun y hy=>by
 rcases List.mem_append.1 hy with q|q
 · exact h.2 y q
 · rw[List.mem_singleton.1 q];exact k⟩
theorem aL.val{w:World}{S:Nat→Prop}{T:List RR}{b:Nat}{v:Vl}(h:aL w S T [] [.val b v]):dm w S T b v:=h.2 (.val b v) (.head _)
theorem aL.l3{w:World}{S:Nat→Prop}{T:List RR}{sp:List FP}{a b c:MF}(h:∀f∈sp,tJ w S T f.e f.v f.f)(ha:a.ok w S T)(hb:b.ok w S T)(hc:c.ok w S T):aL w S T sp [a,b,c]:=⟨h,fun y hy=>by
 rcases List.mem_cons.1 hy with rfl|hy
 · exact ha
 · rcases List.mem_cons.1 hy with rfl|hy
   · exact hb
   · rw[List.mem_singleton.1 hy];exact hc⟩
theorem qu{w:World}{S:Nat→Prop}{T:List RR}{sp:List FP}{f:FP}(h:∀f∈sp,tJ w S T f.e f.v f.f)(k:tJ w S T f.e f.v f.f):∀g∈sp++[f],tJ w S T g.e g.v g.f:=fun g hg=>by
 rcases List.mem_append.1 hg with q|q
 · exact h g q
 · rw[List.mem_singleton.1 q];exact k
theorem Rx{st : List Fr}{k ta : Nat}{nm : Nm}{nn : Int}{nA : Option Addr}{nc : Nat}{ks : List PN}{e : En}{us : List Bool}{r' : Rn}(h : CZ ⟨st, .mk k ta nm nn nA nc ks, e, none, us⟩ = some r') :
   (k=3∧r'=⟨st,.mk k ta nm nn nA nc ks,e,some (.int nn),us⟩)∨(k=4∧r'=⟨st,.mk k ta nm nn nA nc ks,e,some (.bool (nn==1)),us⟩)∨(k=5∧r'=⟨st,.mk k ta nm nn nA nc ks,e,some .unit,us⟩)∨(k=15∧r'=⟨st,.mk k ta nm nn nA nc ks,e,some .nil,us⟩)∨
   (k=6∧∃v,find e nm=some v∧r'=⟨st,.mk k ta nm nn nA nc ks,e,some v,us⟩)∨(k=7∧r'=⟨st,.mk k ta nm nn nA nc ks,e,some (.fn (.mk k ta nm nn nA nc ks) e),us⟩)∨
   ((k≠3∧k≠4∧k≠5∧k≠15∧k≠6∧k≠7)∧∃d,ks[0]?=some d∧r'=⟨st++[.mk (.mk k ta nm nn nA nc ks) 0 e none],d,e,none,us⟩):=by
 unfold CZ at h;simp only[PN.k] at h;split at h
 · cases h;exact .inl ⟨rfl,rfl⟩
 · cases h;exact .inr (.inl ⟨rfl,rfl⟩)
 · cases h;exact .inr (.inr (.inl ⟨rfl,rfl⟩))
 · cases h;exact .inr (.inr (.inr (.inl ⟨rfl,rfl⟩)))
 · split at h
   · rename_i v hv;cases h;exact .inr (.inr (.inr (.inr (.inl ⟨rfl,v,hv,rfl⟩))))
   · cases h
 · cases h;exact .inr (.inr (.inr (.inr (.inr (.inl ⟨rfl,rfl⟩)))))
 · unfold E6 at h;split at h
   · rename_i d hd;cases h;exact .inr (.inr (.inr (.inr (.inr (.inr ⟨⟨by omega,by omega,by omega,by omega,by omega,by omega⟩,d,hd,rfl⟩)))))
   · cases h
end Go.Mn
namespace Go.Mn
open Go.Sx
abbrev eB:ByteArray:=⟨#[]⟩
abbrev bR(b:Nat)(A:Option Addr)(n c:Nat)(k a:Value)(x:ByteArray)(m:Value)(B:Option Addr)(l d:Nat)(e v:Value)(o:Nat)(kd:Value)(t:ByteArray)(st:Value):Sx.Item:=Sx.Item.al b (.cells #[.slice A n c,k,a,.string x,m,.slice B l d,e,v,.map (some o),kd,.string eB,.string t,st,.nilFunc] 75)
abbrev zV(k:Int)(n a b e:Value):List Value:=[.int .i64 k,n,a,b,.int .i64 0,.int .i64 0,.string eB,.int .i64 0,.slice none 0 0,e,.slice none 0 0,.string eB,.bool false,.bool false]
abbrev Ue(k:Int)(n a b e:Value):Array Value:=#[.int .i64 k,n,a,b,.int .i64 0,.int .i64 0,.string eB,.int .i64 0,.slice none 0 0,e,.slice none 0 0,.string eB,.bool false,.bool false]
end Go.Mn
namespace Go.Proofs.YtdmdecgoebnamaaGreat
open Go.RowKit Go.Sx Go.aS Go.Mn
attribute [local irreducible] Go.wpOps Go.Code.wp Go.wpOp Go.wpAnyH Go.Calls Go.Sx.Goal
set_option maxRecDepth 20000
namespace Mr
theorem V9(S : Nat → Prop)(T : List RR)(e : En)(v : Vl)(o : Option Nat)(x : Nm)(w : World)(K : Ending → World → Prop)(H0 : Sp w [mI S T ([]) [.env o e]])(hf : find e x = some v)(hK : ∀(vb : Nat) w', Hs w [mI S T ([]) [.env o e]] w' [mI S T [] [.env o e], mI S T [] [.val vb v]] → K (.returned (.pointer (some (⟨vb, 0, none⟩)))) w') :
   Calls Tryz.prog 71 #[pO o,.string x] w K:=by
 obtain⟨L0,ak,H⟩:=Sx.bX H0;refine xu (vs:=[pO o,.string x]) 21 Tryz.func71 ?_;have m1:aL w S T ([]) [.env o e]:=ay H 0 (by kernel_rfl);have H1:=dy m1 H 0 (by kernel_rfl) ([]) [.env o e] (m1);refine xz 7 (fun z l' w'=>∃(oi:Option Nat) (ei:En),l'=[(0,pO oi),(1,.string x)]∧z=ei.dep∧Hs w L0 w' [mI S T ([]) [.env o e],mI S T ([]) [.env oi ei]]∧(find ei x=some v)) _ _ ⟨o,e,rfl,rfl,H1.pk [0,0],hf⟩ (fun b1 z1 l1 w1 bQ K1 aN=>?_);obtain ⟨oi,ei,rfl,rfl,H3,YO⟩:=bQ;have au:=Rw ((ay (S:=S) (T:=T) (sp:=[]) (l:=[.env oi ei]) H3 1 (by kernel_rfl)).2 _ (.head _)) YO;obtain ⟨b,vb,nm,uo,up,ho,tD,hup,hdp,pq⟩:=au;subst ho;rcases pq with⟨Mo,hvv⟩|⟨Mo,hfu⟩
 · subst Mo;refine xy 16 (⟨b,0,none⟩) 0<|xr (c:=1) (t:=9) 0 [.string nm] (.string nm) (aa tD.2 (by decide:0+1≤3))<|xp 1 (.bool (nm.toList==nm.toList)) (.bool true) (afZ _)<|xy 7 (⟨b,0,none⟩) 1<|xr (c:=1) (t:=71) 0 [.pointer (some (⟨vb,0,none⟩))] (.pointer (some (⟨vb,0,none⟩))) (aa tD.2 (by decide:1+1≤3))<|xh 9 [] H3 (.pointer (some (⟨vb,0,none⟩))) ?_;have m2:aL w1 S T ([]) [.env (some b) ei]:=ay H3 1 (by kernel_rfl);have H4:=dy m2 H3 1 (by kernel_rfl) ([]) [.val vb v] (⟨fun _ h=>(by cases h),fun _ h=>(by rw[List.mem_singleton.1 h];exact hvv)⟩);subst ak;exact hK vb _ (H4.pick [0,1] (by kernel_rfl))
 have m3:aL w1 S T ([]) [.env (some b) ei]:=ay H3 1 (by kernel_rfl);have H5:=dy m3 H3 1 (by kernel_rfl) ([]) [.env uo up] (⟨fun _ h=>(by cases h),fun _ h=>(by rw[List.mem_singleton.1 h];exact hup)⟩);refine xy 16 (⟨b,0,none⟩) 0<|xr (c:=1) (t:=9) 0 [.string nm] (.string nm) (aa tD.2 (by decide:0+1≤3))<|xp 1 (.bool (nm.toList==x.toList)) (.bool false) (V8 Mo)<|xy 8 (⟨b,0,none⟩) 2<|xr (c:=1) (t:=70) 0 [pO uo] (pO uo) (aa tD.2 (by decide:2+1≤3)) ?_;exact xj 3 _ (aN _ _ _ _ hdp ⟨uo,up,rfl,rfl,H5.pk [0,1],hfu⟩)
theorem Ry(T : List RR)(w : World)(K : Ending → World → Prop)(H0 : Sp w [])(hK : ∀(b : Nat)(S : Nat → Prop) w', Hs w [] w' [mI S T [] [.val b (.bool true)]] → K (.returned (.pointer (some (⟨b, 0, none⟩)))) w') :
   Calls Tryz.prog 70 #[.bool true] w K:=by
 obtain⟨L0,ak,H⟩:=Sx.bX H0;refine xu (vs:=[.bool true]) 8 Tryz.func70<|xf 15 H fun k1 w1 H1=>xh 5 [] H1 (.p k1) ?_;have H2:=H1.add (Gx.Ext.refl _) (it:=mI (fun _=>False) T [] []) Ml (fun _ h=>h.elim);have m1:aL w1 (fun _=>False) T ([]) []:=ay H2 1 (by kernel_rfl);have au:=m0 m1 H2 [1,0] ([]) [.val k1 (.bool true)] k1 137 (Ue 1 (.int .i64 1) (.pointer none) (.pointer none) (.pointer none)) (by kernel_rfl) (fun S' h hb hc=>⟨fun _ h=>(by cases h),fun _ h=>(by rw[List.mem_singleton.1 h];exact .bool hb hc)⟩);obtain ⟨S1,H3⟩:=au;subst ak;exact hK k1 S1 _ (H3.pick [0] (by kernel_rfl))
theorem Rz(T : List RR)(w : World)(K : Ending → World → Prop)(H0 : Sp w [])(hK : ∀(b : Nat)(S : Nat → Prop) w', Hs w [] w' [mI S T [] [.val b (.bool false)]] → K (.returned (.pointer (some (⟨b, 0, none⟩)))) w') :
   Calls Tryz.prog 70 #[.bool false] w K:=by
 obtain⟨L0,ak,H⟩:=Sx.bX H0;refine xu (vs:=[.bool false]) 8 Tryz.func70<|xf 17 H fun k1 w1 H1=>xh 4 [] H1 (.p k1) ?_;have H2:=H1.add (Gx.Ext.refl _) (it:=mI (fun _=>False) T [] []) Ml (fun _ h=>h.elim);have m1:aL w1 (fun _=>False) T ([]) []:=ay H2 1 (by kernel_rfl);have au:=m0 m1 H2 [1,0] ([]) [.val k1 (.bool false)] k1 137 (Ue 1 (.int .i64 0) (.pointer none) (.pointer none) (.pointer none)) (by kernel_rfl) (fun S' h hb hc=>⟨fun _ h=>(by cases h),fun _ h=>(by rw[List.mem_singleton.1 h];exact .bool hb hc)⟩);obtain ⟨S1,H3⟩:=au;subst ak;exact hK k1 S1 _ (H3.pick [0] (by kernel_rfl))
theorem Bb(T:List RR)(x:Bool)(w:World)(K:Ending→World→Prop)(H0:Sp w [])(hK:∀(b:Nat)(S:Nat→Prop) w',Hs w [] w' [mI S T [] [.val b (.bool x)]]→K (.returned (.p b)) w'):Calls Tryz.prog 70 #[.bool x] w K:=by
 cases x with
 |true=>exact Ry T w K H0 hK
 |false=>exact Rz T w K H0 hK
theorem Mp(br : Nat)(As : Option Addr)(ns cs : Nat)(sp : List FP)(k ta : Nat)(nm : Nm)(nn : Int)(nA : Option Addr)(nc : Nat)(ks : List PN)(eo vo : Option Nat)(bo : Nat)(steps : Int)(at_ : Nat)(wo : Option Nat)(e : En)(u : Option Vl)(w : World)(K : Ending → World → Prop)(H0 : Sp w [bR br As ns cs (.n k) (.n ta) nm (.int .i64 nn) nA ks.length nc (pO eo) (pO vo) bo (.int .i64 0) eB (.int .i64 steps), wI 135 8 As cs ns (bh sp)])(nW : ns < 1000000000)(hK : ∀(A' : Option Addr)(c' : Nat) w', Hs w [bR br As ns cs (.n k) (.n ta) nm (.int .i64 nn) nA ks.length nc (pO eo) (pO vo) bo (.int .i64 0) eB (.int .i64 steps), wI 135 8 As cs ns (bh sp)] w' [bR br A' (ns + 1) c' (.n k) (.n ta) nm (.int .i64 nn) nA ks.length nc (pO eo) (pO vo) bo (.int .i64 0) eB (.int .i64 steps), wI 135 8 A' c' (ns + 1) (bh (sp ++ [⟨.mk (PN.mk k ta nm nn nA nc ks) at_ e u, eo, wo⟩]))] → K (.returned (.tuple #[])) w') :
   Calls Tryz.prog 39 #[.p br,.n at_,pO wo] w K:=by
 obtain⟨L0,ak,H⟩:=Sx.bX H0;refine xu (vs:=[.p br,.n at_,pO wo]) 26 Tryz.func39<|xw 0 H [0] [20] (LJ:=[bR br As ns cs (.n k) (.n ta) nm (.int .i64 nn) nA ks.length nc (pO eo) (pO vo) bo (.int .i64 0) eB (.int .i64 steps)]) (by kernel_rfl) fun w1 H1=>xm [(0,none),(1,none),(2,none),(3,none),(4,some (0,[17,18,19,20])),(5,none),(6,none),(7,none),(8,some (0,[15,16,17,18,19,20])),(9,none),(10,none),(11,none),(12,none),(13,some (0,[15,16,17,18,19,20])),(14,none),(15,none)] (H1.sb [0])<|xg ?_;intro gy;refine xi 16<|xf 0 H1 fun k1 w2 H2=>xe (x:=gy) 16 (H2.sb [0])<|xg ?_;intro im;refine xi 17<|Sx.apw 0 1 88 1 135 8 69 1 (some ⟨k1,0,none⟩) As cs ns (bh sp) [.n k,.n ta,.string nm,.int .i64 nn,.slice nA ks.length nc,.n at_,pO eo,pO wo] H2 (fun h=>(by cases h)) (V7 (b:=k1) (ty:=135) (cs:=#[.n k,.n ta,.string nm,.int .i64 nn,.slice nA ks.length nc,.n at_,pO eo,pO wo]) H2 2 (by kernel_rfl)) rfl (List.all_eq_true.1 (by kernel_rfl)) (by omega) (by omega) (Rv sp ⟨.mk (PN.mk k ta nm nn nA nc ks) at_ e u,eo,wo⟩) fun A1 bG w3 H3=>xe (x:=im) 17 (H3.sb [0])<|xm [(18,none),(19,none)] (H3.sb [0])<|xg ?_;intro kc;refine xi 20<|xd 0 0 H3 fun w4 H4=>xe (x:=kc) 20 Sx.np<|xt<|xh 0 [] H4 (.tuple #[]) ?_;subst ak;exact hK A1 bG _ (H4.pk [0,0])
theorem Uf(S : Nat → Prop)(T : List RR)(dk da : Nat)(bJ : Nm)(dn : Int)(dA : Option Addr)(dc : Nat)(cH : List PN)(br : Nat)(As : Option Addr)(ns cs : Nat)(sp : List FP)(k ta : Nat)(nm : Nm)(nn : Int)(nA : Option Addr)(nc : Nat)(ks : List PN)(eo vo : Option Nat)(bo : Nat)(steps : Int)(at_ : Nat)(wo : Option Nat)(e : En)(u : Option Vl)(w : World)(K : Ending → World → Prop)(H0 : Sp w [bR br As ns cs (.n k) (.n ta) nm (.int .i64 nn) nA ks.length nc (pO eo) (pO vo) bo (.int .i64 0) eB (.int .i64 steps), wI 135 8 As cs ns (bh sp), mI S T ([]) [.aG (PN.mk k ta nm nn nA nc ks)]])(nW : ns < 1000000000)(hd : ks[at_]? = some (PN.mk dk da bJ dn dA dc cH))(hK : ∀(A' : Option Addr)(c' : Nat) w', Hs w [bR br As ns cs (.n k) (.n ta) nm (.int .i64 nn) nA ks.length nc (pO eo) (pO vo) bo (.int .i64 0) eB (.int .i64 steps), wI 135 8 As cs ns (bh sp), mI S T ([]) [.aG (PN.mk k ta nm nn nA nc ks)]] w' [bR br A' (ns + 1) c' (.n dk) (.n da) bJ (.int .i64 dn) dA cH.length dc (pO eo) (pO vo) bo (.int .i64 0) eB (.int .i64 steps), wI 135 8 A' c' (ns + 1) (bh (sp ++ [⟨.mk (PN.mk k ta nm nn nA nc ks) at_ e u, eo, wo⟩])), mI S T [] [.aG (PN.mk k ta nm nn nA nc ks)]] → K (.returned (.tuple #[])) w') :
   Calls Tryz.prog 68 #[.p br,.n at_,pO wo] w K:=by
 obtain⟨L0,ak,H⟩:=Sx.bX H0;refine xu (vs:=[.p br,.n at_,pO wo]) 21 Tryz.func68 ?_;refine x0 5 [0,0] H (fun Hp R hZ=>Mp br As ns cs sp k ta nm nn nA nc ks eo vo bo steps at_ wo e u w R Hp nW (fun A1 c1 w1 G1=>hZ _ _ _ G1 fun H1=>?_));have m1:aL w1 S T ([]) [.aG (PN.mk k ta nm nn nA nc ks)]:=ay H1 2 (by kernel_rfl);have au:=PK.at (m1.2 _ j0) hd;obtain ⟨Dj,⟨gk,zc,_,Ug⟩,_⟩:=au;have Uh:=(List.getElem?_eq_some_iff.1 hd).1;refine xb 8 0 H1<|xv 1 gk at_ 5 ks.length nc zc (by omega)<|xr (c:=5) (t:=62) 0 (Sx.nC dk da bJ dn dA cH dc) (Sx.nA dk da bJ dn dA cH dc) Ug<|xd 2 0 H1 fun w2 H2=>xh 1 [] H2 (.tuple #[]) ?_;subst ak;exact hK A1 c1 _ (H2.pk [0,0,0])
set_option maxHeartbeats 4000000 in
theorem V_(S : Nat → Prop)(T : List RR)(e : En)(us : List Bool)(r' : Rn)(br : Nat)(As : Option Addr)(ns cs : Nat)(sp : List FP)(k ta : Nat)(nm : Nm)(nn : Int)(nA : Option Addr)(nc : Nat)(ks : List PN)(eo : Option Nat)(bo : Nat)(steps : Int)(w : World)(K : Ending → World → Prop)(H0 : Sp w [bR br As ns cs (.n k) (.n ta) nm (.int .i64 nn) nA ks.length nc (pO eo) (.pointer none) bo (.int .i64 0) eB (.int .i64 steps), wI 135 8 As cs ns (bh sp), mI S T sp [.env eo e, .aG (PN.mk k ta nm nn nA nc ks)]])(nW : ns = sp.length ∧ ns < 100000000)(hf : CZ ⟨sp.map (·.f), (PN.mk k ta nm nn nA nc ks), e, none, us⟩ = some r')(hK : ∀(S' : Nat → Prop)(A' : Option Addr)(n' : Nat)(c' : Nat)(jr : List FP)(k' : Nat)(a' : Nat)(qw : Nm)(qx : Int)(qy : Option Addr)(qz : Nat)(o3 : List PN)(ED : Option Nat)(v' : Option Vl) w', Hs w [bR br As ns cs (.n k) (.n ta) nm (.int .i64 nn) nA ks.length nc (pO eo) (.pointer none) bo (.int .i64 0) eB (.int .i64 steps), wI 135 8 As cs ns (bh sp), mI S T sp [.env eo e, .aG (PN.mk k ta nm nn nA nc ks)]] w' [bR br A' n' c' (.n k') (.n a') qw (.int .i64 qx) qy o3.length qz (pO eo) (pO ED) bo (.int .i64 0) eB (.int .i64 steps), wI 135 8 A' c' n' (bh jr), mI S' T jr [.env eo e, .aG (PN.mk k' a' qw qx qy qz o3), .vo ED v']] → (r' = ⟨jr.map (·.f), (PN.mk k' a' qw qx qy qz o3), e, v', us⟩) → (n' = jr.length) → K (.returned (.tuple #[])) w') :
   Calls Tryz.prog 40 #[.p br] w K:=by
 obtain⟨L0,ak,H⟩:=Sx.bX H0;refine xu (vs:=[.p br]) 76 Tryz.func40 ?_;have au:=Rx hf;rcases au with⟨hk,hr⟩|⟨hk,hr⟩|⟨hk,hr⟩|⟨hk,hr⟩|⟨hk,v,hv,hr⟩|⟨hk,hr⟩|⟨⟨n3,n4,n5,n15,n6,n7⟩,⟨dk,da,bJ,dn,dA,dc,cH⟩,hd,hr⟩
 · refine xb 5 0 H ?_;refine xf 0 H fun k1 w1 H1=>xd 0 3 H1 fun w2 H2=>xb 5 3 H2<|xp 5 (.bool ((k:Int)==(3:Int))) (.bool true) (eT (by omega))<|xb 7 3 H2<|xf 1 H2 fun k2 w3 H3=>?_;refine xd 2 0 H3 fun w4 H4=>xh 2 [] H4 (.tuple #[]) ?_;have m1:aL w4 S T sp [.env eo e,.aG (PN.mk k ta nm nn nA nc ks)]:=ay H4 2 (by kernel_rfl);have au:=m0 m1 H4 [2,3] sp [.env eo e,.aG (PN.mk k ta nm nn nA nc ks),.vo (some k2) (some (.int nn))] k2 137 (Ue 0 (.int .i64 nn) (.pointer none) (.pointer none) (.pointer none)) (by kernel_rfl) (fun S' h hb hc=>h.snoc (x:=.vo (some k2) (some (.int nn))) (.int hb hc));obtain ⟨S1,H5⟩:=au;subst ak;exact hK S1 As ns cs sp k ta nm nn nA nc ks (some k2) (some (.int nn)) _ (H5.pick [1,1,0] (by kernel_rfl)) (by rw[hr]) nW.1
 · refine xb 5 0 H ?_;refine xf 0 H fun k3 w5 H6=>xd 0 3 H6 fun w6 H7=>xb 5 3 H7<|xp 5 (.bool ((k:Int)==(3:Int))) (.bool false) (eF (by omega))<|xp 6 (.bool ((k:Int)==(4:Int))) (.bool true) (eT (by omega))<|xb 7 3 H7 ?_;refine xp 0 (.bool (nn==(1:Int))) (.bool (nn==1)) (rfl) ?_;refine x0 0 [] H7 (fun Hp R hZ=>Bb T (nn==1) w6 R Hp  (fun b1 S2 w7 G1=>hZ _ _ _ G1 fun H8=>?_));refine xd 2 1 H8 fun w8 H9=>xh 2 [] H9 (.tuple #[]) ?_;have au:=Mm (S:=S) (S2:=S2) (T:=T) (sp:=sp) (l:=[.env eo e,.aG (PN.mk k ta nm nn nA nc ks)]) (sp2:=[]) (l2:=[.val b1 (.bool (nn==1))]) (jr:=sp) (l':=[.env eo e,.aG (PN.mk k ta nm nn nA nc ks),.vo (some b1) (some (.bool (nn==1)))]) H9 [3,0] (by kernel_rfl) (fun S' h h2=>h.snoc (x:=.vo (some b1) (some (.bool (nn==1)))) h2.val);obtain ⟨S3,aY⟩:=au;subst ak;exact hK S3 As ns cs sp k ta nm nn nA nc ks (some b1) (some (.bool (nn==1))) _ (aY.pick [1,1,0] (by kernel_rfl)) (by rw[hr]) nW.1
 · refine xb 5 0 H ?_;refine xf 0 H fun k4 w9 aZ=>xd 0 3 aZ fun cJ aP=>xb 5 3 aP<|xp 5 (.bool ((k:Int)==(3:Int))) (.bool false) (eF (by omega))<|xp 6 (.bool ((k:Int)==(4:Int))) (.bool false) (eF (by omega))<|xp 6 (.bool ((k:Int)==(5:Int))) (.bool true) (eT (by omega)) ?_;refine xf 7 aP fun k5 fU bF=>xd 2 0 bF fun gV bq=>xh 2 [] bq (.tuple #[]) ?_;have m2:aL gV S T sp [.env eo e,.aG (PN.mk k ta nm nn nA nc ks)]:=ay bq 2 (by kernel_rfl);have au:=m0 m2 bq [2,3] sp [.env eo e,.aG (PN.mk k ta nm nn nA nc ks),.vo (some k5) (some (.unit))] k5 137 (Ue 2 (.int .i64 0) (.pointer none) (.pointer none) (.pointer none)) (by kernel_rfl) (fun S' h hb hc=>h.snoc (x:=.vo (some k5) (some (.unit))) (.unit hb hc));obtain ⟨S4,bu⟩:=au;subst ak;exact hK S4 As ns cs sp k ta nm nn nA nc ks (some k5) (some (.unit)) _ (bu.pick [1,1,0] (by kernel_rfl)) (by rw[hr]) nW.1
 · refine xb 5 0 H ?_;refine xf 0 H fun k6 iq bS=>xd 0 3 bS fun iF bx=>xb 5 3 bx<|xp 5 (.bool ((k:Int)==(3:Int))) (.bool false) (eF (by omega))<|xp 6 (.bool ((k:Int)==(4:Int))) (.bool false) (eF (by omega))<|xp 6 (.bool ((k:Int)==(5:Int))) (.bool false) (eF (by omega)) ?_;refine xp 6 (.bool ((k:Int)==(15:Int))) (.bool true) (eT (by omega))<|xf 7 bx fun k7 kr cV=>xd 2 0 cV fun ku bZ=>xh 2 [] bZ (.tuple #[]) ?_;have m3:aL ku S T sp [.env eo e,.aG (PN.mk k ta nm nn nA nc ks)]:=ay bZ 2 (by kernel_rfl);have au:=m0 m3 bZ [2,3] sp [.env eo e,.aG (PN.mk k ta nm nn nA nc ks),.vo (some k7) (some (.nil))] k7 137 (Ue 3 (.int .i64 0) (.pointer none) (.pointer none) (.pointer none)) (by kernel_rfl) (fun S' h hb hc=>h.snoc (x:=.vo (some k7) (some (.nil))) (.nil hb hc));obtain ⟨S5,cj⟩:=au;subst ak;exact hK S5 As ns cs sp k ta nm nn nA nc ks (some k7) (some (.nil)) _ (cj.pick [1,1,0] (by kernel_rfl)) (by rw[hr]) nW.1
 · refine xb 5 0 H ?_;refine xf 0 H fun k8 ke cC=>xd 0 3 cC fun mm c_=>xb 5 3 c_<|xp 5 (.bool ((k:Int)==(3:Int))) (.bool false) (eF (by omega))<|xp 6 (.bool ((k:Int)==(4:Int))) (.bool false) (eF (by omega))<|xp 6 (.bool ((k:Int)==(5:Int))) (.bool false) (eF (by omega)) ?_;refine xp 6 (.bool ((k:Int)==(15:Int))) (.bool false) (eF (by omega))<|xp 6 (.bool ((k:Int)==(6:Int))) (.bool true) (eT (by omega))<|xw 5 c_ [0,3] [10] (LJ:=[bR br As ns cs (.n k) (.n ta) nm (.int .i64 nn) nA ks.length nc (pO eo) (.pointer none) bo (.int .i64 0) eB (.int .i64 steps),.al k8 (.cells #[.n k,.n ta,.string nm,.int .i64 nn,.slice nA ks.length nc] 62)]) (by kernel_rfl) fun nX dJ=>xm [(0,none),(1,none),(2,none),(3,none),(4,some (0,[7,8,9,10])),(5,none),(6,some (1,[7,8,9,10]))] (dJ.sb [0,2])<|xg ?_;intro gy;refine xi 7 ?_;have m4:aL nX S T sp [.env eo e,.aG (PN.mk k ta nm nn nA nc ks)]:=ay dJ 2 (by kernel_rfl);have cW:=dy m4 dJ 2 (by kernel_rfl) ([]) [.env eo e] (⟨fun _ h=>(by cases h),fun _ h=>(by rw[List.mem_singleton.1 h];exact m4.2 _ (.head _))⟩);refine x0 0 [4] cW (fun Hp R hZ=>V9 S T e v eo nm nX R Hp hv (fun vb1 o4 G2=>hZ _ _ _ G2 fun cK=>?_));refine xe (x:=gy) 7 (cK.sb [2,4])<|xm [(8,none),(9,none)] (cK.sb [2,4])<|xg ?_;intro im;refine xi 10<|xd 0 2 cK fun kR ef=>xe (x:=im) 10 Sx.np<|xt<|xb 6 2 ef<|xh 6 [] ef (.tuple #[]) ?_;have m5:aL kR S T ([]) [.val vb1 v]:=ay ef 1 (by kernel_rfl);have m6:aL kR S T sp [.env eo e,.aG (PN.mk k ta nm nn nA nc ks)]:=ay ef 4 (by kernel_rfl);have eL:=dy m6 ef 4 (by kernel_rfl) sp [.env eo e,.aG (PN.mk k ta nm nn nA nc ks),.vo (some vb1) (some v)] (m6.snoc (x:=.vo (some vb1) (some v)) m5.val);subst ak;exact hK S As ns cs sp k ta nm nn nA nc ks (some vb1) (some v) _ (eL.pick [2,2,4] (by kernel_rfl)) (by rw[hr]) nW.1
 · refine xb 5 0 H ?_;refine xf 0 H fun k9 ry iU=>xd 0 3 iU fun tK eC=>xb 5 3 eC<|xp 5 (.bool ((k:Int)==(3:Int))) (.bool false) (eF (by omega))<|xp 6 (.bool ((k:Int)==(4:Int))) (.bool false) (eF (by omega))<|xp 6 (.bool ((k:Int)==(5:Int))) (.bool false) (eF (by omega)) ?_;refine xp 6 (.bool ((k:Int)==(15:Int))) (.bool false) (eF (by omega))<|xp 6 (.bool ((k:Int)==(6:Int))) (.bool false) (eF (by omega))<|xp 6 (.bool ((k:Int)==(7:Int))) (.bool true) (eT (by omega))<|xw 4 eC [3,0] [10] (LJ:=[.al k9 (.cells #[.n k,.n ta,.string nm,.int .i64 nn,.slice nA ks.length nc] 62),bR br As ns cs (.n k) (.n ta) nm (.int .i64 nn) nA ks.length nc (pO eo) (.pointer none) bo (.int .i64 0) eB (.int .i64 steps)]) (by kernel_rfl) fun qB dz=>xm [(0,none),(1,some (0,[6,7,8,9,10])),(2,none),(3,none),(4,none),(5,some (1,[6,7,8,9,10])),(6,none)] (dz.sb [3,0])<|xg ?_;intro kc;refine xi 7<|xf 0 dz fun nY um dS=>xe (x:=kc) 7 (dS.sb [3,0])<|xm [(8,none),(9,none)] (dS.sb [3,0])<|xg ?_;intro o5;refine xi 10<|xd 0 0 dS fun pK fy=>xe (x:=o5) 10 Sx.np<|xt<|xh 1 [] fy (.tuple #[]) ?_;have m7:aL pK S T sp [.env eo e,.aG (PN.mk k ta nm nn nA nc ks)]:=ay fy 2 (by kernel_rfl);have au:=m0 m7 fy [2,3] sp [.env eo e,.aG (PN.mk k ta nm nn nA nc ks),.vo (some nY) (some (.fn (PN.mk k ta nm nn nA nc ks) e))] nY 137 #[.int .i64 6,.int .i64 0,.pointer none,.pointer none,.n k,.n ta,.string nm,.int .i64 nn,.slice nA ks.length nc,pO eo,.slice none 0 0,.string eB,.bool false,.bool false] (by kernel_rfl) (fun S' h hb hc=>h.snoc (x:=.vo (some nY) (some (.fn (PN.mk k ta nm nn nA nc ks) e))) (.fn hb hc (h.2 _ j0) (h.2 _ j1)));obtain ⟨S6,kv⟩:=au;subst ak;exact hK S6 As ns cs sp k ta nm nn nA nc ks (some nY) (some (.fn (PN.mk k ta nm nn nA nc ks) e)) _ (kv.pick [1,1,0] (by kernel_rfl)) (by rw[hr]) nW.1
 refine xb 5 0 H<|xf 0 H fun KN tL gi=>xd 0 3 gi fun tM fP=>xb 5 3 fP<|xp 5 (.bool ((k:Int)==(3:Int))) (.bool false) (eF (by omega))<|xp 6 (.bool ((k:Int)==(4:Int))) (.bool false) (eF (by omega)) ?_;refine xp 6 (.bool ((k:Int)==(5:Int))) (.bool false) (eF (by omega))<|xp 6 (.bool ((k:Int)==(15:Int))) (.bool false) (eF (by omega))<|xp 6 (.bool ((k:Int)==(6:Int))) (.bool false) (eF (by omega))<|xp 6 (.bool ((k:Int)==(7:Int))) (.bool false) (eF (by omega)) ?_;have m8:aL tM S T sp [.env eo e,.aG (PN.mk k ta nm nn nA nc ks)]:=ay fP 2 (by kernel_rfl);have hP:=dy m8 fP 2 (by kernel_rfl) ([]) [.aG (PN.mk k ta nm nn nA nc ks)] (⟨fun _ h=>(by cases h),fun _ h=>(by rw[List.mem_singleton.1 h];exact m8.2 _ j1)⟩);refine x0 6 [0,0,2] hP (fun Hp R hZ=>Uf S T dk da bJ dn dA dc cH br As ns cs sp k ta nm nn nA nc ks eo none bo steps 0 none e none tM R Hp (by omega) hd (fun A1 c1 zd G3=>hZ _ _ _ G3 fun jQ=>?_));refine xh 2 [] jQ (.tuple #[]) ?_;have m9:aL zd S T sp [.env eo e,.aG (PN.mk k ta nm nn nA nc ks)]:=ay jQ 3 (by kernel_rfl);have iV:=dy m9 jQ 3 (by kernel_rfl) (sp++[⟨.mk (PN.mk k ta nm nn nA nc ks) 0 e none,eo,none⟩]) [.env eo e,.aG (PN.mk dk da bJ dn dA dc cH),.vo none none] (aL.l3 (qu m9.1 (.no (m9.2 _ j0) (m9.2 _ j1))) (m9.2 _ j0) (PK.nB (m9.2 _ j1) hd) trivial);subst ak;exact hK S A1 (ns+1) c1 (sp++[⟨.mk (PN.mk k ta nm nn nA nc ks) 0 e none,eo,none⟩]) dk da bJ dn dA dc cH none none _ (iV.pick [0,0,3] (by kernel_rfl)) (by rw[hr];simp) (by rw[nW.1];simp)
end Mr
end Go.Proofs.YtdmdecgoebnamaaGreat
namespace Go.Mn
open Go.RowKit Go.Sx Go.aS Go.Gx
theorem v8{α:Type}{l:List α}{x:α}{i:Nat}{y:α}(h:(l++[x])[i]?=some y):i<l.length∧l[i]?=some y∨i=l.length∧y=x:=by
 rcases Nat.lt_or_ge i l.length with q|q
 · rw[List.getElem?_append_left q] at h;exact .inl ⟨q,h⟩
 · have:=(List.getElem?_eq_some_iff.1 h).1;have e:i=l.length:=by simp at this;omega
   subst e;simp at h;exact .inr ⟨rfl,h.symm⟩
def gj(ty:Nat)(T:List Nat)(C:Nat→List Value)(hs:List Nat):Sx.Item:=.abs (fun c=>∃i:Nat,T[i]?=some c∧i∉hs) (fun w=>(∀(i b:Nat),T[i]?=some b→i∉hs→Has w b (.cells (C i).toArray ty))∧∀(i j b:Nat),T[i]?=some b→T[j]?=some b→i∉hs→j∉hs→i=j)
section
variable {w0 w:World} {L0 L:List Sx.Item} {ty n b:Nat} {T hs:List Nat} {C C':Nat→List Value}
theorem mn(h1:∀(i b:Nat),T[i]?=some b→i∉hs→Has w b (.cells (C i).toArray ty))(h2:∀(i j b:Nat),T[i]?=some b→T[j]?=some b→i∉hs→j∉hs→i=j):(gj ty T C hs).holds w:=
 ⟨⟨h1,h2⟩,fun _ ⟨i,hi,hn⟩=>(h1 i _ hi hn).lt,fun _ _ _ hk h=>⟨fun i b hi hn=>(hk b ⟨i,hi,hn⟩).trans (h.1 i b hi hn),h.2⟩⟩
theorem Jx(H : Hs w0 L0 w L)(i : Nat)(hi : bp [i] L = some [gj ty T C hs])(hb : T[n]? = some b)(hn : n ∉ hs){v : List Value}(hv : C n = v) :
   Hs w0 L0 w (.al b (.cells v.toArray ty)::gj ty T C (n::hs)::rest [i] L):=by
 subst hv;have k:Hs w0 L0 w (gj ty T C hs::rest [i] L):=H.perm (gg hi);have hh:=k.at 0 rfl;have sp:Sp w [.al b (.cells (C n).toArray ty),gj ty T C (n::hs)]:=by
   refine⟨fun it pG=>?_,List.pairwise_cons.2 ⟨fun it pG=>?_,List.pairwise_singleton _ _⟩⟩
   · rcases List.mem_cons.1 pG with rfl|q
     · exact hh.1.1 n b hb hn
     · rw[List.mem_singleton.1 q];exact mn (fun i b hi h=>hh.1.1 i b hi fun q=>h (.tail _ q)) (fun i j b hi hj h1 h2=>hh.1.2 i j b hi hj (fun q=>h1 (.tail _ q)) fun q=>h2 (.tail _ q))
   · rw[List.mem_singleton.1 pG];rintro _ c hc ⟨j,hj,HD⟩;have hc:c=b:=hc;subst hc;exact HD (by rw[hh.1.2 j n c hj hb (fun q=>HD (.tail _ q)) hn];exact .head _)
 have k2 := k.auh 0 (comp (fun L => L = [.al b (.cells (C n).toArray ty), gj ty T C (n :: hs)]) (E8 [.al b (.cells (C n).toArray ty), gj ty T C (n :: hs)])) rfl rfl (vO sp rfl (fun it pG => by
     rcases List.mem_cons.1 pG with rfl|q
     · rfl
     · rw[List.mem_singleton.1 q];rfl)) (fun c ⟨it,pG,hc⟩=>by
     rcases List.mem_cons.1 pG with rfl|q
     · have hc:c=b:=hc;subst hc;exact⟨n,hb,hn⟩
     · rw[List.mem_singleton.1 q] at hc;obtain ⟨j,hj,HD⟩:=hc
       exact⟨j,hj,fun q=>HD (.tail _ q)⟩)
 obtain⟨L',rfl,k3⟩:=k2.gu 0 rfl;exact k3
theorem Mq(H : Hs w0 L0 w L)(I : List Nat){v : List Value}(hp : bp I L = some [.al b (.cells v.toArray ty), gj ty T C (n :: hs)])(hb : T[n]? = some b)(hn : n ∉ hs)(hv : C' n = v)(hC : ∀ i, i ≠ n → i < T.length → C' i = C i) :
   Hs w0 L0 w (gj ty T C' hs::rest I L):=by
 subst hv;have sp:=(H.pick I hp).sp;have h1:Has w b (.cells (C' n).toArray ty):=sp.all _ (.head _);have h2:(gj ty T C (n::hs)).holds w:=sp.all _ (.tail _ (.head _));have ap:∀j:Nat,T[j]?=some b→j∉hs→j=n:=fun j hj HD=>by
   by_cases e:j=n
   · exact e
   · exact absurd ⟨j,hj,fun q=>(List.mem_cons.1 q).elim e HD⟩ ((List.pairwise_cons.1 sp.yN).1 _ (.head _) rfl b rfl)
 have nm:∀{i:Nat},i≠n→i∉hs→i∉n::hs:=fun h1 h2 q=>(List.mem_cons.1 q).elim h1 h2;have k:=H.cls I hp (shape:=fun L=>L=[.al b (.cells (C' n).toArray ty),gj ty T C (n::hs)]) rfl rfl;refine k.auh 0 (gj ty T C' hs) rfl rfl (mn (fun i c hi Jy=>?_) (fun i j c hi hj Jy HD=>?_)) (fun c ⟨i,hi,Jy⟩=>?_)
 · by_cases e:i=n
   · subst e;rw[hb] at hi;cases hi;exact h1
   · rw[hC i e (List.getElem?_eq_some_iff.1 hi).1];exact h2.1.1 i c hi (nm e Jy)
 · by_cases e:i=n
   · subst e;rw[hb] at hi;cases hi;exact(ap j hj HD).symm
   · by_cases e2:j=n
     · subst e2;rw[hb] at hj;cases hj;exact ap i hi Jy
     · exact h2.1.2 i j c hi hj (nm e Jy) (nm e2 HD)
 · by_cases e:i=n
   · subst e;rw[hb] at hi;cases hi;exact⟨_,.head _,rfl⟩
   · exact⟨_,.tail _ (.head _),i,hi,nm e Jy⟩
theorem Ms(H : Hs w0 L0 w L)(I : List Nat){v : List Value}(hp : bp I L = some [.al b (.cells v.toArray ty), gj ty T C hs])(hv : C' T.length = v)(hC : ∀ i, i < T.length → C' i = C i) :
   Hs w0 L0 w (gj ty (T++[b]) C' hs::rest I L):=by
 subst hv;have sp:=(H.pick I hp).sp;have h1:Has w b (.cells (C' T.length).toArray ty):=sp.all _ (.head _);have h2:(gj ty T C hs).holds w:=sp.all _ (.tail _ (.head _));have ap:∀j:Nat,T[j]?=some b→j∉hs→False:=fun j hj HD=>(List.pairwise_cons.1 sp.yN).1 _ (.head _) rfl b rfl ⟨j,hj,HD⟩;have k:=H.cls I hp (shape:=fun L=>L=[.al b (.cells (C' T.length).toArray ty),gj ty T C hs]) rfl rfl;refine k.auh 0 (gj ty (T++[b]) C' hs) rfl rfl (mn (fun i c hi Jy=>?_) (fun i j c hi hj Jy HD=>?_)) (fun c ⟨i,hi,Jy⟩=>?_)
 · rcases v8 hi with⟨q,e⟩|⟨rfl,rfl⟩
   · rw[hC i q];exact h2.1.1 i c e Jy
   · exact h1
 · rcases v8 hi with⟨q,e⟩|⟨rfl,rfl⟩<;>rcases v8 hj with⟨q2,e2⟩|⟨rfl,e2⟩
   · exact h2.1.2 i j c e e2 Jy HD
   · subst e2;exact(ap i e Jy).elim
   · exact(ap j e2 HD).elim
   · rfl
 · rcases v8 hi with⟨q,e⟩|⟨rfl,rfl⟩
   · exact⟨_,.tail _ (.head _),i,e,Jy⟩
   · exact⟨_,.head _,rfl⟩
end
def Ui(T:List RR)(us:List Bool)(i:Nat):List Value:=match T[i]? with
 |some r=>Mj r.A r.n r.c r.op r.once (us[i]?.getD false)
 |none=>[]
def tN(T:List RR)(us:List Bool):Sx.Item:=gj 137 (T.map (·.b)) (Ui T us) []
theorem Ft{T:List RR}{us:List Bool}{i:Nat}{r:RR}{u:Bool}(h:T[i]?=some r)(hu:us[i]?=some u):Ui T us i=Mj r.A r.n r.c r.op r.once u:=by
 unfold Ui;rw[h,hu];rfl
section
variable {w0 w:World} {L0 L:List Sx.Item} {T:List RR} {us:List Bool}
theorem RC(H : Hs w0 L0 w L)(i : Nat)(hi : bp [i] L = some [tN T us]){n : Nat}{r : RR}{u : Bool}(hn : T[n]? = some r)(hu : us[n]? = some u) :
   Hs w0 L0 w (.al r.b (.cells (Mj r.A r.n r.c r.op r.once u).toArray 137)::gj 137 (T.map (·.b)) (Ui T us) [n]::rest [i] L):=
 Jx H i hi (by simp[hn]) (fun h=>by cases h) (Ft hn hu)
theorem Wa(H : Hs w0 L0 w L)(I : List Nat){n : Nat}{r : RR}{u : Bool}(hp : bp I L = some [.al r.b (.cells (Mj r.A r.n r.c r.op r.once u).toArray 137), gj 137 (T.map (·.b)) (Ui T us) [n]])(hn : T[n]? = some r)(hu : n < us.length) :
   Hs w0 L0 w (tN T (us.set n u)::rest I L):=
 Mq H I hp (by simp[hn]) (fun h=>by cases h) (Ft hn (by simp[hu])) (fun i hi _=>by unfold Ui;rw[List.getElem?_set_ne (Ne.symm hi)])
theorem Wb(H : Hs w0 L0 w L)(I : List Nat){r : RR}{u : Bool}(hp : bp I L = some [.al r.b (.cells (Mj r.A r.n r.c r.op r.once u).toArray 137), tN T us])(hl : us.length = T.length) :
   Hs w0 L0 w (tN (T++[r]) (us++[u])::rest I L):=by
 have:=Ms (C':=Ui (T++[r]) (us++[u])) H I hp (by rw[List.length_map];exact Ft (by simp) (by simp[← hl])) (fun i hi=>by
   rw[List.length_map] at hi
   unfold Ui;rw[List.getElem?_append_left hi,List.getElem?_append_left (by omega)])
 rw[tN,List.map_append];exact this
end
def uq(b:Nat)(mp:List (Nm×Value)):Sx.Item:=rf .string Value.string b mp
def EE(mp:List (Nm×Value))(x:Nm):Bool:=match Sx.look x mp with
 |some (.bool b)=>b
 |_=>false
def ur(mp:List (Nm×Value)):Prop:=∀p∈mp,∃b,p.2=.bool b
theorem Wc{mp:List (Nm×Value)}(h:ur mp)(x:Nm):(Sx.look x mp).getD (.bool false)=.bool (EE mp x):=by
 unfold EE;cases e:Sx.look x mp with
 |none=>rfl
 |some v=>
   unfold Sx.look at e;obtain ⟨j,_,e⟩:=Option.bind_eq_some_iff.1 e;obtain ⟨p,hp,rfl⟩:=Option.map_eq_some_iff.1 e;obtain ⟨b,hb⟩:=h p (List.mem_of_getElem? hp);rw [hb];rfl
theorem aag(a:Nm):MapKept.IsKey .string (Value.string a):=trivial
theorem str_inj(a b:Nm)(h:Value.string a=.string b):a=b:=by injection h
section
variable [Rd] {P:Program} {B:Exit→Act→World→Prop} {b:Nat→Value} {n:Nat} {d:List Deferred} {w0 w:World} {x:Sx.St} {L0 L:List Sx.Item}
theorem Z7{t kt et : Nat}(m i : Nat)(H : Hs w0 L0 w L){bt : Nat}{mp : List (Nm × Value)}(a : Nm)(hi : L[i]? = some (uq bt mp))(ho : ur mp)
   (k:Goal P B b n d (nx (vX (via P b n m w x (Sx.ask (lU b n)))).y (vX (via P b n m w x (Sx.ask (lU b n)))).q (.bool (EE mp a))) w)
   (h:vA (via P b n m w x (Sx.ask (lU b n)))=vB w (via P b n m w x (Sx.ask (lU b n))):=by kernel_rfl)
   (h2:((vX (via P b n m w x (Sx.ask (lU b n)))).u,(vX (via P b n m w x (Sx.ask (lU b n)))).t)=([.map (some bt),.string a],[t,0]):=by kernel_rfl)
   (ht:ki P t=some (kt,et):=by kernel_rfl) (lE:P.underlying kt=some .string:=by kernel_rfl) (hz:(P.info? et).bind (·.zero)=some (.bool false):=by kernel_rfl):Goal P B b n d x w:=
 lk (r:=0) m i H (enc:=Value.string) a (.bool false) hi aag str_inj (by rw[Wc ho];exact k) h h2 ht lE hz
end
theorem aL.af1{w:World}{S:Nat→Prop}{T:List RR}{sp:List FP}{b:Nat}{v:Vl}(h:aL w S T sp [.val b v]):dm w S T b v:=h.2 (.val b v) (.head _)
def cR:Option Nat→Int
 |none=> -1
 |some k=>(k:Int)
theorem aah{a b:Nm}(h:ee a b=false):a≠b:=fun e=>by rw[kJ.2 e] at h;cases h
theorem Jz{op : Nm}{ks : List PN}{i : Nat}{o : Option Nat}(h : ey op (ks.drop i) i = o) : (¬ i < ks.length ∧ o = none) ∨
   (∃(k a:Nat) (nm:Nm) (n:Int) (A:Option Addr) (c:Nat) (l:List PN),ks[i]?=some (.mk k a nm n A c l)∧i<ks.length∧op=nm∧o=some i)∨
   (∃(k a:Nat) (nm:Nm) (n:Int) (A:Option Addr) (c:Nat) (l:List PN),ks[i]?=some (.mk k a nm n A c l)∧i<ks.length∧nm≠op∧ey op (ks.drop (i+1)) (i+1)=o):=by
 by_cases hi:i<ks.length
 · rw[List.drop_eq_getElem_cons hi,ey] at h;have hk:ks[i]?=some ks[i]:=List.getElem?_eq_getElem hi;revert hk h;generalize ks[i]=d;intro h hk;obtain ⟨k,a,nm,n,A,c,l⟩:=d;split at h
   · rename_i q;exact .inr (.inl ⟨k,a,nm,n,A,c,l,hk,hi,(kJ.1 q).symm,h.symm⟩)
   · rename_i q;exact .inr (.inr ⟨k,a,nm,n,A,c,l,hk,hi,fun e=>q (kJ.2 e),h⟩)
 · rw[List.drop_eq_nil_of_le (by omega),ey] at h;exact .inl ⟨hi,h.symm⟩
theorem HE{op:Nm}:∀{l:List Fr}{i0:Nat},hand op l i0=none→∀(j:Nat)(f:Fr),l[j]?=some f→f.nd.k=20→ey op (f.nd.ks.drop 2) 2=none
 |[],_,_,j,f,hj,_=>by cases hj
 |g::l,i0,h,j,f,hj,hk=>by
   unfold hand at h;split at h
   · cases h
   · rename_i hn;cases j with
     |zero=>
       cases hj;rw [if_pos hk] at h;split at h
       · cases h
       · rename_i q;exact q
     |succ j=>exact HE hn j f hj hk
theorem HF{op:Nm}:∀{l:List Fr}{i0 i k:Nat},hand op l i0=some (i,k)→∃f,i0≤i∧l[i-i0]?=some f∧f.nd.k=20∧ey op (f.nd.ks.drop 2) 2=some k∧∀(j:Nat)(f':Fr),i-i0<j→l[j]?=some f'→f'.nd.k=20→ey op (f'.nd.ks.drop 2) 2=none
 |[],_,_,_,h=>by cases h
 |g::l,i0,i,k,h=>by
   unfold hand at h;split at h
   · rename_i q hq;cases h;obtain ⟨f,h1,h2,h3,h4,h5⟩:=HF hq;refine ⟨f,by omega,?_,h3,h4,fun j f' hj hf=>?_⟩
     · rw[show i-i0=(i-(i0+1))+1 from by omega];exact h2
     · obtain⟨j,rfl⟩:∃m,j=m+1:=⟨j-1,by omega⟩;exact h5 j f' (by omega) hf
   · rename_i hn;split at h
     · rename_i hk;split at h
       · rename_i k' hc;cases h;refine ⟨g,Nat.le_refl _,by rw[Nat.sub_self];rfl,hk,hc,fun j f' hj hf=>?_⟩;obtain ⟨j,rfl⟩:∃m,j=m+1:=⟨j-1,by omega⟩;exact HE hn j f' hf
       · cases h
     · cases h
theorem Mt{sp:List FP}{i:Nat}{f:Fr}(h:(sp.map (·.f))[i]?=some f):∃o v,sp[i]?=some ⟨f,o,v⟩:=by
 rw[List.getElem?_map] at h;obtain ⟨p,hp,rfl⟩:=Option.map_eq_some_iff.1 h;exact ⟨p.e,p.v,hp⟩
theorem RD{once : Nm → Bool}{sp : List FP}{gF : PN}{e0 : En}{v0 : Option Vl}{us : List Bool}{op : Nm}{x : Vl}{r' : Rn}(h : pE once ⟨sp.map (·.f), gF, e0, v0, us⟩ op x = some r') :
   ∃(i k fa:Nat) (dL:Nm) (fn:Int) (fA:Option Addr) (fc:Nat) (fF:List PN) (P9:Nat) (fe:En) (fv:Option Vl) (fo Uj:Option Nat) (ck ca:Nat) (Dk:Nm) (cn:Int) (cA:Option Addr) (cc:Nat) (a b d:PN),
     sp[i]?=some ⟨.mk (.mk 20 fa dL fn fA fc fF) P9 fe fv,fo,Uj⟩∧ey op (fF.drop 2) 2=some k∧fF[k]?=some (.mk ck ca Dk cn cA cc [a,b,d])∧
     (∀(j:Nat)(f':Fr),i<j→(sp.map (·.f))[j]?=some f'→f'.nd.k=20→ey op (f'.nd.ks.drop 2) 2=none)∧
     r'=⟨(sp.take i).map (·.f),d,.put b.nm (.res us.length ((sp.drop (if fn==1 then i+1 else i)).map (·.f)) op (once op)) (.put a.nm x fe),none,us++[false]⟩:=by
 unfold pE at h;split at h
 · rename_i i k hh;obtain ⟨f,h1,h2,h3,h4,h5⟩:=HF hh;simp only at h;rw [Nat.sub_zero] at h2 h5;rw [h2] at h;obtain ⟨⟨fk,fa,dL,fn,fA,fc,fF⟩,P9,fe,fv⟩:=f;simp only[PN.ks,PN.n] at h;split at h
   · rename_i c hc;obtain ⟨ck,ca,Dk,cn,cA,cc,cks⟩:=c;rcases cks with _|⟨a,_|⟨b,_|⟨d,_|⟨_,_⟩⟩⟩⟩
     · cases h
     · cases h
     · cases h
     · cases h;have h3:fk=20:=h3;subst h3;obtain ⟨o,v,hs⟩:=Mt h2;exact ⟨i,k,fa,dL,fn,fA,fc,fF,P9,fe,fv,o,v,ck,ca,Dk,cn,cA,cc,a,b,d,hs,h4,hc,h5,by rw[List.map_take,List.map_drop];rfl⟩
     · cases h
   · cases h
 · cases h
theorem RE{op : Nm}{sp : List FP}{i j : Nat}(P6 : i ≤ j)(hj : j < sp.length)(h : ∀(j : Nat)(f' : Fr), i < j → (sp.map (·.f))[j]? = some f' → f'.nd.k = 20 → ey op (f'.nd.ks.drop 2) 2 = none) :
   i=j∨∃(qk qa:Nat) (bW:Nm) (qn:Int) (qA:Option Addr) (qc:Nat) (bH:List PN) (Bc:Nat) (qe:En) (qv:Option Vl) (qo gl:Option Nat),sp[j]?=some ⟨.mk (.mk qk qa bW qn qA qc bH) Bc qe qv,qo,gl⟩∧i<j∧(qk≠20∨qk=20∧ey op (bH.drop 2) 2=none):=by
 rcases Nat.eq_or_lt_of_le P6 with e|e
 · exact .inl e
 · have hs:sp[j]?=some sp[j]:=List.getElem?_eq_getElem hj;revert hs;generalize sp[j]=f;intro hs;obtain ⟨⟨⟨qk,qa,bW,qn,qA,qc,bH⟩,Bc,qe,qv⟩,qo,gl⟩:=f;refine .inr ⟨qk,qa,bW,qn,qA,qc,bH,Bc,qe,qv,qo,gl,hs,e,?_⟩;by_cases q:qk=20
   · exact .inr ⟨q,h j (.mk (.mk qk qa bW qn qA qc bH) Bc qe qv) e (by rw[List.getElem?_map,hs];rfl) q⟩
   · exact .inl q
theorem tJ.nd{w:World}{S:Nat→Prop}{T:List RR}{o vo:Option Nat}{nd:PN}{at_:Nat}{e:En}{v:Option Vl}(h:tJ w S T o vo (.mk nd at_ e v)):PK w S nd∧vZ w S T o e:=by
 cases h with
 |no he hk=>exact⟨hk,he⟩
 |so he hv hk=>exact⟨hk,he⟩
theorem af3{r s:Nm}(h:r=s):Value.bool (s.toList==r.toList)=.bool true:=by rw[h];simp
theorem oQ(f:FP):(Fp f).length=8:=by obtain⟨⟨⟨⟩,_,_,_⟩,_,_⟩:=f;rfl
theorem RF(f:FP):∀u∈Fp f,u.oneCell'=true:=by obtain⟨⟨⟨⟩,_,_,_⟩,_,_⟩:=f;exact List.all_eq_true.1 rfl
theorem lJ(l:List FP):(bh l).length=l.length*8:=by
 induction l with
 |nil=>rfl
 |cons f l ih=>rw[bh,List.flatMap_cons,List.length_append,oQ];rw[bh] at ih;rw[ih,List.length_cons];omega
theorem Dl(l:List FP):∀u∈bh l,u.oneCell'=true:=fun u hu=>by
 obtain⟨f,_,hf⟩:=List.mem_flatMap.1 hu;exact RF f u hf
theorem Mu(l m:List FP):bh l++bh m=bh (l++m):=by simp[bh]
theorem sN(l:List FP):∀k,(bh l).take (k*8)=bh (l.take k):=by
 induction l with
 |nil=>intro k;simp[bh]
 |cons f l ih=>
   intro k;cases k with
   |zero=>simp[bh]
   |succ k=>
     have:=ih k;simp only[bh,List.flatMap_cons,List.take_succ_cons] at this ⊢;rw [← this,show(k+1)*8=(Fp f).length+k*8 from by rw[oQ];omega,List.take_length_add_append]
theorem zW(l:List FP):∀k,(bh l).drop (k*8)=bh (l.drop k):=by
 induction l with
 |nil=>intro k;simp[bh]
 |cons f l ih=>
   intro k;cases k with
   |zero=>simp[bh]
   |succ k=>
     have:=ih k;simp only[bh,List.flatMap_cons,List.drop_succ_cons] at this ⊢;rw [← this,show(k+1)*8=(Fp f).length+k*8 from by rw[oQ];omega,List.drop_length_add_append]
theorem sO{l:List FP}{i:Nat}{f:FP}(h:l[i]?=some f):((bh l).drop (i*8)).take 8=Fp f:=by
 obtain⟨hi,rfl⟩:=List.getElem?_eq_some_iff.1 h;rw [zW,List.drop_eq_getElem_cons hi,bh,List.flatMap_cons,List.take_append_of_le_length (Nat.le_of_eq (oQ _).symm),List.take_of_length_le (Nat.le_of_eq (oQ _))]
theorem Mv{w : World}{A C : Option Addr}{cap n k : Nat}{sp : List FP}(h : gv w 135 8 A cap n (bh sp))(hC : ∀ a, C = some a → ∃ a0, A = some a0 ∧ (k < n → a = a0.add (k * 8))) :
   ∀a,C=some a→∀(j:Nat)(u:Value),(bh (sp.drop k))[j]?=some u→w.cell? (a.add j)=some u:=fun a ha j u hu=>by
 obtain⟨a0,h0,hk⟩:=hC a ha;have hl:=(List.getElem?_eq_some_iff.1 hu).1;have h1:=h.1;rw [lJ,List.length_drop] at hl;rw [lJ] at h1;rw [hk (by omega),add_add];refine h.at h0 _ _ ?_;rw [← zW,List.getElem?_drop] at hu;exact hu
theorem Mw{w:World}{A:Option Addr}{cap n:Nat}{fp:List FP}(h:w.ownsRow 0 135 8 (.slice A n cap) n (bh fp)){j:Nat}{f:FP}(hj:fp[j]?=some f):∃g,A=some g∧(Value.slice A n cap).ownBlock=some g.block∧w.cells? 0 (g.add (j*8)) 8=some (Fp f):=by
 have hl:=(List.getElem?_eq_some_iff.1 hj).1;have h1:=h.1;rw [lJ] at h1;rcases h.2 with⟨_,h0⟩|⟨g,cM,cur,hv,_⟩
 · omega
 · injection hv with h2;exact ⟨_,h2,by rw[h2];rfl,(gv.of h).cells h2 (sO hj) (oQ f)⟩
theorem PK.cell{w:World}{S:Nat→Prop}{k a:Nat}{nm:Nm}{n:Int}{A:Option Addr}{c:Nat}{ks:List PN}(h:PK w S (.mk k a nm n A c ks)){g:Addr}(hA:A=some g){i:Nat}{d:PN}(hi:ks[i]?=some d):w.cells? 0 (g.add (i*5)) 5=some d.cells:=by
 obtain⟨_,⟨g',h1,_,h2⟩,_⟩:=h.at hi;rw [hA] at h1;cases h1;exact h2
section
variable {w0 w:World} {L0 L:List Sx.Item} {S:Nat→Prop} {T T':List RR} {sp jr:List FP} {l l':List MF}
theorem aai(H : Hs w0 L0 w L)(I : List Nat){A : Option Addr}{cap n : Nat}{fp : List FP}{b1 b2 t1 t2 : Nat}{c1 c2 : Array Value}(hp : bp I L = some [mI S T sp l, .own 135 8 A cap n (bh fp), .al b1 (.cells c1 t1), .al b2 (.cells c2 t2)])
   (hT:∀(i:Nat)(r:RR),T[i]?=some r→T'[i]?=some r)
   (h:∀S':Nat→Prop,aL w S' T' sp l→(∀(j:Nat)(f:FP),fp[j]?=some f→∃g,A=some g∧S' g.block∧w.cells? 0 (g.add (j*8)) 8=some (Fp f))→n≤cap→S' b1→w.cells? 0 ⟨b1,0,none⟩ c1.size=some c1.toList→S' b2→w.cells? 0 ⟨b2,0,none⟩ c2.size=some c2.toList→aL w S' T' jr l'):
   ∃S',Hs w0 L0 w (mI S' T' jr l'::rest I L):=by
 refine⟨_,H.fz I hp (fun s=>?_) (qt _ _ _ _)⟩;have h0:aL w S T sp l:=(s.all _ (.head _)).1;have h1:w.ownsRow 0 135 8 (.slice A n cap) n (bh fp):=s.all _ (.tail _ (.head _));have h2:Has w b1 (.cells c1 t1):=s.all _ (.tail _ (.tail _ (.head _)));have h3:Has w b2 (.cells c2 t2):=s.all _ (.tail _ (.tail _ (.tail _ (.head _))));refine h _ (h0.up ⟨fun _ _=>rfl,fun c hc=>⟨_,.head _,hc⟩,hT⟩) (fun j f hj=>?_) (kD h1) ⟨_,.tail _ (.tail _ (.head _)),rfl⟩ ?_ ⟨_,.tail _ (.tail _ (.tail _ (.head _))),rfl⟩ ?_
 · obtain⟨g,hg,hb,hc⟩:=Mw h1 hj;exact ⟨g,hg,⟨_,.tail _ (.head _),hb⟩,hc⟩
 · refine ChangeShapes.cells?_of (Nat.zero_le _) (by simp) (fun j hj=>?_);rw [cell_of_row w b1 _ c1 t1 (0,0) h2,Nat.zero_add];simp
 · refine ChangeShapes.cells?_of (Nat.zero_le _) (by simp) (fun j hj=>?_);rw [cell_of_row w b2 _ c2 t2 (0,0) h3,Nat.zero_add];simp
end
theorem RG{w : World}{S : Nat → Prop}{T : List RR}{sp : List FP}{i kk fr m vb id bk cap b1 b2 P9 : Nat}{x : Vl}{nd c a b d : PN}{fe : En}{fv : Option Vl}{fo Uj : Option Nat}{A : Option Addr}{op : Nm}{once : Bool}
   (h:aL w S T sp [.val vb x]) (hs:sp[i]?=some ⟨.mk nd P9 fe fv,fo,Uj⟩) (hk:nd.ks[kk]?=some c) (rB:c.ks=[a,b,d]) (hid:T[id]?=some ⟨bk,A,m,cap,op,once⟩) (hlen:((sp.drop fr).map (·.f)).length=m) (zH:m≤cap)
   (YP:∀(j:Nat)(f:FP),(sp.drop fr)[j]?=some f→∃g,A=some g∧S g.block∧w.cells? 0 (g.add (j*8)) 8=some (Fp f)) (KL:S b1) (m_:w.cells? 0 ⟨b1,0,none⟩ 3=some [.string a.nm,pO (some vb),pO fo])
   (hb2:S b2) (uZ:w.cells? 0 ⟨b2,0,none⟩ 3=some [.string b.nm,pO (some bk),pO (some b1)]):
   aL w S T (sp.take i) [.env (some b2) (.put b.nm (.res id ((sp.drop fr).map (·.f)) op once) (.put a.nm x fe)),.aG d,.vo none none]:=by
 obtain⟨Ub,hen⟩:=tJ.nd (h.1 _ (List.mem_of_getElem? hs));subst hlen;refine aL.l3 (fun f hf=>h.1 f (List.mem_of_mem_take hf)) ?_ (PK.nB (PK.nB Ub hk) (i:=2) (by rw[rB];rfl)) trivial;exact .put hb2 uZ (.res _ hid rfl zH YP (fun j f hj=>h.1 f (List.mem_of_mem_drop (List.mem_of_getElem? hj)))) (.put KL m_ h.af1 hen)
end Go.Mn
namespace Go.Proofs.YtdmdecgoebnamaaGreat
open Go.RowKit Go.Sx Go.aS Go.Mn
attribute [local irreducible] Go.wpOps Go.Code.wp Go.wpOp Go.wpAnyH Go.Calls Go.Sx.Goal
set_option maxRecDepth 20000
namespace Mr
theorem Dm(S : Nat → Prop)(T : List RR)(k ta : Nat)(nm : Nm)(nn : Int)(nA : Option Addr)(nc : Nat)(ks : List PN)(op : Nm)(o : Option Nat)(w : World)(K : Ending → World → Prop)(H0 : Sp w [mI S T ([]) [.aG (PN.mk k ta nm nn nA nc ks)]])(hf : ey op (ks.drop 2) 2 = o)(hK : ∀ w', Hs w [mI S T ([]) [.aG (PN.mk k ta nm nn nA nc ks)]] w' [mI S T [] [.aG (PN.mk k ta nm nn nA nc ks)]] → K (.returned (.int .i64 (cR o))) w') :
   Calls Tryz.prog 108 #[Sx.nA k ta nm nn nA ks nc,.string op] w K:=by
 obtain⟨L0,ak,H⟩:=Sx.bX H0;refine xu (vs:=[Sx.nA k ta nm nn nA ks nc,.string op]) 22 Tryz.func108<|xf 2 H fun k1 w1 H1=>?_;refine xz 10 (fun z l' w'=>∃(i:Nat),l'=[(1,.string op),(2,.p k1),(5,.n i)]∧z=ks.length-i∧Hs w L0 w' [mI S T ([]) [.aG (PN.mk k ta nm nn nA nc ks)],.al k1 (.cells #[.n k,.n ta,.string nm,.int .i64 nn,.slice nA ks.length nc] 62)]∧(ey op (ks.drop i) i=o)) _ _ ⟨2,rfl,rfl,H1,hf⟩ (fun b1 z1 l1 w2 bQ K1 aN=>?_);obtain ⟨i,rfl,rfl,H2,hi⟩:=bQ;have au:=Jz hi;rcases au with⟨hge,ho⟩|⟨dk,da,bJ,dn,dA,dc,cH,hd,aaj,Mo,ho⟩|⟨dk,da,bJ,dn,dA,dc,cH,hd,aaj,Mo,hn⟩
 · subst ho;refine xb 5 1 H2<|xp 1 (.bool (decide ((i:Int)<(ks.length:Int)))) (.bool false) (dF (by omega))<|xh 14 [] H2 (.int .i64 (-1)) ?_;subst ak;exact hK _ (H2.pick [0] (by kernel_rfl))
 · subst ho;have m1:aL w2 S T ([]) [.aG (PN.mk k ta nm nn nA nc ks)]:=ay H2 0 (by kernel_rfl);have au:=PK.at (m1.2 _ j0) hd;obtain ⟨Dj,⟨gk,zc,_,Ug⟩,_⟩:=au;refine xb 5 1 H2<|xp 1 (.bool (decide ((i:Int)<(ks.length:Int)))) (.bool true) (dT (by omega))<|xb 10 1 H2<|xv 1 gk i 5 ks.length nc zc (by omega)<|xy 0 (Addr.add gk (i*5)) 2<|xr (c:=1) (t:=9) 0 [.string bJ] (.string bJ) (aa Ug (by decide:2+1≤5)) ?_;refine xp 1 (.bool (bJ.toList==op.toList)) (.bool true) (af3 Mo)<|xh 15 [] H2 (.n i) ?_;subst ak;exact hK _ (H2.pick [0] (by kernel_rfl))
 have m2:aL w2 S T ([]) [.aG (PN.mk k ta nm nn nA nc ks)]:=ay H2 0 (by kernel_rfl);have au:=PK.at (m2.2 _ j0) hd;obtain ⟨Dj,⟨gk,zc,_,Ug⟩,_⟩:=au;refine xb 5 1 H2<|xp 1 (.bool (decide ((i:Int)<(ks.length:Int)))) (.bool true) (dT (by omega))<|xb 10 1 H2<|xv 1 gk i 5 ks.length nc zc (by omega)<|xy 0 (Addr.add gk (i*5)) 2<|xr (c:=1) (t:=9) 0 [.string bJ] (.string bJ) (aa Ug (by decide:2+1≤5)) ?_;refine xp 1 (.bool (bJ.toList==op.toList)) (.bool false) (V8 (Ne.symm (Ne.symm Mo)))<|Sx.vi 8 ((i:Int)+(1:Int)) ((i+1:Nat):Int) (Gx.bj (by omega) (by omega)) ?_;exact xj 2 _ (aN _ _ _ _ (by omega) ⟨(i+1),rfl,rfl,H2,hn⟩)
set_option maxHeartbeats 4000000 in
theorem Fu(S : Nat → Prop)(T : List RR)(us : List Bool)(mp : List (Nm × Value))(e : En)(r' : Rn)(br : Nat)(As : Option Addr)(ns cs : Nat)(sp : List FP)(k ta : Nat)(nm : Nm)(nn : Int)(nA : Option Addr)(nc : Nat)(ks : List PN)(eo : Option Nat)(bo : Nat)(steps : Int)(op : Nm)(vb : Nat)(x : Vl)(w : World)(K : Ending → World → Prop)(H0 : Sp w [bR br As ns cs (.n k) (.n ta) nm (.int .i64 nn) nA ks.length nc (pO eo) (.pointer none) bo (.int .i64 0) eB (.int .i64 steps), wI 135 8 As cs ns (bh sp), mI S T sp [.val vb x], tN T us, uq bo mp])(nW : ns = sp.length ∧ ns < 100000000)(ng : us.length = T.length)(fB : ur mp)(hf : pE (EE mp) ⟨sp.map (·.f), (PN.mk k ta nm nn nA nc ks), e, none, us⟩ op x = some r')(hK : ∀(S' : Nat → Prop)(T' : List RR)(A' : Option Addr)(n' : Nat)(c' : Nat)(jr : List FP)(k' : Nat)(a' : Nat)(qw : Nm)(qx : Int)(qy : Option Addr)(qz : Nat)(o3 : List PN)(JA : Option Nat)(e' : En)(ED : Option Nat)(v' : Option Vl)(Fv : List Bool) w', Hs w [bR br As ns cs (.n k) (.n ta) nm (.int .i64 nn) nA ks.length nc (pO eo) (.pointer none) bo (.int .i64 0) eB (.int .i64 steps), wI 135 8 As cs ns (bh sp), mI S T sp [.val vb x], tN T us, uq bo mp] w' [bR br A' n' c' (.n k') (.n a') qw (.int .i64 qx) qy o3.length qz (pO JA) (pO ED) bo (.int .i64 0) eB (.int .i64 steps), wI 135 8 A' c' n' (bh jr), mI S' T' jr [.env JA e', .aG (PN.mk k' a' qw qx qy qz o3), .vo ED v'], tN T' Fv, uq bo mp] → (r' = ⟨jr.map (·.f), (PN.mk k' a' qw qx qy qz o3), e', v', Fv⟩) → (n' = jr.length) → (Fv.length = T'.length) → K (.returned (.tuple #[])) w') :
   Calls Tryz.prog 67 #[.p br,.string op,.pointer (some (⟨vb,0,none⟩))] w K:=by
 obtain⟨L0,ak,H⟩:=Sx.bX H0;refine xu (vs:=[.p br,.string op,.pointer (some (⟨vb,0,none⟩))]) 117 Tryz.func67 ?_;have au:=RD hf;obtain ⟨i,kk,fa,dL,fn,fA,fc,fF,P9,fe,fv,fo,Uj,ck,ca,Dk,cn,cA,cc,⟨xk,xa,sP,xn,xA,xc,yO⟩,⟨yk,ya,Mx,yn,yA,yc,YQ⟩,⟨dk,da,bJ,dn,dA,dc,cH⟩,KO,af5,Fw,I4,hr⟩:=au;have P7:=(List.getElem?_eq_some_iff.1 KO).1;have au:=Mk (e:=135) (sz:=8) (A:=As) (cap:=cs) (n:=ns) (xs:=bh sp) H 1 (by kernel_rfl) (by omega);obtain ⟨g0,RH⟩:=au;refine xb 6 0 H<|Sx.vi 1 ((ns:Int)-(1:Int)) ((ns-1:Nat):Int) ((by rw[show ((ns:Int)-(1:Int))=((ns-1:Nat):Int) by omega];exact IntWalk.i64_in _ (by omega))) ?_;refine xz 4 (fun z l' w'=>∃(j:Nat),l'=[(0,.p br),(1,.string op),(2,.pointer (some (⟨vb,0,none⟩))),(6,.n j)]∧z=j+1∧Hs w L0 w' [bR br As ns cs (.n k) (.n ta) nm (.int .i64 nn) nA ks.length nc (pO eo) (.pointer none) bo (.int .i64 0) eB (.int .i64 steps),wI 135 8 As cs ns (bh sp),mI S T sp [.val vb x],tN T us,uq bo mp]∧(i≤j∧j<sp.length)) _ _ ⟨(ns-1),rfl,rfl,H,(by omega)⟩ (fun b1 z1 l1 w1 bQ K1 aN=>?_);obtain ⟨j,rfl,rfl,H1,hj⟩:=bQ;have au:=RE hj.1 hj.2 I4;rcases au with P6|⟨qk,qa,bW,qn,qA,qc,bH,Bc,qe,qv,qo,gl,hq,dO,Wd|⟨Wd,hqc⟩⟩
 · subst P6;refine xb 17 0 H1<|xv 1 (⟨g0,0,none⟩) i 8 ns cs RH (by omega) ?_;have m1:=H1.at 1 (it:=wI 135 8 As cs ns (bh sp)) (by kernel_rfl);refine xr (c:=8) (t:=135) 0 [.n 20,.n fa,.string dL,.int .i64 fn,.slice fA fF.length fc,.n P9,pO fo,pO Uj] (.agg #[.n 20,.n fa,.string dL,.int .i64 fn,.slice fA fF.length fc,.n P9,pO fo,pO Uj]) ((m1).1.cells RH (sO KO) rfl)<|xf 0 H1 fun k1 w2 H2=>xd 0 5 H2 fun w3 H3=>xb 7 5 H3<|xp 0 (.bool (((20:Nat):Int) != (20:Int))) (.bool false) (nF (by omega))<|xb 8 5 H3 ?_;have m2:aL w3 S T sp [.val vb x]:=ay H3 2 (by kernel_rfl);have H4:=dy m2 H3 2 (by kernel_rfl) ([]) [.aG (PN.mk 20 fa dL fn fA fc fF)] (⟨fun _ h=>(by cases h),fun _ h=>(by rw[List.mem_singleton.1 h];exact(tJ.nd (m2.1 _ (List.mem_of_getElem? KO))).1)⟩);refine x0 1 [6] H4 (fun Hp R hZ=>Dm S T 20 fa dL fn fA fc fF op (some kk) w3 R Hp af5 (fun w4 G1=>hZ _ _ _ G1 fun H5=>?_));refine yd 19 (fun l' w'=>∃(fr:Nat),l'=[(0,.p br),(1,.string op),(2,.pointer (some (⟨vb,0,none⟩))),(6,.n i),(7,.p k1),(8,.n kk),(9,.n fr)]∧Hs w L0 w' [mI S T ([]) [.aG (PN.mk 20 fa dL fn fA fc fF)],bR br As ns cs (.n k) (.n ta) nm (.int .i64 nn) nA ks.length nc (pO eo) (.pointer none) bo (.int .i64 0) eB (.int .i64 steps),wI 135 8 As cs ns (bh sp),mI S T sp [.val vb x],tN T us,uq bo mp,.al k1 (.cells #[.n 20,.n fa,.string dL,.int .i64 fn,.slice fA fF.length fc,.n P9,pO fo,pO Uj] 135)]∧(fr=if fn==1 then i+1 else i)) (fun K2 dH=>?_) (fun b2 l2 w5 gA=>?_)
   · refine xb 4 6 H5 ?_;refine xl 3 (fn==(1:Int)) (fun jR=>?_) (fun jR=>?_)
     · have v_:=Gx.k1 jR;refine Sx.vi 2 ((i:Int)+(1:Int)) ((i+1:Nat):Int) (Gx.bj (by omega) (by omega)) ?_;exact xj 2 _ (dH _ _ _ ⟨(i+1),rfl,H5.pk [0,0,0,0,0,0,0],(by simp[jR])⟩)
     have v_:=Gx.k0 jR;exact xj 1 _ (dH _ _ _ ⟨i,rfl,H5.pk [0,0,0,0,0,0,0],(by simp[jR])⟩)
   obtain⟨fr,rfl,H8,hfr⟩:=gA;have hfl:fr≤ns∧i<ns:=by split at hfr<;>omega
   refine xb 6 1 H8<|Z7 (bt:=bo) (mp:=mp) (t:=72) (kt:=9) (et:=4) 1 5 H8 op (by kernel_rfl) fB<|xf 1 H8 fun k2 w6 H9=>xw 4 H9 [7,1] [14] (LJ:=[.al k2 (.cells #[.int .i64 7,.int .i64 0,.pointer none,.pointer none,.int .i64 0,.int .i64 0,.string eB,.int .i64 0,.slice none 0 0,.pointer none,.slice none 0 0,.string op,.bool (EE mp op),.bool false] 137),bR br As ns cs (.n k) (.n ta) nm (.int .i64 nn) nA ks.length nc (pO eo) (.pointer none) bo (.int .i64 0) eB (.int .i64 steps)]) (by kernel_rfl) fun w7 aY=>xm [(0,none),(1,none),(2,none),(3,none),(4,some (0,[11,12,13,14])),(5,none),(6,none),(7,none),(8,some (1,[10,11,12,13,14])),(9,none)] (aY.sb [7,1])<|xg ?_;intro gy;refine xi 10 ?_;have m3:=aY.at 2 (it:=wI 135 8 As cs ns (bh sp)) (by kernel_rfl);have VF:=(m3).1;refine Sx.sf 0 As ns cs fr 8 (by omega) VF.nV (fun C1 wg hD1=>?_);refine xe (x:=gy) 10 (aY.sb [7,1])<|xg ?_;intro im;refine xi 11 ?_;have aZ:=aY.add (Gx.Ext.refl _) (it:=.own 135 8 none 0 0 []) (World.ownsRow_nil _ _ _ _) (fun _ h=>by cases h);have m4:=aZ.at 2 (it:=wI 135 8 As cs ns (bh sp)) (by kernel_rfl);have My:=(m4).1;refine Sx.Z6 0 8 88 (ns-fr) 135 8 69 (cs-fr) C1 none 0 0 [] (bh (sp.drop fr)) aZ (fun h=>by have hz:=wg h;rw[hz] at My;have:=My.nil;omega) (Mv My hD1) (by rw[lJ,List.length_drop,nW.1]) (Dl _) (by omega) (by omega) (Nat.le_refl 0) (yZ:=bh (sp.drop fr)) rfl fun A1 bG w8 aP=>xe (x:=im) 11 (aP.sb [7,1])<|xm [(12,none),(13,none)] (aP.sb [7,1])<|xg ?_;intro kc;refine xi 14<|xd 0 7 aP fun w9 bF=>xe (x:=kc) 14 Sx.np<|xt<|xb 7 1 bF ?_;have m5:=bF.at 2 (it:=wI 135 8 As cs ns (bh sp)) (by kernel_rfl);refine Sx.s3 2 i (len:=ns) (cap:=cs) (A:=As) (by omega) (gv.nV (m5).1)<|xd 2 1 bF fun cJ bq=>?_;have m6:aL cJ S T sp [.val vb x]:=ay bq 3 (by kernel_rfl);have au:=PK.at (tJ.nd (m6.1 _ (List.mem_of_getElem? KO))).1 Fw;obtain ⟨Dj,⟨gk,zc,_,Ug⟩,_⟩:=au;have Mz:=(List.getElem?_eq_some_iff.1 Fw).1;have au:=PK.at (PK.nB (tJ.nd (m6.1 _ (List.mem_of_getElem? KO))).1 Fw) (i:=0) rfl;obtain ⟨_,⟨gc,JB,_,_⟩,_⟩:=au;refine xb 6 6 bq<|xv 1 gk kk 5 fF.length fc zc (by omega)<|xr (c:=5) (t:=62) 0 [.n ck,.n ca,.string Dk,.int .i64 cn,.slice cA ([(PN.mk xk xa sP xn xA xc yO),(PN.mk yk ya Mx yn yA yc YQ),(PN.mk dk da bJ dn dA dc cH)].length) cc] (.agg #[.n ck,.n ca,.string Dk,.int .i64 cn,.slice cA ([(PN.mk xk xa sP xn xA xc yO),(PN.mk yk ya Mx yn yA yc YQ),(PN.mk dk da bJ dn dA dc cH)].length) cc]) Ug<|xf 0 bq fun k3 fU bu=>xd 0 9 bu fun gV bS=>xw 3 bS [9,3,6] [] (LJ:=[.al k3 (.cells #[.n ck,.n ca,.string Dk,.int .i64 cn,.slice cA ([(PN.mk xk xa sP xn xA xc yO),(PN.mk yk ya Mx yn yA yc YQ),(PN.mk dk da bJ dn dA dc cH)].length) cc] 62),mI S T sp [.val vb x],.al k1 (.cells #[.n 20,.n fa,.string dL,.int .i64 fn,.slice fA fF.length fc,.n P9,pO fo,pO Uj] 135)]) (by kernel_rfl) fun iq bx=>?_;refine xm [(0,none),(1,none),(2,some (0,[]))] (bx.sb [9,3,5])<|yi 3 [] gc 1 5 ([(PN.mk xk xa sP xn xA xc yO),(PN.mk yk ya Mx yn yA yc YQ),(PN.mk dk da bJ dn dA dc cH)].length) cc JB (by simp) (bx.sb [9,3,5])<|ym 4 [] (Addr.add gc (1*5)) 2 (bx.sb [9,3,5]) ?_;have m7:aL iq S T sp [.val vb x]:=ay bx 3 (by kernel_rfl);refine yg (c:=1) (t:=9) 5 [] [.string Mx] (.string Mx) (fun w' hs=>(aa (PK.cell (PK.nB (tJ.nd ((Go.aS.cQ hs 1 (it:=mI S T sp [.val vb x]) (by kernel_rfl)).1.1 _ (List.mem_of_getElem? KO))).1 Fw) JB (i:=1) rfl) (by decide:2+1≤5))) (bx.sb [9,3,5])<|xm [(6,none),(7,none),(8,some (0,[]))] (bx.sb [9,3,5])<|yi 9 [] gc 0 5 ([(PN.mk xk xa sP xn xA xc yO),(PN.mk yk ya Mx yn yA yc YQ),(PN.mk dk da bJ dn dA dc cH)].length) cc JB (by simp) (bx.sb [9,3,5])<|ym 10 [] (Addr.add gc (0*5)) 2 (bx.sb [9,3,5])<|yg (c:=1) (t:=9) 11 [] [.string sP] (.string sP) (fun w' hs=>(aa (PK.cell (PK.nB (tJ.nd ((Go.aS.cQ hs 1 (it:=mI S T sp [.val vb x]) (by kernel_rfl)).1.1 _ (List.mem_of_getElem? KO))).1 Fw) JB (i:=0) rfl) (by decide:2+1≤5))) (bx.sb [9,3,5])<|xm [(12,none),(13,none),(14,some (2,[])),(15,none)] (bx.sb [9,3,5]) ?_;refine xg ?_;intro o5;refine xi 16<|xf 0 bx fun k4 iF cV=>xe (x:=o5) 16 (cV.sb [9,3,5])<|xm [(17,none)] (cV.sb [9,3,5])<|xg ?_;intro tO;refine xi 18<|xf 0 cV fun k5 kr bZ=>xe (x:=tO) 18 (bZ.sb [9,3,5])<|xm [(19,none),(20,none)] (bZ.sb [9,3,5])<|xg ?_;intro zX;refine xi 21<|xd 0 1 bZ fun ku cj=>xe (x:=zX) 21 (cj.sb [9,3,5])<|xt<|xb 5 9 cj<|xv 0 gc 2 5 ([(PN.mk xk xa sP xn xA xc yO),(PN.mk yk ya Mx yn yA yc YQ),(PN.mk dk da bJ dn dA dc cH)].length) cc JB (by simp) ?_;have m8:aL ku S T sp [.val vb x]:=ay cj 3 (by kernel_rfl);refine xr (c:=5) (t:=62) 0 (Sx.nC dk da bJ dn dA cH dc) (Sx.nA dk da bJ dn dA cH dc) (PK.cell (PK.nB (tJ.nd (m8.1 _ (List.mem_of_getElem? KO))).1 Fw) JB (i:=2) rfl)<|xd 2 1 cj fun ke cC=>xh 8 [] cC (.tuple #[]) ?_;have m9:=cC.at 2 (it:=wI 135 8 As cs ns (bh sp)) (by kernel_rfl);have c_:=Fq (e:=135) (sz:=8) (A:=As) (cap:=cs) (n:=ns) (xs:=bh sp) (k:=i) (cM:=i) cC 2 (by kernel_rfl) (by omega) (Nat.le_refl _) (by have:=(m9).1.nV;omega) (sN sp i);have hlen:((sp.drop fr).map (fun x:FP=>x.f)).length=0+(ns-fr):=by rw[List.length_map,List.length_drop,nW.1,Nat.zero_add]
   have au:=aai (A:=A1) (cap:=bG) (n:=0+(ns-fr)) (t1:=139) (t2:=139) (S:=S) (T:=T) (T':=(T++[⟨k2,A1,0+(ns-fr),bG,op,EE mp op⟩])) (sp:=sp) (l:=[.val vb x]) (jr:=sp.take i) (l':=[.env (some k5) (.put Mx (.res us.length ((sp.drop fr).map (fun x:FP=>x.f)) op (EE mp op)) (.put sP x fe)),.aG (PN.mk dk da bJ dn dA dc cH),.vo none none]) (fp:=sp.drop fr) (b1:=k4) (b2:=k5) (c1:=#[.string sP,.pointer (some (⟨vb,0,none⟩)),pO fo]) (c2:=#[.string Mx,.p k2,.p k4]) c_ [3,7,8,8] (by kernel_rfl) (fun i r h=>by rw[List.getElem?_append_left (List.getElem?_eq_some_iff.1 h).1];exact h) (fun S' h YP zH KL m_ hb2 uZ=>RG (id:=us.length) (A:=A1) (cap:=bG) (bk:=k2) (op:=op) (once:=EE mp op) h KO Fw rfl (by rw[ng];simp) hlen zH YP KL m_ hb2 uZ);obtain ⟨S1,dJ⟩:=au;have cW:=Wb (r:=⟨k2,A1,0+(ns-fr),bG,op,EE mp op⟩) (u:=false) dJ [7,4] (by kernel_rfl) ng;subst ak;exact hK S1 (T++[⟨k2,A1,0+(ns-fr),bG,op,EE mp op⟩]) As i i (sp.take i) dk da bJ dn dA dc cH (some k5) (.put Mx (.res us.length ((sp.drop fr).map (fun x:FP=>x.f)) op (EE mp op)) (.put sP x fe)) none none (us++[false]) _ (cW.pick [3,3,1,0,1] (by kernel_rfl)) (by rw[hr,←hfr];rfl) (by rw[List.length_take];omega) (by simp[ng])
 · refine xb 17 0 H1 ?_;refine xv 1 (⟨g0,0,none⟩) j 8 ns cs RH (by omega) ?_;have Ct:=H1.at 1 (it:=wI 135 8 As cs ns (bh sp)) (by kernel_rfl);refine xr (c:=8) (t:=135) 0 [.n qk,.n qa,.string bW,.int .i64 qn,.slice qA bH.length qc,.n Bc,pO qo,pO gl] (.agg #[.n qk,.n qa,.string bW,.int .i64 qn,.slice qA bH.length qc,.n Bc,pO qo,pO gl]) ((Ct).1.cells RH (sO hq) rfl)<|xf 0 H1 fun k6 mm cK=>xd 0 5 cK fun nX ef=>xb 7 5 ef<|xp 0 (.bool ((qk:Int) != (20:Int))) (.bool true) (nT (by omega))<|Sx.vi 9 ((j:Int)-(1:Int)) ((j-1:Nat):Int) ((by rw[show ((j:Int)-(1:Int))=((j-1:Nat):Int) by omega];exact IntWalk.i64_in _ (by omega))) ?_;exact xj 2 _ (aN _ _ _ _ (by omega) ⟨(j-1),rfl,rfl,ef.pk [0,0,0,0,0],(by omega)⟩)
 refine xb 17 0 H1<|xv 1 (⟨g0,0,none⟩) j 8 ns cs RH (by omega) ?_;have HG:=H1.at 1 (it:=wI 135 8 As cs ns (bh sp)) (by kernel_rfl);refine xr (c:=8) (t:=135) 0 [.n qk,.n qa,.string bW,.int .i64 qn,.slice qA bH.length qc,.n Bc,pO qo,pO gl] (.agg #[.n qk,.n qa,.string bW,.int .i64 qn,.slice qA bH.length qc,.n Bc,pO qo,pO gl]) ((HG).1.cells RH (sO hq) rfl)<|xf 0 H1 fun k7 o4 iU=>xd 0 5 iU fun kR eC=>xb 7 5 eC<|xp 0 (.bool ((qk:Int) != (20:Int))) (.bool false) (nF (by omega))<|xb 8 5 eC ?_;have Fx:aL kR S T sp [.val vb x]:=ay eC 2 (by kernel_rfl);have dz:=dy Fx eC 2 (by kernel_rfl) ([]) [.aG (PN.mk qk qa bW qn qA qc bH)] (⟨fun _ h=>(by cases h),fun _ h=>(by rw[List.mem_singleton.1 h];exact(tJ.nd (Fx.1 _ (List.mem_of_getElem? hq))).1)⟩);refine x0 1 [6] dz (fun Hp R hZ=>Dm S T qk qa bW qn qA qc bH op none kR R Hp hqc (fun ry G2=>hZ _ _ _ G2 fun dS=>?_));refine Sx.vi 17 ((j:Int)-(1:Int)) ((j-1:Nat):Int) ((by rw[show ((j:Int)-(1:Int))=((j-1:Nat):Int) by omega];exact IntWalk.i64_in _ (by omega))) ?_;exact xj 2 _ (aN _ _ _ _ (by omega) ⟨(j-1),rfl,rfl,dS.pk [1,1,1,1,1],(by omega)⟩)
end Mr
end Go.Proofs.YtdmdecgoebnamaaGreat
