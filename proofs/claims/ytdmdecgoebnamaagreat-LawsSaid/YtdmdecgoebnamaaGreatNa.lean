/- The document's reader over the tokens' numbers instead of their places in the text. -/
import Derived.Test.YtdmdecgoebnamaaGreatInf25
import Derived.Test.YtdmdecgoebnamaaGreatYb
import Derived.Test.YtdmdecgoebnamaaGreatMd
set_option linter.unusedVariables false
set_option linter.unusedSimpArgs false
namespace Go.fO.N
open Go.Lex Go.fO
def ph(E:Nat→Nat)(q:Rs):Rs:=⟨q.k,q.a,q.t,q.n,E q.e,q.fk,q.fa,q.x,q.y⟩
def QD(E:Nat→Nat)(r:Nd×Rs):Nd×Rs:=(r.1,ph E r.2)
section
variable {E:Nat→Nat} {N N':Rs→Rs} {R R':NT→Rs→Nd×Rs}
theorem IJ(q:Rs)(s:ByteArray):yG (ph E q) s=yG q s:=rfl
theorem Eo(q:Rs):qh (ph E q)=ph E (qh q):=by unfold qh okB ph;split<;>rfl
theorem Vk(q:Rs):okB (ph E q)=okB q:=rfl
theorem Vm(q:Rs):eu (ph E q)=eu q:=rfl
theorem Yw(q:Rs):Yt yG (ph E q)=Yt yG q:=rfl
theorem PR(hN:∀q,N (ph E q)=ph E (N' q))(q:Rs)(s:ByteArray):aO yG N (ph E q) s=ph E (aO yG N' q s):=by unfold aO;rw[IJ];split<;>simp[hN]
theorem IK(hN:∀q,N (ph E q)=ph E (N' q))(q:Rs)(s:ByteArray):aK yG N (ph E q) s=ph E (aK yG N' q s):=by unfold aK;rw[IJ];split<;>simp[hN,Eo]
theorem TF(hN:∀q,N (ph E q)=ph E (N' q))(q:Rs):bK yG N (ph E q)=((bK yG N' q).1,ph E (bK yG N' q).2):=by unfold bK;rw[Vm];split<;>simp[hN,Eo];exact⟨rfl,rfl⟩
theorem adQ(q:Rs):(ph E q).k=q.k:=rfl
theorem akG(q:Rs):(ph E q).a=q.a:=rfl
theorem akH(q:Rs):(ph E q).t=q.t:=rfl
theorem akI(q:Rs):(ph E q).n=q.n:=rfl
theorem akJ(q:Rs):(ph E q).x=q.x:=rfl
theorem akK(q:Rs):(ph E q).y=q.y:=rfl
theorem akL(q:Rs):(ph E q).e=E q.e:=rfl
theorem adR(q:Rs):(ph E q).fk=q.fk:=rfl
theorem adS(q:Rs):(ph E q).fa=q.fa:=rfl
theorem adT(k a:Nat)(t:ByteArray)(n e fk fa x y:Nat):(⟨k,a,t,n,E e,fk,fa,x,y⟩:Rs)=ph E ⟨k,a,t,n,e,fk,fa,x,y⟩:=rfl
theorem PS(d:Nd)(q:Rs):QD E (d,q)=(d,ph E q):=rfl
theorem IL(c:Prop)[Decidable c] (a b:Nd×Rs):QD E (if c then a else b)=if c then QD E a else QD E b:=by split<;>rfl
theorem adU(hN:∀q,N (ph E q)=ph E (N' q))(hR:∀nt q,R nt (ph E q)=QD E (R' nt q))(a:Nd)(q:Rs):Ew yG N R a (ph E q)=((Ew yG N' R' a q).1,ph E (Ew yG N' R' a q).2):=by
 have h1:∀nt q,R nt (ph E q)=((R' nt q).1,ph E (R' nt q).2):=hR;show _=QD E (Ew yG N' R' a q);simp only[Ew,IJ,PR hN,IK hN,PS,IL,h1]
theorem TG(hN:∀q,N (ph E q)=ph E (N' q))(hR:∀nt q,R nt (ph E q)=QD E (R' nt q))(nt:NT)(q:Rs):aB yG N R nt (ph E q)=QD E (aB yG N' R' nt q):=by
 have h1:∀nt q,R nt (ph E q)=((R' nt q).1,ph E (R' nt q).2):=hR;have h2:∀nt q,QD E (R' nt q)=((R' nt q).1,ph E (R' nt q).2):=fun _ _=>rfl;cases nt<;>(simp only[aB,vG,adU hN hR,vH,py,qj,ma,qT,anyS,kE,kQ,E5,AR,sE,mb,pB,ql,tE,vI,Jd,tF,Je,vJ,AS,vK,gT,mV,nM,mc,jL,zL,qU,sG,nN,pC,IJ,Eo,Vk,Vm,Yw,PR hN,IK hN,TF hN,adQ,akG,akH,akI,akJ,akK,akL,adR,adS,adT (E:=E),PS,IL,hN,h1,h2];try rfl)
theorem PT(hN:∀q,N (ph E q)=ph E (N' q)):∀(k:Nat)(nt:NT)(q:Rs),run yG N k nt (ph E q)=QD E (run yG N' k nt q)
 |0,_,q=>by show(gF,qh (ph E q))=(gF,ph E (qh q));rw[Eo]
 |k+1,nt,q=>TG hN (PT hN k) nt q
end
end Go.fO.N
namespace Go.Lex
open Go.Gx (ae)
structure kO (s' s t:ByteArray) (c:UInt8):Prop where
 size:s'.size=s.size+1+t.size
 left:∀k,k<s.size→ae s' k=ae s k
 mid:ae s' s.size=c
 right:∀k,k<t.size→ae s' (s.size+1+k)=ae t k
theorem Ep{s t:ByteArray}{a b n:Nat}(h1:a+n≤s.size)(h2:b+n≤t.size)(h:∀m,m<n→ae s (a+m)=ae t (b+m)):s.extract a (a+n)=t.extract b (b+n):=by
 apply g_;rw [ByteArray.toList_eq,ByteArray.toList_eq];apply List.ext_getElem?;intro i;have e:∀(x:ByteArray)(p:Nat),p+n≤x.size→(x.extract p (p+n)).data.toList[i]?=if i<n then some (ae x (p+i)) else none:=by
   intro x p hp;have hp':p+n≤x.data.size:=hp;rw [ByteArray.data_extract,Array.getElem?_toList,Array.getElem?_extract];by_cases hi:i<n
   · rw[if_pos (by omega),if_pos hi];unfold ae;rw [Array.getElem?_eq_getElem (by omega)];rfl
   · rw[if_neg (by omega),if_neg hi]
 rw[e s a h1,e t b h2];by_cases hi:i<n
 · rw[if_pos hi,if_pos hi,h i hi]
 · rw[if_neg hi,if_neg hi]
section
variable {s' s t:ByteArray} {c:UInt8}
theorem kO.Yx(h:kO s' s t c){a b:Nat}(VJ:a≤b)(hb:b≤s.size):s'.extract a b=s.extract a b:=by
 have hs:=h.size;obtain ⟨n,rfl⟩:∃n,b=a+n:=⟨b-a,by omega⟩;exact Ep (by omega) hb (fun m hm=>h.left _ (by omega))
theorem kO.Yy(h:kO s' s t c){a b:Nat}(VJ:a≤b)(hb:b≤t.size):s'.extract (s.size+1+a) (s.size+1+b)=t.extract a b:=by
 have hs:=h.size;obtain ⟨n,rfl⟩:∃n,b=a+n:=⟨b-a,by omega⟩;have:=Ep (s:=s') (t:=t) (a:=s.size+1+a) (b:=a) (n:=n) (by omega) hb (fun m hm=>by rw[Nat.add_assoc];exact h.right _ (by omega));rw [← this];congr 1;omega
theorem kO.IM(h:kO s' s t c){p:UInt8→Bool}(hp:p c=false)(k:Nat)(hk:k≤s.size):stop p s' k=stop p s k:=by
 have hs:=h.size;by_cases dO:k<s.size
 · by_cases Py:p (ae s k)=true
   · rw[eO dO Py,eO (by omega) (by rw[h.left k dO];exact Py)];exact kO.IM h hp (k+1) dO
   · rw[er (fun q=>Py q.2),er (fun q=>Py (by rw[← h.left k dO];exact q.2))]
 · obtain rfl:k=s.size:=by omega
   rw[er (fun q=>dO q.1),er (fun q=>by rw[h.mid,hp] at q;cases q.2)]
termination_by s.size-k
theorem kO.iS(h : kO s' s t c)(hb : cY c = true)(hc : c.toNat = 10 ∨ ∀ k, k < s.size → (ae s k).toNat ≠ 35)(k : Nat)(hk : k ≤ s.size) :
   (pass s k<s.size→pass s' k=pass s k)∧(¬pass s k<s.size→pass s' k=pass s' (s.size+1)):=by
 have hs:=h.size;by_cases dO:k<s.size
 · have JD:=h.left k dO;by_cases h1:cY (ae s k)=true
   · rw[gZ dO h1,gZ (s:=s') (by omega) (by rw[JD];exact h1)];exact kO.iS h hb hc (k+1) dO
   · by_cases h2:((ae s k).toNat:Int)=35
     · have h10:c.toNat=10:=hc.resolve_right (fun q=>q k dO (by omega));have hn:cE c=false:=by unfold cE;simp;omega
       have cw:=kO.IM h hn (k+1) dO;have hle:=di cE s (k+1) dO;have hge:=cy cE s (k+1);rw [iw dO h2,iw (s:=s') (by omega) (by rw[JD];exact h2),cw];exact kO.iS h hb hc _ hle
     · rw[jF dO h1 h2,jF (s:=s') (by omega) (by rw[JD];exact h1) (by rw[JD];exact h2)];exact ⟨fun _=>rfl,fun q=>absurd dO q⟩
 · obtain rfl:k=s.size:=by omega
   rw[nG dO];refine ⟨fun q=>absurd q dO,fun _=>?_⟩;rw [gZ (s:=s') (by omega) (by rw[h.mid];exact hb)]
termination_by s.size-k
theorem kO.Vn(h:kO s' s t c){j:Nat}:∀m,j+m≤s.size→ed s' j m=ed s j m
 |0,_=>rfl
 |m+1,hm=>by
   simp only[ed];rw [kO.Vn h m (by omega),h.left _ (by omega)]
theorem KA(hb:cY c=true):ah c=false∧ax c=false:=by
 have h0:=(oK c).1 hb;constructor
 · rw[Bool.eq_false_iff];intro q;have:=(oJ c).1 q;omega
 · rw[Bool.eq_false_iff];intro q;have:=(EX c).1 q;omega
theorem zC{x:ByteArray}{a b:UInt8}(h:x.toList=[a,b])(hb:cY b=true):ij x=false:=by
 have h0:=(oK b).1 hb;unfold ij;rw [h];have:∀(p q:UInt8),q.toNat=58∨q.toNat=61∨q.toNat=62→([a,b]==(⟨#[p,q]⟩:ByteArray).toList)=false:=by
   intro p q hq;rw [ByteArray.toList_eq,beq_eq_false_iff_ne];intro e;have e2:b=q:=by simpa using(List.cons.inj (List.cons.inj e).2).1
   subst e2;omega
 rw[this 58 58 (by decide),this 61 61 (by decide),this 61 62 (by decide),this 45 62 (by decide)];rfl
theorem TH{x:ByteArray}{j:Nat}(h:j+2≤x.size):(x.extract j (j+2)).toList=[ae x j,ae x (j+1)]:=by
 have h':j+2≤x.data.size:=h;rw [ByteArray.toList_eq,ByteArray.data_extract];apply List.ext_getElem?;intro i;rw [Array.getElem?_toList,Array.getElem?_extract];unfold ae;rcases i with _|_|i
 · rw[if_pos (by omega),Array.getElem?_eq_getElem (by omega),Array.getElem?_eq_getElem (by omega)];rfl
 · rw[if_pos (by omega),Array.getElem?_eq_getElem (by omega),Array.getElem?_eq_getElem (by omega)];rfl
 · rw[if_neg (by omega)];rfl
theorem kO.adV(h:kO s' s t c)(hb:cY c=true){j:Nat}(hj:j<s.size):ch s' j=ch s j:=by
 have hs:=h.size;unfold ch;by_cases h2:j+2≤s.size
 · rw[h.Yx (by omega) h2,decide_eq_true (show ((j+2:Nat):Int)≤(s'.size:Int) by omega),decide_eq_true (show ((j+2:Nat):Int)≤(s.size:Int) by omega)]
 · have e:j+1=s.size:=by omega
   rw[decide_eq_false (show ¬((j+2:Nat):Int)≤(s.size:Int) by omega),decide_eq_true (show ((j+2:Nat):Int)≤(s'.size:Int) by omega),
     zC (TH (by omega)) (by rw[e,h.mid];exact hb)]
   rfl
theorem kO.PO(h:kO s' s t c)(hb:cY c=true){j:Nat}(hj:j<s.size):cx s' j=cx s j:=by
 obtain⟨hd,hl⟩:=KA hb;have uy:=di ah s j (by omega);have W5:=di (fun c=>ax c||ah c) s j (by omega);have ES:=cy ah s j;have vW:=cy (fun c=>ax c||ah c) s j;unfold cx;rw [h.left j hj];by_cases h1:ah (ae s j)=true
 · rw[if_pos h1,if_pos h1];unfold qP dq;rw [h.IM hd j (by omega),h.Vn _ (by omega),h.left j hj]
 · rw[if_neg h1,if_neg h1];by_cases h2:ax (ae s j)=true
   · rw[if_pos h2,if_pos h2];unfold nameAt;rw [h.IM (p:=fun c=>ax c||ah c) (by simp[hd,hl]) j (by omega),h.Yx vW W5]
   · rw[if_neg h2,if_neg h2];by_cases h3:mG (ae s j)=true
     · have hle : j + ch s j ≤ s.size := by
         unfold ch;split
         · rename_i q;simp only[Bool.and_eq_true,decide_eq_true_eq] at q;omega
         · omega
       rw[if_pos h3,if_pos h3,h.adV hb hj,h.Yx (by omega) hle]
     · rw[if_neg h3,if_neg h3]
theorem kO.Es(h:kO s' s t c)(p:UInt8→Bool)(k:Nat)(hk:k≤t.size):stop p s' (s.size+1+k)=s.size+1+stop p t k:=by
 have hs:=h.size;by_cases dO:k<t.size
 · by_cases Py:p (ae t k)=true
   · rw[eO dO Py,eO (by omega) (by rw[h.right k dO];exact Py)];exact kO.Es h p (k+1) dO
   · rw[er (fun q=>Py q.2),er (fun q=>Py (by rw[← h.right k dO];exact q.2))]
 · rw[er (fun q=>dO q.1),er (fun q=>by omega)]
termination_by t.size-k
theorem kO.PU(h:kO s' s t c)(k:Nat)(hk:k≤t.size):pass s' (s.size+1+k)=s.size+1+pass t k:=by
 have hs:=h.size;by_cases dO:k<t.size
 · have JD:=h.right k dO;by_cases h1:cY (ae t k)=true
   · rw[gZ dO h1,gZ (s:=s') (by omega) (by rw[JD];exact h1)];exact kO.PU h (k+1) dO
   · by_cases h2:((ae t k).toNat:Int)=35
     · have cw:=kO.Es h cE (k+1) dO;have hle:=di cE t (k+1) dO;have hge:=cy cE t (k+1);rw [iw dO h2,iw (s:=s') (by omega) (by rw[JD];exact h2),show s.size+1+k+1=s.size+1+(k+1) by omega,cw];exact kO.PU h _ hle
     · rw[jF dO h1 h2,jF (s:=s') (by omega) (by rw[JD];exact h1) (by rw[JD];exact h2)]
 · rw[nG dO,nG (by omega)]
termination_by t.size-k
theorem kO.PV(h:kO s' s t c){j:Nat}:∀m,j+m≤t.size→ed s' (s.size+1+j) m=ed t j m
 |0,_=>rfl
 |m+1,hm=>by
   simp only[ed];rw [kO.PV h m (by omega),Nat.add_assoc,h.right _ (by omega)]
def sig(x:Nx):Nat×ByteArray×Nat:=(x.kind,x.text,x.n)
theorem kO.adW(h:kO s' s t c){j:Nat}(hj:j<t.size):ch s' (s.size+1+j)=ch t j:=by
 have hs:=h.size;unfold ch;by_cases h2:j+2≤t.size
 · rw[Nat.add_assoc (s.size+1) j 2,h.Yy (by omega) h2,decide_eq_true (show ((s.size+1+(j+2):Nat):Int)≤(s'.size:Int) by omega),decide_eq_true (show ((j+2:Nat):Int)≤(t.size:Int) by omega)]
 · rw[decide_eq_false (show ¬((j+2:Nat):Int)≤(t.size:Int) by omega),decide_eq_false (show ¬((s.size+1+j+2:Nat):Int)≤(s'.size:Int) by omega)];rfl
def Vo(o:Nat)(x y:Nx):Prop:=sig x=sig y∧x.fk=y.fk∧(y.fk=0→x.nx=o+y.nx)
theorem kO.akN(h:kO s' s t c){j:Nat}(hj:j<t.size):Vo (s.size+1) (cx s' (s.size+1+j)) (cx t j):=by
 have uy:=di ah t j (by omega);have W5:=di (fun c=>ax c||ah c) t j (by omega);have ES:=cy ah t j;have vW:=cy (fun c=>ax c||ah c) t j;unfold cx;rw [h.right j hj];by_cases h1:ah (ae t j)=true
 · rw [if_pos h1, if_pos h1];have e1 : dq s' (s.size + 1 + j) (stop ah s' (s.size + 1 + j)) = dq t j (stop ah t j) := by
     unfold dq;rw [h.Es ah j (by omega),show s.size+1+stop ah t j-(s.size+1+j)=stop ah t j-j by omega,h.PV _ (by omega),h.right j hj]
   unfold qP;rw [e1];by_cases h2:dq t j (stop ah t j)=true
   · rw[if_pos h2,if_pos h2,h.Es ah j (by omega),show s.size+1+stop ah t j-(s.size+1+j)=stop ah t j-j by omega,h.PV _ (by omega)];exact ⟨rfl,rfl,fun _=>rfl⟩
   · rw[if_neg h2,if_neg h2];exact ⟨rfl,rfl,fun q=>by cases q⟩
 · rw[if_neg h1,if_neg h1];by_cases h2:ax (ae t j)=true
   · rw[if_pos h2,if_pos h2];unfold nameAt;rw [h.Es (fun c=>ax c||ah c) j (by omega),show s.size+1+stop (fun c=>ax c||ah c) t j-(s.size+1+j)=stop (fun c=>ax c||ah c) t j-j by omega,h.Yy vW W5];by_cases h3:stop (fun c=>ax c||ah c) t j-j>20
     · rw[if_pos h3,if_pos h3];exact ⟨rfl,rfl,fun q=>by cases q⟩
     · rw[if_neg h3,if_neg h3];exact ⟨rfl,rfl,fun _=>rfl⟩
   · rw[if_neg h2,if_neg h2];by_cases h3:mG (ae t j)=true
     · have hle : j + ch t j ≤ t.size := by
         unfold ch;split
         · rename_i q;simp only[Bool.and_eq_true,decide_eq_true_eq] at q;omega
         · omega
       rw[if_pos h3,if_pos h3,h.adW hj,Nat.add_assoc (s.size+1) j,h.Yy (by omega) hle];exact ⟨rfl,rfl,fun _=>rfl⟩
     · rw[if_neg h3,if_neg h3];exact ⟨rfl,rfl,fun q=>by cases q⟩
theorem kO.bU(h:kO s' s t c){i:Nat}(hi:i≤t.size):Vo (s.size+1) (next s' (s.size+1+i)) (next t i):=by
 have hs:=h.size;have hp:=h.PU i hi;have hle:=qO t i hi;unfold next
 rw[hp];by_cases h1:pass t i<t.size
 · rw[if_pos h1,if_pos (by omega)];exact h.akN h1
 · rw[if_neg h1,if_neg (by omega)];exact ⟨rfl,rfl,fun _=>by rw[hs]⟩
def sigs(r:List Nx×Nat×Nat):List (Nat×ByteArray×Nat)×Nat:=(r.1.map sig,r.2.1)
theorem PW{x y:Nx}{r q:List Nx×Nat×Nat}(h1:sig x=sig y)(h2:sigs r=sigs q):sigs (hF x r)=sigs (hF y q):=by
 obtain⟨a,b,c⟩:=r;obtain ⟨a',b',c'⟩:=q;simp only[sigs,Prod.mk.injEq] at h2;obtain ⟨h3,h4⟩:=h2;subst h4;unfold hF sigs;by_cases h:b=0
 · simp[h,h1,h3]
 · simp[h]
theorem kO.PX(h:kO s' s t c)(i:Nat)(hi:i≤t.size):sigs (gp s' (s.size+1+i))=sigs (gp t i):=by
 have hs:=h.size;obtain ⟨m1,m2,m3⟩:=h.bU hi;have mk:(next s' (s.size+1+i)).kind=(next t i).kind:=congrArg Prod.fst m1;by_cases h1:(next t i).fk=0
 · by_cases h2:(next t i).kind=0
   · rw[jJ h1 h2,jJ (by omega) (by omega)];simp [sigs,m1]
   · have hp:=jG hi h1 h2;rw [jw hi h1 h2,jw (by omega) (by omega) (by omega),m3 h1];exact PW m1 (kO.PX h _ hp.2)
 · rw[hH h1,hH (by omega)];simp [sigs,m2]
termination_by t.size-i
theorem Cq{x:ByteArray}{i j:Nat}(h:pass x i=pass x j):next x i=next x j:=by unfold next;rw[h]
theorem Cr{x:ByteArray}{i j:Nat}(h:pass x i=pass x j)(hi:i≤x.size)(hj:j≤x.size):gp x i=gp x j:=by
 have e:=Cq h;by_cases h1:(next x j).fk=0
 · by_cases h2:(next x j).kind=0
   · rw[jJ h1 h2,jJ (by rw[e];exact h1) (by rw[e];exact h2),e]
   · rw[jw hj h1 h2,jw hi (by rw[e];exact h1) (by rw[e];exact h2),e]
 · rw[hH h1,hH (by rw[e];exact h1),e]
theorem PY{x:ByteArray}{i:Nat}(h:(next x i).fk=0)(hk:(next x i).kind=0):¬pass x i<x.size:=by
 intro dO;unfold next at h hk
 rw[if_pos dO] at h hk;unfold cx at h hk;split at hk
 · rename_i h1;rw [if_pos h1] at h;unfold qP at h hk;split at hk
   · cases hk
   · rename_i h2;rw[if_neg h2] at h;cases h
 · rename_i h1;rw [if_neg h1] at h;split at hk
   · rename_i h2;rw [if_pos h2] at h;unfold nameAt at h hk;split at hk
     · rename_i h3;rw[if_pos h3] at h;cases h
     · rename_i h3;simp only at hk;split at hk<;>cases hk
   · rename_i h2;rw [if_neg h2] at h;split at hk
     · cases hk
     · rename_i h3;rw[if_neg h3] at h;cases h
theorem kO.Vp(h : kO s' s t c)(hb : cY c = true)(hc : c.toNat = 10 ∨ ∀ k, k < s.size → (ae s k).toNat ≠ 35)(i : Nat)(hi : i ≤ s.size)(ZJ : (gp s i).2.1 = 0)(ht : (gp t 0).2.1 = 0) :
   sigs (gp s' i)=(((gp s i).1.dropLast++(gp t 0).1).map sig,0)∧(gp s i).1≠[]:=by
 have hs:=h.size;by_cases h1:(next s i).fk=0
 · by_cases h2:(next s i).kind=0
   · have hp:=(h.iS hb hc i hi).2 (PY h1 h2);have e1:=Cr hp (by omega) (by omega);have e2:=h.PX 0 (by omega);rw [jJ h1 h2,e1];refine ⟨?_,by simp⟩;rw [Nat.add_zero] at e2;rw [e2];simp [sigs,ht]
   · have hp := jG hi h1 h2;have dO : pass s i < s.size := by
       rcases Nat.lt_or_ge (pass s i) s.size with q|q
       · exact q
       · exfalso;apply h2;unfold next;rw[if_neg (by omega)]
     have e:next s' i=next s i:=by
       unfold next
       rw[(h.iS hb hc i hi).1 dO,if_pos dO,if_pos (by omega)];exact h.PO hb dO
     have hg:=jw hi h1 h2;rw [hg] at ZJ;have adX:(gp s (next s i).nx).2.1=0:=by
       unfold hF at ZJ;split at ZJ
       · assumption
       · exact ZJ
     have ih:=kO.Vp h hb hc (next s i).nx hp.2 adX ht;rw [jw (s:=s') (by omega) (by rw[e];exact h1) (by rw[e];exact h2),e,hg];have ea:hF (next s i) (gp s (next s i).nx)=(next s i::(gp s (next s i).nx).1,(gp s (next s i).nx).2):=by unfold hF;rw[if_pos adX]
     rw[ea];refine ⟨?_,by simp⟩;have i1:=ih.1;simp only[sigs,Prod.mk.injEq] at i1;unfold hF sigs;rw [if_pos i1.2];simp only[Prod.mk.injEq,List.map_cons];refine ⟨?_,i1.2⟩;rw [i1.1];obtain ⟨y,r,hyr⟩:=List.exists_cons_of_ne_nil ih.2;rw [hyr];simp
 · rw[hH h1] at ZJ;exact absurd ZJ h1
termination_by s.size-i
end
theorem cD{a b:ByteArray}(k:Nat):ae (a++b) k=if k<a.size then ae a k else ae b (k-a.size):=by
 unfold ae;rw [ByteArray.data_append,Array.getElem?_append];have:a.data.size=a.size:=rfl;rw [this];split<;>rfl
theorem yK(c:UInt8):ae ⟨#[c]⟩ 0=c:=rfl
theorem yL(s t:ByteArray)(c:UInt8):kO ((s++⟨#[c]⟩)++t) s t c:=by
 have h1:(⟨#[c]⟩:ByteArray).size=1:=rfl;refine ⟨by simp[ByteArray.size_append,h1],fun k hk=>?_,?_,fun k hk=>?_⟩
 · rw[cD,if_pos (by rw[ByteArray.size_append];omega),cD,if_pos hk]
 · rw[cD,if_pos (by rw[ByteArray.size_append,h1];omega),cD,if_neg (by omega),Nat.sub_self];rfl
 · rw[cD,if_neg (by rw[ByteArray.size_append,h1];omega),ByteArray.size_append,h1];congr 1;omega
theorem append_assoc'(a b c:ByteArray):a++b++c=a++(b++c):=by
 apply g_;simp [ByteArray.toList_eq,ByteArray.data_append]
theorem ue(a:ByteArray):(bY [])++a=a:=by
 apply g_;simp [ByteArray.toList_eq,ByteArray.data_append]
theorem Et(a:ByteArray):a++(bY [])=a:=by
 apply g_;simp [ByteArray.toList_eq,ByteArray.data_append]
def adY(n:Nat)(acc:ByteArray):ByteArray:=
 if n/10=0 then(⟨#[UInt8.ofNat (48+n%10)]⟩:ByteArray)++acc else adY (n/10) ((⟨#[UInt8.ofNat (48+n%10)]⟩:ByteArray)++acc)
termination_by n
decreasing_by omega
def TI(x:Nx):ByteArray:=if x.kind=1 then adY x.n ⟨#[]⟩ else x.text
structure Good (m:Nat) (x:Nx):Prop where
 kind:1≤x.kind∧x.kind≤4
 num:x.n≤fW
 size:(TI x).size≤m
 quiet:∀k,k<(TI x).size→(ae (TI x) k).toNat≠35
 gp:sigs (gp (TI x) 0)=([sig x,(0,⟨#[]⟩,0)],0)
end Go.Lex
namespace Go.fO.N
open Go.Lex Go.fO
def En(S:ByteArray):Nat→Nat
 |0=>0
 |i+1=>(next S (En S i)).nx
def goE(q:Rs)(x:Nx):Rs:=⟨x.kind,x.at_,x.text,x.n,q.e+1,x.fk,x.fa,q.x,q.y⟩
def pZ(tk:Nat→Nx)(q:Rs):Rs:=if Nat.beq q.fk 0 then goE q (tk q.e) else q
def yM(tk:Nat→Nx):Nd×Nat×Nat:=
 let r:=run yG (pZ tk) CX .prog (pZ tk QT)
 let q:=iA r.2
 if Nat.beq q.fk 0 then(r.1,0,0) else(gF,q.fk,q.fa)
theorem Eu(S:ByteArray)(q:Rs):bU S (ph (En S) q)=ph (En S) (pZ (fun i=>next S (En S i)) q):=by
 unfold bU pZ;rw [show okB (ph (En S) q)=Nat.beq q.fk 0 from mE q.fk 0];split<;>rfl
theorem KB{S:ByteArray}(h:S.size≤3000):iX S=yM (fun i=>next S (En S i)):=by
 have hl:∀q,iA (ph (En S) q)=ph (En S) (iA q):=fun q=>by
   unfold iA;rw [Vk,adQ];split
   · split
     · rw[Eo]
     · rfl
   · rfl
 have h0:bU S QT=ph (En S) (pZ (fun i=>next S (En S i)) QT):=Eu S QT;unfold iX yM;rw [if_neg (by omega),run_eq,Yu,h0,PT (Eu S)];generalize run yG (pZ fun i=>next S (En S i)) CX .prog (pZ (fun i=>next S (En S i)) QT)=r;show (if okB (iA (ph (En S) r.2))=true then(r.1,0,0) else(gF,(iA (ph (En S) r.2)).fk,(iA (ph (En S) r.2)).fa))=(if Nat.beq (iA r.2).fk 0=true then(r.1,0,0) else(gF,(iA r.2).fk,(iA r.2).fa));rw [hl,show okB (ph (En S) (iA r.2))=Nat.beq (iA r.2).fk 0 from mE _ 0];rfl
def tkF(sg:List (Nat×ByteArray×Nat))(r:Nat→Nx)(i:Nat):Nx:=match sg[i]? with
 |some x=>⟨x.1,(r i).at_,x.2.1,x.2.2,(r i).nx,0,(r i).fa⟩
 |none=>r i
theorem IN(S:ByteArray):∀(m j:Nat)(x:Nx),En S j≤S.size→(gp S (En S j)).2.1=0→(gp S (En S j)).1[m]?=some x→x=next S (En S (j+m))∧x.fk=0
 |m,j,x,hj,h0,hx=>by
   by_cases h1:(next S (En S j)).fk=0
   · by_cases h2:(next S (En S j)).kind=0
     · rw[jJ h1 h2] at hx;match m,hx with
       |0,hx=>cases hx;exact⟨rfl,h1⟩
       |m+1,hx=>cases hx
     · have hp := jG hj h1 h2;rw [jw hj h1 h2] at hx h0;have e : (gp S (next S (En S j)).nx).2.1 = 0 := by
         unfold hF at h0;split at h0
         · assumption
         · exact absurd h0 ‹_›
       unfold hF at hx;rw [if_pos e] at hx;match m,hx with
       |0,hx=>cases hx;exact⟨rfl,h1⟩
       |m+1,hx=>
         rw[show j+(m+1)=(j+1)+m by omega];exact IN S m (j+1) x hp.2 e hx
   · rw[hH h1] at h0;exact absurd h0 h1
theorem KC{S:ByteArray}{sg:List (Nat×ByteArray×Nat)}(h:S.size≤3000)(ht:sigs (gp S 0)=(sg,0)):iX S=yM (tkF sg (fun i=>next S (En S i))):=by
 rw[KB h];have e:pZ (fun i=>next S (En S i))=pZ (tkF sg (fun i=>next S (En S i))):=by
   funext q;unfold pZ tkF;split
   · cases hs:sg[q.e]? with
     |none=>rfl
     |some s=>
       simp only[sigs,Prod.mk.injEq] at ht;obtain ⟨h1,h2⟩:=ht;rw [← h1,List.getElem?_map,Option.map_eq_some_iff] at hs;obtain ⟨x,hx,hs⟩:=hs;obtain ⟨h3,h4⟩:=IN S q.e 0 x (Nat.zero_le _) h2 hx;rw [Nat.zero_add] at h3;subst hs;show goE q (next S (En S q.e))=goE q ⟨x.kind,(next S (En S q.e)).at_,x.text,x.n,(next S (En S q.e)).nx,0,(next S (En S q.e)).fa⟩;rw [← h3];unfold goE;rw [h4]
   · rfl
 unfold yM;rw [e]
end Go.fO.N
namespace Go.Mn
open Go.RowKit Go.Sx Go.aS Go.Gx Go.fO Go.Lex
def PZ:List PN→ET→PN
 |[],_=>pz
 |[m],_=>m
 |d::l,g=>.mk 2 (match d with|.mk _ a _ _ _ _ _=>a) d.nm d.n (g []).1 (g []).2 [d.ks.headD pz,PZ l (fun q=>g (0::q))]
theorem Yz{l:List PN}{p:PN}(h:Lets l p):∃g:ET,p=PZ l g:=by
 induction h with
 |one m=>exact⟨fun _=>(none,0),rfl⟩
 |@more k a nm n A B c c2 x ks l e h ih=>
   obtain⟨g,rfl⟩:=ih;refine ⟨fun q=>match q with|[]=>(B,c2)|_::q=>g q,?_⟩;cases l with
   |nil=>cases h
   |cons y l=>rfl
def evR(x:Nd×Nat×Nat)(f g:ET):Option Vl:=match x with
 |(.mk 0 _ _ n ks,0,_)=>match tr 150 n.toNat ks with
   | some (_, _, 0, _) => if decide (0 ≤ n) && Nat.blt ks.length 1000000000 && Tt ks && Nat.blt n.toNat ks.length && (ks.drop n.toNat).dropLast.all (fun d => ! d.ks.isEmpty) then
       (KH (EE (uz ((Yd ks 0 f).take n.toNat))) 10000 0 ⟨[],PZ ((Yd ks 0 f).drop n.toNat) g,.nil,none,[]⟩).map (·.1)
     else none
   |_=>none
 |_=>none
theorem TJ{S t:ByteArray}{x:Nd×Nat×Nat}{v:Vl}(hp:iX S=x)(h:∀f g,evR x f g=some v)(ht:pP v=some t):AH S t:=by
 have h0:=h (fun _=>(none,0)) (fun _=>(none,0));unfold evR at h0;split at h0
 · rename_i na nm n ks fa;split at h0
   · rename_i rl rt ra hf;split at h0
     · rename_i hc;simp only[Bool.and_eq_true,decide_eq_true_eq,Nat.blt_eq] at hc;obtain ⟨⟨⟨⟨h1,h2⟩,h3⟩,h4⟩,h5⟩:=hc;refine ⟨na,nm,n.toNat,ks,fa,150,rl,rt,ra,by rw[hp,Int.toNat_of_nonneg h1],hf,⟨h2,h3⟩,h4,fun j d hj hl hd he=>?_,fun ja p Px HA dO=>?_⟩
       · rw [List.all_eq_true] at h5;have hm : d ∈ (ks.drop n.toNat).dropLast := by
           rw[List.dropLast_eq_take,List.mem_iff_getElem?];refine ⟨j-n.toNat,?_⟩;rw [List.getElem?_take_of_lt (by rw[List.length_drop];omega),List.getElem?_drop,show n.toNat+(j-n.toNat)=j by omega];exact hd
         have:=h5 d hm;rw [he] at this;cases this
       · obtain⟨f,rfl⟩:=Tu Px HA;obtain ⟨g,rfl⟩:=Yz dO;have h6:=h f g;unfold evR at h6;simp only[hf] at h6;split at h6
         · obtain⟨q,h7,h8⟩:=Option.map_eq_some_iff.1 h6;obtain ⟨v',s'⟩:=q;have h8:v'=v:=h8;subst h8;exact ⟨10000,v',s',h7,ht⟩
         · cases h6
     · cases h0
   · cases h0
 · cases h0
end Go.Mn
namespace Go.fO.N
open Go.Lex Go.fO Go.Mn
open Go.Gx (ae)
abbrev Sg:=List (Nat×ByteArray×Nat)
def TK(s:ByteArray)(sg:Sg):Prop:=sigs (gp s 0)=(sg,0)
theorem P0{s t:ByteArray}{c:UInt8}{g1 g2:Sg}(h1:TK s g1)(h2:TK t g2)(hb:cY c=true)(hc:c.toNat=10∨∀k,k<s.size→(ae s k).toNat≠35):TK ((s++⟨#[c]⟩)++t) (g1.dropLast++g2):=by
 simp only[TK,sigs,Prod.mk.injEq] at h1 h2;have:=((yL s t c).Vp hb hc 0 (Nat.zero_le _) h1.2 h2.2).1;rw [TK,this,List.map_append,h2.1,←h1.1,List.map_dropLast]
theorem P1(n:Nat):0<(aF n).size:=by
 by_cases h:n/10=0
 · rw[jb h];exact Nat.one_pos
 · rw[n8 h,ByteArray.size_append];exact Nat.lt_of_lt_of_le Nat.one_pos (Nat.le_add_left 1 _)
theorem mF{a b:ByteArray}{k:Nat}(h:k<a.size):ae (a++b) k=ae a k:=by rw[cD,if_pos h]
theorem adZ(m:Nat):ah (UInt8.ofNat (48+m%10))=true∧(UInt8.ofNat (48+m%10)).toNat=48+m%10:=by
 have:(UInt8.ofNat (48+m%10)).toNat=48+m%10:=by rw[UInt8.toNat_ofNat'];omega
 exact⟨(oJ _).2 (by omega),this⟩
theorem IP(n:Nat):(∀k,k<(aF n).size→ah (ae (aF n) k)=true)∧(0<n→(ae (aF n) 0).toNat≠48)∧∀t,ed (aF n++t) 0 (aF n).size=n:=by
 have hd:=adZ n;by_cases h:n/10=0
 · rw[jb h];refine ⟨fun k hk=>?_,fun h0=>?_,fun t=>?_⟩
   · obtain rfl:k=0:=Nat.lt_one_iff.1 hk;exact hd.1
   · show(UInt8.ofNat (48+n%10)).toNat≠48;omega
   · show ed _ 0 (0+1)=n;rw [ed,ed,Nat.zero_add,mF Nat.one_pos,yK,hd.2];omega
 · have ih:=IP (n/10);have hz:=P1 (n/10);rw [n8 h];refine ⟨fun k hk=>?_,fun h0=>?_,fun t=>?_⟩
   · rw[ByteArray.size_append] at hk;by_cases KT:k<(aF (n/10)).size
     · rw[mF KT];exact ih.1 k KT
     · have hk:k<(aF (n/10)).size+1:=hk;rw [cD,if_neg KT,show k-(aF (n/10)).size=0 by omega];exact hd.1
   · rw[mF hz];exact ih.2.1 (by omega)
   · rw[ByteArray.size_append,append_assoc'];show ed _ 0 ((aF (n/10)).size+1)=n;rw [ed,ih.2.2,Nat.zero_add,cD,if_neg (Nat.lt_irrefl _),Nat.sub_self,mF Nat.one_pos,yK,hd.2];omega
termination_by n
decreasing_by omega
theorem n9{n:Nat}{t:ByteArray}(hn:n≤fW)(ht:t.size=0∨ah (ae t 0)=false):next (aF n++t) 0=⟨1,0,⟨#[]⟩,n,(aF n).size,0,0⟩:=by
 obtain⟨h1,h2,h3⟩:=IP n;have hz:=P1 n;have hs:(aF n++t).size=(aF n).size+t.size:=ByteArray.size_append;have hd:ah (ae (aF n++t) 0)=true:=by rw[mF hz];exact h1 0 hz
 have hdi:=(oJ _).1 hd;have hp:pass (aF n++t) 0=0:=jF (by omega) (by rw[oK];omega) (by omega);have cw:stop ah (aF n++t) 0=(aF n).size:=by
   have go:∀m k,k+m=(aF n).size→stop ah (aF n++t) k=(aF n).size:=fun m=>by
     induction m with
     |zero=>
       intro k hk;rw [er (fun q=>?_)]
       · omega
       · obtain⟨q1,q2⟩:=q;rcases ht with e|e
         · omega
         · rw[cD,if_neg (by omega),show k-(aF n).size=0 by omega,e] at q2;cases q2
     |succ m ih=>
       intro k hk;rw [eO (by omega) (by rw[mF (by omega)];exact h1 k (by omega))];exact ih (k+1) (by omega)
   exact go (aF n).size 0 (Nat.zero_add _)
 unfold next
 rw[hp,if_pos (by omega)];unfold cx;rw [if_pos hd];unfold qP;rw [cw,Nat.sub_zero,h3,zF ?_ (by rw[Nat.sub_zero,h3];exact hn),if_pos rfl];rintro ⟨q1,q2⟩;rw [mF hz] at q2;by_cases h0:0<n
 · exact h2 h0 q2
 · obtain rfl:n=0:=by omega
   rw[jb rfl] at q1;exact absurd q1 (by decide)
theorem YA{n:Nat}{t:ByteArray}{g:Sg}(hn:n≤fW)(ht:t.size=0∨ah (ae t 0)=false)(h:TK t g):TK (aF n++t) ((1,⟨#[]⟩,n)::g):=by
 have e:=n9 hn ht;obtain ⟨s0,c,hs⟩:∃s0 c,aF n=s0++⟨#[c]⟩:=by
   by_cases h:n/10=0
   · exact⟨⟨#[]⟩,_,by rw[jb h,ue]⟩
   · exact⟨_,_,n8 h⟩
 have hc:kO (aF n++t) s0 t c:=by rw[hs];exact yL s0 t c
 have hr:=hc.PX 0 (Nat.zero_le _);have hz:(aF n).size=s0.size+1:=by rw[hs,ByteArray.size_append];rfl
 rw[Nat.add_zero,←hz] at hr;have hf:(next (aF n++t) 0).fk=0:=by rw[e]
 rw[TK,jw (Nat.zero_le _) hf (by rw[e];exact Nat.one_ne_zero),e];rw [TK] at h;rw [h] at hr;simp only[sigs,Prod.mk.injEq] at hr;simp only[sigs,hF,hr.2,if_pos,List.map_cons,hr.1];rfl
def TL(l:List UInt8)(n:Nat):Nat→Nat→Option Sg
 |0,_=>none
 |f+1,i=>if Nat.beq (yJ l n i).fk 0 then(if Nat.beq (yJ l n i).kind 0 then some [sig (yJ l n i)] else match TL l n f (yJ l n i).nx with
   |some g=>some (sig (yJ l n i)::g)
   |none=>none) else none
theorem vt(s:ByteArray):∀(f i:Nat)(g:Sg),i≤s.size→TL s.data.toList s.size f i=some g→sigs (gp s i)=(g,0)
 |0,_,_,_,h=>by cases h
 |f+1,i,g,hi,h=>by
   unfold TL at h;rw [← PQ] at h;split at h
   · rename_i h1;rw [Nat.beq_eq] at h1;split at h
     · rename_i h2;rw [Nat.beq_eq] at h2;cases h;rw [jJ h1 h2];rfl
     · rename_i h2;have h2:(next s i).kind≠0:=fun q=>h2 (by rw[q];rfl);have hp:=jG hi h1 h2;split at h
       · rename_i g' hg;cases h;have:=vt s f _ g' hp.2 hg;rw [jw hi h1 h2];simp only[sigs,Prod.mk.injEq] at this;simp only[sigs,hF,this.2,if_pos,List.map_cons,this.1]
       · cases h
   · cases h
def YB(s:ByteArray):Option Sg:=TL s.data.toList s.size 3001 0
def Vq(s:ByteArray):Bool:=s.data.toList.all fun c=>! Nat.beq c.toNat 35
theorem TM{s:ByteArray}(h:Vq s=true):∀k,k<s.size→(ae s k).toNat≠35:=fun k hk e=>by
 have hm:ae s k∈s.data.toList:=by
   have:=oI hk;exact List.mem_of_mem_drop (i:=k) (by show ae s k∈D s k;rw[this];exact .head _)
 have:=List.all_eq_true.1 h _ hm;rw [e] at this;exact absurd this (by decide)
def pj:List (ByteArray×Nat)→ByteArray→ByteArray
 |[],z=>z
 |p::l,z=>(p.1++⟨#[32]⟩)++(aF p.2++pj l z)
def IQ(s:ByteArray):Bool:=match s.data.toList with
 |[]=>true
 |c::_=>! ah c
def P2:List (ByteArray×Nat)→ByteArray→Bool
 |[],z=>IQ z
 |p::_,_=>IQ p.1
def TN:List (ByteArray×Nat)→ByteArray→Option Sg
 |[],z=>YB z
 |p::l,z=>if Vq p.1&&P2 l z then(match YB p.1,TN l z with
   |some a,some b=>some (a.dropLast++((1,⟨#[]⟩,p.2)::b))
   |_,_=>none) else none
theorem IS{s t:ByteArray}(h:IQ s=true)(ht:t.size=0∨ah (ae t 0)=false):(s++t).size=0∨ah (ae (s++t) 0)=false:=by
 by_cases hz:0<s.size
 · right;rw [mF hz];have:=oI hz;rw [show D s 0=s.data.toList from rfl] at this;unfold IQ at h;rw [this] at h;simpa using h
 · have : s = ⟨#[]⟩ := by
     apply ByteArray.ext;apply Array.eq_empty_of_size_eq_zero;have:s.data.size=s.size:=rfl;omega
   rw[this,ue];exact ht
theorem P3:∀(l:List (ByteArray×Nat))(z:ByteArray)(g:Sg),(∀p∈l,p.2≤fW)→TN l z=some g→TK (pj l z) g∧(P2 l z=true→(pj l z).size=0∨ah (ae (pj l z) 0)=false)
 | [], z, g, _, h => ⟨vt z 3001 0 g (Nat.zero_le _) h, fun hb => by
     have:=IS (t:=⟨#[]⟩) hb (.inl rfl)
     rwa [Et] at this⟩
 |p::l,z,g,hn,h=>by
   unfold TN at h;split at h
   · rename_i hc;rw [Bool.and_eq_true] at hc;split at h
     · rename_i a b ha hb;cases h;have ih:=P3 l z b (fun q hq=>hn q (.tail _ hq)) hb
       exact⟨P0 (vt p.1 3001 0 a (Nat.zero_le _) ha) (YA (hn p (.head _)) (ih.2 hc.2) ih.1) (by decide) (.inr (TM hc.1)),fun hb=>by
         have e:pj (p::l) z=p.1++((bY [32])++(aF p.2++pj l z)):=append_assoc' _ _ _;rw [e]
         exact IS hb (.inr (by show ah (ae ((bY [32])++(aF p.2++pj l z)) 0)=false;rw[mF (a:=⟨#[32]⟩) Nat.one_pos];rfl))⟩
     · cases h
   · cases h
end Go.fO.N
namespace Go.Mn
open Go.RowKit Go.Sx Go.aS Go.Gx Go.fO Go.Lex
noncomputable def Lc(p:List Nat)(l:List (ByteArray×Nat))(z:ByteArray)(r:Nat→Nx)(f g:ET):Option Vl:=match N.YB (j_ (Kx p)),N.TN l z with
 |some a,some b=>evR (N.yM (N.tkF (a.dropLast++b) r)) f g
 |_,_=>none
theorem YC{p:List Nat}{l:List (ByteArray×Nat)}{z t:ByteArray}{v:Vl}(h:∀r f g,Lc p l z r f g=some v)(hl:∀q∈l,q.2≤fW)(hs:((j_ (Kx p)++⟨#[10]⟩)++N.pj l z).size≤3000)(ht:pP v=some t):AH ((j_ (Kx p)++⟨#[10]⟩)++N.pj l z) t:=by
 have h0:=h (fun _=>fault 0 0) (fun _=>(none,0)) (fun _=>(none,0));unfold Lc at h0;split at h0
 · rename_i a b ha hb;have hk:=N.P0 (c:=10) (N.vt _ 3001 0 a (Nat.zero_le _) ha) (N.P3 l z b hl hb).1 (by decide) (.inl rfl);refine TJ (N.KC hs hk) (fun f g=>?_) ht;have:=h (fun i=>next ((j_ (Kx p)++⟨#[10]⟩)++N.pj l z) (N.En ((j_ (Kx p)++⟨#[10]⟩)++N.pj l z) i)) f g;unfold Lc at this;rw [ha,hb] at this;exact this
 · cases h0
def P4:List (ByteArray×Nat)→Nat
 |[]=>0
 |p::l=>p.1.size+4+P4 l
theorem IT:∀{l:List (ByteArray×Nat)}{z:ByteArray},(∀p∈l,p.2<1000)→(N.pj l z).size≤P4 l+z.size
 |[],_,_=>by show _≤0+_;rw[Nat.zero_add];exact Nat.le_refl _
 |p::l,z,h=>by
   have h1:=oG (h p (.head _));have h2:=IT (z:=z) (fun q hq=>h q (.tail _ hq));simp only[N.pj,ByteArray.size_append,o8,P4];omega
theorem YD{p:List Nat}{l:List (ByteArray×Nat)}{z:ByteArray}(h1:(AI p).size≤1500)(h2:P4 l+z.size≤1000)(h3:∀p∈l,p.2<1000):((j_ (Kx p)++⟨#[10]⟩)++N.pj l z).size≤3000:=by
 have:=IT (z:=z) h3;have e:(j_ (Kx p)++⟨#[10]⟩:ByteArray)=AI p:=rfl;rw [e,ByteArray.size_append];omega
theorem tm:∀(k:Nat){n:Nat},n<10 ^ (k+1)→(aF n).size≤k+1
 |0,n,h=>by rw[jb (by omega),o8];omega
 |k+1,n,h=>by
   by_cases q:n/10=0
   · rw[jb q,o8];omega
   · have:=tm k (n:=n/10) (by rw[Nat.pow_succ] at h;omega);rw [n8 q,ByteArray.size_append,o8];omega
theorem sh{u v:Int}(hu:0≤u∧u<1000000)(hv:0≤v∧v<1000000):∃t,pP (.pair (.int u) (.int v))=some t:=by
 have s1:=tm 5 (n:=u.natAbs) (by omega);have s2:=tm 5 (n:=v.natAbs) (by omega);have z1:(sS u).size≤6:=by unfold sS;rw[if_neg (by omega)];omega
 have z2:(sS v).size≤6:=by unfold sS;rw[if_neg (by omega)];omega
 have a:∀r:Int,0<r→cP (.int u) r=some (sS u):=fun r hr=>by unfold cP;rw[if_neg (by omega),if_pos (by omega)]
 have b:∀r:Int,0<r→cP (.int v) r=some (sS v):=fun r hr=>by unfold cP;rw[if_neg (by omega),if_pos (by omega)]
 unfold pP cP;rw [if_neg (by decide),a _ (by decide),Option.bind_some,b _ (by omega),Option.bind_some,FD,if_pos]
 · exact⟨_,rfl⟩
 · simp only[ByteArray.size_append,o8,FE];omega
end Go.Mn
namespace Go.Mn
open Go.RowKit Go.Sx Go.aS Go.Gx Go.fO Go.Lex
set_option maxRecDepth 100000
abbrev pT:List Nat:=[1,0,1,0,1,0,0]
def IU(n a b k:Nat):Nat→List (ByteArray×Nat)
 |0=>[(⟨#[32,109,97,105,110,32,61,32,115,116,97,116,101]⟩,n),(⟨#[32,40,102,110,32,117,32,61,62,32,100,111,32,112,117,116]⟩,a),(⟨#[59,32,100,111,32,112,117,116]⟩,b),(⟨#[59,32,100,111,32,103,101,116,32,40,41,32,42]⟩,k)]
 |1=>[(⟨#[32,109,97,105,110,32,61,32,115,116,97,116,101]⟩,n),(⟨#[32,40,102,110,32,117,32,61,62,32,100,111,32,112,117,116]⟩,b),(⟨#[59,32,100,111,32,103,101,116,32,40,41,32,42]⟩,k)]
 |2=>[(⟨#[32,109,97,105,110,32,61,32,115,116,97,116,101]⟩,n),(⟨#[32,40,102,110,32,117,32,61,62,32,100,111,32,112,117,116]⟩,a),(⟨#[59,32,108,101,116,32,120,32,61,32,100,111,32,103,101,116,32,40,41,32,105,110,32,120,32,43,32,40,100,111,32,103,101,116,32,40,41,32,42]⟩,k)]
 |3=>[(⟨#[32,109,97,105,110,32,61,32,115,116,97,116,101]⟩,n),(⟨#[32,40,102,110,32,117,32,61,62,32,100,111,32,112,117,116]⟩,a),(⟨#[59]⟩,a),(⟨#[32,43,32,40,100,111,32,103,101,116,32,40,41,32,42]⟩,k)]
 |4=>[(⟨#[32,109,97,105,110,32,61,32,115,116,97,116,101]⟩,n),(⟨#[32,40,102,110,32,117,32,61,62,32,100,111,32,112,117,116,32,40,100,111,32,103,101,116,32,40,41,41,59,32,100,111,32,103,101,116,32,40,41,32,42]⟩,k)]
 |5=>[(⟨#[32,109,97,105,110,32,61,32,115,116,97,116,101]⟩,n),(⟨#[32,40,102,110,32,117,32,61,62,32,100,111,32,103,101,116,32,40,41,32,42]⟩,k)]
 |6=>[(⟨#[32,109,97,105,110,32,61,32,115,116,97,116,101]⟩,n),(⟨#[32,40,102,110,32,117,32,61,62,32,108,101,116,32,120,32,61,32,100,111,32,103,101,116,32,40,41,32,105,110,32,108,101,116,32,121,32,61,32,100,111,32,103,101,116,32,40,41,32,105,110,32,120,32,45,32,121,32,43,32,40,100,111,32,103,101,116,32,40,41,32,42]⟩,k)]
 |_=>[(⟨#[32,109,97,105,110,32,61,32,115,116,97,116,101]⟩,n),(⟨#[32,40,102,110,32,117,32,61,62,32,108,101,116,32,120,32,61,32,100,111,32,103,101,116,32,40,41,32,105,110,32,120,32,45,32,120,32,43,32,40,100,111,32,103,101,116,32,40,41,32,42]⟩,k)]
def Ld:Nat→ByteArray
 |0=>⟨#[32,43,32,49,41]⟩
 |1=>⟨#[32,43,32,49,41]⟩
 |2=>⟨#[32,43,32,49,41,41]⟩
 |3=>⟨#[32,43,32,49,41,41]⟩
 |4=>⟨#[32,43,32,49,41]⟩
 |5=>⟨#[32,43,32,49,41]⟩
 |6=>⟨#[32,43,32,49,41,41]⟩
 |_=>⟨#[32,43,32,49,41,41]⟩
def QE(n a b k:Nat):Nat→Vl
 |0=>.pair (.int (IntKind.i64.wrap (IntKind.i64.wrap ((b:Int)*(k:Int))+1))) (.int (b:Int))
 |1=>.pair (.int (IntKind.i64.wrap ((a:Int)+(IntKind.i64.wrap (IntKind.i64.wrap ((a:Int)*(k:Int))+1))))) (.int (a:Int))
 |2=>.pair (.int (IntKind.i64.wrap (IntKind.i64.wrap ((n:Int)*(k:Int))+1))) (.int (n:Int))
 |_=>.pair (.int (IntKind.i64.wrap (IntKind.i64.wrap ((n:Int)-(n:Int))+(IntKind.i64.wrap (IntKind.i64.wrap ((n:Int)*(k:Int))+1))))) (.int (n:Int))
noncomputable def wtL(n a b k:Nat):Nat→ByteArray
 |0=>ka (AI pT) n (eW a b k 0)
 |1=>ka (AI pT) n (eX a b k 0)
 |2=>ka (AI pT) n (eW a b k 1)
 |3=>ka (AI pT) n (eX a b k 1)
 |4=>ka (AI pT) n (eW a b k 2)
 |5=>ka (AI pT) n (eX a b k 2)
 |6=>ka (AI pT) n (eW a b k 3)
 |_=>ka (AI pT) n (eX a b k 3)
theorem akP(n a b k:Nat)(r:Nat→Nx)(f g:ET):Lc pT (IU n a b k 0) (Ld 0) r f g=some (QE n a b k 0):=by kernel_rfl
theorem akQ(n a b k:Nat)(r:Nat→Nx)(f g:ET):Lc pT (IU n a b k 1) (Ld 1) r f g=some (QE n a b k 0):=by kernel_rfl
theorem akR(n a b k:Nat)(r:Nat→Nx)(f g:ET):Lc pT (IU n a b k 2) (Ld 2) r f g=some (QE n a b k 1):=by kernel_rfl
theorem akS(n a b k:Nat)(r:Nat→Nx)(f g:ET):Lc pT (IU n a b k 3) (Ld 3) r f g=some (QE n a b k 1):=by kernel_rfl
theorem akT(n a b k:Nat)(r:Nat→Nx)(f g:ET):Lc pT (IU n a b k 4) (Ld 4) r f g=some (QE n a b k 2):=by kernel_rfl
theorem akU(n a b k:Nat)(r:Nat→Nx)(f g:ET):Lc pT (IU n a b k 5) (Ld 5) r f g=some (QE n a b k 2):=by kernel_rfl
theorem akV(n a b k:Nat)(r:Nat→Nx)(f g:ET):Lc pT (IU n a b k 6) (Ld 6) r f g=some (QE n a b k 3):=by kernel_rfl
theorem akW(n a b k:Nat)(r:Nat→Nx)(f g:ET):Lc pT (IU n a b k 7) (Ld 7) r f g=some (QE n a b k 3):=by kernel_rfl
theorem ad0{n a b k:Nat}:∀j,j<8→wtL n a b k j=(j_ (Kx pT)++⟨#[10]⟩)++N.pj (IU n a b k j) (Ld j):=fun j hj=>by
 match j,hj with
 |0,_|1,_|2,_|3,_|4,_|5,_|6,_|7,_=>apply ByteArray.ext;apply Array.toList_inj.1;simp[wtL,IU,Ld,eW,eX,AI,N.pj,ByteArray.data_append]
theorem ad1{n a b k:Nat}(hn:n<1000)(ha:a<1000)(hb:b<1000)(hk:k<50):∀j,j<8→∀p∈IU n a b k j,p.2<1000:=fun j hj p hp=>by
 match j,hj with
 |0,_|1,_|2,_|3,_|4,_|5,_|6,_|7,_=>simp[IU] at hp;rcases hp with rfl|hp<;>first|omega|(rcases hp with rfl|hp<;>first|omega|(rcases hp with rfl|hp<;>first|omega|(subst hp;omega)))|(simp;omega)
theorem akX(n a b k:Nat):∀j,j<8→P4 (IU n a b k j)+(Ld j).size≤1000:=fun j hj=>by
 match j,hj with
 |0,_|1,_|2,_|3,_|4,_|5,_|6,_|7,_=>exact Nat.le_of_ble_eq_true (by kernel_rfl)
theorem Ev{n a b k:Nat}{t:ByteArray}(hT:(AI pT).size≤1500)(hn:n<1000)(ha:a<1000)(hb:b<1000)(hk:k<50)(j i:Nat)(hj:j<8)(hv:∀r f g,Lc pT (IU n a b k j) (Ld j) r f g=some (QE n a b k i))(ht:pP (QE n a b k i)=some t):AH (wtL n a b k j) t:=by
 rw[ad0 j hj];have h:=ad1 hn ha hb hk j hj;exact YC hv (fun p hp=>Nat.le_trans (Nat.le_of_lt (h p hp)) (by decide)) (YD hT (akX n a b k j hj) h) ht
theorem YE{n a b k:Nat}(hT:(AI pT).size≤1500)(hn:n<1000)(ha:a<1000)(hb:b<1000)(hk:k<50):IE (AI pT) n a b k:=fun i hi=>by
 have hm:∀{x:Nat},x<1000→x*k≤999*49:=fun hx=>Nat.mul_le_mul (by omega) (by omega);have rs:∀{x:Nat},x<1000→IntKind.i64.wrap (IntKind.i64.wrap ((x:Int)*(k:Int))+1)=((x*k+1:Nat):Int):=fun{x} hx=>by
   have:=hm hx;have e1:IntKind.i64.wrap ((x*k:Nat):Int)=((x*k:Nat):Int):=IntWalk.i64_in _ (by omega);rw [← Int.natCast_mul,e1,IntWalk.i64_in _ (by omega)];omega
 have e2:IntKind.i64.wrap ((n:Int)-(n:Int))=0:=by rw[IntWalk.i64_in _ (by omega)];omega
 have h1:=hm hn;have h2:=hm ha;have h3:=hm hb;match i,hi with
 |0,_=>obtain⟨t,ht⟩:=sh (u:=(IntKind.i64.wrap (IntKind.i64.wrap ((b:Int)*(k:Int))+1))) (v:=(b:Int)) (by rw[rs hb];omega) (by omega);exact⟨t,Ev hT hn ha hb hk 0 0 (by decide) (akP n a b k) ht,Ev hT hn ha hb hk 1 0 (by decide) (akQ n a b k) ht⟩
 |1,_=>obtain⟨t,ht⟩:=sh (u:=(IntKind.i64.wrap ((a:Int)+(IntKind.i64.wrap (IntKind.i64.wrap ((a:Int)*(k:Int))+1))))) (v:=(a:Int)) (by rw[rs ha,IntWalk.i64_in _ (by omega)];omega) (by omega);exact⟨t,Ev hT hn ha hb hk 2 1 (by decide) (akR n a b k) ht,Ev hT hn ha hb hk 3 1 (by decide) (akS n a b k) ht⟩
 |2,_=>obtain⟨t,ht⟩:=sh (u:=(IntKind.i64.wrap (IntKind.i64.wrap ((n:Int)*(k:Int))+1))) (v:=(n:Int)) (by rw[rs hn];omega) (by omega);exact⟨t,Ev hT hn ha hb hk 4 2 (by decide) (akT n a b k) ht,Ev hT hn ha hb hk 5 2 (by decide) (akU n a b k) ht⟩
 |3,_=>obtain⟨t,ht⟩:=sh (u:=(IntKind.i64.wrap (IntKind.i64.wrap ((n:Int)-(n:Int))+(IntKind.i64.wrap (IntKind.i64.wrap ((n:Int)*(k:Int))+1))))) (v:=(n:Int)) (by rw[rs hn,e2,Int.zero_add,IntWalk.i64_in _ (by omega)];omega) (by omega);exact⟨t,Ev hT hn ha hb hk 6 3 (by decide) (akV n a b k) ht,Ev hT hn ha hb hk 7 3 (by decide) (akW n a b k) ht⟩
end Go.Mn
