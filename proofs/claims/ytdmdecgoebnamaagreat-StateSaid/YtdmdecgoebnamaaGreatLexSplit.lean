/- Plain law: the tokens of a text, of a blank and of another text behind it are the tokens of both. No program in sight. -/
import Derived.Test.YtdmdecgoebnamaaGreatYb
import Derived.Test.YtdmdecgoebnamaaGreatInf25
import Derived.Test.YtdmdecgoebnamaaGreatMd
import Derived.Test.YtdmdecgoebnamaaGreatSx7
set_option linter.unusedVariables false
set_option linter.unusedSimpArgs false
namespace Go.Lex
open Go.Gx (ag)
structure l_ (s' s t:Ξ) (c:UInt8):Prop where
 size:s'.size=s.size+1+t.size
 left:∀k,k<s.size->ag s' k=ag s k
 mid:ag s' s.size=c
 right:∀k,k<t.size->ag s' (s.size+1+k)=ag t k
theorem Hg{s t:Ξ}{a b n:Nat}(h1:a+n<=s.size)(h2:b+n<=t.size)(h:∀m,m<n->ag s (a+m)=ag t (b+m)):s.extract a (a+n)=t.extract b (b+n):=by
 apply jd;rw[ByteArray.toList_eq,ByteArray.toList_eq];apply List.ext_getElem?;intro i;have e:∀(x:Ξ)(p:Nat),p+n<=x.size->(x.extract p (p+n)).data.toList[i]?=if i<n then some (ag x (p+i)) else none:=by
   intro x p hp;have sP:p+n<=x.data.size:=hp;rw[ByteArray.data_extract,Array.getElem?_toList,Array.getElem?_extract];by_cases hi:i<n
   . rw[if_pos (by omega),if_pos hi];unfold ag;rw[Array.getElem?_eq_getElem (by omega)];rfl
   . rw[if_neg (by omega),if_neg hi]
 rw[e s a h1,e t b h2];by_cases hi:i<n
 . rw[if_pos hi,if_pos hi,h i hi]
 . rw[if_neg hi,if_neg hi]
section
variable {s' s t:Ξ} {c:UInt8}
theorem l_.ac5(h:l_ s' s t c){a b:Nat}(HB:a<=b)(hb:b<=s.size):s'.extract a b=s.extract a b:=by
 have hs:=h.size;obtain⟨n,rfl⟩:∃n,b=a+n:=⟨b-a,by omega⟩;exact Hg (by omega) hb (fun m hm=>h.left _ (by omega))
theorem l_.ac6(h:l_ s' s t c){a b:Nat}(HB:a<=b)(hb:b<=t.size):s'.extract (s.size+1+a) (s.size+1+b)=t.extract a b:=by
 have hs:=h.size;obtain⟨n,rfl⟩:∃n,b=a+n:=⟨b-a,by omega⟩;have:=Hg (s:=s') (t:=t) (a:=s.size+1+a) (b:=a) (n:=n) (by omega) hb (fun m hm=>by rw[Nat.add_assoc];exact h.right _ (by omega));rw[<- this];congr 1;omega
theorem l_.LH(h:l_ s' s t c){p:UInt8->Bool}(hp:p c=false)(k:Nat)(hk:k<=s.size):stop p s' k=stop p s k:=by
 have hs:=h.size;by_cases eK:k<s.size
 . by_cases Th:p (ag s k)=true
   . rw[fN eK Th,fN (by omega) (by rw[h.left k eK];exact Th)];exact l_.LH h hp (k+1) eK
   . rw[ft (fun q=>Th q.2),ft (fun q=>Th (by rw[<- h.left k eK];exact q.2))]
 . obtain rfl:k=s.size:=by omega
   rw[ft (fun q=>eK q.1),ft (fun q=>by rw[h.mid,hp] at q;cases q.2)]
termination_by s.size-k
theorem l_.jP(h : l_ s' s t c)(hb : dx c = true)(hc : c.toNat = 10 ∨ ∀ k, k < s.size -> (ag s k).toNat ≠ 35)(k : Nat)(hk : k <= s.size) :
   (pass s k<s.size->pass s' k=pass s k)/\(¬pass s k<s.size->pass s' k=pass s' (s.size+1)):=by
 have hs:=h.size;by_cases eK:k<s.size
 . have MW:=h.left k eK;by_cases h1:dx (ag s k)=true
   . rw[jb eK h1,jb (s:=s') (by omega) (by rw[MW];exact h1)];exact l_.jP h hb hc (k+1) eK
   . by_cases h2:((ag s k).toNat:Int)=35
     . have h10:c.toNat=10:=hc.resolve_right (fun q=>q k eK (by omega));have hn:cZ c=false:=by unfold cZ;simp;omega
       have cT:=l_.LH h hn (k+1) eK;have hle:=dU cZ s (k+1) eK;have hge:=cV cZ s (k+1);rw[jA eK h2,jA (s:=s') (by omega) (by rw[MW];exact h2),cT];exact l_.jP h hb hc _ hle
     . rw[kK eK h1 h2,kK (s:=s') (by omega) (by rw[MW];exact h1) (by rw[MW];exact h2)];exact⟨fun _=>rfl,fun q=>absurd eK q⟩
 . obtain rfl:k=s.size:=by omega
   rw[pq eK];refine⟨fun q=>absurd q eK,fun _=>?_⟩;rw[jb (s:=s') (by omega) (by rw[h.mid];exact hb)]
termination_by s.size-k
theorem l_.Zr(h:l_ s' s t c){j:Nat}:∀m,j+m<=s.size->e_ s' j m=e_ s j m
 |0,_=>rfl
 |m+1,hm=>by
   simp only[e_];rw[l_.Zr h m (by omega),h.left _ (by omega)]
theorem NN(hb:dx c=true):aj c=false/\az c=false:=by
 have h0:=(qM c).1 hb;constructor
 . rw[Bool.eq_false_iff];intro q;have:=(qK c).1 q;omega
 . rw[Bool.eq_false_iff];intro q;have:=(HW c).1 q;omega
theorem Ca{x:Ξ}{a b:UInt8}(h:x.toList=[a,b])(hb:dx b=true):ju x=false:=by
 have h0:=(qM b).1 hb;unfold ju;rw[h];have:∀(p q:UInt8),q.toNat=58∨q.toNat=61∨q.toNat=62->([a,b]==(⟨#[p,q]⟩:Ξ).toList)=false:=by
   intro p q hq;rw[ByteArray.toList_eq,beq_eq_false_iff_ne];intro e;have e2:b=q:=by simpa using(List.cons.inj (List.cons.inj e).2).1
   subst e2;omega
 rw[this 58 58 (by decide),this 61 61 (by decide),this 61 62 (by decide),this 45 62 (by decide)];rfl
theorem Xw{x:Ξ}{j:Nat}(h:j+2<=x.size):(x.extract j (j+2)).toList=[ag x j,ag x (j+1)]:=by
 have h':j+2<=x.data.size:=h;rw[ByteArray.toList_eq,ByteArray.data_extract];apply List.ext_getElem?;intro i;rw[Array.getElem?_toList,Array.getElem?_extract];unfold ag;rcases i with _|_|i
 . rw[if_pos (by omega),Array.getElem?_eq_getElem (by omega),Array.getElem?_eq_getElem (by omega)];rfl
 . rw[if_pos (by omega),Array.getElem?_eq_getElem (by omega),Array.getElem?_eq_getElem (by omega)];rfl
 . rw[if_neg (by omega)];rfl
theorem l_.aic(h:l_ s' s t c)(hb:dx c=true){j:Nat}(hj:j<s.size):cH s' j=cH s j:=by
 have hs:=h.size;unfold cH;by_cases h2:j+2<=s.size
 . rw[h.ac5 (by omega) h2,decide_eq_true (show((j+2:Nat):Int)<=(s'.size:Int) by omega),decide_eq_true (show((j+2:Nat):Int)<=(s.size:Int) by omega)]
 . have e:j+1=s.size:=by omega
   rw[decide_eq_false (show ¬((j+2:Nat):Int)<=(s.size:Int) by omega),decide_eq_true (show((j+2:Nat):Int)<=(s'.size:Int) by omega),
     Ca (Xw (by omega)) (by rw[e,h.mid];exact hb)]
   rfl
theorem l_.TE(h:l_ s' s t c)(hb:dx c=true){j:Nat}(hj:j<s.size):cU s' j=cU s j:=by
 obtain⟨hd,hl⟩:=NN hb;have xL:=dU aj s j (by omega);have hs2:=dU (fun c=>az c||aj c) s j (by omega);have HQ:=cV aj s j;have zI:=cV (fun c=>az c||aj c) s j;unfold cU;rw[h.left j hj];by_cases h1:aj (ag s j)=true
 . rw[if_pos h1,if_pos h1];unfold tK eg;rw[h.LH hd j (by omega),h.Zr _ (by omega),h.left j hj]
 . rw[if_neg h1,if_neg h1];by_cases h2:az (ag s j)=true
   . rw[if_pos h2,if_pos h2];unfold nameAt;rw[h.LH (p:=fun c=>az c||aj c) (by simp[hd,hl]) j (by omega),h.ac5 zI hs2]
   . rw[if_neg h2,if_neg h2];by_cases h3:oL (ag s j)=true
     . have hle : j + cH s j <= s.size := by
         unfold cH;split
         . rename_i q;simp only[Bool.and_eq_true,decide_eq_true_eq] at q;omega
         . omega
       rw[if_pos h3,if_pos h3,h.aic hb hj,h.ac5 (by omega) hle]
     . rw[if_neg h3,if_neg h3]
theorem l_.Hh(h:l_ s' s t c)(p:UInt8->Bool)(k:Nat)(hk:k<=t.size):stop p s' (s.size+1+k)=s.size+1+stop p t k:=by
 have hs:=h.size;by_cases eK:k<t.size
 . by_cases Th:p (ag t k)=true
   . rw[fN eK Th,fN (by omega) (by rw[h.right k eK];exact Th)];exact l_.Hh h p (k+1) eK
   . rw[ft (fun q=>Th q.2),ft (fun q=>Th (by rw[<- h.right k eK];exact q.2))]
 . rw[ft (fun q=>eK q.1),ft (fun q=>by omega)]
termination_by t.size-k
theorem l_.TH(h:l_ s' s t c)(k:Nat)(hk:k<=t.size):pass s' (s.size+1+k)=s.size+1+pass t k:=by
 have hs:=h.size;by_cases eK:k<t.size
 . have MW:=h.right k eK;by_cases h1:dx (ag t k)=true
   . rw[jb eK h1,jb (s:=s') (by omega) (by rw[MW];exact h1)];exact l_.TH h (k+1) eK
   . by_cases h2:((ag t k).toNat:Int)=35
     . have cT:=l_.Hh h cZ (k+1) eK;have hle:=dU cZ t (k+1) eK;have hge:=cV cZ t (k+1);rw[jA eK h2,jA (s:=s') (by omega) (by rw[MW];exact h2),show s.size+1+k+1=s.size+1+(k+1) by omega,cT];exact l_.TH h _ hle
     . rw[kK eK h1 h2,kK (s:=s') (by omega) (by rw[MW];exact h1) (by rw[MW];exact h2)]
 . rw[pq eK,pq (by omega)]
termination_by t.size-k
theorem l_.TI(h:l_ s' s t c){j:Nat}:∀m,j+m<=t.size->e_ s' (s.size+1+j) m=e_ t j m
 |0,_=>rfl
 |m+1,hm=>by
   simp only[e_];rw[l_.TI h m (by omega),Nat.add_assoc,h.right _ (by omega)]
def sig(x:Nx):Nat×Ξ×Nat:=(x.kind,x.text,x.n)
theorem l_.aid(h:l_ s' s t c){j:Nat}(hj:j<t.size):cH s' (s.size+1+j)=cH t j:=by
 have hs:=h.size;unfold cH;by_cases h2:j+2<=t.size
 . rw[Nat.add_assoc (s.size+1) j 2,h.ac6 (by omega) h2,decide_eq_true (show((s.size+1+(j+2):Nat):Int)<=(s'.size:Int) by omega),decide_eq_true (show((j+2:Nat):Int)<=(t.size:Int) by omega)]
 . rw[decide_eq_false (show ¬((j+2:Nat):Int)<=(t.size:Int) by omega),decide_eq_false (show ¬((s.size+1+j+2:Nat):Int)<=(s'.size:Int) by omega)];rfl
def Zs(o:Nat)(x y:Nx):Prop:=sig x=sig y/\x.fk=y.fk/\(y.fk=0->x.nx=o+y.nx)
theorem l_.aou(h:l_ s' s t c){j:Nat}(hj:j<t.size):Zs (s.size+1) (cU s' (s.size+1+j)) (cU t j):=by
 have xL:=dU aj t j (by omega);have hs2:=dU (fun c=>az c||aj c) t j (by omega);have HQ:=cV aj t j;have zI:=cV (fun c=>az c||aj c) t j;unfold cU;rw[h.right j hj];by_cases h1:aj (ag t j)=true
 . rw [if_pos h1, if_pos h1];have e1 : eg s' (s.size + 1 + j) (stop aj s' (s.size + 1 + j)) = eg t j (stop aj t j) := by
     unfold eg;rw[h.Hh aj j (by omega),show s.size+1+stop aj t j-(s.size+1+j)=stop aj t j-j by omega,h.TI _ (by omega),h.right j hj]
   unfold tK;rw[e1];by_cases h2:eg t j (stop aj t j)=true
   . rw[if_pos h2,if_pos h2,h.Hh aj j (by omega),show s.size+1+stop aj t j-(s.size+1+j)=stop aj t j-j by omega,h.TI _ (by omega)];exact⟨rfl,rfl,fun _=>rfl⟩
   . rw[if_neg h2,if_neg h2];exact⟨rfl,rfl,fun q=>by cases q⟩
 . rw[if_neg h1,if_neg h1];by_cases h2:az (ag t j)=true
   . rw[if_pos h2,if_pos h2];unfold nameAt;rw[h.Hh (fun c=>az c||aj c) j (by omega),show s.size+1+stop (fun c=>az c||aj c) t j-(s.size+1+j)=stop (fun c=>az c||aj c) t j-j by omega,h.ac6 zI hs2];by_cases h3:stop (fun c=>az c||aj c) t j-j>20
     . rw[if_pos h3,if_pos h3];exact⟨rfl,rfl,fun q=>by cases q⟩
     . rw[if_neg h3,if_neg h3];exact⟨rfl,rfl,fun _=>rfl⟩
   . rw[if_neg h2,if_neg h2];by_cases h3:oL (ag t j)=true
     . have hle : j + cH t j <= t.size := by
         unfold cH;split
         . rename_i q;simp only[Bool.and_eq_true,decide_eq_true_eq] at q;omega
         . omega
       rw[if_pos h3,if_pos h3,h.aid hj,Nat.add_assoc (s.size+1) j,h.ac6 (by omega) hle];exact⟨rfl,rfl,fun _=>rfl⟩
     . rw[if_neg h3,if_neg h3];exact⟨rfl,rfl,fun q=>by cases q⟩
theorem l_.cr(h:l_ s' s t c){i:Nat}(hi:i<=t.size):Zs (s.size+1) (next s' (s.size+1+i)) (next t i):=by
 have hs:=h.size;have hp:=h.TH i hi;have hle:=tJ t i hi;unfold next
 rw[hp];by_cases h1:pass t i<t.size
 . rw[if_pos h1,if_pos (by omega)];exact h.aou h1
 . rw[if_neg h1,if_neg (by omega)];exact⟨rfl,rfl,fun _=>by rw[hs]⟩
def sigs(r:List Nx×Nat×Nat):List (Nat×Ξ×Nat)×Nat:=(r.1.map sig,r.2.1)
theorem TJ{x y:Nx}{r q:List Nx×Nat×Nat}(h1:sig x=sig y)(h2:sigs r=sigs q):sigs (iF x r)=sigs (iF y q):=by
 obtain⟨a,b,c⟩:=r;obtain⟨a',b',c'⟩:=q;simp only[sigs,Prod.mk.injEq] at h2;obtain⟨h3,h4⟩:=h2;subst h4;unfold iF sigs;by_cases h:b=0
 . simp[h,h1,h3]
 . simp[h]
theorem l_.LI(h:l_ s' s t c)(i:Nat)(hi:i<=t.size):sigs (im s' (s.size+1+i))=sigs (im t i):=by
 have hs:=h.size;obtain⟨m1,m2,m3⟩:=h.cr hi;have mk:(next s' (s.size+1+i)).kind=(next t i).kind:=congrArg Prod.fst m1;by_cases h1:(next t i).fk=0
 . by_cases h2:(next t i).kind=0
   . rw[kP h1 h2,kP (by omega) (by omega)];simp[sigs,m1]
   . have hp:=kL hi h1 h2;rw[jv hi h1 h2,jv (by omega) (by omega) (by omega),m3 h1];exact TJ m1 (l_.LI h _ hp.2)
 . rw[je h1,je (by omega)];simp[sigs,m2]
termination_by t.size-i
theorem EM{x:Ξ}{i j:Nat}(h:pass x i=pass x j):next x i=next x j:=by unfold next;rw[h]
theorem EN{x:Ξ}{i j:Nat}(h:pass x i=pass x j)(hi:i<=x.size)(hj:j<=x.size):im x i=im x j:=by
 have e:=EM h;by_cases h1:(next x j).fk=0
 . by_cases h2:(next x j).kind=0
   . rw[kP h1 h2,kP (by rw[e];exact h1) (by rw[e];exact h2),e]
   . rw[jv hj h1 h2,jv hi (by rw[e];exact h1) (by rw[e];exact h2),e]
 . rw[je h1,je (by rw[e];exact h1),e]
theorem Be{x:Ξ}{i:Nat}(h:(next x i).fk=0)(hk:(next x i).kind=0):¬pass x i<x.size:=by
 intro eK;unfold next at h hk
 rw[if_pos eK] at h hk;unfold cU at h hk;split at hk
 . rename_i h1;rw[if_pos h1] at h;unfold tK at h hk;split at hk
   . cases hk
   . rename_i h2;rw[if_neg h2] at h;cases h
 . rename_i h1;rw[if_neg h1] at h;split at hk
   . rename_i h2;rw[if_pos h2] at h;unfold nameAt at h hk;split at hk
     . rename_i h3;rw[if_pos h3] at h;cases h
     . rename_i h3;simp only at hk;split at hk<;>cases hk
   . rename_i h2;rw[if_neg h2] at h;split at hk
     . cases hk
     . rename_i h3;rw[if_neg h3] at h;cases h
theorem l_.Zt(h : l_ s' s t c)(hb : dx c = true)(hc : c.toNat = 10 ∨ ∀ k, k < s.size -> (ag s k).toNat ≠ 35)(i : Nat)(hi : i <= s.size)(hok : (im s i).2.1 = 0)(ht : (im t 0).2.1 = 0) :
   sigs (im s' i)=(((im s i).1.dropLast++(im t 0).1).map sig,0)/\(im s i).1≠[]:=by
 have hs:=h.size;by_cases h1:(next s i).fk=0
 . by_cases h2:(next s i).kind=0
   . have hp:=(h.jP hb hc i hi).2 (Be h1 h2);have e1:=EN hp (by omega) (by omega);have e2:=h.LI 0 (by omega);rw[kP h1 h2,e1];refine⟨?_,by simp⟩;rw[Nat.add_zero] at e2;rw[e2];simp[sigs,ht]
   . have hp := kL hi h1 h2;have eK : pass s i < s.size := by
       rcases Nat.lt_or_ge (pass s i) s.size with q|q
       . exact q
       . exfalso;apply h2;unfold next;rw[if_neg (by omega)]
     have e:next s' i=next s i:=by
       unfold next
       rw[(h.jP hb hc i hi).1 eK,if_pos eK,if_pos (by omega)];exact h.TE hb eK
     have hg:=jv hi h1 h2;rw[hg] at hok;have aie:(im s (next s i).nx).2.1=0:=by
       unfold iF at hok;split at hok
       . assumption
       . exact hok
     have ih:=l_.Zt h hb hc (next s i).nx hp.2 aie ht;rw[jv (s:=s') (by omega) (by rw[e];exact h1) (by rw[e];exact h2),e,hg];have ea:iF (next s i) (im s (next s i).nx)=(next s i::(im s (next s i).nx).1,(im s (next s i).nx).2):=by unfold iF;rw[if_pos aie]
     rw[ea];refine⟨?_,by simp⟩;have i1:=ih.1;simp only[sigs,Prod.mk.injEq] at i1;unfold iF sigs;rw[if_pos i1.2];simp only[Prod.mk.injEq,List.map_cons];refine⟨?_,i1.2⟩;rw[i1.1];obtain⟨y,r,hyr⟩:=List.exists_cons_of_ne_nil ih.2;rw[hyr];simp
 . rw[je h1] at hok;exact absurd hok h1
termination_by s.size-i
end
theorem cW{a b:Ξ}(k:Nat):ag (a++b) k=if k<a.size then ag a k else ag b (k-a.size):=by
 unfold ag;rw[ByteArray.data_append,Array.getElem?_append];have:a.data.size=a.size:=rfl;rw[this];split<;>rfl
theorem Bf(c:UInt8):ag ⟨#[c]⟩ 0=c:=rfl
theorem tq(s t:Ξ)(c:UInt8):l_ ((s++⟨#[c]⟩)++t) s t c:=by
 have h1:(⟨#[c]⟩:Ξ).size=1:=rfl;refine⟨by simp[ByteArray.size_append,h1],fun k hk=>?_,?_,fun k hk=>?_⟩
 . rw[cW,if_pos (by rw[ByteArray.size_append];omega),cW,if_pos hk]
 . rw[cW,if_pos (by rw[ByteArray.size_append,h1];omega),cW,if_neg (by omega),Nat.sub_self];rfl
 . rw[cW,if_neg (by rw[ByteArray.size_append,h1];omega),ByteArray.size_append,h1];congr 1;omega
theorem append_assoc'(a b c:Ξ):a++b++c=a++(b++c):=by
 apply jd;simp[ByteArray.toList_eq,ByteArray.data_append]
theorem qH(a:Ξ):(bY [])++a=a:=by
 apply jd;simp[ByteArray.toList_eq,ByteArray.data_append]
theorem wT(a:Ξ):a++(bY [])=a:=by
 apply jd;simp[ByteArray.toList_eq,ByteArray.data_append]
def aif(n:Nat)(acc:Ξ):Ξ:=
 if n/10=0 then(⟨#[UInt8.ofNat (48+n%10)]⟩:Ξ)++acc else aif (n/10) ((⟨#[UInt8.ofNat (48+n%10)]⟩:Ξ)++acc)
termination_by n
decreasing_by omega
def Xx(x:Nx):Ξ:=if x.kind=1 then aif x.n ⟨#[]⟩ else x.text
structure Good (m:Nat) (x:Nx):Prop where
 kind:1<=x.kind/\x.kind<=4
 num:x.n<=fu
 size:(Xx x).size<=m
 quiet:∀k,k<(Xx x).size->(ag (Xx x) k).toNat≠35
 im:sigs (im (Xx x) 0)=([sig x,(0,⟨#[]⟩,0)],0)
end Go.Lex
namespace Go.dy.N
open Go.Lex Go.dy
def En(S:Ξ):Nat->Nat
 |0=>0
 |i+1=>(next S (En S i)).nx
def goE(q:Rs)(x:Nx):Rs:=⟨x.kind,x.at_,x.text,x.n,q.e+1,x.fk,x.fa,q.x,q.y⟩
def oW(tk:Nat->Nx)(q:Rs):Rs:=if Nat.beq q.fk 0 then goE q (tk q.e) else q
def tr(tk:Nat->Nx):Nd×Nat×Nat:=
 let r:=run sj (oW tk) tS .prog (oW tk Uz)
 let q:=ib r.2
 if Nat.beq q.fk 0 then(r.1,0,0) else(gS,q.fk,q.fa)
theorem Hi(S:Ξ)(q:Rs):cr S (ph (En S) q)=ph (En S) (oW (fun i=>next S (En S i)) q):=by
 unfold cr oW;rw[show okB (ph (En S) q)=Nat.beq q.fk 0 from oH q.fk 0];split<;>rfl
theorem NO{S:Ξ}(h:S.size<=3000):jf S=tr (fun i=>next S (En S i)):=by
 have hl:∀q,ib (ph (En S) q)=ph (En S) (ib q):=fun q=>by
   unfold ib;rw[Zp,ah8];split
   . split
     . rw[Hf]
     . rfl
   . rfl
 have h0:cr S Uz=ph (En S) (oW (fun i=>next S (En S i)) Uz):=Hi S Uz;unfold jf tr;rw[if_neg (by omega),run_eq,ac2,h0,Bd (Hi S)];generalize run sj (oW fun i=>next S (En S i)) tS .prog (oW (fun i=>next S (En S i)) Uz)=r;show(if okB (ib (ph (En S) r.2))=true then(r.1,0,0) else(gS,(ib (ph (En S) r.2)).fk,(ib (ph (En S) r.2)).fa))=(if Nat.beq (ib r.2).fk 0=true then(r.1,0,0) else(gS,(ib r.2).fk,(ib r.2).fa));rw[hl,show okB (ph (En S) (ib r.2))=Nat.beq (ib r.2).fk 0 from oH _ 0];rfl
def Zu(sg:List (Nat×Ξ×Nat))(r:Nat->Nx)(i:Nat):Nx:=match sg[i]? with
 |some x=>⟨x.1,(r i).at_,x.2.1,x.2.2,(r i).nx,0,(r i).fa⟩
 |none=>r i
theorem LK(S:Ξ):∀(m j:Nat)(x:Nx),En S j<=S.size->(im S (En S j)).2.1=0->(im S (En S j)).1[m]?=some x->x=next S (En S (j+m))/\x.fk=0
 |m,j,x,hj,h0,hx=>by
   by_cases h1:(next S (En S j)).fk=0
   . by_cases h2:(next S (En S j)).kind=0
     . rw[kP h1 h2] at hx;match m,hx with
       |0,hx=>cases hx;exact⟨rfl,h1⟩
       |m+1,hx=>cases hx
     . have hp := kL hj h1 h2;rw [jv hj h1 h2] at hx h0;have e : (im S (next S (En S j)).nx).2.1 = 0 := by
         unfold iF at h0;split at h0
         . assumption
         . exact absurd h0 ‹_›
       unfold iF at hx;rw[if_pos e] at hx;match m,hx with
       |0,hx=>cases hx;exact⟨rfl,h1⟩
       |m+1,hx=>
         rw[show j+(m+1)=(j+1)+m by omega];exact LK S m (j+1) x hp.2 e hx
   . rw[je h1] at h0;exact absurd h0 h1
theorem NP{S:Ξ}{sg:List (Nat×Ξ×Nat)}(h:S.size<=3000)(ht:sigs (im S 0)=(sg,0)):jf S=tr (Zu sg (fun i=>next S (En S i))):=by
 rw[NO h];have e:oW (fun i=>next S (En S i))=oW (Zu sg (fun i=>next S (En S i))):=by
   funext q;unfold oW Zu;split
   . cases hs:sg[q.e]? with
     |none=>rfl
     |some s=>
       simp only[sigs,Prod.mk.injEq] at ht;obtain⟨h1,h2⟩:=ht;rw[<- h1,List.getElem?_map,Option.map_eq_some_iff] at hs;obtain⟨x,hx,hs⟩:=hs;obtain⟨h3,h4⟩:=LK S q.e 0 x (Nat.zero_le _) h2 hx;rw[Nat.zero_add] at h3;subst hs;show goE q (next S (En S q.e))=goE q ⟨x.kind,(next S (En S q.e)).at_,x.text,x.n,(next S (En S q.e)).nx,0,(next S (En S q.e)).fa⟩;rw[<- h3];unfold goE;rw[h4]
   . rfl
 unfold tr;rw[e]
abbrev Tk:=Nat×Ξ×Nat
def Zv{α:Type}(r:Nat->Nx)(q:bu α)(i:Nat)(x:Option Tk)(e:α):bu α:=match x with
 |some x=>⟨x.1,(r i).at_,x.2.1,x.2.2,e,0,(r i).fa,q.x,q.y⟩
 |none=>⟨(r i).kind,(r i).at_,(r i).text,(r i).n,e,(r i).fk,(r i).fa,q.x,q.y⟩
theorem EO{α β:Type}(E:α->β)(r:Nat->Nx)(q:bu α)(i:Nat)(x:Option Tk)(e:α):Zv r (ph E q) i x (E e)=ph E (Zv r q i x e):=by cases x<;>rfl
section
variable (r:Nat->Nx)
def N2(q:bu (List Tk×Nat)):bu (List Tk×Nat):=if Nat.beq q.fk 0 then Zv r q q.e.2 q.e.1.head? (q.e.1.tail,q.e.2+1) else q
abbrev P1(sg:List Tk):={p:List Tk×Nat // p.1=sg.drop p.2}
def N1{sg:List Tk}(q:bu (P1 sg)):bu (P1 sg):=if Nat.beq q.fk 0 then Zv r q q.e.1.2 q.e.1.1.head? ⟨(q.e.1.1.tail,q.e.1.2+1),by rw[q.e.2,List.tail_drop]⟩ else q
def s0(sg:List Tk):bu (List Tk×Nat):=⟨0,0,⟨#[]⟩,0,(sg,0),0,0,0,0⟩
theorem Xy{sg:List Tk}{d:Nd}{q:bu (List Tk×Nat)}(h:run sj (N2 r) tS .prog (N2 r (s0 sg))=(d,q))(h1:q.fk=0)(h2:q.k=0):tr (Zu sg r)=(d,0,0):=by
 have n1:∀q:bu (P1 sg),oW (Zu sg r) (ph (fun p:P1 sg=>p.1.2) q)=ph (fun p:P1 sg=>p.1.2) (N1 r q):=fun q=>by
   unfold oW N1;show(if Nat.beq q.fk 0 then _ else _)=_;split
   . have hh:q.e.1.1.head?=sg[q.e.1.2]?:=by rw[q.e.2,List.head?_drop]
     rw[<- EO];show goE _ (Zu sg r q.e.1.2)=Zv r _ q.e.1.2 q.e.1.1.head? (q.e.1.2+1);rw[hh];unfold Zu goE;cases sg[q.e.1.2]?<;>rfl
   . rfl
 have n2:∀q:bu (P1 sg),N2 r (ph (fun p:P1 sg=>p.1) q)=ph (fun p:P1 sg=>p.1) (N1 r q):=fun q=>by
   unfold N2 N1;show(if Nat.beq q.fk 0 then _ else _)=_;split
   . exact EO (fun p:P1 sg=>p.1) r q _ _ ⟨(q.e.1.1.tail,q.e.1.2+1),by rw[q.e.2,List.tail_drop]⟩
   . rfl
 let q1:bu (P1 sg):=⟨0,0,⟨#[]⟩,0,⟨(sg,0),rfl⟩,0,0,0,0⟩;have e1:=Bd n1 tS .prog (N1 r q1);have e2:=Bd n2 tS .prog (N1 r q1);rw[<- n1 q1] at e1;rw[<- n2 q1] at e2;rw[show ph (fun p:P1 sg=>p.1) q1=s0 sg from rfl,h] at e2;rw[show ph (fun p:P1 sg=>p.1.2) q1=Uz from rfl] at e1;unfold tr;rw[e1];generalize run sj (N1 r) tS .prog (N1 r q1)=R at e2;have e3:R.1=d:=(congrArg Prod.fst e2).symm;have e4:ph (fun p:P1 sg=>p.1) R.2=q:=(congrArg Prod.snd e2).symm;have e5:R.2.fk=0:=by rw[<- h1,<-e4];rfl
 have e6:R.2.k=0:=by rw[<- h2,<-e4];rfl
 have e7:ib (ph (fun p:P1 sg=>p.1.2) R.2)=ph (fun p:P1 sg=>p.1.2) R.2:=by
   unfold ib;rw[show(((ph (fun p:P1 sg=>p.1.2) R.2).k:Int) != 0)=false by show((R.2.k:Int) != 0)=false;rw[e6];rfl];split<;>rfl
 show(if Nat.beq (ib (ph (fun p:P1 sg=>p.1.2) R.2)).fk 0=true then(R.1,0,0) else _)=_;rw[e7,show(ph (fun p:P1 sg=>p.1.2) R.2).fk=0 from e5,e3];rfl
def LL(c x:Nat)(e:List Tk)(T:Nat->Nat->Nd):Prop:=∀k,c<=k->∀(a i y fa:Nat)(t:Tk)(l:List Tk),run sj (N2 r) k .atom ⟨4,a,⟨#[40]⟩,0,(e++t::l,i),0,fa,x,y⟩=(T a i,⟨t.1,(r (i+e.length)).at_,t.2.1,t.2.2,(l,i+e.length+1),0,(r (i+e.length)).fa,x,y⟩)
inductive Pl (c:Nat)
 |fin (l:List Tk)
 |tk (x:Tk) (l:Pl c)
 |raw (e:List Tk) (l:Pl c)
 |sub (e:List Tk) (T:Nat->Nat->Nd) (x:Nat) (h:LL r c x e T) (t:Tk) (l:Pl c)
variable {c:Nat}
def Pl.flat:Pl r c->List Tk
 |.fin l=>l
 |.tk x l=>x::l.flat
 |.raw e l=>e++l.flat
 |.sub e _ _ _ t l=>e++t::l.flat
def Pl.rd:Pl r c->Option (Tk×Pl r c)
 |.fin []=>none
 |.fin (x::l)=>some (x,.fin l)
 |.tk x l=>some (x,l)
 |.raw [] l=>l.rd
 |.raw (x::e) l=>some (x,.raw e l)
 |.sub [] _ _ _ t l=>some (t,l)
 |.sub (x::e) _ _ _ t l=>some (x,.raw e (.tk t l))
def Pl.sq(p:Pl r c):List Tk->Pl r c
 |[]=>p
 |x::l=>.tk x (p.sq l)
theorem uS(p:Pl r c)(l:List Tk):(p.sq r l).flat=l++p.flat:=by
 induction l with
 |nil=>rfl
 |cons x l ih=>show x::_=_;rw[ih];rfl
theorem rd_some:∀{p:Pl r c}{x:Tk}{l:Pl r c},p.rd=some (x,l)->p.flat=x::l.flat
 |.fin (x::l),_,_,h=>by cases h;rfl
 |.tk x l,_,_,h=>by cases h;rfl
 |.raw [] l,_,_,h=>rd_some (p:=l) h
 |.raw (x::e) l,_,_,h=>by cases h;rfl
 |.sub [] _ _ _ t l,_,_,h=>by cases h;rfl
 |.sub (x::e) _ _ _ t l,_,_,h=>by cases h;rfl
theorem LM:∀{p:Pl r c},p.rd=none->p.flat=[]
 |.fin [],_=>rfl
 |.raw [] l,h=>LM (p:=l) h
 |.fin (x::l),h|.tk x l,h|.raw (x::e) l,h|.sub [] _ _ _ t l,h|.sub (x::e) _ _ _ t l,h=>by cases h
def E3(p:Pl r c×Nat):List Tk×Nat:=(p.1.flat,p.2)
def N3(q:bu (Pl r c×Nat)):bu (Pl r c×Nat):=if Nat.beq q.fk 0 then(match q.e.1.rd with
 |some (x,l)=>Zv r q q.e.2 (some x) (l,q.e.2+1)
 |none=>Zv r q q.e.2 none (.fin [],q.e.2+1)) else q
theorem n3(q:bu (Pl r c×Nat)):N2 r (ph (E3 r) q)=ph (E3 r) (N3 r q):=by
 unfold N2 N3;show(if Nat.beq q.fk 0 then Zv r (ph (E3 r) q) q.e.2 q.e.1.flat.head? (q.e.1.flat.tail,q.e.2+1) else _)=_;split
 . split
   . rename_i x l h;rw[rd_some r h,<-EO];rfl
   . rename_i h;rw[LM r h,<-EO];rfl
 . rfl
def orc(q:bu (Pl r c×Nat)):Option (Nd×bu (Pl r c×Nat)):=match q.e.1 with
 |.sub e T x _ t l=>if Nat.beq q.fk 0&&Nat.beq q.k 4&&U3 q.t ⟨#[40]⟩&&Nat.beq q.n 0&&Nat.beq q.x x then some (T q.a q.e.2,⟨t.1,(r (q.e.2+e.length)).at_,t.2.1,t.2.2,(l,q.e.2+e.length+1),0,(r (q.e.2+e.length)).fa,x,q.y⟩) else none
 |_=>none
def isAtom:NT->Bool
 |.atom=>true
 |_=>false
def LO(b:Nat):Nat->NT->bu (Pl r c×Nat)->Nd×bu (Pl r c×Nat)
 |0=>run sj (N3 r) b
 |j+1=>fun nt q=>match isAtom nt with
   |true=>match orc r q with
     |some s=>s
     |none=>aF sj (N3 r) (LO b j) nt q
   |false=>aF sj (N3 r) (LO b j) nt q
theorem Xz{a b:Ξ}(h:U3 a b=true):a=b:=ByteArray.ext (Array.toList_inj.1 (eq_of_beq h))
theorem LN{b:Nat}(hb:c<=b):∀(j:Nat)(nt:NT)(q:bu (Pl r c×Nat)),run sj (N2 r) (b+j) nt (ph (E3 r) q)=OG (E3 r) (LO r b j nt q)
 |0,nt,q=>Bd (n3 r) b nt q
 |j+1,nt,q=>by
   have ih:=LN hb j;have st:run sj (N2 r) (b+(j+1)) nt (ph (E3 r) q)=OG (E3 r) (aF sj (N3 r) (LO r b j) nt q):=LG (n3 r) ih nt q;unfold LO;cases nt;case atom=>
     dsimp only[isAtom];cases ho:orc r q with
     |none=>exact st
     |some s=>
       obtain⟨qk,qa,qt,qn,⟨qp,qi⟩,qf,qg,qx,qy⟩:=q;unfold orc at ho;dsimp only at ho;split at ho
       . rename_i e T x h t l;split at ho
         . rename_i hc;simp only[Bool.and_eq_true,Nat.beq_eq] at hc;obtain⟨⟨⟨⟨rfl,rfl⟩,h3⟩,rfl⟩,rfl⟩:=hc;obtain rfl:=Xz h3;cases ho;exact h (b+(j+1)) (by omega) qa qi qy qg t l.flat
         . cases ho
       . cases ho
   all_goals exact st
end
end Go.dy.N
namespace Go.dy.N
open Go.Lex Go.dy Go.Mn
open Go.Gx (ag)
abbrev Sg:=List (Nat×Ξ×Nat)
def TK(s:Ξ)(sg:Sg):Prop:=sigs (im s 0)=(sg,0)
theorem TL{s t:Ξ}{c:UInt8}{g1 g2:Sg}(h1:TK s g1)(h2:TK t g2)(hb:dx c=true)(hc:c.toNat=10∨∀k,k<s.size->(ag s k).toNat≠35):TK ((s++⟨#[c]⟩)++t) (g1.dropLast++g2):=by
 simp only[TK,sigs,Prod.mk.injEq] at h1 h2;have:=((tq s t c).Zt hb hc 0 (Nat.zero_le _) h1.2 h2.2).1;rw[TK,this,List.map_append,h2.1,<-h1.1,List.map_dropLast]
theorem TM(n:Nat):0<(aP n).size:=by
 by_cases h:n/10=0
 . rw[k_ h];exact Nat.one_pos
 . rw[vy h,ByteArray.size_append];exact Nat.lt_of_lt_of_le Nat.one_pos (Nat.le_add_left 1 _)
theorem oI{a b:Ξ}{k:Nat}(h:k<a.size):ag (a++b) k=ag a k:=by rw[cW,if_pos h]
theorem aih(m:Nat):aj (UInt8.ofNat (48+m%10))=true/\(UInt8.ofNat (48+m%10)).toNat=48+m%10:=by
 have:(UInt8.ofNat (48+m%10)).toNat=48+m%10:=by rw[UInt8.toNat_ofNat'];omega
 exact⟨(qK _).2 (by omega),this⟩
theorem LP(n:Nat):(∀k,k<(aP n).size->aj (ag (aP n) k)=true)/\(0<n->(ag (aP n) 0).toNat≠48)/\∀t,e_ (aP n++t) 0 (aP n).size=n:=by
 have hd:=aih n;by_cases h:n/10=0
 . rw[k_ h];refine⟨fun k hk=>?_,fun h0=>?_,fun t=>?_⟩
   . obtain rfl:k=0:=Nat.lt_one_iff.1 hk;exact hd.1
   . show(UInt8.ofNat (48+n%10)).toNat≠48;omega
   . show e_ _ 0 (0+1)=n;rw[e_,e_,Nat.zero_add,oI Nat.one_pos,Bf,hd.2];omega
 . have ih:=LP (n/10);have hz:=TM (n/10);rw[vy h];refine⟨fun k hk=>?_,fun h0=>?_,fun t=>?_⟩
   . rw[ByteArray.size_append] at hk;by_cases On:k<(aP (n/10)).size
     . rw[oI On];exact ih.1 k On
     . have hk:k<(aP (n/10)).size+1:=hk;rw[cW,if_neg On,show k-(aP (n/10)).size=0 by omega];exact hd.1
   . rw[oI hz];exact ih.2.1 (by omega)
   . rw[ByteArray.size_append,append_assoc'];show e_ _ 0 ((aP (n/10)).size+1)=n;rw[e_,ih.2.2,Nat.zero_add,cW,if_neg (Nat.lt_irrefl _),Nat.sub_self,oI Nat.one_pos,Bf,hd.2];omega
termination_by n
decreasing_by omega
theorem pT{n:Nat}{t:Ξ}(hn:n<=fu)(ht:t.size=0∨aj (ag t 0)=false):next (aP n++t) 0=⟨1,0,⟨#[]⟩,n,(aP n).size,0,0⟩:=by
 obtain⟨h1,h2,h3⟩:=LP n;have hz:=TM n;have hs:(aP n++t).size=(aP n).size+t.size:=ByteArray.size_append;have hd:aj (ag (aP n++t) 0)=true:=by rw[oI hz];exact h1 0 hz
 have hdi:=(qK _).1 hd;have hp:pass (aP n++t) 0=0:=kK (by omega) (by rw[qM];omega) (by omega);have cT:stop aj (aP n++t) 0=(aP n).size:=by
   have go:∀m k,k+m=(aP n).size->stop aj (aP n++t) k=(aP n).size:=fun m=>by
     induction m with
     |zero=>
       intro k hk;rw[ft (fun q=>?_)]
       . omega
       . obtain⟨q1,q2⟩:=q;rcases ht with e|e
         . omega
         . rw[cW,if_neg (by omega),show k-(aP n).size=0 by omega,e] at q2;cases q2
     |succ m ih=>
       intro k hk;rw[fN (by omega) (by rw[oI (by omega)];exact h1 k (by omega))];exact ih (k+1) (by omega)
   exact go (aP n).size 0 (Nat.zero_add _)
 unfold next
 rw[hp,if_pos (by omega)];unfold cU;rw[if_pos hd];unfold tK;rw[cT,Nat.sub_zero,h3,Cg ?_ (by rw[Nat.sub_zero,h3];exact hn),if_pos rfl];rintro⟨q1,q2⟩;rw[oI hz] at q2;by_cases h0:0<n
 . exact h2 h0 q2
 . obtain rfl:n=0:=by omega
   rw[k_ rfl] at q1;exact absurd q1 (by decide)
theorem ac7{n:Nat}{t:Ξ}{g:Sg}(hn:n<=fu)(ht:t.size=0∨aj (ag t 0)=false)(h:TK t g):TK (aP n++t) ((1,⟨#[]⟩,n)::g):=by
 have e:=pT hn ht;obtain⟨s0,c,hs⟩:∃s0 c,aP n=s0++⟨#[c]⟩:=by
   by_cases h:n/10=0
   . exact⟨⟨#[]⟩,_,by rw[k_ h,qH]⟩
   . exact⟨_,_,vy h⟩
 have hc:l_ (aP n++t) s0 t c:=by rw[hs];exact tq s0 t c
 have hr:=hc.LI 0 (Nat.zero_le _);have hz:(aP n).size=s0.size+1:=by rw[hs,ByteArray.size_append];rfl
 rw[Nat.add_zero,<-hz] at hr;have hf:(next (aP n++t) 0).fk=0:=by rw[e]
 rw[TK,jv (Nat.zero_le _) hf (by rw[e];exact Nat.one_ne_zero),e];rw[TK] at h;rw[h] at hr;simp only[sigs,Prod.mk.injEq] at hr;simp only[sigs,iF,hr.2,if_pos,List.map_cons,hr.1];rfl
def TN(l:List UInt8)(n:Nat):Nat->Nat->Option Sg
 |0,_=>none
 |f+1,i=>if Nat.beq (wS l n i).fk 0 then(if Nat.beq (wS l n i).kind 0 then some [sig (wS l n i)] else match TN l n f (wS l n i).nx with
   |some g=>some (sig (wS l n i)::g)
   |none=>none) else none
theorem yY(s:Ξ):∀(f i:Nat)(g:Sg),i<=s.size->TN s.data.toList s.size f i=some g->sigs (im s i)=(g,0)
 |0,_,_,_,h=>by cases h
 |f+1,i,g,hi,h=>by
   unfold TN at h;rw[<- He] at h;split at h
   . rename_i h1;rw[Nat.beq_eq] at h1;split at h
     . rename_i h2;rw[Nat.beq_eq] at h2;cases h;rw[kP h1 h2];rfl
     . rename_i h2;have h2:(next s i).kind≠0:=fun q=>h2 (by rw[q];rfl);have hp:=kL hi h1 h2;split at h
       . rename_i g' hg;cases h;have:=yY s f _ g' hp.2 hg;rw[jv hi h1 h2];simp only[sigs,Prod.mk.injEq] at this;simp only[sigs,iF,this.2,if_pos,List.map_cons,this.1]
       . cases h
   . cases h
def TO(s:Ξ):Option Sg:=TN s.data.toList s.size 3001 0
def Zw(s:Ξ):Bool:=s.data.toList.all fun c=>! Nat.beq c.toNat 35
theorem XA{s:Ξ}(h:Zw s=true):∀k,k<s.size->(ag s k).toNat≠35:=fun k hk e=>by
 have hm:ag s k∈s.data.toList:=by
   have:=qG hk;exact List.mem_of_mem_drop (i:=k) (by show ag s k∈D s k;rw[this];exact .head _)
 have:=List.all_eq_true.1 h _ hm;rw[e] at this;exact absurd this (by decide)
def LQ(s:Ξ):Bool:=match s.data.toList with
 |[]=>true
 |c::_=>! aj c
theorem XB{s t:Ξ}(h:LQ s=true)(ht:t.size=0∨aj (ag t 0)=false):(s++t).size=0∨aj (ag (s++t) 0)=false:=by
 by_cases hz:0<s.size
 . right;rw[oI hz];have:=qG hz;rw[show D s 0=s.data.toList from rfl] at this;unfold LQ at h;rw[this] at h;simpa using h
 . have : s = ⟨#[]⟩ := by
     apply ByteArray.ext;apply Array.eq_empty_of_size_eq_zero;have:s.data.size=s.size:=rfl;omega
   rw[this,qH];exact ht
end Go.dy.N
namespace Go.dy.N
open Go.Lex Go.dy Go.Mn
open Go.Gx (ag)
set_option maxRecDepth 100000
def XC(l:List UInt8):List Tk:=match TN l l.length 3001 0 with
 |some g=>g.dropLast
 |none=>[]
def EP(P:Φ):Nat->Prop
 |0=>True
 |n+1=>P n/\EP P n
theorem EP.at{P:Nat->Prop}:∀{n x:Nat},EP P n->x<n->P x
 |n+1,x,h,hx=>by
   by_cases e:x=n
   . subst e;exact h.1
   . exact h.2.at (by omega)
abbrev tE:Tk:=(4,⟨#[41]⟩,0)
abbrev yB(l:List UInt8):Ξ:=⟨l.toArray⟩
abbrev uN(a:Nat):Nd:=.mk 5 a ⟨#[]⟩ 0 []
abbrev vN(a:Nat)(nm:Ξ):Nd:=.mk 6 a nm 0 []
abbrev iN(a:Nat)(n:Int):Nd:=.mk 3 a ⟨#[]⟩ n []
abbrev dN(a:Nat)(nm:Ξ)(x:Nd):Nd:=.mk 19 a nm 0 [x]
abbrev gN(a b:Nat):Nd:=dN a (yB [103,101,116]) (uN b)
section
variable (r:Nat->Nx)
def P_(i:Nat):Nat:=(r i).at_
def aQ(a i x y fa:Nat){c:Nat}(p:Pl r c):bu (Pl r c×Nat):=⟨4,a,⟨#[40]⟩,0,(p,i),0,fa,x,y⟩
def aZ(i x y:Nat){c:Nat}(t:Tk)(p:Pl r c):bu (Pl r c×Nat):=⟨t.1,(r i).at_,t.2.1,t.2.2,(p,i+1),0,(r i).fa,x,y⟩
def lTq(T:Nat->Nat->Nd)(_ i:Nat):Nd:=.mk 9 (P_ r i) (yB [97]) 0 [gN (P_ r (i+3)) (P_ r (i+5)),.mk 18 (P_ r (i+8)) (yB [43]) 0 [vN (P_ r (i+8)) (yB [97]),T (P_ r (i+10)) (i+11)]]
def pT_(k:Nat)(T:Nat->Nat->Nd)(_ i:Nat):Nd:=.mk 10 (P_ r i) ⟨#[]⟩ 0 [dN (P_ r i) (yB [112,117,116]) (iN (P_ r (i+2)) k),T (P_ r (i+4)) (i+5)]
def qT(T:Nat->Nat->Nd)(_ i:Nat):Nd:=.mk 10 (P_ r i) ⟨#[]⟩ 0 [dN (P_ r i) (yB [112,117,116]) (.mk 18 (P_ r (i+3)) (yB [43]) 0 [gN (P_ r (i+3)) (P_ r (i+5)),iN (P_ r (i+8)) 1]),T (P_ r (i+11)) (i+12)]
def zT(a _:Nat):Nd:=iN a 0
def lL:List Tk:=XC [108,101,116,32,97,32,61,32,100,111,32,103,101,116,32,40,41,32,105,110,32,97,32,43]
def pL_(k:Nat):List Tk:=XC [100,111,32,112,117,116]++(1,⟨#[]⟩,k)::XC [59]
def qL:List Tk:=XC [100,111,32,112,117,116,32,40,100,111,32,103,101,116,32,40,41,32,43,32,49,41,59]
def aox(x:Nat):Prop:=∀(r:Nat->Nx)(c b:Nat)(e:List Tk)(T:Nat->Nat->Nd)(h:LL r c (x+2) e T)(a i y fa:Nat)(t:Tk)(l:List Tk),LO r b 200 .atom (aQ r a i x y fa (Pl.sq r (.sub e T (x+2) h tE (.tk t (.fin l))) (lL++[(4,⟨#[40]⟩,0)])))=(lTq r T a i,aZ r (i+11+e.length+1) x y t (.fin l))
def aoy(x:Nat):Prop:=∀(r:Nat->Nx)(b a i y fa:Nat)(t:Tk)(l:List Tk),LO r b 200 .atom (aQ r a i x y fa (c:=0) (Pl.sq r (.tk t (.fin l)) (lL++[(1,⟨#[]⟩,0),tE])))=(lTq r zT a i,aZ r (i+12) x y t (.fin l))
theorem TP:EP aox 60:=by repeat' first|exact trivial|(refine⟨fun _ _ _ _ _ _ _ _ _ _ _ _=>by kernel_rfl,?_⟩)
theorem TQ:EP aoy 60:=by repeat' first|exact trivial|(refine⟨fun _ _ _ _ _ _ _ _=>by kernel_rfl,?_⟩)
def aoz(x:Nat):Prop:=∀(k:Nat)(r:Nat->Nx)(c b:Nat)(e:List Tk)(T:Nat->Nat->Nd)(h:LL r c (x+2) e T)(a i y fa:Nat)(t:Tk)(l:List Tk),LO r b 200 .atom (aQ r a i x y fa (Pl.sq r (.sub e T (x+2) h tE (.tk t (.fin l))) ((pL_ k)++[(4,⟨#[40]⟩,0)])))=(pT_ r k T a i,aZ r (i+5+e.length+1) x y t (.fin l))
def aoA(x:Nat):Prop:=∀(k:Nat)(r:Nat->Nx)(b a i y fa:Nat)(t:Tk)(l:List Tk),LO r b 200 .atom (aQ r a i x y fa (c:=0) (Pl.sq r (.tk t (.fin l)) ((pL_ k)++[(1,⟨#[]⟩,0),tE])))=(pT_ r k zT a i,aZ r (i+6) x y t (.fin l))
theorem TR:EP aoz 60:=by repeat' first|exact trivial|(refine⟨fun _ _ _ _ _ _ _ _ _ _ _ _ _=>by kernel_rfl,?_⟩)
theorem TS:EP aoA 60:=by repeat' first|exact trivial|(refine⟨fun _ _ _ _ _ _ _ _ _=>by kernel_rfl,?_⟩)
def aoB(x:Nat):Prop:=∀(r:Nat->Nx)(c b:Nat)(e:List Tk)(T:Nat->Nat->Nd)(h:LL r c (x+2) e T)(a i y fa:Nat)(t:Tk)(l:List Tk),LO r b 200 .atom (aQ r a i x y fa (Pl.sq r (.sub e T (x+2) h tE (.tk t (.fin l))) (qL++[(4,⟨#[40]⟩,0)])))=(qT r T a i,aZ r (i+12+e.length+1) x y t (.fin l))
def aoC(x:Nat):Prop:=∀(r:Nat->Nx)(b a i y fa:Nat)(t:Tk)(l:List Tk),LO r b 200 .atom (aQ r a i x y fa (c:=0) (Pl.sq r (.tk t (.fin l)) (qL++[(1,⟨#[]⟩,0),tE])))=(qT r zT a i,aZ r (i+13) x y t (.fin l))
theorem TT:EP aoB 60:=by repeat' first|exact trivial|(refine⟨fun _ _ _ _ _ _ _ _ _ _ _ _=>by kernel_rfl,?_⟩)
theorem TU:EP aoC 60:=by repeat' first|exact trivial|(refine⟨fun _ _ _ _ _ _ _ _=>by kernel_rfl,?_⟩)
end
section
variable (r:Nat->Nx)
theorem JR{c x n:Nat}{e:List Tk}{T T':Nat->Nat->Nd}{L:List Tk}(hL:L.length=n)(h:LL r c (x+2) e T)(hp:∀(b a i y fa:Nat)(t:Tk)(l:List Tk),LO r b 200 .atom (aQ r a i x y fa (Pl.sq r (.sub e T (x+2) h tE (.tk t (.fin l))) L))=(T' a i,aZ r (i+n+e.length+1) x y t (.fin l))):LL r (c+200) x (L++(e++[tE])) T':=fun k hk a i y fa t l=>by
 obtain⟨b,rfl⟩:∃b,k=b+200:=⟨k-200,by omega⟩;have h1:=LN r (c:=c) (b:=b) (by omega) 200 .atom (aQ r a i x y fa (Pl.sq r (.sub e T (x+2) h tE (.tk t (.fin l))) L));rw[hp] at h1;have e1:i+(L++(e++[tE])).length=i+n+e.length+1:=by simp[hL];omega
 have e2:L++(e++[tE])++t::l=(Pl.sq r (.sub e T (x+2) h tE (.tk t (.fin l))) L).flat:=by rw[uS];simp[Pl.flat]
 rw[e1,e2];exact h1
theorem ER{x n:Nat}{T':Nat->Nat->Nd}{L:List Tk}(hL:L.length=n)(hp:∀(b a i y fa:Nat)(t:Tk)(l:List Tk),LO r b 200 .atom (aQ r a i x y fa (c:=0) (Pl.sq r (.tk t (.fin l)) L))=(T' a i,aZ r (i+n) x y t (.fin l))):LL r 200 x L T':=fun k hk a i y fa t l=>by
 obtain⟨b,rfl⟩:∃b,k=b+200:=⟨k-200,by omega⟩;have h1:=LN r (c:=0) (b:=b) (Nat.zero_le _) 200 .atom (aQ r a i x y fa (Pl.sq r (.tk t (.fin l)) L));rw[hp] at h1;have e2:L++t::l=(Pl.sq r (c:=0) (.tk t (.fin l)) L).flat:=by rw[uS];simp[Pl.flat]
 rw[hL,e2];exact h1
theorem LL.mono{c c' x:Nat}{e:List Tk}{T:Nat->Nat->Nd}(h:LL r c x e T)(hc:c<=c'):LL r c' x e T:=fun k hk=>h k (by omega)
abbrev tA:Tk:=(4,⟨#[40]⟩,0)
abbrev tZ:Tk:=(1,⟨#[]⟩,0)
def lead(k:Nat):List Tk:=if k%3=0 then lL else if k%3=1 then pL_ k else qL
def bK:List Nat->List Tk
 |[]=>[]
 |k::l=>lead k++(match l with
   |[]=>[tZ,tE]
   |_::_=>tA::(bK l++[tE]))
def tT:List Nat->Nat->Nat->Nd
 |[]=>zT
 |k::l=>if k%3=0 then lTq r (tT l) else if k%3=1 then pT_ r k (tT l) else qT r (tT l)
theorem TV:∀(l:List Nat)(k x:Nat),x+2*l.length<60->LL r (200*(l.length+1)) x (bK (k::l)) (tT r (k::l))
 |[],k,x,hx=>by
   have hx:x<60:=by simpa using hx
   rw[bK,tT,lead];by_cases h0:k%3=0
   . rw[if_pos h0,if_pos h0];exact ER r (n:=12) rfl (fun b a i y fa t l=>TQ.at hx r b a i y fa t l)
   . rw[if_neg h0,if_neg h0];by_cases h1:k%3=1
     . rw[if_pos h1,if_pos h1];exact ER r (n:=6) rfl (fun b a i y fa t l=>TS.at hx k r b a i y fa t l)
     . rw[if_neg h1,if_neg h1];exact ER r (n:=13) rfl (fun b a i y fa t l=>TU.at hx r b a i y fa t l)
 |j::l,k,x,hx=>by
   have hx:x+2*(l.length+1)<60:=by simpa using hx
   have ih:=TV l j (x+2) (by omega);have e:∀L:List Tk,L++tA::(bK (j::l)++[tE])=(L++[tA])++(bK (j::l)++[tE]):=fun L=>by simp
   rw[bK,tT,lead];show LL r (200*(l.length+1+1)) x (_++tA::(bK (j::l)++[tE])) _;rw[e];by_cases h0:k%3=0
   . rw[if_pos h0,if_pos h0];exact JR r (n:=11) rfl ih (fun b a i y fa t m=>TP.at (by omega) r _ b _ _ ih a i y fa t m)
   . rw[if_neg h0,if_neg h0];by_cases h1:k%3=1
     . rw[if_pos h1,if_pos h1];exact JR r (n:=5) rfl ih (fun b a i y fa t m=>TR.at (by omega) k r _ b _ _ ih a i y fa t m)
     . rw[if_neg h1,if_neg h1];exact JR r (n:=12) rfl ih (fun b a i y fa t m=>TT.at (by omega) r _ b _ _ ih a i y fa t m)
end
def TW(s:Ξ)(e:List Tk):Prop:=∀(t:Ξ)(g:List Tk),TK t g->TK (s++t) (e++g)
theorem TW.cat{s u:Ξ}{e f:List Tk}(h:TW s e)(k:TW u f):TW (s++u) (e++f):=fun t g ht=>by
 rw[append_assoc',List.append_assoc];exact h _ _ (k t g ht)
theorem Be(t:Ξ):next (⟨#[41]⟩++t) 0=⟨4,0,⟨#[41]⟩,0,1,0,0⟩:=by
 have key:∀(l:List UInt8)(n:Nat),wS (41::l) n 0=⟨4,0,⟨#[41]⟩,0,1,0,0⟩:=fun l n=>by
   cases l with
   |nil=>kernel_rfl
   |cons c l=>kernel_rfl
 rw[He,show((bY [41])++t).data.toList=41::t.data.toList by simp[ByteArray.data_append]];exact key _ _
theorem yZ:TW ⟨#[41]⟩ [tE]:=fun t g h=>by
 have e:=Be t;have hr:=(show l_ (⟨#[41]⟩++t) ⟨#[]⟩ t 41 by have:=tq ⟨#[]⟩ t 41;rwa [qH] at this).LI 0 (Nat.zero_le _);have hz:(bY []).size=0:=rfl;rw[hz] at hr;have hf:(next (⟨#[41]⟩++t) 0).fk=0:=by rw[e]
 rw[TK,jv (Nat.zero_le _) hf (by rw[e];decide),e];rw[TK] at h;rw[h] at hr;simp only[sigs,Prod.mk.injEq] at hr;simp only[sigs,iF,hr.2,if_pos,List.map_cons,hr.1];rfl
theorem ri{s:Ξ}{e:List Tk}{z:Tk}(h:TO s=some (e++[z]))(hh:Zw s=true):TW (s++⟨#[32]⟩) e:=fun t g ht=>by
 have:=TL (c:=32) (yY s 3001 0 _ (Nat.zero_le _) h) ht (by decide) (.inr (XA hh));rwa [List.dropLast_concat] at this
theorem XD{s t:Ξ}(h:LQ s=true)(hs:0<s.size):(s++t).size=0∨aj (ag (s++t) 0)=false:=by
 have:=XB (s:=s) (t:=⟨#[]⟩) h (.inl rfl);rw[wT] at this;rcases this with q|q
 . omega
 . exact .inr (by rw[oI hs];exact q)
theorem y_{n:Nat}(hn:n<=fu){s:Ξ}{e:List Tk}(h:TW s e)(hb:LQ s=true)(hs:0<s.size):TW (aP n++s) ((1,⟨#[]⟩,n)::e):=fun t g ht=>by
 rw[append_assoc'];exact ac7 hn (XD hb hs) (h t g ht)
def wU(k:Nat):Ξ:=if k%3=0 then yB [40,108,101,116,32,97,32,61,32,100,111,32,103,101,116,32,40,41,32,105,110,32,97,32,43,32] else if k%3=1 then(yB [40,100,111,32,112,117,116,32]++aP k)++yB [59,32] else yB [40,100,111,32,112,117,116,32,40,100,111,32,103,101,116,32,40,41,32,43,32,49,41,59,32]
def wV:List Nat->Ξ
 |[]=>yB [48]
 |k::l=>wU k++wV l++yB [41]
theorem Hj{k:Nat}(hk:k<=fu):TW (wU k) (tA::lead k):=by
 unfold wU lead;split
 . exact ri (s:=yB [40,108,101,116,32,97,32,61,32,100,111,32,103,101,116,32,40,41,32,105,110,32,97,32,43]) (z:=(0,⟨#[]⟩,0)) (by kernel_rfl) (by kernel_rfl)
 . split
   . rw[append_assoc'];exact TW.cat (e:=[tA,(3,yB [100,111],0),(2,yB [112,117,116],0)]) (ri (s:=yB [40,100,111,32,112,117,116]) (z:=(0,⟨#[]⟩,0)) (by kernel_rfl) (by kernel_rfl)) (y_ hk (ri (s:=yB [59]) (z:=(0,⟨#[]⟩,0)) (by kernel_rfl) (by kernel_rfl)) (by kernel_rfl) (by decide))
   . exact ri (s:=yB [40,100,111,32,112,117,116,32,40,100,111,32,103,101,116,32,40,41,32,43,32,49,41,59]) (z:=(0,⟨#[]⟩,0)) (by kernel_rfl) (by kernel_rfl)
theorem Zx:∀(l:List Nat)(k:Nat),(∀x∈k::l,x<=fu)->TW (wV (k::l)) (tA::bK (k::l))
 |[],k,h=>by
   have:=(Hj (h k (.head _))).cat (y_ (n:=0) (Nat.zero_le _) yZ (by decide) (by decide));rw[<- append_assoc',show aP 0=yB [48] from k_ rfl] at this;exact this
 |j::l,k,h=>by
   have ih:=Zx l j (fun x hx=>h x (.tail _ hx));have:=(Hj (h k (.head _))).cat (ih.cat yZ);rw[<- append_assoc'] at this;exact this
end Go.dy.N
namespace Go.Mn
open Go.RowKit Go.Sx Go.aR Go.Gx Go.dy
def fh(n:Int)(m:Nat):Nat:=(n%(m:Int)).toNat
theorem uU(n:Int){m:Nat}(h:0<m):fh n m<m:=by
 have h1:=Int.emod_nonneg n (b:=(m:Int)) (by omega);have h2:=Int.emod_lt_of_pos n (b:=(m:Int)) (by omega);unfold fh;omega
theorem LR(n:Int){m:Nat}(h:0<m):(-(m:Int)<Int.tmod n m/\Int.tmod n m<m)/\(Int.tmod n m<0->Int.tmod n m+(m:Int)=((fh n m:Nat):Int))/\(¬Int.tmod n m<0->Int.tmod n m=((fh n m:Nat):Int)):=by
 have hm:(0:Int)<m:=by omega
 have h1:=Int.emod_nonneg n (b:=(m:Int)) (by omega);have h2:=Int.emod_lt_of_pos n hm;have h3:Int.tmod n m<m:=Int.tmod_lt_of_pos n hm;have h4: -(m:Int)<Int.tmod n m:=by
   have:=Int.tmod_lt_of_pos (-n) hm;rw[Int.neg_tmod] at this;omega
 have e:((fh n m:Nat):Int)=n%(m:Int):=by unfold fh;omega
 have h5:(Int.tmod n m)%(m:Int)=n%(m:Int):=by
   have:=Int.tmod_add_mul_tdiv n m;conv=>rhs;rw[<- this]
   rw[Int.add_mul_emod_self_left]
 rw[e];refine⟨⟨h4,h3⟩,fun q=>?_,fun q=>?_⟩
 . rw[<- h5,<-Int.add_emod_right];exact(Int.emod_eq_of_lt (by omega) (by omega)).symm
 . rw[<- h5];exact(Int.emod_eq_of_lt (by omega) h3).symm
theorem Hk(l:List UInt8):(⟨l.toArray⟩:Ξ).size=l.length:=by simp[ByteArray.size]
end Go.Mn
namespace Go.Mn
open Go.RowKit Go.Sx Go.aR Go.Gx Go.dy Go.Lex
theorem iS:∀(k:Nat){n:Nat},n<10 ^ (k+1)->(aP n).size<=k+1
 |0,n,h=>by rw[k_ (by omega),BI];omega
 |k+1,n,h=>by
   by_cases q:n/10=0
   . rw[k_ q,BI];omega
   . have:=iS k (n:=n/10) (by rw[Nat.pow_succ] at h;omega);rw[vy q,ByteArray.size_append,BI];omega
end Go.Mn
namespace Go.dy.N
open Go.Lex Go.dy Go.Mn Go.aR
set_option maxRecDepth 100000
abbrev tF:Tk:=(0,⟨#[]⟩,0)
noncomputable def JS(p:List Nat):List Tk:=match TO (mC (OF p)) with
 |some g=>g.dropLast
 |none=>[]
def TX{c:Nat}(r:Nat->Nx)(p:Pl r c):Nd×bu (Pl r c×Nat):=LO r 47100 1000 .prog (N3 r ⟨0,0,⟨#[]⟩,0,(p,0),0,0,0,0⟩)
theorem TY{c:Nat}{r:Nat->Nx}{p:Pl r c}{sg:List Tk}(hs:p.flat=sg)(hc:c<=47100)(h1:(TX r p).2.fk=0)(h2:(TX r p).2.k=0):tr (Zu sg r)=((TX r p).1,0,0):=by
 subst hs;refine Xy r (q:=ph (E3 r) (TX r p).2) ?_ h1 h2;have e:N2 r (s0 p.flat)=ph (E3 r) (N3 r (⟨0,0,⟨#[]⟩,0,(p,0),0,0,0,0⟩:bu (Pl r c×Nat))):=n3 r (⟨0,0,⟨#[]⟩,0,(p,0),0,0,0,0⟩:bu (Pl r c×Nat));rw[e];exact LN r hc 1000 .prog _
theorem ac8{p:List Nat}{a:List Tk}{t:Ξ}{g:List Tk}(ha:TO (mC (OF p))=some a)(h:TK t g):TK ((mC (OF p)++⟨#[10]⟩)++t) (a.dropLast++g):=TL (yY _ 3001 0 a (Nat.zero_le _) ha) h (by decide) (.inl rfl)
theorem TZ:TK ⟨#[]⟩ [tF]:=yY ⟨#[]⟩ 3001 0 [tF] (Nat.le_refl _) (by kernel_rfl)
abbrev pS:List Nat:=[1,0,1,0,1,0,0]
abbrev mS:List Tk:=[(3,yB [109,97,105,110],0),(4,yB [61],0),(2,yB [115,116,97,116,101],0)]
abbrev fS:List Tk:=[tA,(3,yB [102,110],0),(2,yB [117],0),(4,yB [61,62],0)]
def eL:List Nat->List Tk
 |[]=>[tZ]
 |k::l=>tA::bK (k::l)
theorem T0{n:Nat}(hn:n<=fu){l:List Nat}(hl:∀x∈l,x<=fu):TK ((mC (OF pS)++⟨#[10]⟩)++(yB [32,109,97,105,110,32,61,32,115,116,97,116,101,32]++(aP n++(yB [32,40,102,110,32,117,32,61,62,32]++(wV l++(yB [41]++⟨#[]⟩)))))) (JS pS++(mS++((1,⟨#[]⟩,n)::(fS++(eL l++[tE,tF]))))):=by
 have h1:TK (wV l++(yB [41]++⟨#[]⟩)) (eL l++[tE,tF]):=by
   cases l with
   |nil=>
     have:=y_ (n:=0) (Nat.zero_le _) yZ (by decide) (by decide) _ _ TZ;rwa [append_assoc',show aP 0=yB [48] from k_ rfl] at this
   |cons k l=>exact Zx l k hl _ _ (yZ _ _ TZ)
 have h2:=y_ hn (ri (s:=yB [32,40,102,110,32,117,32,61,62]) (e:=fS) (z:=tF) (by kernel_rfl) (by kernel_rfl)) (by kernel_rfl) (by decide) _ _ h1;rw[append_assoc'] at h2;have h3:=ri (s:=yB [32,109,97,105,110,32,61,32,115,116,97,116,101]) (e:=mS) (z:=tF) (by kernel_rfl) (by kernel_rfl) _ _ h2;unfold JS;cases ha:TO (mC (OF pS)) with
 |none=>
   have q:(TO (mC (OF pS))).isSome=true:=by kernel_rfl
   rw[ha] at q;cases q
 |some a=>exact ac8 ha h3
noncomputable def T1(n:Nat):List Tk:=JS pS++(mS++((1,⟨#[]⟩,n)::fS))
noncomputable def oJ(r:Nat->Nx)(n:Nat):List Nd:=(TX r (Pl.sq r (c:=0) (.fin [tZ,tE,tF]) (T1 n))).1.ks.take 3
noncomputable def jS:Nat:=(JS pS).length+8
noncomputable def wW(r:Nat->Nx)(n:Nat)(E:Nd):Nd:=.mk 8 (P_ r (jS-6)) ⟨#[]⟩ 0 [.mk 8 (P_ r (jS-6)) ⟨#[]⟩ 0 [vN (P_ r (jS-6)) (yB [115,116,97,116,101]),iN (P_ r (jS-5)) n],.mk 7 (P_ r (jS-3)) (yB [117]) 0 [E]]
theorem T2(r:Nat->Nx)(n:Nat){c:Nat}(e:List Tk)(T:Nat->Nat->Nd)(h:LL r c 3 e T):(TX r (Pl.sq r (.sub e T 3 h tE (.fin [tF])) (T1 n++[tA]))).1=.mk 0 0 ⟨#[]⟩ 2 (oJ r n++[wW r n (T (P_ r jS) (jS+1))]):=by kernel_rfl
theorem NQ(r:Nat->Nx)(n:Nat):(TX r (Pl.sq r (c:=0) (.fin [tZ,tE,tF]) (T1 n))).1=.mk 0 0 ⟨#[]⟩ 2 (oJ r n++[wW r n (zT (P_ r jS) (jS+1))]):=by kernel_rfl
theorem Zy(r:Nat->Nx)(n:Nat){c:Nat}(e:List Tk)(T:Nat->Nat->Nd)(h:LL r c 3 e T):(TX r (Pl.sq r (.sub e T 3 h tE (.fin [tF])) (T1 n++[tA]))).2.fk=0/\(TX r (Pl.sq r (.sub e T 3 h tE (.fin [tF])) (T1 n++[tA]))).2.k=0:=⟨by kernel_rfl,by kernel_rfl⟩
theorem T3(r:Nat->Nx)(n:Nat):(TX r (Pl.sq r (c:=0) (.fin [tZ,tE,tF]) (T1 n))).2.fk=0/\(TX r (Pl.sq r (c:=0) (.fin [tZ,tE,tF]) (T1 n))).2.k=0:=⟨by kernel_rfl,by kernel_rfl⟩
theorem Hl{S:Ξ}{n:Nat}{l:List Nat}(hS:S.size<=3000)(hl:l.length<=20)(ht:TK S (JS pS++(mS++((1,⟨#[]⟩,n)::(fS++(eL l++[tE,tF])))))):∃r:Nat->Nx,jf S=(.mk 0 0 ⟨#[]⟩ 2 (oJ r n++[wW r n (tT r l (P_ r jS) (jS+1))]),0,0):=by
 refine⟨fun i=>next S (En S i),?_⟩;generalize hr:(fun i=>next S (En S i))=r;rw[NP hS ht,hr];cases l with
 |nil=>
   have e:(Pl.sq r (c:=0) (.fin [tZ,tE,tF]) (T1 n)).flat=JS pS++(mS++((1,⟨#[]⟩,n)::(fS++(eL []++[tE,tF])))):=by rw[uS,T1];simp[Pl.flat,eL]
   rw[TY e (Nat.zero_le _) (T3 r n).1 (T3 r n).2,NQ];rfl
 |cons k l=>
   have h:=TV r l k 3 (by simp at hl;omega);have e:(Pl.sq r (.sub (bK (k::l)) (tT r (k::l)) 3 h tE (.fin [tF])) (T1 n++[tA])).flat=JS pS++(mS++((1,⟨#[]⟩,n)::(fS++(eL (k::l)++[tE,tF])))):=by rw[uS,T1];simp[Pl.flat,eL]
   rw[TY e (by simp at hl;omega) (Zy r n _ _ h).1 (Zy r n _ _ h).2,T2]
end Go.dy.N
namespace Go.Mn
open Go.aR Go.dy Go.dy.N Go.Lex
set_option maxRecDepth 100000
abbrev pn(k:Nat)(nm:Nm)(n:Int)(ks:List PN):PN:=.mk k 0 nm n none 0 ks
abbrev vB(nm:Nm):PN:=pn 6 nm 0 []
abbrev aB(f x:PN):PN:=pn 8 ⟨#[]⟩ 0 [f,x]
abbrev uB:PN:=pn 5 ⟨#[]⟩ 0 []
abbrev fB(nm:Nm)(b:PN):PN:=pn 7 nm 0 [b]
abbrev iB(n:Int):PN:=pn 3 ⟨#[]⟩ n []
abbrev dB(nm:Nm)(x:PN):PN:=pn 19 nm 0 [x]
abbrev pB(x y:PN):PN:=pn 18 (yB [43]) 0 [x,y]
abbrev cB(nm:Nm):PN:=pn 23 nm 0 []
theorem C_(op:Nm)(l:List Fr):∀(F:List Fr)(i:Nat),(∀f∈F,f.nd.k≠20)->h_ op (F++l) i=h_ op l (i+F.length)
 |[],_,_=>rfl
 |f::F,i,h=>by
   rw[List.cons_append,h_,clF,if_neg (h f (.head _))];simp only;rw[C_ op l F (i+1) (fun g hg=>h g (.tail _ hg)),List.length_cons,show i+1+F.length=i+(F.length+1) by omega]
theorem Zz{once : Nm -> Bool}{F S : List Fr}{op : Nm}{a b d x' JO : PN}{e e' eH : En}{us : List Bool}{x : Vl}{k m : Nat}{nm : Nm}{m2 : Int}{hk : List PN}{c : PN}{at_ : Nat}{fv : Option Vl}(hF : ∀ f ∈ F, f.nd.k ≠ 20)(hc : cJ op (hk.drop 2) 2 = some k)(Ru : hk[k]? = some c)(nX : c.ks = [a, b, d])(hl : F.length + S.length < 90000000) :
   Rc once ⟨.mk (dB op x') 0 e none::(F++.mk (pn 20 nm 0 hk) at_ eH fv::S),JO,e',some x,us⟩ ⟨S,d,.put b.nm (.res us.length (.mk (pn 20 nm 0 hk) at_ eH fv::F.reverse) op (once op)) (.put a.nm x eH),none,us++[false]⟩ 1:=by
 refine Rc.one ?_ (by simp;omega) (by simp;omega);unfold stT bkT;simp only;rw[if_pos (show(dB op x').k=19 from rfl)];unfold doT;dsimp only;rw[show(dB op x').nm=op from rfl,C_ op _ F 0 hF];have e1:h_ op (.mk (pn 20 nm 0 hk) at_ eH fv::S) (0+F.length)=some (F.length,k):=by
   rw[h_,clF,Nat.zero_add,if_pos (show(Fr.mk (pn 20 nm 0 hk) at_ eH fv).nd.k=20 from rfl)];show(match cJ op (hk.drop 2) 2 with|some k=>some (F.length,k)|none=>_)=_;rw[hc]
 simp only[e1];rw[List.getElem?_append_right (Nat.le_refl _),Nat.sub_self];simp only[List.getElem?_cons_zero];have e2:(F++Fr.mk (pn 20 nm 0 hk) at_ eH fv::S)=(F++[Fr.mk (pn 20 nm 0 hk) at_ eH fv])++S:=by simp
 rw[show(PN.ks (.mk 20 0 nm 0 none 0 hk))[k]?=some c from Ru];simp only[nX];rw[e2,List.drop_left' (by simp),if_neg (by show ¬(((0:Int)==1)=true);decide),List.take_left' (by simp)];simp
theorem ac9{once : Nm -> Bool}{S fr : List Fr}{nd f y : PN}{e e' : En}{us : List Bool}{x : Vl}{i : Nat}{op : Nm}{o u : Bool}(hu : us[i]? = some u)(ho : (o && u) = false)(hl : S.length + fr.length < 90000000) :
   Rc once ⟨.mk (aB f y) 1 e (some (.res i fr op o))::S,nd,e',some x,us⟩ ⟨fr.reverse++S,aB f y,e,some x,us.set i true⟩ 1:=by
 refine Rc.one ?_ (by simp;omega) (by simp;omega);unfold stT bkT;simp only;rw[if_neg (by show ¬(8=19);decide)];have e1:gp once ⟨[],aB f y,e,none,us⟩ 1 (some (.res i fr op o)) x=some ⟨[]++fr,aB f y,e,some x,us.set i true⟩:=by
   show(match us[i]? with|some u=>if(o&&u||! decide (([]:List Fr).length+fr.length<100000000))=true then none else some (⟨[]++fr,aB f y,e,some x,us.set i true⟩:Rn)|none=>none)=_;rw[hu];simp only[ho,Bool.false_or];rw[if_neg (by simp;omega)]
 rw[e1];simp
theorem ac_{once:Nm->Bool}{S:List Fr}{x:Nm}{e:En}{us:List Bool}{v:Vl}(h:find e x=some v)(hl:S.length<90000000):Rc once ⟨S,vB x,e,none,us⟩ ⟨S,vB x,e,some v,us⟩ 1:=by
 refine Rc.one ?_ (by simp;omega) (by simp;omega);show evT ⟨S,vB x,e,none,us⟩=_;unfold evT;show(match(match find e x with|some v=>some (⟨[],vB x,e,some v,us⟩:Rn)|none=>none) with|some q=>some { q with st:=q.st++S }|none=>none)=_;rw[h];rfl
abbrev sX:Nm:=yB [120]
abbrev sS:Nm:=yB [115]
abbrev sU:Nm:=yB [117]
abbrev sK:Nm:=yB [107]
abbrev sM:Nm:=yB [109]
abbrev sF:Nm:=yB [102]
abbrev sN:Nm:=yB [110]
abbrev sA:Nm:=yB [97]
abbrev gZ:Nm:=yB [103,101,116]
abbrev lM:Nm:=yB [112,117,116]
abbrev kSt:Nm:=yB [115,116,97,116,101]
abbrev clG:PN:=pn 22 gZ 0 [cB sU,cB sK,fB sS (aB (aB (vB sK) (vB sS)) (vB sS))]
abbrev clP:PN:=pn 22 lM 0 [cB sM,cB sK,fB sS (aB (aB (vB sK) uB) (vB sM))]
abbrev hS:List PN:=[aB (vB sF) uB,pn 21 sX 0 [fB sS (pn 12 ⟨#[]⟩ 0 [vB sX,vB sS])],clG,clP]
abbrev hB:PN:=pn 20 ⟨#[]⟩ 0 hS
abbrev sB:PN:=fB sN (fB sF (aB hB (vB sN)))
abbrev mB(n:Nat)(E:PN):PN:=pn 2 kSt 0 [sB,aB (aB (vB kSt) (iB n)) (fB sU E)]
def tB:List Nat->PN
 |[]=>iB 0
 |k::l=>if k%3=0 then pn 9 sA 0 [dB gZ uB,pB (vB sA) (tB l)] else if k%3=1 then pn 10 ⟨#[]⟩ 0 [dB lM (iB k),tB l] else pn 10 ⟨#[]⟩ 0 [dB lM (pB (dB gZ uB) (iB 1)),tB l]
theorem XE(r:Nat->Nx):∀(l:List Nat)(a i:Nat),bN (tT r l a i)=tB l
 |[],_,_=>rfl
 |k::l,a,i=>by
   rw[tT,tB];split
   . rw[<- XE r l (P_ r (i+10)) (i+11)];rfl
   . split
     . rw[<- XE r l (P_ r (i+4)) (i+5)];rfl
     . rw[<- XE r l (P_ r (i+11)) (i+12)];rfl
theorem ada(r:Nat->Nx)(n:Nat)(E:Nd):Ba ((oJ r n++[wW r n E]).drop 2)=mB n (bN E):=by kernel_rfl
abbrev yx:Nm->Bool:=E1 [(gZ,.bool true),(lM,.bool true)]
theorem aoE(r:Nat->Nx)(n:Nat)(E:Nd):pU (((oJ r n++[wW r n E]).take 2).map bN)=[(gZ,.bool true),(lM,.bool true)]:=by kernel_rfl
abbrev eM:En:=.put kSt (.fn sB .nil) .nil
abbrev eHS(n:Nat)(E:PN):En:=.put sF (.fn (fB sU E) eM) (.put sN (.int n) .nil)
abbrev HS(e:En):Fr:=.mk hB 0 e none
def IsA(A:Fr)(now:Int):Prop:=∃f x e,A=.mk (aB f (vB x)) 0 e none/\find e x=some (.int now)
def noH(F:List Fr):Prop:=∀f∈F,f.nd.k≠20
theorem lN{F:List Fr}{f:Fr}(h:noH F)(hf:f.nd.k≠20):noH (f::F):=fun g hg=>by
 cases hg with
 |head=>exact hf
 |tail _ q=>exact h g q
def GoR(r:Rn)(n:Nat)(F:List Fr)(eH:En)(now:Int)(v:Vl):Prop:=∃A' JO e' FY,IsA A' now/\Rc yx r ⟨F++HS eH::[A'],JO,e',some v,FY⟩ n
theorem T4{F:List Fr}{eH e:En}{A:Fr}{f y nd:PN}{us:List Bool}{x:Vl}{op:Nm}(hz:F.length<1000):Rc yx ⟨[.mk (aB f y) 1 e (some (.res us.length (HS eH::F.reverse) op true)),A],nd,e,some x,us++[false]⟩ ⟨F++HS eH::[A],aB f y,e,some x,(us++[false]).set us.length true⟩ 1:=by
 have:=ac9 (once:=yx) (S:=[A]) (fr:=HS eH::F.reverse) (nd:=nd) (f:=f) (y:=y) (e:=e) (e':=e) (us:=us++[false]) (x:=x) (i:=us.length) (op:=op) (o:=true) (u:=false) (by simp) rfl (by simp;omega);simpa using this
abbrev eG(now:Int)(R:Vl)(e:En):En:=.put sS (.int now) (.put sK R e)
abbrev gB:PN:=aB (aB (vB sK) (vB sS)) (vB sS)
abbrev qB:PN:=aB (aB (vB sK) uB) (vB sM)
theorem T5{f b:PN}{x:Nm}{eA e1:En}{us:List Bool}{now:Int}(hx:find eA x=some (.int now)):Rc yx ⟨[.mk (aB f (vB x)) 0 eA none],fB sS b,e1,none,us⟩ ⟨[],b,.put sS (.int now) e1,none,us⟩ 4:=by
 have a1:Rc yx ⟨[.mk (aB f (vB x)) 0 eA none],fB sS b,e1,none,us⟩ ⟨[.mk (aB f (vB x)) 1 eA (some (.fn (fB sS b) e1))],vB x,eA,none,us⟩ 2:=Rc.run (by kernel_rfl) (by simp);have a2:Rc yx ⟨[.mk (aB f (vB x)) 1 eA (some (.fn (fB sS b) e1))],vB x,eA,none,us⟩ ⟨[.mk (aB f (vB x)) 1 eA (some (.fn (fB sS b) e1))],vB x,eA,some (.int now),us⟩ 1:=ac_ hx (by simp);have a3:Rc yx ⟨[.mk (aB f (vB x)) 1 eA (some (.fn (fB sS b) e1))],vB x,eA,some (.int now),us⟩ ⟨[],b,.put sS (.int now) e1,none,us⟩ 1:=Rc.run (by kernel_rfl) (by simp);exact a1.trans (a2.trans a3)
theorem aij(R:Vl){e:En}{us:List Bool}{now:Int}:Rc yx ⟨[],gB,eG now R e,none,us⟩ ⟨[.mk (aB (vB sK) (vB sS)) 1 (eG now R e) (some R),.mk gB 0 (eG now R e) none],vB sS,eG now R e,some (.int now),us⟩ 5:=Rc.run (by kernel_rfl) (by simp)
theorem aik(R:Vl){e:En}{us:List Bool}{now:Int}:Rc yx ⟨[],qB,eG now R e,none,us⟩ ⟨[.mk (aB (vB sK) uB) 1 (eG now R e) (some R),.mk qB 0 (eG now R e) none],uB,eG now R e,some .unit,us⟩ 5:=Rc.run (by kernel_rfl) (by simp)
theorem ZA{F:List Fr}{eH e:En}{A:Fr}{us:List Bool}{now:Int}(hF:noH F)(hz:F.length<1000)(hA:IsA A now):GoR ⟨F++HS eH::[A],dB gZ uB,e,none,us⟩ 13 F eH now (.int now):=by
 obtain⟨f,x,eA,rfl,hx⟩:=hA;have s0:∀S:List Fr,S.length<90000000->Rc yx ⟨S,dB gZ uB,e,none,us⟩ ⟨.mk (dB gZ uB) 0 e none::S,uB,e,some .unit,us⟩ 2:=fun S hS=>Rc.run (by kernel_rfl) (by show S.length+2<_;omega);have s1:=Zz (once:=yx) (F:=F) (S:=[.mk (aB f (vB x)) 0 eA none]) (op:=gZ) (a:=cB sU) (b:=cB sK) (d:=fB sS gB) (x':=uB) (JO:=uB) (e:=e) (e':=e) (eH:=eH) (us:=us) (x:=.unit) (k:=2) (m:=0) (nm:=⟨#[]⟩) (m2:=0) (hk:=hS) (c:=clG) (at_:=0) (fv:=none) hF (by kernel_rfl) rfl rfl (by simp;omega);have s2:=T5 (f:=f) (b:=gB) (e1:=.put sK (.res us.length (HS eH::F.reverse) gZ true) (.put sU .unit eH)) (us:=us++[false]) hx;exact⟨_,_,_,_,⟨_,_,_,rfl,by kernel_rfl⟩,(s0 _ (by simp;omega)).trans (s1.trans (s2.trans ((aij _).trans (T4 hz))))⟩
theorem ZB{F:List Fr}{eH e e':En}{A:Fr}{us:List Bool}{now m:Int}{y JO:PN}(hF:noH F)(hz:F.length<1000)(hA:IsA A now):GoR ⟨.mk (dB lM y) 0 e none::(F++HS eH::[A]),JO,e',some (.int m),us⟩ 11 F eH m .unit:=by
 obtain⟨f,x,eA,rfl,hx⟩:=hA;have s1:=Zz (once:=yx) (F:=F) (S:=[.mk (aB f (vB x)) 0 eA none]) (op:=lM) (a:=cB sM) (b:=cB sK) (d:=fB sS qB) (x':=y) (JO:=JO) (e:=e) (e':=e') (eH:=eH) (us:=us) (x:=.int m) (k:=3) (m:=0) (nm:=⟨#[]⟩) (m2:=0) (hk:=hS) (c:=clP) (at_:=0) (fv:=none) hF (by kernel_rfl) rfl rfl (by simp;omega);have s2:=T5 (f:=f) (b:=qB) (e1:=.put sK (.res us.length (HS eH::F.reverse) lM true) (.put sM (.int m) eH)) (us:=us++[false]) hx;exact⟨_,_,_,_,⟨_,_,_,rfl,by kernel_rfl⟩,s1.trans (s2.trans ((aik _).trans (T4 hz)))⟩
def tI:List Nat->Nat->Nat×Nat
 |[],now=>(0,now)
 |k::l,now=>if k%3=0 then((tI l now).1+now,(tI l now).2) else if k%3=1 then tI l k else tI l (now+1)
theorem Bg:∀(l:List Nat)(now b:Nat),(∀k∈l,k<3000)->3000<=b->now<=b->(tI l now).1<=l.length*(b+l.length)/\(tI l now).2<=b+l.length
 |[],now,b,_,_,h=>⟨Nat.zero_le _,h⟩
 |k::l,now,b,hk,hb,h=>by
   have hl:∀k∈l,k<3000:=fun j hj=>hk j (.tail _ hj);have hm:l.length*(b+l.length)<=l.length*(b+(l.length+1)):=Nat.mul_le_mul_left _ (by omega);rw[tI,List.length_cons,Nat.succ_mul];split
   . have:=Bg l now b hl hb h;exact⟨by omega,by omega⟩
   . split
     . have:=Bg l k b hl hb (by have:=hk k (.head _);omega);exact⟨by omega,by omega⟩
     . have:=Bg l (now+1) (b+1) hl (by omega) (by omega);rw[show b+1+l.length=b+(l.length+1) by omega] at this;exact⟨by omega,by omega⟩
theorem T6{a b:Nat}(h:a+b<1000000000):IntKind.i64.wrap ((a:Int)+(b:Int))=((a+b:Nat):Int):=by rw[IntWalk.i64_in _ (by omega)];omega
theorem LS{eH:En}:∀(l:List Nat)(F:List Fr)(A:Fr)(e:En)(us:List Bool)(now b:Nat),noH F->F.length+2*l.length<900->IsA A now->(∀k∈l,k<3000)->3000<=b->b+l.length<=4000->now<=b->∃n,n<=60*l.length+1/\GoR ⟨F++HS eH::[A],tB l,e,none,us⟩ n F eH ((tI l now).2:Nat) (.int ((tI l now).1:Nat))
 |[],F,A,e,us,now,b,hF,hz,hA,_,_,_,_=>by
   refine⟨1,Nat.le_refl _,A,iB 0,e,us,hA,?_⟩;have key:∀S:List Fr,S.length<90000000->Rc yx ⟨S,iB 0,e,none,us⟩ ⟨S,iB 0,e,some (.int 0),us⟩ 1:=fun S hS=>Rc.run (by kernel_rfl) (by show S.length+1<_;omega);exact key _ (by simp at hz ⊢;omega)
 |k::l,F,A,e,us,now,b,hF,hz,hA,hk,hb,Ys,hn=>by
   have hl:∀k∈l,k<3000:=fun j hj=>hk j (.tail _ hj);rw[List.length_cons] at hz Ys;rw[tB,tI,List.length_cons];have len:∀G:List Fr,G.length<80000000->∀B:Fr,(G++HS eH::[B]).length<90000000:=fun G hG B=>by simp;omega
   by_cases h0:k%3=0
   . rw[if_pos h0,if_pos h0];have bd:=Bg l now b hl hb hn;have bm:l.length*(b+l.length)<=4000*4000:=Nat.mul_le_mul (by omega) (by omega);have t1:∀S:List Fr,S.length<90000000->Rc yx ⟨S,pn 9 sA 0 [dB gZ uB,pB (vB sA) (tB l)],e,none,us⟩ ⟨.mk (pn 9 sA 0 [dB gZ uB,pB (vB sA) (tB l)]) 0 e none::S,dB gZ uB,e,none,us⟩ 1:=fun S hS=>Rc.run (by kernel_rfl) (by show S.length+1<_;omega);obtain⟨A1,nd1,e1,T7,hA1,r1⟩:=ZA (F:=.mk (pn 9 sA 0 [dB gZ uB,pB (vB sA) (tB l)]) 0 e none::F) (eH:=eH) (e:=e) (us:=us) (lN hF (show(9:Nat)≠20 by decide)) (by simp;omega) hA;have t2:∀S:List Fr,S.length<90000000->Rc yx ⟨.mk (pn 9 sA 0 [dB gZ uB,pB (vB sA) (tB l)]) 0 e none::S,nd1,e1,some (.int now),T7⟩ ⟨.mk (pB (vB sA) (tB l)) 1 (.put sA (.int now) e) (some (.int now))::S,tB l,.put sA (.int now) e,none,T7⟩ 4:=fun S hS=>Rc.run (by kernel_rfl) (by show S.length+1+4<_;omega);obtain⟨n,vI,A2,nd2,e2,XF,hA2,r2⟩:=LS l (.mk (pB (vB sA) (tB l)) 1 (.put sA (.int now) e) (some (.int now))::F) A1 (.put sA (.int now) e) T7 now b (lN hF (by show ¬(18=20);decide)) (by simp;omega) hA1 hl hb (by omega) hn;have t3:∀S:List Fr,S.length<90000000->Rc yx ⟨.mk (pB (vB sA) (tB l)) 1 (.put sA (.int now) e) (some (.int now))::S,nd2,e2,some (.int ((tI l now).1:Nat)),XF⟩ ⟨S,pB (vB sA) (tB l),.put sA (.int now) e,some (.int (IntKind.i64.wrap ((now:Int)+((tI l now).1:Nat)))),XF⟩ 1:=fun S hS=>Rc.run (by kernel_rfl) (by show S.length+1+1<_;omega);refine⟨1+(13+(4+(n+1))),by omega,A2,pB (vB sA) (tB l),.put sA (.int now) e,XF,hA2,?_⟩;have:=(t1 _ (len F (by omega) A)).trans (r1.trans ((t2 _ (len F (by omega) A1)).trans (r2.trans (t3 _ (len F (by omega) A2)))));rw[T6 (by omega),Nat.add_comm now] at this;exact this
   . rw[if_neg h0,if_neg h0];by_cases h1:k%3=1
     . rw[if_pos h1,if_pos h1];have t1:∀S:List Fr,S.length<90000000->Rc yx ⟨S,pn 10 ⟨#[]⟩ 0 [dB lM (iB k),tB l],e,none,us⟩ ⟨.mk (dB lM (iB k)) 0 e none::.mk (pn 10 ⟨#[]⟩ 0 [dB lM (iB k),tB l]) 0 e none::S,iB k,e,some (.int k),us⟩ 3:=fun S hS=>Rc.run (by kernel_rfl) (by show S.length+3<_;omega);obtain⟨A1,nd1,e1,T7,hA1,r1⟩:=ZB (F:=.mk (pn 10 ⟨#[]⟩ 0 [dB lM (iB k),tB l]) 0 e none::F) (eH:=eH) (e:=e) (e':=e) (JO:=iB k) (y:=iB k) (m:=k) (us:=us) (lN hF (show(10:Nat)≠20 by decide)) (by simp;omega) hA;have t2:∀S:List Fr,S.length<90000000->Rc yx ⟨.mk (pn 10 ⟨#[]⟩ 0 [dB lM (iB k),tB l]) 0 e none::S,nd1,e1,some .unit,T7⟩ ⟨S,tB l,e,none,T7⟩ 1:=fun S hS=>Rc.run (by kernel_rfl) (by show S.length+1+1<_;omega);obtain⟨n,vI,A2,nd2,e2,XF,hA2,r2⟩:=LS l F A1 e T7 k b hF (by omega) hA1 hl hb (by omega) (by have:=hk k (.head _);omega);exact⟨3+(11+(1+n)),by omega,A2,_,_,XF,hA2,(t1 _ (len F (by omega) A)).trans (r1.trans ((t2 _ (len F (by omega) A1)).trans r2))⟩
     . rw[if_neg h1,if_neg h1];have t1:∀S:List Fr,S.length<90000000->Rc yx ⟨S,pn 10 ⟨#[]⟩ 0 [dB lM (pB (dB gZ uB) (iB 1)),tB l],e,none,us⟩ ⟨.mk (pB (dB gZ uB) (iB 1)) 0 e none::.mk (dB lM (pB (dB gZ uB) (iB 1))) 0 e none::.mk (pn 10 ⟨#[]⟩ 0 [dB lM (pB (dB gZ uB) (iB 1)),tB l]) 0 e none::S,dB gZ uB,e,none,us⟩ 3:=fun S hS=>Rc.run (by kernel_rfl) (by show S.length+3<_;omega);obtain⟨A1,nd1,e1,T7,hA1,r1⟩:=ZA (F:=.mk (pB (dB gZ uB) (iB 1)) 0 e none::.mk (dB lM (pB (dB gZ uB) (iB 1))) 0 e none::.mk (pn 10 ⟨#[]⟩ 0 [dB lM (pB (dB gZ uB) (iB 1)),tB l]) 0 e none::F) (eH:=eH) (e:=e) (us:=us) (lN (lN (lN hF (by show ¬(10=20);decide)) (show(19:Nat)≠20 by decide)) (show(18:Nat)≠20 by decide)) (by simp;omega) hA;have t2:∀S:List Fr,S.length<90000000->Rc yx ⟨.mk (pB (dB gZ uB) (iB 1)) 0 e none::.mk (dB lM (pB (dB gZ uB) (iB 1))) 0 e none::S,nd1,e1,some (.int now),T7⟩ ⟨.mk (dB lM (pB (dB gZ uB) (iB 1))) 0 e none::S,pB (dB gZ uB) (iB 1),e,some (.int (IntKind.i64.wrap ((now:Int)+((1:Nat):Int)))),T7⟩ 3:=fun S hS=>Rc.run (by kernel_rfl) (by show S.length+1+1+3<_;omega);obtain⟨A2,nd2,e2,XF,hA2,r2⟩:=ZB (F:=.mk (pn 10 ⟨#[]⟩ 0 [dB lM (pB (dB gZ uB) (iB 1)),tB l]) 0 e none::F) (eH:=eH) (e:=e) (e':=e) (JO:=pB (dB gZ uB) (iB 1)) (y:=pB (dB gZ uB) (iB 1)) (m:=((now+1:Nat):Int)) (us:=T7) (lN hF (by show ¬(10=20);decide)) (by simp;omega) hA1;have t3:∀S:List Fr,S.length<90000000->Rc yx ⟨.mk (pn 10 ⟨#[]⟩ 0 [dB lM (pB (dB gZ uB) (iB 1)),tB l]) 0 e none::S,nd2,e2,some .unit,XF⟩ ⟨S,tB l,e,none,XF⟩ 1:=fun S hS=>Rc.run (by kernel_rfl) (by show S.length+1+1<_;omega);obtain⟨n,vI,A3,nd3,e3,us3,hA3,r3⟩:=LS l F A2 e XF (now+1) (b+1) hF (by omega) hA2 hl (by omega) (by omega) (by omega);have t2':=t2 (.mk (pn 10 ⟨#[]⟩ 0 [dB lM (pB (dB gZ uB) (iB 1)),tB l]) 0 e none::(F++HS eH::[A1])) (by simp;omega);rw[T6 (by omega)] at t2';exact⟨3+(13+(3+(11+(1+n)))),by omega,A3,_,_,us3,hA3,(t1 _ (len F (by omega) A)).trans (r1.trans (t2'.trans (r2.trans ((t3 _ (len F (by omega) A2)).trans r3))))⟩
end Go.Mn
namespace Go.Tc
open Go.aR
abbrev nS:=Nm->Nat
def zb:nS:=fun _=>0
def add(a b:nS):nS:=fun k=>a k+b k
def sub(a b:nS):nS:=fun k=>a k-b k
theorem T8(a:nS):add a zb=a:=by funext k;simp[add,zb]
theorem ade(a:nS):add zb a=a:=by funext k;simp[add,zb]
theorem add_assoc(a b c:nS):add (add a b) c=add a (add b c):=by funext k;simp[add,Nat.add_assoc]
theorem ey{a b:Nm}:dh a b=true↔a=b:=by
 constructor
 . intro h;have:=eq_of_beq h;exact ByteArray.ext (Array.toList_inj.1 this)
 . rintro rfl;exact beq_self_eq_true _
def eJ(l:List Nm):nS:=fun k=>l.countP fun x=>dh x k
theorem LU:eJ []=zb:=rfl
theorem za(l m:List Nm):eJ (l++m)=add (eJ l) (eJ m):=by funext k;simp[eJ,add]
theorem lO(x:Nm)(l:List Nm)(k:Nm):eJ (x::l) k=eJ l k+if dh x k=true then 1 else 0:=by simp only[eJ,List.countP_cons]
theorem Hm(x:Nm)(l:List Nm):eJ (x::l) x=eJ l x+1:=by rw[lO,if_pos (ey.2 rfl)]
theorem adf{l:List Nm}:eJ l=zb↔l=[]:=by
 constructor
 . intro h;cases l with
   |nil=>rfl
   |cons x l=>have:=congrFun h x;rw[Hm] at this;simp[zb] at this
 . rintro rfl;rfl
theorem uV{l m:List Nm}(h:l.Perm m):eJ l=eJ m:=by funext k;exact h.countP_eq _
theorem NR(l:List Nm)(s:Nm):(jg l s).Perm (s::l):=by
 induction l with
 |nil=>exact .refl _
 |cons x l ih=>
   unfold jg;split
   . exact(List.Perm.cons x ih).trans (.swap s x l)
   . exact .refl _
theorem mE(l m:List Nm):(c_ l m).Perm (l++m):=by
 induction m generalizing l with
 |nil=>rw[List.append_nil];exact .refl _
 |cons s m ih=>
   unfold c_;refine(ih _).trans (((NR l s).append_right m).trans ?_);exact List.perm_middle.symm
theorem Cb(l m n:List Nm):c_ (c_ l m) n=c_ l (m++n):=by
 induction m generalizing l with
 |nil=>rfl
 |cons s m ih=>exact ih _
def fr(us:List (Nm×Bool)):nS:=fun k=>us.countP fun p=>!p.2&&dh p.1 k
theorem JT{s:Nm}{us:List (Nm×Bool)}(h:cG s us=none):fr us s=0:=by
 induction us with
 |nil=>rfl
 |cons p us ih=>
   obtain⟨x,u⟩:=p;unfold cG at h;split at h
   . cases h
   . rename_i hc;have:=ih (by cases hf:cG s us with|none=>rfl|some q=>rw[hf] at h;cases h);simp only[fr,List.countP_cons] at this ⊢;rw[this,if_neg hc]
theorem JU{s:Nm}{us:List (Nm×Bool)}{j:Nat}(h:cG s us=some j):∀k,fr us k=fr (us.set j (s,true)) k+if dh s k=true then 1 else 0:=by
 induction us generalizing j with
 |nil=>cases h
 |cons p us ih=>
   obtain⟨x,u⟩:=p;intro k;unfold cG at h;split at h
   . rename_i hc;cases h;simp only[Bool.and_eq_true,Bool.not_eq_true'] at hc;have:=ey.1 hc.2;subst this;simp only[fr,List.set_cons_zero,List.countP_cons,hc.1];simp
   . cases hf:cG s us with
     |none=>rw[hf] at h;cases h
     |some q=>
       rw[hf] at h;cases h;have:=ih hf k;simp only[fr,List.set_cons_succ,List.countP_cons] at this ⊢;omega
theorem NS(a:List Nm)(us:List (Nm×Bool))(k:Nm):eJ (nu a us) k=eJ a k-fr us k:=by
 induction a generalizing us with
 |nil=>simp[nu,eJ]
 |cons s a ih=>
   unfold nu;split
   . rename_i h;rw[lO,lO,ih];by_cases e:dh s k=true
     . rw[if_pos e];have:=ey.1 e;subst this;rw[JT h];omega
     . rw[if_neg e];omega
   . rename_i j h;rw[ih,lO,JU h k];by_cases e:dh s k=true
     . rw[if_pos e];omega
     . rw[if_neg e];omega
theorem Hn(a b:List Nm):eJ (less a b)=sub (eJ a) (eJ b):=by
 funext k;unfold less;rw[NS];simp[fr,sub,eJ,List.countP_map,Function.comp_def]
def Ev{α:Type}(f:Nat->Option α)(r:α):Prop:=∃k0,∀k,k0<=k->f k=some r
theorem Ev.step{α:Type}{f F:Nat->Option α}{r:α}(h:∀k,f (k+1)=F k)(e:Ev F r):Ev f r:=by
 obtain⟨k0,hk⟩:=e;refine⟨k0+1,fun k h1=>?_⟩;obtain⟨m,rfl⟩:∃m,k=m+1:=⟨k-1,by omega⟩;rw[h];exact hk m (by omega)
theorem Ev.pure{α:Type}(r:α):Ev (fun _=>some r) r:=⟨0,fun _ _=>rfl⟩
theorem Ev.of{α β:Type}{f:Nat->Option β}{F:Nat->Option α}{r:α}{b:β}(h:Ev F r)(e:∀k,F k=some r->f k=some b):Ev f b:=by
 obtain⟨k0,hk⟩:=h;exact⟨k0,fun k h1=>e k (hk k h1)⟩
theorem Ev.and{α β:Type}{f:Nat->Option α}{g:Nat->Option β}{a:α}{b:β}(h:Ev f a)(k:Ev g b):∃k0,∀k,k0<=k->f k=some a/\g k=some b:=by
 obtain⟨p,hp⟩:=h;obtain⟨q,hq⟩:=k;exact⟨max p q,fun k h=>⟨hp k (by omega),hq k (by omega)⟩⟩
theorem Ev.ZC{α β γ:Type}{f:Nat->Option α}{g:Nat->Option β}{F:Nat->Option γ}{a:α}{b:β}{c:γ}(h:Ev f a)(k:Ev g b)(e:∀k,f k=some a->g k=some b->F k=some c):Ev F c:=by
 obtain⟨k0,hk⟩:=h.and k;exact⟨k0,fun k h=>e k (hk k h).1 (hk k h).2⟩
theorem Ev.of3{α β γ δ:Type}{f:Nat->Option α}{g:Nat->Option β}{i:Nat->Option δ}{F:Nat->Option γ}{a:α}{b:β}{d:δ}{c:γ}(h:Ev f a)(k:Ev g b)(l:Ev i d)(e:∀k,f k=some a->g k=some b->i k=some d->F k=some c):Ev F c:=by
 obtain⟨k0,hk⟩:=h.and k;obtain⟨k1,hl⟩:=l;exact⟨max k0 k1,fun k h=>e k (hk k (by omega)).1 (hk k (by omega)).2 (hl k (by omega))⟩
inductive En (is:List (Option Nat)):Nat->Nat->Prop
 |here {n} (h:is[n]?=some none):En is n n
 |on {n m e} (h:is[n]?=some (some m)) (k:En is m e):En is n e
theorem En.find{g:G}{n e:Nat}(h:En g.link n e):Ev (fun k=>find k g n) e:=by
 induction h with
 |here h=>exact(Ev.pure _).step fun k=>by rw[aR.find,h]
 |@on n m e h _ ih=>exact ih.step fun k=>by rw[aR.find,h]
theorem En.last{is:List (Option Nat)}{n e:Nat}(h:En is n e):is[e]?=some none:=by
 induction h with
 |here h=>exact h
 |on _ _ ih=>exact ih
theorem En.end{is:List (Option Nat)}{n e:Nat}(h:En is n e):En is e e:=.here h.last
theorem En.lt{is:List (Option Nat)}{n e:Nat}(h:En is n e):n<is.length:=by
 cases h with
 |here h=>exact(List.getElem?_eq_some_iff.1 h).1
 |on h _=>exact(List.getElem?_eq_some_iff.1 h).1
theorem En.QV{is:List (Option Nat)}{n e:Nat}(h:En is n e):e<is.length:=h.end.lt
theorem En.link{is:List (Option Nat)}{a b:Nat}(ha:is[a]?=some none)(hb:is[b]?=some none)(jQ:a≠b){x e:Nat}(h:En is x e):En (is.set a (some b)) x (if e=a then b else e):=by
 have hl:=(List.getElem?_eq_some_iff.1 ha).1;have Ys:En (is.set a (some b)) b b:=.here (by rw[List.getElem?_set_ne jQ];exact hb);induction h with
 |@here x hx=>
   by_cases q:x=a
   . subst q;rw[if_pos rfl];exact .on (by rw[List.getElem?_set_self hl]) Ys
   . rw[if_neg q];exact .here (by rw[List.getElem?_set_ne (Ne.symm q)];exact hx)
 |@on x m e hx _ ih=>
   have q:x≠a:=fun q=>by rw[q,ha] at hx;cases hx
   exact .on (by rw[List.getElem?_set_ne (Ne.symm q)];exact hx) ih
def All(is:List (Option Nat)):Prop:=∀n,n<is.length->∃e,En is n e
theorem All.link{is:List (Option Nat)}(h:All is){a b:Nat}(ha:is[a]?=some none)(hb:is[b]?=some none)(jQ:a≠b):All (is.set a (some b)):=fun n hn=>by
 rw[List.length_set] at hn;obtain⟨e,he⟩:=h n hn;exact⟨_,he.link ha hb jQ⟩
theorem En.app{is:List (Option Nat)}{n e:Nat}(h:En is n e)(t:List (Option Nat)):En (is++t) n e:=by
 induction h with
 |here h=>exact .here (by rw[List.getElem?_append_left (List.getElem?_eq_some_iff.1 h).1];exact h)
 |on h _ ih=>exact .on (by rw[List.getElem?_append_left (List.getElem?_eq_some_iff.1 h).1];exact h) ih
theorem All.app{is:List (Option Nat)}(h:All is):All (is++[none]):=fun n hn=>by
 rcases Nat.lt_or_ge n is.length with q|q
 . obtain⟨e,he⟩:=h n q;exact⟨e,he.app _⟩
 . have:n=is.length:=by simp at hn;omega
   exact⟨n,.here (by rw[this];simp)⟩
inductive Ho (ops:List (List Nm)) (nx:List (Option Nat)):Nat->List Nm->Nat->Prop
 |nil {r l} (h:nx[r]?=some (some 0)) (ho:ops[r]?=some l):Ho ops nx r l 0
 |eR {r} (h:nx[r]?=some none) (ho:ops[r]?=some []):Ho ops nx r [] r
 |row {r q l m v} (h:nx[r]?=some (some (q+1))) (ho:ops[r]?=some l) (k:Ho ops nx (q+1) m v):Ho ops nx r (l++m) v
section
variable {ops:List (List Nm)} {nx:List (Option Nat)}
theorem Ho.lt{r v:Nat}{l:List Nm}(h:Ho ops nx r l v):r<nx.length:=by
 cases h with
 |nil h _=>exact(List.getElem?_eq_some_iff.1 h).1
 |eR h _=>exact(List.getElem?_eq_some_iff.1 h).1
 |row h _ _=>exact(List.getElem?_eq_some_iff.1 h).1
theorem Ho.var{r v:Nat}{l:List Nm}(h:Ho ops nx r l v):v=0∨nx[v]?=some none:=by
 induction h with
 |nil _ _=>exact .inl rfl
 |eR h _=>exact .inr h
 |row _ _ _ ih=>exact ih
end
theorem Ho.ev{g:G}{r v:Nat}{l:List Nm}(h:Ho g.ops g.next r l v)(acc:List Nm)(hb:acc.length+l.length<eQ):Ev (fun k=>aR.whole k g r acc) (c_ acc l,v):=by
 induction h generalizing acc with
 |nil h ho=>exact(Ev.pure _).step fun k=>by rw[aR.whole];simp only[ho,h,if_pos hb]
 |eR h ho=>
   exact(Ev.pure _).step fun k=>by rw[aR.whole];simp only[ho,h,if_pos hb]
 |@row r q l m v h ho _ ih=>
   rw[List.length_append] at hb;have h1:acc.length+l.length<eQ:=by omega
   have:=ih (c_ acc l) (by rw[(mE acc l).length_eq,List.length_append];omega);rw[Cb] at this;exact this.step fun k=>by rw[aR.whole];simp only[ho,h,if_pos h1]
end Go.Tc
namespace Go.Tc
open Go.aR Go.dy
inductive GT
 |int
 |bool
 |unit
 |list (a:GT)
 |pair (a b:GT)
 |fn (a b:GT) (r:nS)
def GT.sz:GT->Nat
 |.int|.bool|.unit=>1
 |.list a=>a.sz+1
 |.pair a b=>a.sz+b.sz+1
 |.fn a b _=>a.sz+b.sz+9
theorem GT.pos(τ:GT):0<τ.sz:=by cases τ<;>simp[GT.sz]
def Small(ρ:nS):Prop:=(∀l:List Nm,(∀x,eJ l x<=ρ x)->l.length<=8)/\∀x,0<ρ x->x.size<=100
theorem Small.le{ρ σ:nS}(h:Small ρ)(hs:∀x,σ x<=ρ x):Small σ:=⟨fun l hl=>h.1 l fun x=>Nat.le_trans (hl x) (hs x),fun x hx=>h.2 x (Nat.lt_of_lt_of_le hx (hs x))⟩
theorem Small.eJ{l:List Nm}(h:l.length<=8)(hz:∀x∈l,x.size<=100):Small (eJ l):=⟨fun m hm=>by
 have key:∀(m l:List Nm),(∀x,Tc.eJ m x<=Tc.eJ l x)->m.length<=l.length:=fun m=>by
   induction m with
   |nil=>intro l _;exact Nat.zero_le _
   |cons y m ih=>
     intro l hl;have hy:0<Tc.eJ l y:=by have:=hl y;rw[Hm] at this;omega
     obtain⟨z,hz,he⟩:=List.countP_pos_iff.1 hy;obtain rfl:=ey.1 he;obtain⟨p,q,rfl⟩:=List.append_of_mem hz;have hp:(p++z::q).Perm (z::(p++q)):=List.perm_middle
     have:=ih (p++q) (fun x=>by
       have h1:=hl x;rw[uV hp,lO,lO] at h1
       omega)
     rw[hp.length_eq];simpa using this
 exact Nat.le_trans (key m l hm) h,fun x hx=>by
 obtain⟨z,hz',he⟩:=List.countP_pos_iff.1 hx;obtain rfl:=ey.1 he
 exact hz z hz'⟩
theorem Small.zb:Small zb:=Small.eJ (l:=[]) (Nat.zero_le _) (fun _ h=>by cases h)
inductive Nk (t:Nat->GT) (r:Nat->nS) (N M:Nat):Nat->Option Nat->Option Nat->Nat->GT->Prop
 |var {j τ}:Nk t r N M 0 none none j τ
 |int {j}:Nk t r N M 1 none none j .int
 |bool {j}:Nk t r N M 2 none none j .bool
 |unit {j}:Nk t r N M 3 none none j .unit
 |list {p j} (h:p<N):Nk t r N M 4 (some p) none j (.list (t p))
 |pair {p q j} (hp:p<N) (hq:q<N):Nk t r N M 5 (some p) (some q) j (.pair (t p) (t q))
 |fn {p q j} (hp:p<N) (hq:q<N) (hj:j<M):Nk t r N M 6 (some p) (some q) j (.fn (t p) (t q) (r j))
structure Wd where
 g:G
 t:Nat->GT
 r:Nat->nS
structure VV (w:Wd):Prop where
 la:w.g.a.length=w.g.kind.length
 lb:w.g.b.length=w.g.kind.length
 lr:w.g.row.length=w.g.kind.length
 ll:w.g.link.length=w.g.kind.length
 lo:w.g.next.length=w.g.ops.length
 all:All w.g.link
 FA:∀n m:Nat,w.g.link[n]?=some (some m)->w.t n=w.t m
 nd:∀(n kd:Nat)(a b:Option Nat)(j:Nat),w.g.kind[n]?=some kd->w.g.a[n]?=some a->w.g.b[n]?=some b->w.g.row[n]?=some j->Nk w.t w.r w.g.kind.length w.g.ops.length kd a b j (w.t n)
 r0:w.g.next[0]?=some (some 0)
 z0:w.r 0=zb
 rw:∀(j q:Nat)(l:List Nm),w.g.ops[j]?=some l->w.g.next[j]?=some (some q)->w.r j=add (eJ l) (w.r q)
 wh:∀j,j<w.g.ops.length->∃l v,Ho w.g.ops w.g.next j l v
 sm:∀j,j<w.g.ops.length->Small (w.r j)
structure Wd.ok (w:Wd) (N:Nat):Prop where
 v:VV w
 k:w.g.kind.length<=N
 o:w.g.ops.length<=N
structure Le (w w':Wd):Prop where
 k:w.g.kind.length<=w'.g.kind.length
 o:w.g.ops.length<=w'.g.ops.length
 t:∀n,n<w.g.kind.length->w'.t n=w.t n
 r:∀j,j<w.g.ops.length->w'.r j=w.r j
 kd:∀n:Nat,n<w.g.kind.length->w'.g.kind[n]?=w.g.kind[n]?/\w'.g.a[n]?=w.g.a[n]?/\w'.g.b[n]?=w.g.b[n]?/\w'.g.row[n]?=w.g.row[n]?
theorem Le.refl(w:Wd):Le w w:=⟨Nat.le_refl _,Nat.le_refl _,fun _ _=>rfl,fun _ _=>rfl,fun _ _=>⟨rfl,rfl,rfl,rfl⟩⟩
theorem Le.trans{w w' n8:Wd}(h:Le w w')(k:Le w' n8):Le w n8:=⟨Nat.le_trans h.k k.k,Nat.le_trans h.o k.o,fun n hn=>by rw[k.t n (Nat.lt_of_lt_of_le hn h.k),h.t n hn],fun j hj=>by rw[k.r j (Nat.lt_of_lt_of_le hj h.o),h.r j hj],fun n hn=>by
 obtain⟨a,b,c,d⟩:=h.kd n hn;obtain⟨a',b',c',d'⟩:=k.kd n (Nat.lt_of_lt_of_le hn h.k)
 exact⟨a'.trans a,b'.trans b,c'.trans c,d'.trans d⟩⟩
def Wd.has(w:Wd)(n:Nat)(τ:GT):Prop:=n<w.g.kind.length/\w.t n=τ
def Wd.aH(w:Wd)(j:Nat)(ρ:nS):Prop:=j<w.g.ops.length/\w.r j=ρ
theorem Wd.has.le{w w':Wd}{n:Nat}{τ:GT}(h:w.has n τ)(k:Le w w'):w'.has n τ:=⟨Nat.lt_of_lt_of_le h.1 k.k,by rw[k.t n h.1,h.2]⟩
theorem Wd.aH.le{w w':Wd}{j:Nat}{ρ:nS}(h:w.aH j ρ)(k:Le w w'):w'.aH j ρ:=⟨Nat.lt_of_lt_of_le h.1 k.o,by rw[k.r j h.1,h.2]⟩
theorem Wd.ok.mono{w:Wd}{N N':Nat}(h:w.ok N)(k:N<=N'):w.ok N':=⟨h.v,Nat.le_trans h.k k,Nat.le_trans h.o k⟩
theorem Wd.aH.sm{w:Wd}{N j:Nat}{ρ:nS}(h:w.aH j ρ)(k:w.ok N):Small ρ:=by have:=k.v.sm j h.1;rwa [h.2] at this
theorem Nk.up{t t':Nat->GT}{r r':Nat->nS}{N N' M M' kd j:Nat}{a b:Option Nat}{τ:GT}(h:Nk t r N M kd a b j τ)(hN:N<=N')(hM:M<=M')(ht:∀n,n<N->t' n=t n)(hr:∀j,j<M->r' j=r j):Nk t' r' N' M' kd a b j τ:=by
 cases h with
 |var=>exact .var
 |int=>exact .int
 |bool=>exact .bool
 |unit=>exact .unit
 |list h=>rw[<- ht _ h];exact .list (Nat.lt_of_lt_of_le h hN)
 |pair h k=>rw[<- ht _ h,<-ht _ k];exact .pair (Nat.lt_of_lt_of_le h hN) (Nat.lt_of_lt_of_le k hN)
 |fn h k l=>rw[<- ht _ h,<-ht _ k,<-hr _ l];exact .fn (Nat.lt_of_lt_of_le h hN) (Nat.lt_of_lt_of_le k hN) (Nat.lt_of_lt_of_le l hM)
theorem ES{α:Type}{l:List α}{x y:α}{n:Nat}(h:(l++[x])[n]?=some y):(n<l.length/\l[n]?=some y)∨(n=l.length/\y=x):=by
 rcases Nat.lt_or_ge n l.length with q|q
 . rw[List.getElem?_append_left q] at h;exact .inl ⟨q,h⟩
 . rw [List.getElem?_append_right q] at h;have : n - l.length = 0 := by
     rcases Nat.eq_zero_or_pos (n-l.length) with e|e
     . exact e
     . rw[List.getElem?_eq_none (by simp only[List.length_cons,List.length_nil];omega)] at h;cases h
   rw[this] at h;cases h;exact .inr ⟨by omega,rfl⟩
theorem gR{α:Type}{l:List α}{x:α}{n:Nat}(h:n<l.length):(l++[x])[n]?=l[n]?:=List.getElem?_append_left h
theorem f_{α:Type}{l:List α}{x:α}{n:Nat}(h:n=l.length):(l++[x])[n]?=some x:=by subst h;simp
theorem bJ{α:Type}{l:List α}{x:α}{n:Nat}(h:l[n]?=some x):n<l.length:=(List.getElem?_eq_some_iff.1 h).1
theorem rj{α:Type}{l:List α}{n:Nat}(h:n<l.length):∃x,l[n]?=some x:=⟨_,List.getElem?_eq_getElem h⟩
def tt(g:G)(kd:Nat)(a b:Option Nat)(r:Nat):G:=⟨g.kind++[kd],g.a++[a],g.b++[b],g.row++[r],g.link++[none],g.ops,g.next,g.tv,g.rv⟩
theorem put_eq{g:G}(h:g.kind.length<eQ)(kd:Nat)(a b:Option Nat)(r:Nat):g.put kd a b r=some (tt g kd a b r,g.kind.length):=by
 unfold G.put;rw[if_pos h];simp only[jB,mf,kj];rfl
def qI(g:G)(l:List Nm)(nx:Option Nat):G:=⟨g.kind,g.a,g.b,g.row,g.link,g.ops++[l],g.next++[nx],g.tv,g.rv⟩
theorem ET{g:G}(h:g.ops.length<eQ)(l:List Nm)(nx:Option Nat):g.putRow l nx=some (qI g l nx,g.ops.length):=by
 unfold G.putRow;rw[if_pos h];simp only[jB,mf,kj];rfl
theorem qJ{w : Wd}{N kd j : Nat}{a b : Option Nat}{τ : GT}(h : w.ok N)(hN : N < eQ)(hk : Nk w.t w.r w.g.kind.length w.g.ops.length kd a b j τ) :
   ∃w' m,w.g.put kd a b j=some (w'.g,m)/\w'.ok (N+1)/\Le w w'/\w'.has m τ:=by
 have hz:w.g.kind.length<eQ:=by have:=h.k;omega
 have ht:∀n,n<w.g.kind.length->(if n=w.g.kind.length then τ else w.t n)=w.t n:=fun n hn=>if_neg (by omega);have v:=h.v;refine⟨⟨tt w.g kd a b j,fun n=>if n=w.g.kind.length then τ else w.t n,w.r⟩,w.g.kind.length,put_eq hz kd a b j,⟨⟨?_,?_,?_,?_,v.lo,v.all.app,fun n m hl=>?_,fun n XG a' b' j' h1 h2 h3 h4=>?_,v.r0,v.z0,v.rw,v.wh,v.sm⟩,?_,?_⟩,⟨?_,Nat.le_refl _,ht,fun _ _=>rfl,fun n hn=>?_⟩,?_,?_⟩
 . simp[tt,v.la]
 . simp[tt,v.lb]
 . simp[tt,v.lr]
 . simp[tt,v.ll]
 . rcases ES hl with⟨q,hl⟩|⟨_,e⟩
   . obtain ⟨e, he⟩ := v.all n q;have hm : m < w.g.kind.length := by
       have:En w.g.link m e:=by
         cases he with
         |here h=>rw[hl] at h;cases h
         |on h k=>rw[hl] at h;cases h;exact k
       rw[<- v.ll];exact this.lt
     rw[v.ll] at q;show(if n=_ then τ else w.t n)=if m=_ then τ else w.t m;rw[if_neg (by omega),if_neg (by omega)];exact v.FA n m hl
   . cases e
 . show Nk _ _ (w.g.kind++[kd]).length _ XG a' b' j' _;rw[List.length_append];rcases ES h1 with⟨q,h1⟩|⟨q,rfl⟩
   . rw[show(tt w.g kd a b j).a=w.g.a++[a] from rfl,gR (by rw[v.la];exact q)] at h2;rw[show(tt w.g kd a b j).b=w.g.b++[b] from rfl,gR (by rw[v.lb];exact q)] at h3;rw[show(tt w.g kd a b j).row=w.g.row++[j] from rfl,gR (by rw[v.lr];exact q)] at h4;show Nk _ _ _ _ XG a' b' j' (if n=_ then τ else w.t n);rw[if_neg (by omega)];exact(v.nd n XG a' b' j' h1 h2 h3 h4).up (Nat.le_add_right _ _) (Nat.le_refl _) ht (fun _ _=>rfl)
   . rw[show(tt w.g XG a b j).a=w.g.a++[a] from rfl,f_ (by rw[v.la];exact q)] at h2;rw[show(tt w.g XG a b j).b=w.g.b++[b] from rfl,f_ (by rw[v.lb];exact q)] at h3;rw[show(tt w.g XG a b j).row=w.g.row++[j] from rfl,f_ (by rw[v.lr];exact q)] at h4;cases h2;cases h3;cases h4;show Nk _ _ _ _ XG a b j (if n=_ then τ else w.t n);rw[if_pos q];exact hk.up (Nat.le_add_right _ _) (Nat.le_refl _) ht (fun _ _=>rfl)
 . have:=h.k;simp[tt];omega
 . have:=h.o;show w.g.ops.length<=N+1;omega
 . simp[tt]
 . exact⟨gR hn,gR (by rw[v.la];exact hn),gR (by rw[v.lb];exact hn),gR (by rw[v.lr];exact hn)⟩
 . simp[tt]
 . exact if_pos rfl
theorem Ho.app{ops:List (List Nm)}{nx:List (Option Nat)}{r v:Nat}{l:List Nm}(h:Ho ops nx r l v)(x:List Nm)(y:Option Nat):Ho (ops++[x]) (nx++[y]) r l v:=by
 induction h with
 |nil h ho=>exact .nil (by rw[gR (bJ h)];exact h) (by rw[gR (bJ ho)];exact ho)
 |eR h ho=>exact .eR (by rw[gR (bJ h)];exact h) (by rw[gR (bJ ho)];exact ho)
 |row h ho _ ih=>exact .row (by rw[gR (bJ h)];exact h) (by rw[gR (bJ ho)];exact ho) ih
theorem rp{w : Wd}{N : Nat}{l : List Nm}{nx : Option Nat}{ρ : nS}(h : w.ok N)(hN : N < eQ)(hs : Small ρ)(hk : match nx with
   |none=>l=[]
   |some q=>q<w.g.ops.length/\ρ=add (eJ l) (w.r q)):
   ∃w' m,w.g.putRow l nx=some (w'.g,m)/\w'.ok (N+1)/\Le w w'/\w'.aH m ρ/\w'.g.next[m]?=some nx:=by
 have hz:w.g.ops.length<eQ:=by have:=h.o;omega
 have v:=h.v;have hr:∀n,n<w.g.ops.length->(if n=w.g.ops.length then ρ else w.r n)=w.r n:=fun n hn=>if_neg (by omega);have h0:0<w.g.ops.length:=by rw[<- v.lo];exact bJ v.r0
 refine⟨⟨qI w.g l nx,w.t,fun n=>if n=w.g.ops.length then ρ else w.r n⟩,w.g.ops.length,ET hz l nx,⟨⟨v.la,v.lb,v.lr,v.ll,?_,v.all,v.FA,fun n kd a b j h1 h2 h3 h4=>?_,?_,?_,fun j q l' h1 h2=>?_,fun j hj=>?_,fun j hj=>?_⟩,?_,?_⟩,⟨Nat.le_refl _,?_,fun _ _=>rfl,hr,fun n hn=>⟨rfl,rfl,rfl,rfl⟩⟩,⟨?_,if_pos rfl⟩,f_ v.lo.symm⟩
 . simp[qI,v.lo]
 . exact(v.nd n kd a b j h1 h2 h3 h4).up (Nat.le_refl _) (by simp[qI]) (fun _ _=>rfl) hr
 . show(w.g.next++[nx])[0]?=_;rw[gR (bJ v.r0)];exact v.r0
 . show(if 0=_ then ρ else w.r 0)=_;rw[if_neg (by omega)];exact v.z0
 . show(if j=_ then ρ else w.r j)=add (eJ l') (if q=_ then ρ else w.r q);rcases ES h1 with⟨a,h1⟩|⟨a,rfl⟩
   . rw [show (qI w.g l nx).next = w.g.next ++ [nx] from rfl, gR (by rw [v.lo]; exact a)] at h2;have hq : q < w.g.ops.length := by
       cases q with
       |zero=>exact h0
       |succ q=>
         obtain⟨m,u,hw⟩:=v.wh j a;rw[<- v.lo];cases hw with
         |nil k _=>rw[h2] at k;cases k
         |eR k _=>rw[h2] at k;cases k
         |row k _ k2=>rw[h2] at k;cases k;exact k2.lt
     rw[if_neg (by omega),if_neg (by omega)];exact v.rw j q l' h1 h2
   . rw[show(qI w.g l' nx).next=w.g.next++[nx] from rfl,f_ (by rw[v.lo];exact a)] at h2;cases h2;rw[if_pos a,if_neg (by have:=hk.1;omega)];exact hk.2
 . have hj:j<w.g.ops.length+1:=by simpa[qI] using hj
   by_cases e:j=w.g.ops.length
   . cases nx with
     |none=>subst hk;exact⟨[],j,.eR (f_ (by rw[v.lo];exact e)) (f_ e)⟩
     |some q=>
       cases q with
       |zero=>exact⟨l,0,.nil (f_ (by rw[v.lo];exact e)) (f_ e)⟩
       |succ q=>
         obtain⟨m,u,hw⟩:=v.wh (q+1) hk.1;exact⟨_,u,.row (f_ (by rw[v.lo];exact e)) (f_ e) (hw.app l _)⟩
   . obtain⟨m,u,hw⟩:=v.wh j (by omega);exact⟨m,u,hw.app l nx⟩
 . have hj:j<w.g.ops.length+1:=by simpa[qI] using hj
   show Small (if j=_ then ρ else w.r j);split
   . exact hs
   . exact v.sm j (by omega)
 . have:=h.k;show w.g.kind.length<=N+1;omega
 . have:=h.o;simp[qI];omega
 . simp[qI]
 . simp[qI]
theorem EU{w:Wd}{N:Nat}{ρ:nS}(h:w.ok N)(hN:N<eQ)(hs:Small ρ):∃w' m,w.g.eR=some (w'.g,m)/\w'.ok (N+1)/\Le w w'/\w'.aH m ρ/\w'.g.next[m]?=some none:=rp (l:=[]) (nx:=none) h hN hs rfl
theorem T9{w:Wd}{N:Nat}(τ:GT)(h:w.ok N)(hN:N<eQ):∃w' m,w.g.var=some (w'.g,m)/\w'.ok (N+1)/\Le w w'/\w'.has m τ:=qJ h hN .var
theorem XH{w:Wd}{N n:Nat}{τ:GT}(h:w.ok N)(hn:w.has n τ):∃e,Ev (fun k=>find k w.g n) e/\w.has e τ/\w.g.link[e]?=some none:=by
 obtain⟨e,he⟩:=h.v.all n (by rw[h.v.ll];exact hn.1);have key:∀{n e:Nat},En w.g.link n e->w.t e=w.t n:=fun he=>by
   induction he with
   |here _=>rfl
   |on hl _ ih=>rw[ih];exact(h.v.FA _ _ hl).symm
 exact⟨e,he.find,⟨by rw[<- h.v.ll];exact he.QV,by rw[key he,hn.2]⟩,he.last⟩
theorem ain{w:Wd}{N n:Nat}{τ:GT}(h:w.ok N)(hn:w.has n τ):∃kd a b j,w.g.kind[n]?=some kd/\w.g.a[n]?=some a/\w.g.b[n]?=some b/\w.g.row[n]?=some j/\Nk w.t w.r w.g.kind.length w.g.ops.length kd a b j τ:=by
 obtain⟨kd,h1⟩:=rj hn.1;obtain⟨a,h2⟩:=rj (l:=w.g.a) (n:=n) (by rw[h.v.la];exact hn.1);obtain⟨b,h3⟩:=rj (l:=w.g.b) (n:=n) (by rw[h.v.lb];exact hn.1);obtain⟨j,h4⟩:=rj (l:=w.g.row) (n:=n) (by rw[h.v.lr];exact hn.1);exact⟨kd,a,b,j,h1,h2,h3,h4,by have:=h.v.nd n kd a b j h1 h2 h3 h4;rwa [hn.2] at this⟩
theorem lP{w:Wd}{N j:Nat}{ρ:nS}(h:w.ok N)(hj:w.aH j ρ):∃L v,Ev (fun k=>whole k w.g j []) (L,v)/\ρ=add (eJ L) (w.r v)/\(v=0∨w.g.next[v]?=some none)/\v<w.g.ops.length/\L.length<=8:=by
 obtain⟨l,v,hw⟩:=h.v.wh j hj.1;have key:∀{j v:Nat}{l:List Nm},Ho w.g.ops w.g.next j l v->w.r j=add (eJ l) (w.r v):=fun hw=>by
   induction hw with
   |nil hn ho=>exact h.v.rw _ _ _ ho hn
   |eR hn ho=>rw[LU,ade]
   |row hn ho _ ih=>rw[h.v.rw _ _ _ ho hn,ih,za,add_assoc]
 have e:=key hw;rw[hj.2] at e;have hL:(c_ [] l).Perm l:=mE [] l;have hl:l.length<=8:=(hj.sm h).1 l (fun x=>by rw[e];exact Nat.le_add_right _ _);have hv:=hw.var;refine⟨c_ [] l,v,hw.ev [] ?_,by rw[uV hL];exact e,hv,?_,by rw[hL.length_eq];exact hl⟩
 . simp only[List.length_nil];unfold eQ;omega
 . rcases hv with rfl|hv
   . rw[<- h.v.lo];exact bJ h.v.r0
   . rw[<- h.v.lo];exact bJ hv
def kJ(g:G)(v:Nat)(l:List Nm)(nx:Option Nat):G:=⟨g.kind,g.a,g.b,g.row,g.link,g.ops.set v l,g.next.set v nx,g.tv,g.rv⟩
theorem vH(g:G)(v:Nat)(l:List Nm)(nx:Option Nat):g.eh v l nx=kJ g v l nx:=by
 unfold G.eh;simp only[jB,mf,kj];rfl
theorem LV{α:Type}{l:List α}{v n:Nat}{x y:α}(h:(l.set v x)[n]?=some y):(n=v/\y=x)∨(n≠v/\l[n]?=some y):=by
 by_cases e:n=v
 . subst e;rw[List.getElem?_set_self (by have:=bJ h;simpa using this)] at h;cases h;exact .inl ⟨rfl,rfl⟩
 . rw[List.getElem?_set_ne (by omega)] at h;exact .inr ⟨e,h⟩
theorem tw{α:Type}{l:List α}{v:Nat}{x:α}(h:v<l.length):(l.set v x)[v]?=some x:=List.getElem?_set_self h
theorem lQ{α:Type}{l:List α}{v n:Nat}{x:α}(h:n≠v):(l.set v x)[n]?=l[n]?:=List.getElem?_set_ne (by omega)
theorem rq{w : Wd}{N v q : Nat}{d : List Nm}(h : w.ok N)(hv : w.g.next[v]? = some none)(hq : q = 0 ∨ (w.g.next[q]? = some none /\ q ≠ v))(he : w.r v = add (eJ d) (w.r q)) :
   Wd.ok ⟨w.g.eh v d (some q),w.t,w.r⟩ N/\Le w ⟨w.g.eh v d (some q),w.t,w.r⟩/\∀j,j≠v->(w.g.eh v d (some q)).next[j]?=w.g.next[j]?:=by
 have V:=h.v;have U4:v<w.g.ops.length:=by rw[<- V.lo];exact bJ hv
 have hv':v<w.g.next.length:=bJ hv;have yK:v≠0:=by rintro rfl;rw[V.r0] at hv;cases hv
 rw[vH];refine⟨⟨⟨V.la,V.lb,V.lr,V.ll,?_,V.all,V.FA,fun n kd a b j h1 h2 h3 h4=>?_,?_,V.z0,fun j p l h1 h2=>?_,fun j hj=>?_,fun j hj=>?_⟩,h.k,?_⟩,⟨Nat.le_refl _,?_,fun _ _=>rfl,fun _ _=>rfl,fun n hn=>⟨rfl,rfl,rfl,rfl⟩⟩,fun j hj=>lQ hj⟩
 . simp[kJ,V.lo]
 . exact(V.nd n kd a b j h1 h2 h3 h4).up (Nat.le_refl _) (by simp[kJ]) (fun _ _=>rfl) (fun _ _=>rfl)
 . show(w.g.next.set v _)[0]?=_;rw[lQ (by omega)];exact V.r0
 . rcases LV h1 with⟨rfl,rfl⟩|⟨e,h1⟩
   . rw[show(kJ w.g j l (some q)).next=w.g.next.set j (some q) from rfl,tw hv'] at h2;cases h2;exact he
   . rw[show(kJ w.g v d (some q)).next=w.g.next.set v (some q) from rfl,lQ e] at h2;exact V.rw j p l h1 h2
 . obtain ⟨l, u, hw⟩ := V.wh j (by simpa [kJ] using hj);clear hj;have hb : ∃ l u, Ho (w.g.ops.set v d) (w.g.next.set v (some q)) v l u := by
     rcases hq with rfl|⟨hq,jQ⟩
     . exact⟨d,0,.nil (tw hv') (tw U4)⟩
     . cases q with
       |zero=>exact⟨d,0,.nil (tw hv') (tw U4)⟩
       |succ q=>
         have ho:w.g.ops[q+1]?=some []:=by
           obtain⟨l,u,hw⟩:=V.wh (q+1) (by rw[<- V.lo];exact bJ hq);cases hw with
           |nil k _=>rw[hq] at k;cases k
           |eR _ k=>exact k
           |row k _ _=>rw[hq] at k;cases k
         exact⟨_,q+1,.row (tw hv') (tw U4) (.eR (by rw[lQ jQ];exact hq) (by rw[lQ jQ];exact ho))⟩
   show ∃l u,Ho (w.g.ops.set v d) (w.g.next.set v (some q)) j l u;clear he hq;induction hw with
   |@nil r l k ho=>
     have e:r≠v:=by rintro rfl;rw[hv] at k;cases k
     exact⟨_,_,.nil (by rw[lQ e];exact k) (by rw[lQ e];exact ho)⟩
   |@eR r k ho=>
     by_cases e:r=v
     . subst e;exact hb
     . exact⟨_,_,.eR (by rw[lQ e];exact k) (by rw[lQ e];exact ho)⟩
   |@row r p l m u k ho _ ih=>
     have e:r≠v:=by rintro rfl;rw[hv] at k;cases k
     obtain⟨l',u',hw'⟩:=ih;exact⟨_,_,.row (by rw[lQ e];exact k) (by rw[lQ e];exact ho) hw'⟩
 . exact V.sm j (by simpa[kJ] using hj)
 . have:=h.o;simpa[kJ] using this
 . simp[kJ]
def cY(P:Φ):Prop:=∃k0,∀k,k0<=k->P k
theorem cY.and{P Q:Nat->Prop}(h:cY P)(k:cY Q):cY fun k=>P k/\Q k:=by
 obtain⟨a,h⟩:=h;obtain⟨b,k⟩:=k;exact⟨max a b,fun i hi=>⟨h i (Nat.le_trans (Nat.le_max_left _ _) hi),k i (Nat.le_trans (Nat.le_max_right _ _) hi)⟩⟩
theorem cY.to{P Q:Nat->Prop}(h:cY P)(k:∀i,P i->Q i):cY Q:=by
 obtain⟨a,h⟩:=h;exact⟨a,fun i hi=>k i (h i hi)⟩
theorem cY.t:cY fun _=>True:=⟨0,fun _ _=>trivial⟩
theorem cY.st{α:Type}{P:Nat->Prop}{f:Nat->Option α}{r:α}(h:cY P)(k:∀i,P i->f (i+1)=some r):Ev f r:=by
 obtain⟨a,h⟩:=h;refine⟨a+1,fun i hi=>?_⟩;obtain⟨j,rfl⟩:∃j,i=j+1:=⟨i-1,by omega⟩;exact k j (h j (by omega))
theorem Bh{w:Wd}{N i j:Nat}{ρ:nS}(h:w.ok N)(hN:N<eQ)(hi:w.aH i ρ)(hj:w.aH j ρ):∃w',Ev (fun k=>fC k w.g i j) (w'.g,true)/\w'.ok (N+1)/\Le w w':=by
 obtain⟨a,v,ea,ha,va,vl,_⟩:=lP h hi;obtain⟨b,u,eb,hb,vb,ul,_⟩:=lP h hj;have HB:∀x,eJ a x+w.r v x=eJ b x+w.r u x:=fun x=>by have:=congrFun (ha.symm.trans hb) x;exact this
 have hd:∀x,eJ (less a b) x=eJ a x-eJ b x:=fun x=>by rw[Hn];rfl
 have he:∀x,eJ (less b a) x=eJ b x-eJ a x:=fun x=>by rw[Hn];rfl
 have emp:∀l:List Nm,(∀x,eJ l x=0)->l.isEmpty=true:=fun l hl=>by
   have:eJ l=zb:=funext hl;rw[adf] at this;rw[this];rfl
 by_cases hvu:v=u
 . subst hvu;refine⟨w,ea.ZC eb fun k h1 h2=>?_,h.mono (Nat.le_succ _),Le.refl w⟩;rw[fC,h1,h2];simp only[if_true,emp _ (fun x=>by have:=HB x;rw[hd];omega),emp _ (fun x=>by have:=HB x;rw[he];omega),Bool.and_self]
 have z:∀x,w.r 0 x=0:=fun x=>by rw[h.v.z0];rfl
 by_cases yK:v=0
 . have hev:(less b a).isEmpty=true:=emp _ (fun x=>by have:=HB x;have:=z x;rw[yK] at *;rw[he];omega);have hu:w.g.next[u]?=some none:=by rcases vb with rfl|q;exact absurd yK hvu;exact q
   obtain⟨o1,o2,_⟩:=rq (d:=less a b) (q:=0) h hu (.inl rfl) (funext fun x=>by have:=HB x;have:=z x;rw[yK] at *;show _=eJ (less a b) x+w.r 0 x;rw[hd];omega);refine⟨_,ea.ZC eb fun k h1 h2=>?_,o1.mono (Nat.le_succ _),o2⟩;rw[fC,h1,h2];subst yK;have h0u:(u==0)=false:=by simpa using fun q=>hvu q.symm
   simp only[if_neg hvu,hev,Bool.not_true,Bool.and_false,h0u,Bool.false_and,Bool.or_self,if_true,Bool.false_eq_true,if_false]
 by_cases UK:u=0
 . have hdv:(less a b).isEmpty=true:=emp _ (fun x=>by have:=HB x;have:=z x;rw[UK] at *;rw[hd];omega);have hv:w.g.next[v]?=some none:=by rcases va with rfl|q;exact absurd rfl yK;exact q
   obtain⟨o1,o2,_⟩:=rq (d:=less b a) (q:=0) h hv (.inl rfl) (funext fun x=>by have:=HB x;have:=z x;rw[UK] at *;show _=eJ (less b a) x+w.r 0 x;rw[he];omega);refine⟨_,ea.ZC eb fun k h1 h2=>?_,o1.mono (Nat.le_succ _),o2⟩;rw[fC,h1,h2];subst UK;have h0v:(v==0)=false:=by simpa using yK
   simp only[if_neg hvu,hdv,Bool.not_true,Bool.and_false,h0v,Bool.false_and,Bool.or_self,if_true,Bool.false_eq_true,if_false,if_neg yK]
 . have hv:w.g.next[v]?=some none:=by rcases va with rfl|q;exact absurd rfl yK;exact q
   have hu:w.g.next[u]?=some none:=by rcases vb with rfl|q;exact absurd rfl UK;exact q
   obtain⟨w1,x,e1,k1,l1,r1,n1⟩:=EU (ρ:=sub (w.r v) (eJ (less b a))) h hN ((h.v.sm v vl).le fun x=>Nat.sub_le _ _);have hx:∀y,y<w.g.ops.length->x≠y:=fun y hy=>by
     have:x=w.g.ops.length:=by
       have:=e1;rw[G.eR,ET (by have:=h.o;omega)] at this;simp only[Option.some.injEq,Prod.mk.injEq] at this;exact this.2.symm
     omega
   have nx:∀y:Nat,w.g.next[y]?=some none->w1.g.next[y]?=some none:=fun y hy=>by
     have:=e1;rw[G.eR,ET (by have:=h.o;omega)] at this;simp only[Option.some.injEq,Prod.mk.injEq] at this;rw[<- this.1];show(w.g.next++[none])[y]?=_;rw[gR (bJ hy)];exact hy
   obtain⟨o1,o2,o3⟩:=rq (d:=less b a) (q:=x) k1 (nx v hv) (.inr ⟨n1,hx v vl⟩) (by
     rw[l1.r v vl,r1.2];funext y;show _=eJ (less b a) y+(w.r v y-eJ (less b a) y)
     have:=HB y;rw[he];omega)
   obtain⟨p1,p2,_⟩:=rq (d:=less a b) (q:=x) o1 (v:=u) (by rw[o3 u (fun q=>hvu q.symm)];exact nx u hu) (.inr ⟨by rw[o3 x (hx v vl)];exact n1,hx u ul⟩) (by
     show w1.r u=add _ (w1.r x);rw[l1.r u ul,r1.2];funext y;show _=eJ (less a b) y+(w.r v y-eJ (less b a) y)
     have:=HB y;rw[he,hd];omega)
   refine⟨_,ea.ZC eb fun k h1 h2=>?_,p1,l1.trans (o2.trans p2)⟩;rw[fC,h1,h2];have h0v:(v==0)=false:=by simpa using yK
   have h0u:(u==0)=false:=by simpa using UK
   simp only[if_neg hvu,h0v,h0u,Bool.false_and,Bool.or_self,Bool.false_eq_true,if_false,if_neg yK,if_neg UK,e1]
def aio(g:G)(m n:Nat):G:=⟨g.kind,g.a,g.b,g.row,g.link.set m (some n),g.ops,g.next,g.tv,g.rv⟩
theorem zD(g:G)(m n:Nat):g.FA m n=aio g m n:=by unfold G.FA;simp only[jB,kj];rfl
theorem JV{w : Wd}{N m n : Nat}{τ : GT}(h : w.ok N)(hm : w.has m τ)(hn : w.has n τ)(rm : w.g.link[m]? = some none)(rn : w.g.link[n]? = some none)(jQ : m ≠ n) :
   Wd.ok ⟨w.g.FA m n,w.t,w.r⟩ N/\Le w ⟨w.g.FA m n,w.t,w.r⟩:=by
 have V:=h.v;rw[zD];refine⟨⟨⟨V.la,V.lb,V.lr,?_,V.lo,V.all.link rm rn jQ,fun x y hl=>?_,V.nd,V.r0,V.z0,V.rw,V.wh,V.sm⟩,h.k,h.o⟩,⟨Nat.le_refl _,Nat.le_refl _,fun _ _=>rfl,fun _ _=>rfl,fun n hn=>⟨rfl,rfl,rfl,rfl⟩⟩⟩
 . simp[aio,V.ll]
 . rcases LV hl with⟨rfl,e⟩|⟨_,hl⟩
   . cases e;show w.t x=w.t n;rw[hm.2,hn.2]
   . exact V.FA x y hl
def T_(t:Nat->GT)(r:Nat->nS)(N M kd:Nat)(a b:Option Nat)(j:Nat):GT->Prop
 |.int=>kd=1/\a=none/\b=none
 |.bool=>kd=2/\a=none/\b=none
 |.unit=>kd=3/\a=none/\b=none
 |.list α=>kd=4/\∃p,a=some p/\b=none/\p<N/\t p=α
 |.pair α β=>kd=5/\∃p q,a=some p/\b=some q/\(p<N/\t p=α)/\q<N/\t q=β
 |.fn α β ρ=>kd=6/\∃p q,a=some p/\b=some q/\(p<N/\t p=α)/\(q<N/\t q=β)/\j<M/\r j=ρ
theorem Nk.inv{t:Nat->GT}{r:Nat->nS}{N M kd j:Nat}{a b:Option Nat}{τ:GT}(h:Nk t r N M kd a b j τ):(kd=0/\a=none/\b=none)∨T_ t r N M kd a b j τ:=by
 cases h with
 |var=>exact .inl ⟨rfl,rfl,rfl⟩
 |int=>exact .inr ⟨rfl,rfl,rfl⟩
 |bool=>exact .inr ⟨rfl,rfl,rfl⟩
 |unit=>exact .inr ⟨rfl,rfl,rfl⟩
 |list h=>exact .inr ⟨rfl,_,rfl,rfl,h,rfl⟩
 |pair h k=>exact .inr ⟨rfl,_,_,rfl,rfl,⟨h,rfl⟩,k,rfl⟩
 |fn h k l=>exact .inr ⟨rfl,_,_,rfl,rfl,⟨h,rfl⟩,⟨k,rfl⟩,l,rfl⟩
def kdT:GT->Nat
 |.int=>1
 |.bool=>2
 |.unit=>3
 |.list _=>4
 |.pair _ _=>5
 |.fn _ _ _=>6
theorem T_.kd{t:Nat->GT}{r:Nat->nS}{N M kd j:Nat}{a b:Option Nat}{τ:GT}(h:T_ t r N M kd a b j τ):kd=kdT τ/\kd≠0:=by
 cases τ<;>(have:=h.1;subst this;exact⟨rfl,by decide⟩)
structure At (w:Wd) (e kd:Nat) (a b:Option Nat) (j:Nat):Prop where
 k:w.g.kind[e]?=some kd
 a:w.g.a[e]?=some a
 b:w.g.b[e]?=some b
 r:w.g.row[e]?=some j
theorem At.le{w w':Wd}{e kd j:Nat}{a b:Option Nat}(h:At w e kd a b j)(k:Le w w'):At w' e kd a b j:=by
 obtain⟨h1,h2,h3,h4⟩:=k.kd e (bJ h.k);exact⟨h1.trans h.k,h2.trans h.a,h3.trans h.b,h4.trans h.r⟩
theorem oK{w:Wd}{N n:Nat}{τ:GT}(h:w.ok N)(hn:w.has n τ):∃e kd a b j,Ev (fun k=>find k w.g n) e/\w.has e τ/\w.g.link[e]?=some none/\At w e kd a b j/\((kd=0/\a=none/\b=none)∨T_ w.t w.r w.g.kind.length w.g.ops.length kd a b j τ):=by
 obtain⟨e,h1,h2,h3⟩:=XH h hn;obtain⟨kd,a,b,j,g1,g2,g3,g4,g5⟩:=ain h h2;exact⟨e,kd,a,b,j,h1,h2,h3,⟨g1,g2,g3,g4⟩,g5.inv⟩
theorem uW{τ : GT}{w : Wd}{N m n : Nat}(h : w.ok N)(hm : w.has m τ)(hn : w.has n τ)
   (K:∀(e f kd:Nat)(a b a' b':Option Nat)(j j':Nat),(∀{P:Nat->Prop}{r:G×Bool},cY P->(∀k,find k w.g m=some e->find k w.g n=some f->P k->same (k+1) w.g m n=some r)->Ev (fun k=>same k w.g m n) r)->e≠f->kd≠0->At w e kd a b j->At w f kd a' b' j'->
     T_ w.t w.r w.g.kind.length w.g.ops.length kd a b j τ->T_ w.t w.r w.g.kind.length w.g.ops.length kd a' b' j' τ->Wd.ok ⟨w.g.FA e f,w.t,w.r⟩ N->Le w ⟨w.g.FA e f,w.t,w.r⟩->∃w',Ev (fun k=>same k w.g m n) (w'.g,true)/\w'.ok (N+τ.sz)/\Le w w'):
   ∃w',Ev (fun k=>same k w.g m n) (w'.g,true)/\w'.ok (N+τ.sz)/\Le w w':=by
 obtain⟨e,kd,a,b,j,ee,he,re,ae,ve⟩:=oK h hm;obtain⟨f,XG,a',b',j',ef,hf,rf,af,vf⟩:=oK h hn;have go:∀{P:Nat->Prop}{r:G×Bool},cY P->(∀k,find k w.g m=some e->find k w.g n=some f->P k->same (k+1) w.g m n=some r)->Ev (fun k=>same k w.g m n) r:=fun hP hr=>
   (cY.and ee (cY.and ef hP)).st fun k q=>hr k q.1 q.2.1 q.2.2
 by_cases q:e=f
 . subst q;exact⟨w,go .t (fun k h1 h2 _=>by rw[same,h1,h2];simp only[if_true]),h.mono (Nat.le_add_right _ _),Le.refl w⟩
 rcases ve with⟨rfl,_,_⟩|ve
 . obtain⟨o1,o2⟩:=JV h he hf re rf q;exact⟨_,go .t (fun k g1 g2 _=>by rw[same,g1,g2];simp only[if_neg q,ae.k,af.k,if_true]),o1.mono (Nat.le_add_right _ _),o2⟩
 rcases vf with⟨rfl,_,_⟩|vf
 . obtain⟨o1,o2⟩:=JV h hf he rf re (Ne.symm q);exact⟨_,go .t (fun k g1 g2 _=>by rw[same,g1,g2];simp only[if_neg q,ae.k,af.k,if_neg ve.kd.2,if_true]),o1.mono (Nat.le_add_right _ _),o2⟩
 have:kd=XG:=ve.kd.1.trans vf.kd.1.symm;subst this;obtain⟨o1,o2⟩:=JV h he hf re rf q;exact K e f kd a b a' b' j j' go q ve.kd.2 ae af ve vf o1 o2
theorem XI:∀(τ:GT){w:Wd}{N m n:Nat},w.ok N->N+τ.sz<=eQ->w.has m τ->w.has n τ->∃w',Ev (fun k=>same k w.g m n) (w'.g,true)/\w'.ok (N+τ.sz)/\Le w w':=fun τ=>by
 induction τ with
 |int|bool|unit=>
   intro w N m n h hN hm hn;refine uW h hm hn fun e f kd a b a' b' j j' go q z ae af ve vf o1 o2=>?_;obtain⟨rfl,rfl,rfl⟩:=ve;obtain⟨_,rfl,rfl⟩:=vf;exact⟨_,go .t (fun k g1 g2 _=>by rw[same,g1,g2];simp[q,ae.k,af.k,(ae.le o2).a,(ae.le o2).b]),o1.mono (Nat.le_add_right _ _),o2⟩
 |list α ih=>
   intro w N m n h hN hm hn;refine uW h hm hn fun e f kd a b a' b' j j' go q z ae af ve vf o1 o2=>?_;obtain⟨rfl,p,rfl,rfl,hp⟩:=ve;obtain⟨_,p',rfl,rfl,sP⟩:=vf;have hN:N+α.sz+1<=eQ:=hN;obtain⟨w1,e1,k1,l1⟩:=ih o1 (by omega) (Wd.has.le hp o2) (Wd.has.le sP o2);have L1:=o2.trans l1;exact⟨w1,go e1 (fun k g1 g2 g3=>by rw[same,g1,g2];simp[q,ae.k,af.k,(ae.le o2).a,(af.le o2).a,g3,(ae.le L1).b]),k1.mono (Nat.le_succ _),L1⟩
 |pair α β tx ss=>
   intro w N m n h hN hm hn;refine uW h hm hn fun e f kd a b a' b' j j' go q z ae af ve vf o1 o2=>?_;obtain⟨rfl,p,s,rfl,rfl,hp,hs⟩:=ve;obtain⟨_,p',s',rfl,rfl,sP,hs'⟩:=vf;have hN:N+(α.sz+β.sz+1)<=eQ:=hN;obtain⟨w1,e1,k1,l1⟩:=tx o1 (by omega) (Wd.has.le hp o2) (Wd.has.le sP o2);have L1:=o2.trans l1;obtain⟨w2,e2,k2,l2⟩:=ss k1 (by omega) (Wd.has.le hs L1) (Wd.has.le hs' L1);exact⟨w2,go (cY.and e1 e2) (fun k g1 g2 g3=>by rw[same,g1,g2];simp[q,ae.k,af.k,(ae.le o2).a,(af.le o2).a,g3.1,(ae.le L1).b,(af.le L1).b,g3.2]),k2.mono (by show _<=N+(α.sz+β.sz+1);omega),L1.trans l2⟩
 |fn α β ρ tx ss=>
   intro w N m n h hN hm hn;refine uW h hm hn fun e f kd a b a' b' j j' go q z ae af ve vf o1 o2=>?_;obtain⟨rfl,p,s,rfl,rfl,hp,hs,hj⟩:=ve;obtain⟨_,p',s',rfl,rfl,sP,hs',Uy⟩:=vf;have hN:N+(α.sz+β.sz+9)<=eQ:=hN;obtain⟨w1,e1,k1,l1⟩:=tx o1 (by omega) (Wd.has.le hp o2) (Wd.has.le sP o2);have L1:=o2.trans l1;obtain⟨w2,e2,k2,l2⟩:=ss k1 (by omega) (Wd.has.le hs L1) (Wd.has.le hs' L1);have L2:=L1.trans l2;obtain⟨w3,e3,k3,l3⟩:=Bh k2 (by omega) (Wd.aH.le hj L2) (Wd.aH.le Uy L2);exact⟨w3,go (cY.and e1 (cY.and e2 e3)) (fun k g1 g2 g3=>by rw[same,g1,g2];simp[q,ae.k,af.k,(ae.le o2).a,(af.le o2).a,g3.1,(ae.le L1).b,(af.le L1).b,g3.2.1,(ae.le L2).r,(af.le L2).r,g3.2.2]),k3.mono (by show _<=N+(α.sz+β.sz+9);omega),L2.trans l3⟩
end Go.Tc
