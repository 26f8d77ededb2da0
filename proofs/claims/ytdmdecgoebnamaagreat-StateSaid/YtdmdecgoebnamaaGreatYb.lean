/- A text by its bytes. -/
import Derived.WalkKit
import Derived.OrdersHeld
import Derived.Deep.Quiet
import Derived.Deep.LoopGhost
import Derived.Deep.MidRow
import Derived.Laws.IdiomStrings
import Derived.Laws.AppendOwn
import Derived.KernelRfl
import Derived.Lib.AppendStr
import Derived.LoopN
import Derived.Lib.SlBytesConst
import Derived.Lib.FrozenHead
import Derived.ChangeShapes
import Derived.Maps.AppendAt
import GoSem.Op.String
set_option linter.unusedVariables false
set_option linter.unusedSimpArgs false
namespace Go
abbrev bY(l:List UInt8):ByteArray:=⟨l.toArray⟩
abbrev Ω:=Option Addr
abbrev Θ:=List Value
abbrev Ξ:=ByteArray
abbrev Ψ:=World
abbrev Φ:=Nat->Prop
abbrev Υ(b:Nat):Addr:=⟨b,0,none⟩
abbrev Χ(b:Nat):Option Addr:=some ⟨b,0,none⟩
end Go
namespace Go.Gx
open Go.RowKit
theorem XW{a b:Nat}(h:a<b):Nat.blt a b=true:=Nat.ble_eq_true_of_le h
theorem XX{a b:Nat}(h:¬a<b):Nat.blt a b=false:=by
 cases e:Nat.blt a b
 . rfl
 . exact absurd (Nat.le_of_ble_eq_true e) h
def get(b:Nat->Value):List (Nat×Value)->Nat->Value
 |[],i=>b i
 |(j,v)::r,i=>match Nat.beq j i with
   |true=>v
   |false=>get b r i
def ev(b:Nat->Value)(n:Nat)(l:List (Nat×Value)):Operand->Value
 |.tmp t=>match Nat.blt t n with
   |true=>get b l t
   |false=>undef
 |.const v=>v
 |.global g=>.pointer (some ⟨g,0,none⟩)
 |.func f=>.func (.func f) #[] #[]
def Fr(b:Nat->Value)(n:Nat)(l:List (Nat×Value))(d:List Deferred):Act:=
 { tmps:=Array.ofFn (n:=n) (fun i=>get b l i.val),defers:=d }
theorem iD(b:Nat->Value)(n:Nat)(l:List (Nat×Value))(d:List Deferred):(Fr b n l d).eval=ev b n l:=by
 funext x;cases x with
 |tmp t=>
   by_cases h:t<n
   . have:=XW h;simp[Act.eval,Fr,ev,this,Array.getD,h]
   . have:=XX h;simp[Act.eval,Fr,ev,this,Array.getD,h]
 |const v=>rfl
 |global g=>rfl
 |func f=>rfl
theorem ZH(b : Nat -> Value)(n : Nat)(l : List (Nat × Value))(d : List Deferred)(i : Nat)(v : Value) :
   (Fr b n l d).put (some i) v=Fr b n ((i,v)::l) d:=by
 simp only[Act.put,Fr];congr 1;apply Array.ext
 . simp
 . intro j h1 h2;simp only[Array.size_setIfInBounds,Array.size_ofFn] at h1;simp only[Array.getElem_ofFn,get];by_cases Ux:i=j
   . subst Ux;rw[Array.getElem_setIfInBounds (by simpa using h1)];simp
   . have : Nat.beq i j = false := by
       rw[Bool.eq_false_iff];intro h';exact Ux (Nat.eq_of_beq_eq_true h')
     rw[Array.getElem_setIfInBounds (by simpa using h1),if_neg Ux];simp[this]
def yl(ops:Array Oper)(b:Nat->Value)(n:Nat)(l:List (Nat×Value))(j:Nat):Option Bool:=
 match ops[j]? with
 |none=>none
 |some o=>match o.dst with
   |none=>none
   |some d=>match Nat.blt d n with
     |true=>match get b l d with
       |.bool t=>some t
       |_=>none
     |false=>none
theorem fq(ops:Array Oper)(b:Nat->Value)(n:Nat)(l:List (Nat×Value))(d:List Deferred):yielded ops (Fr b n l d).tmps=yl ops b n l:=by
 funext j;unfold yielded yl;cases ops[j]? with
 |none=>rfl
 |some o=>
   simp only[Option.bind_some];cases o.dst with
   |none=>rfl
   |some k=>
     simp only[Option.bind_some];by_cases h:k<n
     . have:=XW h;have e:(Fr b n l d).tmps[k]?=some (get b l k):=by simp[Fr,h]
       rw[e,this];cases get b l k<;>rfl
     . have:=XX h;have e:(Fr b n l d).tmps[k]?=none:=Array.getElem?_eq_none (by simpa[Fr] using Nat.le_of_not_lt h);rw[e,this]
theorem forget{b : Nat -> Value}{n : Nat}{l : List (Nat × Value)}{d : List Deferred}(l' : List (Nat × Value))
   (h:l'.map (fun p=>get b l p.1)=l'.map (fun p=>p.2)):Fr b n l d=Fr (get b l) n l' d:=by
 unfold Fr;congr 1;apply Array.ext
 . simp
 . intro j h1 h2;simp only[Array.getElem_ofFn];clear h1 h2;induction l' with
   |nil=>rfl
   |cons p r ih=>
     obtain⟨k,v⟩:=p;simp only[List.map_cons,List.cons.injEq] at h;simp only[get];cases hk:Nat.beq k j with
     |true=>
       have:=Nat.eq_of_beq_eq_true hk;subst this;simpa using h.1
     |false=>simpa using ih h.2
def iE(o:Oper)(v:Value)(l:List (Nat×Value)):List (Nat×Value):=
 match o.dst with
 |some d=>(d,v)::l
 |none=>l
def wm(P:Program)(ops:Array Oper)(b:Nat->Value)(n:Nat):List Nat->List (Nat×Value)->Ψ->Option (List (Nat×Value)×Ψ)
 |[],l,w=>some (l,w)
 |i::r,l,w=>match ops[i]? with
   |none=>wm P ops b n r l w
   |some o=>match Region.wanted o (yl ops b n l) with
     |true=>match(execOp (ev b n l) o).run P w with
       |.ok (.value v) w'=>wm P ops b n r (iE o v l) w'
       |.ok .skip w'=>wm P ops b n r (iE o undef l) w'
       |_=>none
     |false=>wm P ops b n r (iE o undef l) w
section
variable {P:Program} {ops:Array Oper} {Q:Exit->Act->Ψ->Prop} {b:Nat->Value} {n:Nat} {l:List (Nat×Value)} {d:List Deferred} {w:Ψ}
theorem gT(o:Oper)(v:Value):(Fr b n l d).put o.dst v=Fr b n (iE o v l) d:=by
 unfold iE;cases o.dst with
 |none=>rfl
 |some k=>exact ZH b n l d k v
theorem U8{is js : List Nat}{l' : List (Nat × Value)}{w' : Ψ}(h : wm P ops b n is l w = some (l', w'))(k : wpOps P ops Q js (Fr b n l' d) w') :
   wpOps P ops Q (is++js) (Fr b n l d) w:=by
 induction is generalizing l w with
 |nil=>
   simp only[wm,Option.some.injEq,Prod.mk.injEq] at h;obtain⟨rfl,rfl⟩:=h;exact k
 |cons i r ih=>
   simp only[wm] at h;simp only[List.cons_append,wpOps];cases ho:ops[i]? with
   |none=>simp only[ho] at h;exact ih h
   |some o=>
     simp only[ho] at h;simp only[fq];cases hw:Region.wanted o (yl ops b n l) with
     |false=>
       simp only[hw] at h;simp only[Bool.false_eq_true,if_false,gT];exact ih h
     |true=>
       simp only[hw] at h;simp only[if_true];refine .inl ?_;unfold Oper.wp;rw[iD];cases hr:(execOp (ev b n l) o).run P w with
       |halt x w1=>simp[hr] at h
       |ok x w1=>
         rw[hr] at h;cases x<;>simp only[reduceCtorEq] at h;case value v=>simp only[Oper.upon,gT];exact ih h
         case skip=>simp only[Oper.upon,gT];exact ih h
theorem pure{all : List Nat}(is js : List Nat)(new : List (Nat × Value))(hs : is ++ js = all)(h : wm P ops b n is l w = some (new ++ l, w))(k : wpOps P ops Q js (Fr b n (new ++ l) d) w) :
   wpOps P ops Q all (Fr b n l d) w:=by subst hs;exact U8 h k
theorem cons{i:Nat}{js:List Nat}{a:Act}(h:wpOp P ops Q i (wpOps P ops Q js) a w):wpOps P ops Q (i::js) a w:=by rw[wpOps_cons];exact h
variable {K:Act->Ψ->Prop}
theorem Df{i : Nat}{o : Oper}{v : Value}{w' : Ψ}(ho : ops[i]? = some o)(hg : Region.wanted o (yl ops b n l) = true)
   (hr:(execOp (ev b n l) o).run P w=.ok (.value v) w') (k:K (Fr b n (iE o v l) d) w'):wpOp P ops Q i K (Fr b n l d) w:=by
 simp only[wpOp,ho];rw[fq,if_pos hg];refine .inl ?_;unfold Oper.wp;rw[iD,hr];simp only[Oper.upon,gT];exact k
theorem Dg{i : Nat}{o : Oper}{w' : Ψ}(ho : ops[i]? = some o)(hg : Region.wanted o (yl ops b n l) = true)
   (hr:(execOp (ev b n l) o).run P w=.ok .skip w') (k:K (Fr b n (iE o undef l) d) w'):wpOp P ops Q i K (Fr b n l d) w:=by
 simp only[wpOp,ho];rw[fq,if_pos hg];refine .inl ?_;unfold Oper.wp;rw[iD,hr];simp only[Oper.upon,gT];exact k
theorem ZI{i:Nat}{o:Oper}(ho:ops[i]?=some o)(hg:Region.wanted o (yl ops b n l)=false)(k:K (Fr b n (iE o undef l) d) w):wpOp P ops Q i K (Fr b n l d) w:=by
 simp only[wpOp,ho];rw[fq,if_neg (by simp[hg]),gT];exact k
theorem U9{i f : Nat}{args : Array Value}{o : Oper}(ho : ops[i]? = some o)(hg : Region.wanted o (yl ops b n l) = true)
   (hr:(execOp (ev b n l) o).run P w=.ok (.enter f args) w)
   (k:∀R:Ending->Ψ->Prop,(∀v w',K (Fr b n (iE o v l) d) w'->R (.returned v) w')->Calls P f args w R):wpOp P ops Q i K (Fr b n l d) w:=by
 simp only[wpOp,ho];rw[fq,if_pos hg];refine .inl ?_;unfold Oper.wp;rw[iD,hr];simp only[Oper.upon,gT];exact k _ fun v w' h=>h
theorem J0{a:Act}(h:Q .normal a w):wpOps P ops Q [] a w:=h
theorem split{all:List Nat}{a:Act}(T:Bool)(h1:T=true->wpOps P ops Q all a w)(h2:T=false->wpOps P ops Q all a w):wpOps P ops Q all a w:=by
 cases T
 . exact h2 rfl
 . exact h1 rfl
theorem HT{a:Act}{i:Nat}(h:Q .normal a w):Exit.inBlock i Q (.exit i) a w:=by simpa[Exit.inBlock] using h
theorem Fp{a:Act}{i j:Nat}(jQ:Nat.beq j i=false)(h:Q (.exit j) a w):Exit.inBlock i Q (.exit j) a w:=by
 have:¬j=i:=fun e=>by subst e;simp at jQ
 simpa[Exit.inBlock,this] using h
theorem cond{c : Operand}{x y : Code}(T : Bool)(hc : ev b n l c = .bool T)(h1 : T = true -> x.wp P Q (Fr b n l d) w)(h2 : T = false -> y.wp P Q (Fr b n l d) w) :
   (Code.cond c x y).wp P Q (Fr b n l d) w:=by
 refine wp_cond_split (t:=T) ?_ h1 h2;rw[iD];exact hc
theorem cut{x y : Code}{n' : Nat}{d' : List Deferred}(I : List (Nat × Value) -> Ψ -> Prop){a : Act}
   (h1:∀K:Act->Ψ->Prop,(∀b' l' w',I l' w'->K (Fr b' n' l' d') w')->x.wp P (Exit.then K Q) a w)
   (h2:∀b' l' w',I l' w'->y.wp P Q (Fr b' n' l' d') w'):(Code.seq x y).wp P Q a w:=
 wp_seq (h1 _ h2)
theorem loop{c : Code}{n' : Nat}{d' : List Deferred}(I : Nat -> List (Nat × Value) -> Ψ -> Prop)(Fq : Nat)(OJ : Nat -> Value)(HU : List (Nat × Value)){a : Act}
   (ha:a=Fr OJ n' HU d') (OK:I Fq HU w)
   (round:∀(b':Nat->Value)(m:Nat)(l':List (Nat×Value))(w':Ψ),I m l' w'->∀K:Act->Ψ->Prop,
     (∀(U_:Nat->Value)(m':Nat)(N8:List (Nat×Value))(n8:Ψ),m'<m->I m' N8 n8->K (Fr U_ n' N8 d') n8)->c.wp P (Exit.then K Q) (Fr b' n' l' d') w'):
   (Code.loop c).wp P Q a w:=by
 refine wp_loop_ghost (fun m a w=>∃b' l',a=Fr b' n' l' d'/\I m l' w) Fq ⟨OJ,HU,ha,OK⟩ ?_;rintro m a w ⟨b',l',rfl,hI⟩;exact round b' m l' w hI _ fun U_ m' N8 n8 eK hI'=>⟨m',eK,U_,N8,rfl,hI'⟩
end
def sC:Θ->Nat->List (Nat×Value)
 |[],_=>[]
 |v::r,i=>(i,v)::sC r (i+1)
theorem zf(b:Nat->Value):∀(vs:Θ)(i j:Nat),get b (sC vs i) j=if h:i<=j/\j-i<vs.length then vs[j-i]'h.2 else b j
 |[],i,j=>by simp[sC,get]
 |v::r,i,j=>by
   simp only[sC,get];by_cases Ux:i=j
   . subst Ux;simp
   . have : Nat.beq i j = false := by
       rw[Bool.eq_false_iff];intro h';exact Ux (Nat.eq_of_beq_eq_true h')
     rw[this,zf b r (i+1) j];by_cases eK:i+1<=j/\j-(i+1)<r.length
     . rw[dif_pos eK,dif_pos (by simp;omega)];have:j-i=(j-(i+1))+1:=by omega
       simp[this]
     . rw[dif_neg eK,dif_neg (by simp;omega)]
theorem enter{P : Program}{f : FuncId}{fn : Func}{c : Code}{vs : Θ}{w : Ψ}{K : Ending -> Ψ -> Prop}(n : Nat)
   (hf:P.funcs[f]?=some fn) (hb:fn.body=some c) (hn:fn.ntmps=n) (hle:vs.length<=n)
   (h:c.wp P (bodyPost P fn K) (Fr (fun _=>undef) n (sC vs 0) []) w):Calls P f vs.toArray w K:=by
 refine calls_of_wp hf hb ?_;have e:({ tmps:=vs.toArray++Array.replicate (fn.ntmps-vs.toArray.size) undef,defers:=[] }:Act)=Fr (fun _=>undef) n (sC vs 0) []:=by
   unfold Fr;congr 1;apply Array.ext
   . simp[hn];omega
   . intro j h1 h2;simp only[Array.getElem_ofFn,zf,Nat.zero_le,true_and,Nat.sub_zero];by_cases hj:j<vs.length
     . rw[dif_pos hj,Array.getElem_append_left (by simpa using hj)];simp
     . rw[dif_neg hj,Array.getElem_append_right (by simpa using hj)];simp
 rw[e];exact h
theorem Ce(b:Nat->Value)(n:Nat)(l:List (Nat×Value))(d:List Deferred)(t:Nat):(Fr b n l d).tmps.getD t undef=ev b n l (.tmp t):=by
 have:=congrFun (iD b n l d) (.tmp t);simpa[Act.eval] using this
theorem ret{P : Program}{fn : Func}{K : Ending -> Ψ -> Prop}{b : Nat -> Value}{n : Nat}{l : List (Nat × Value)}{w : Ψ}{v : Value}
   (hr:(results fn (Fr b n l []).tmps).run P w=.ok v w) (h:K (.returned v) w):bodyPost P fn K .ret (Fr b n l []) w:=⟨rfl,v,hr,h⟩
theorem aeG{P : Program}{fn : Func}{K : Ending -> Ψ -> Prop}{b : Nat -> Value}{n : Nat}{l : List (Nat × Value)}{w : Ψ}{v : Value}
   (hr:(results fn (Fr b n l []).tmps).run P w=.ok v w) (h:K (.returned v) w):bodyPost P fn K .normal (Fr b n l []) w:=⟨rfl,v,hr,h⟩
def Has(w:Ψ)(b:Nat)(o:Obj):Prop:=w.heap[b]?=some o
theorem Has.lt{w:Ψ}{b:Nat}{o:Obj}(h:Has w b o):b<w.heap.size:=(Array.getElem?_eq_some_iff.1 h).1
abbrev G(w w':Ψ)(r:Option Nat):Prop:=w.grownBy w' r
abbrev Ext(w w':Ψ):Prop:=w.grownBy w' none
theorem Ext.refl(w:Ψ):Ext w w:=⟨rfl,rfl,rfl,Nat.le_refl _,fun _ _ _=>rfl⟩
theorem Ext.trans{w w' n8:Ψ}(h:Ext w w')(k:Ext w' n8):Ext w n8:=
 ⟨k.os.trans h.os,k.tape.trans h.tape,k.output.trans h.output,Nat.le_trans h.size k.size,
   fun i hi _=>(k.block i (Nat.lt_of_lt_of_le hi h.size) (by simp)).trans (h.block i hi (by simp))⟩
theorem Ext.Dh{w w' n8:Ψ}{r:Option Nat}(h:Ext w w')(k:G w' n8 r)(hr:∀j,r=some j->w.heap.size<=j):Ext w n8:=
 ⟨k.os.trans h.os,k.tape.trans h.tape,k.output.trans h.output,Nat.le_trans h.size k.size,
   fun i hi _=>(k.block i (Nat.lt_of_lt_of_le hi h.size) (fun e=>by have:=hr i e.symm;omega)).trans (h.block i hi (by simp))⟩
theorem Ext.below{w w':Ψ}(h:Ext w w'):Below w.heap.size w w':=⟨h.os,h.tape,h.output,h.size,fun k hk=>h.block k hk (by simp)⟩
theorem Ext.OL{w w':Ψ}(h:Below w.heap.size w w'):Ext w w':=⟨h.os,h.tape,h.output,h.size,fun k hk _=>h.block k hk⟩
theorem Ext.drawn(w:Ψ)(k:Nat):Ext w { w with drawn:=k }:=⟨rfl,rfl,rfl,Nat.le_refl _,fun _ _ _=>rfl⟩
theorem Has.ext{w w':Ψ}{b:Nat}{o:Obj}(h:Has w b o)(k:Ext w w'):Has w' b o:=(k.block b h.lt (by simp)).trans h
theorem Has.Dh{w w':Ψ}{b:Nat}{o:Obj}{r:Option Nat}(h:Has w b o)(k:G w w' r)(jQ:some b≠r):Has w' b o:=(k.block b h.lt jQ).trans h
theorem Di(w:Ψ)(o:Obj):Ext w (w.alloc o):=World.grownBy_alloc w o none
theorem Cf(w:Ψ)(o:Obj):Has (w.alloc o) w.heap.size o:=heap_alloc_new w o
theorem OM(w:Ψ)(g:Nat)(cs:Array Value):G w (w.setRow g cs) (some g):=
 ⟨rfl,rfl,rfl,by simp,fun k _ jQ=>setRow_other w g k cs (by simpa using jQ)⟩
theorem HV{w:Ψ}{g:Nat}{N9:Array Value}{e:TypeId}(cs:Array Value)(h:Has w g (.cells N9 e)):Has (w.setRow g cs) g (.cells cs e):=
 setRow_heap w g N9 cs e (0,0) h
theorem zg(w:Ψ)(g:Nat)(o:Obj):G w { w with heap:=w.heap.setIfInBounds g o } (some g):=
 ⟨rfl,rfl,rfl,by simp,fun k _ jQ=>by
   have:g≠k:=fun e=>jQ (by rw[e])
   simp[Array.getElem?_setIfInBounds_ne this]⟩
theorem sD{w:Ψ}{g:Nat}{o:Obj}(o':Obj)(h:Has w g o):Has { w with heap:=w.heap.setIfInBounds g o' } g o':=by
 have:=h.lt;simp[Has,this]
section
variable {P:Program} {ops:Array Oper} {Q:Exit->Act->Ψ->Prop} {b:Nat->Value} {n:Nat} {l:List (Nat×Value)} {d:List Deferred} {w:Ψ}
variable {K:Act->Ψ->Prop}
def rJ(P:Program)(t:TypeId)(cs:Array Value)(off:Nat):Option Value:=
 match P.underlying t with
 |some (.struct _)|some (.array _ _)=>match P.info? t with
   |some i=>match Nat.ble (off+i.size) cs.size with
     |true=>some (.agg ((cs.toList.drop off).take i.size).toArray)
     |false=>none
   |none=>none
 |some _=>cs[off]?
 |none=>none
theorem kO{t : TypeId}{bk off : Nat}{cs : Array Value}{e : TypeId}{fr : Nat × Nat}{v : Value}(hb : Has w bk (.cells cs e fr))(hv : rJ P t cs off = some v) :
   (loadVar t ⟨bk,off,none⟩).run P w=.ok v w:=by
 have hc:∀j,w.cell? ⟨bk,j,none⟩=cs[j]?:=fun j=>cell_of_row w bk j cs e fr hb;unfold rJ at hv;cases hu:P.underlying t with
 |none=>simp[hu] at hv
 |some Dj=>
   rw[hu] at hv
   have agg : ∀(hd : (match Dj with | .struct _ | .array _ _ => true | _ => false) = true), (match P.info? t with
       |some i=>match Nat.ble (off+i.size) cs.size with
         |true=>some (Value.agg ((cs.toList.drop off).take i.size).toArray)
         |false=>none
       |none=>none)=some v->(loadVar t ⟨bk,off,none⟩).run P w=.ok v w:=by
     intro hd hv
     cases hi:P.info? t with
     |none=>simp[hi] at hv
     |some i=>
       rw[hi] at hv
       cases hle:Nat.ble (off+i.size) cs.size with
       |false=>simp[hle] at hv
       |true=>
         have arQ:=Nat.le_of_ble_eq_true hle
         simp only[hle,Option.some.injEq] at hv
         have hlen:((cs.toList.drop off).take i.size).length=i.size:=by simp;omega
         subst hv
         refine run_loadVar_mid (P:=P) w bk off t ((cs.toList.drop off).take i.size) Dj (fun j u hu=>?_) hu (by cases Dj<;>simp_all [TypeDesc.isRow]) (by simp[hi,hlen])
         have hj:j<i.size:=by
           have:=(List.getElem?_eq_some_iff.1 hu).1;omega
         rw[hc]
         rw[List.getElem?_take,if_pos hj,List.getElem?_drop] at hu
         simpa using hu
   cases Dj with
   |struct fs=>exact agg rfl hv
   |array k e=>exact agg rfl hv
   |_=>
     simp only at hv;have h1:w.cell? ⟨bk,off,none⟩=some v:=by rw[hc];exact hv
     simp[loadVar,isAgg,underlying,hu,Sem.run_bind,go_sem,h1]
theorem J1{i : Nat}{o : Oper}{t : TypeId}{x : Operand}(ho : ops[i]? = some o)(hg : Region.wanted o (yl ops b n l) = true)(hop : o.op = .load t x)
   {bk:Nat} (off:Nat) (v:Value) (hx:ev b n l x=.pointer (some ⟨bk,off,none⟩)) {cs:Array Value} {e:TypeId} {fr:Nat×Nat} (hb:Has w bk (.cells cs e fr)) (hv:rJ P t cs off=some v)
   (k:K (Fr b n (iE o v l) d) w):wpOp P ops Q i K (Fr b n l d) w:=by
 refine Df ho hg ?_ k;unfold execOp;simp[hop,hx,Instr.loadAt,Instr.sureAddr,Sem.run_bind,kO hb hv]
theorem run_load{o : Oper}{t : TypeId}{x : Operand}(hop : o.op = .load t x)
   {bk:Nat} (off:Nat) (v:Value) (hx:ev b n l x=.pointer (some ⟨bk,off,none⟩)) {cs:Array Value} {e:TypeId} {fr:Nat×Nat} (hb:Has w bk (.cells cs e fr)) (hv:rJ P t cs off=some v):
   (execOp (ev b n l) o).run P w=.ok (.value v) w:=by
 unfold execOp;simp[hop,hx,Instr.loadAt,Instr.sureAddr,Sem.run_bind,kO hb hv]
theorem Ft{i : Nat}{o : Oper}{t : TypeId}{x y : Operand}(ho : ops[i]? = some o)(hg : Region.wanted o (yl ops b n l) = true)(hop : o.op = .store t x y)
   {bk:Nat} (off:Nat) (v:Value) (hx:ev b n l x=.pointer (some ⟨bk,off,none⟩)) (hy:ev b n l y=v) {cs:Array Value} {e:TypeId} (hb:Has w bk (.cells cs e))
   (hs:(P.info? t).map (·.size)=some v.cells.size) (h1:v.cells.all (·.oneCell')=true) (ON:Nat.ble (off+v.cells.size) cs.size=true)
   (cs':Array Value) (o9:(cs.toList.take off++v.cells.toList++cs.toList.drop (off+v.cells.size)).toArray=cs')
   (k:∀w',G w w' (some bk)->Has w' bk (.cells cs' e)->K (Fr b n (iE o undef l) d) w'):wpOp P ops Q i K (Fr b n l d) w:=by
 have cT:=run_storeCells_at P bk off e v.cells.toList 0 cs w hb (by simpa using Nat.le_of_ble_eq_true ON) (fun u hu=>(Array.all_eq_true_iff_forall_mem.1 h1) u (by simpa using hu));simp only[Nat.add_zero,Array.length_toList,o9] at cT;refine Dg ho hg (w':=w.setRow bk cs') ?_ (k _ (OM w bk cs') (HV cs' hb));cases hi:P.info? t with
 |none=>simp[hi] at hs
 |some info=>
   simp only[hi,Option.map_some,Option.some.injEq] at hs;generalize hcv:v.cells=cv at *;unfold execOp;simp[hop,hx,hy,Instr.storeAt,Instr.sureAddr,storeVar,sizeOf,typeInfo,Sem.run_bind,hi,hs,cT,hcv]
def ag(s:Ξ)(m:Nat):UInt8:=s.data[m]?.getD 0
theorem L_{s:Ξ}{m:Nat}(h:m<s.size):s[m]?=some (ag s m):=by
 have h':m<s.data.size:=h;have:s[m]?=some (s[m]'h):=by simp[getElem?_pos,h]
 rw[this];unfold ag;rw[Array.getElem?_eq_getElem h'];rfl
theorem rK{t : TypeId}{s : Ξ}(hu : P.underlying t = some .string)(lo hi : Option Value)(a c : Nat)
   (hlo:(lo=none/\a=0)∨∃kd,lo=some (.int kd (a:Int))) (hhi:(hi=none/\c=s.size)∨∃kd,hi=some (.int kd (c:Int))) (Va:a<=c) (hc:c<=s.size):
   (Instr.slice t (.string s) lo hi none).run P w=.ok (.string (s.extract a c)) w:=by
 rcases hlo with⟨rfl,rfl⟩|⟨kl,rfl⟩<;>rcases hhi with⟨rfl,rfl⟩|⟨kh,rfl⟩<;>
   simp[Instr.slice,Instr.sliceBounds,Instr.sliceBound,asIntOf,underlying,hu,Sem.run_bind,go_sem,Va,hc]
theorem draw{id : Nat}{S : Ψ -> Prop}{Q' : Exit -> Act -> Ψ -> Prop}{a : Act}(hm : P.follows .mixedOrders = true)
   (h:∀w',Ext w w'->wpAnyH P .any ops Q' S ops.size (Array.replicate ops.size false) a w'):(Code.region id ops true).wp P Q' a w:=
 wp_region_held hm (h _ (Ext.drawn w _))
end
theorem bq{x:Int}{n:Nat}(h:x=(n:Int))(hb:n<=9223372036854775807):IntKind.i64.wrap x=(n:Int):=by
 rw[IntWalk.i64_in _ (by omega),h]
theorem ah{K:Ending->Ψ->Prop}{v v':Value}{w:Ψ}(e:v'=v)(h:K (.returned v') w):K (.returned v) w:=e▸h
section
variable {P:Program} {Q:Exit->Act->Ψ->Prop} {a:Act} {w:Ψ}
variable {ops:Array Oper} {b:Nat->Value} {n:Nat} {l:List (Nat×Value)} {d:List Deferred} {K:Act->Ψ->Prop}
end
section
variable {P:Program} {Q:Exit->Act->Ψ->Prop} {w:Ψ} {ops:Array Oper} {b:Nat->Value} {n:Nat} {l:List (Nat×Value)} {d:List Deferred} {K:Act->Ψ->Prop}
def wX(L:List Ξ):Array Value:=(L.map Value.string).toArray
def gs(L:List Ξ)(m:Nat):Ξ:=(L[m]?).getD ⟨#[]⟩
theorem po{o : Oper}{t : TypeId}{x : Operand}{lo hi : Option Operand}(hop : o.op = .slice t x lo hi none)
   (hu:P.underlying t=some .string) (s:Ξ) (a c:Nat) (hx:ev b n l x=.string s)
   (hlo:(lo=none/\a=0)∨∃kd,lo.map (ev b n l)=some (.int kd (a:Int))) (hhi:(hi=none/\c=s.size)∨∃kd,hi.map (ev b n l)=some (.int kd (c:Int))) (Va:a<=c) (hc:c<=s.size):
   (execOp (ev b n l) o).run P w=.ok (.value (.string (s.extract a c))) w:=by
 unfold execOp;have h:=rK (P:=P) (w:=w) hu (lo.map (ev b n l)) (hi.map (ev b n l)) a c (hlo.imp (fun h=>⟨by simp[h.1],h.2⟩) id) (hhi.imp (fun h=>⟨by simp[h.1],h.2⟩) id) Va hc;have h':(Instr.sliceAt t (.string s) (lo.map (ev b n l)) (hi.map (ev b n l)) none).run P w=.ok (.string (s.extract a c)) w:=by
   unfold Instr.sliceAt;simp only[Sem.run_bind,run_underlying hu,Result.andThen_ok,h]
 simp[hop,hx,Sem.run_bind,h']
end
section
variable {P:Program} {Q:Exit->Act->Ψ->Prop} {w:Ψ} {ops:Array Oper} {b:Nat->Value} {n:Nat} {l:List (Nat×Value)} {d:List Deferred}
end
section
variable {P:Program} {Q:Exit->Act->Ψ->Prop} {w:Ψ} {ops:Array Oper} {b:Nat->Value} {n:Nat} {l:List (Nat×Value)} {d:List Deferred} {K:Act->Ψ->Prop}
end
section
variable {P:Program}
def eqV:Value->Value->Option Bool
 |.int k a,.int k' b=>if k=k' then some (a==b) else none
 |.bool a,.bool b=>some (a==b)
 |.string a,.string b=>some (a.toList==b.toList)
 |_,_=>none
def ZJ(P:Program)(t:TypeId):Value->Bool
 |.int _ _=>match P.underlying t with|some (.int _)=>true|_=>false
 |.bool _=>match P.underlying t with|some .bool=>true|_=>false
 |.string _=>match P.underlying t with|some .string=>true|_=>false
 |_=>false
def XY(P:Program)(xs ys:Array Value):List Field->Option Bool
 |[]=>some true
 |f::fs=>match f.name== "_" with
   |true=>none
   |false=>match xs[f.offset]?,ys[f.offset]? with
     |some x,some y=>match ZJ P f.type x with
       |true=>match eqV x y,XY P xs ys fs with
         |some a,some b=>some (a&&b)
         |_,_=>none
       |false=>none
     |_,_=>none
variable {w:Ψ} {b:Nat->Value} {n:Nat} {l:List (Nat×Value)}
end
theorem vc{w : Ψ}{base : Nat}{e : TypeId}{size : Nat}{v : Value}{n : Nat}{xs : Θ}(h : w.ownsRow base e size v n xs) : xs.length = n * size /\ ∃ a cap, v = .slice a n cap /\
   (0<n->∃g cs,a=some ⟨g,0,none⟩/\base<=g/\Has w g (.cells cs e)/\n*size<=cs.size/\cs.toList.take (n*size)=xs):=by
 obtain⟨h0,h⟩:=h;refine⟨h0,?_⟩;rcases h with⟨rfl,rfl⟩|⟨g,cap,cur,rfl,hb,hg,hn,hm,hs,ht⟩
 . exact⟨none,0,rfl,fun h=>absurd h (by omega)⟩
 . exact⟨some ⟨g,0,none⟩,cap,rfl,fun _=>⟨g,cur,rfl,hb,hg,by rw[hs];exact Nat.mul_le_mul_right _ hn,ht⟩⟩
end Go.Gx
namespace Go.Lex
open Go.Gx (ag)
def aj(c:UInt8):Bool:=decide ((c.toNat:Int)>=48)&&decide ((c.toNat:Int)<=57)
def az(c:UInt8):Bool:=((decide ((c.toNat:Int)>=97)&&decide ((c.toNat:Int)<=122))||(decide ((c.toNat:Int)>=65)&&decide ((c.toNat:Int)<=90)))||((c.toNat:Int)==95)
def dx(c:UInt8):Bool:=((((c.toNat:Int)==9)||((c.toNat:Int)==10))||((c.toNat:Int)==13))||((c.toNat:Int)==32)
abbrev sgB:Ξ:=⟨#[40,41,91,93,123,125,44,59,58,61,45,43,42,60,124,126]⟩
def oL(c:UInt8):Bool:=(List.range 16).any (fun j=>(ag sgB j).toNat==c.toNat)
def cls(c:UInt8):Nat:=
 if dx c=true then 1 else if((c.toNat:Int)==35)=true then 2 else if aj c=true then 3 else if az c=true then 4 else if oL c=true then 5 else 0
theorem qK(c:UInt8):aj c=true↔48<=c.toNat/\c.toNat<=57:=by simp[aj];omega
theorem HW(c:UInt8):az c=true↔(97<=c.toNat/\c.toNat<=122)∨(65<=c.toNat/\c.toNat<=90)∨c.toNat=95:=by simp[az];omega
theorem qM(c:UInt8):dx c=true↔c.toNat=9∨c.toNat=10∨c.toNat=13∨c.toNat=32:=by simp[dx];omega
def stop(p:UInt8->Bool)(s:Ξ)(k:Nat):Nat:=
 if _h:k<s.size/\p (ag s k)=true then stop p s (k+1) else k
termination_by s.size-k
theorem fN{p:UInt8->Bool}{s:Ξ}{k:Nat}(h:k<s.size)(hp:p (ag s k)=true):stop p s k=stop p s (k+1):=by
 rw[stop,dif_pos ⟨h,hp⟩]
theorem ft{p:UInt8->Bool}{s:Ξ}{k:Nat}(h:¬(k<s.size/\p (ag s k)=true)):stop p s k=k:=by
 rw[stop,dif_neg h]
theorem cV(p:UInt8->Bool)(s:Ξ)(k:Nat):k<=stop p s k:=by
 rw[stop];split
 . have:=cV p s (k+1);omega
 . exact Nat.le_refl _
termination_by s.size-k
theorem dU(p:UInt8->Bool)(s:Ξ)(k:Nat)(h:k<=s.size):stop p s k<=s.size:=by
 rw[stop];split
 . exact dU p s (k+1) (by omega)
 . exact h
termination_by s.size-k
theorem J2(p:UInt8->Bool)(s:Ξ)(k j:Nat)(h1:k<=j)(h2:j<stop p s k):p (ag s j)=true:=by
 rw[stop] at h2;split at h2
 . rename_i h;by_cases e:k=j
   . subst e;exact h.2
   . exact J2 p s (k+1) j (by omega) h2
 . omega
termination_by s.size-k
def cZ(c:UInt8):Bool:=(c.toNat:Int) != 10
def pass(s:Ξ)(k:Nat):Nat:=
 if _h:k<s.size then
   if dx (ag s k)=true then pass s (k+1)
   else if((ag s k).toNat:Int)==35 then pass s (stop cZ s (k+1))
   else k
 else k
termination_by s.size-k
decreasing_by
 all_goals (have:=cV cZ s (k+1);omega)
theorem jb{s:Ξ}{k:Nat}(h:k<s.size)(hb:dx (ag s k)=true):pass s k=pass s (k+1):=by
 rw[pass,dif_pos h,if_pos hb]
theorem jA{s:Ξ}{k:Nat}(h:k<s.size)(hb:((ag s k).toNat:Int)=35):pass s k=pass s (stop cZ s (k+1)):=by
 have hn:¬dx (ag s k)=true:=by rw[qM];omega
 rw[pass,dif_pos h,if_neg hn,if_pos (by simpa using hb)]
theorem kK{s:Ξ}{k:Nat}(h:k<s.size)(hb:¬dx (ag s k)=true)(hr:¬((ag s k).toNat:Int)=35):pass s k=k:=by
 rw[pass,dif_pos h,if_neg hb,if_neg (by simpa using hr)]
theorem pq{s:Ξ}{k:Nat}(h:¬k<s.size):pass s k=k:=by
 rw[pass,dif_neg h]
theorem yy(s:Ξ)(k:Nat):k<=pass s k:=by
 rw[pass];split
 . split
   . have:=yy s (k+1);omega
   . split
     . have h1:=cV cZ s (k+1);have:=yy s (stop cZ s (k+1));omega
     . omega
 . omega
termination_by s.size-k
decreasing_by
 all_goals (have:=cV cZ s (k+1);omega)
theorem tJ(s:Ξ)(k:Nat)(h:k<=s.size):pass s k<=s.size:=by
 rw[pass];split
 . split
   . exact tJ s (k+1) (by omega)
   . split
     . exact tJ s _ (dU cZ s (k+1) (by omega))
     . omega
 . exact h
termination_by s.size-k
decreasing_by
 all_goals (have:=cV cZ s (k+1);omega)
def fu:Nat:=9223372036854775807
def e_(s:Ξ)(j:Nat):Nat->Nat
 |0=>0
 |m+1=>e_ s j m*10+((ag s (j+m)).toNat-48)
def eg(s:Ξ)(j e:Nat):Bool:=!(decide (e-j>1)&&((ag s j).toNat==48))&&decide (e_ s j (e-j)<=fu)
theorem Ma(s:Ξ)(j:Nat){m m':Nat}(h:m<=m'):e_ s j m<=e_ s j m':=by
 induction m' with
 |zero=>simp_all
 |succ m' ih=>
   rcases Nat.lt_or_ge m (m'+1) with h1|h1
   . have:=ih (by omega);simp only[e_];omega
   . obtain rfl:m=m'+1:=by omega
     exact Nat.le_refl _
theorem Mb{s:Ξ}{j k m d:Nat}(hk:k<m)(hd:(ag s (j+k)).toNat-48=d)(h:e_ s j k>(fu-d)/10)(hd9:d<=9):¬e_ s j m<=fu:=by
 have h1:=Ma s j (m:=k+1) (m':=m) (by omega);simp only[e_,hd] at h1;unfold fu at *;omega
theorem HX{s:Ξ}{j e k d:Nat}(hk:k<e-j)(hd:(ag s (j+k)).toNat-48=d)(h:e_ s j k>(fu-d)/10)(hd9:d<=9):eg s j e=false:=by
 unfold eg;rw[decide_eq_false (Mb hk hd h hd9),Bool.and_false]
theorem HY{s:Ξ}{j e:Nat}(h1:1<e-j)(h2:(ag s j).toNat=48):eg s j e=false:=by
 unfold eg;simp[h1,h2]
theorem Cg{s:Ξ}{j e:Nat}(h1:¬(1<e-j/\(ag s j).toNat=48))(h2:e_ s j (e-j)<=fu):eg s j e=true:=by
 unfold eg;simp[h2];omega
def fI:List Ξ:=[⟨#[111,112]⟩,⟨#[111,110,99,101]⟩,⟨#[109,97,110,121]⟩,⟨#[100,101,102]⟩,⟨#[114,101,99]⟩,⟨#[109,97,105,110]⟩,⟨#[108,101,116]⟩,⟨#[105,110]⟩,⟨#[102,110]⟩,⟨#[105,102]⟩,⟨#[116,104,101,110]⟩,⟨#[101,108,115,101]⟩,⟨#[99,97,115,101]⟩,⟨#[111,102]⟩,⟨#[101,110,100]⟩,⟨#[100,111]⟩,⟨#[102,115,116]⟩,⟨#[115,110,100]⟩,⟨#[104,97,110,100,108,101]⟩,⟨#[115,104,97,108,108,111,119]⟩,⟨#[119,105,116,104]⟩,⟨#[114,101,116,117,114,110]⟩,⟨#[116,114,117,101]⟩,⟨#[102,97,108,115,101]⟩,⟨#[105,110,116]⟩,⟨#[98,111,111,108]⟩,⟨#[117,110,105,116]⟩,⟨#[108,105,115,116]⟩]
def pt(s:Ξ):Bool:=fI.any (fun x=>s.toList==x.toList)
theorem Mc{s:Ξ}(i:Nat)(x:Ξ)(hx:fI[i]?=some x)(h:(s.toList==x.toList)=true):pt s=true:=
 List.any_eq_true.2 ⟨x,List.mem_of_getElem? hx,h⟩
theorem OO{s:Ξ}{k:Nat}(hk:k<28)(h:((Gx.gs fI k).toList==s.toList)=true):pt s=true:=by
 have hl:k<fI.length:=hk;refine Mc k fI[k] (List.getElem?_eq_getElem hl) ?_;have:Gx.gs fI k=fI[k]:=by simp[Gx.gs,hl]
 rw[<- this,beq_iff_eq];exact(beq_iff_eq.1 h).symm
theorem HZ{s:Ξ}(h:∀j,j<28->((Gx.gs fI j).toList==s.toList)=false):pt s=false:=by
 unfold pt;rw[List.any_eq_false];intro x hx;obtain⟨j,hj,rfl⟩:=List.getElem_of_mem hx;have:=h j hj;have e:Gx.gs fI j=fI[j]:=by simp[Gx.gs,hj]
 rw[beq_eq_false_iff_ne,e] at this;intro hc;exact this (beq_iff_eq.1 hc).symm
def bj:List Ξ:=[⟨#[58,58]⟩,⟨#[61,61]⟩,⟨#[61,62]⟩,⟨#[45,62]⟩,⟨#[40]⟩,⟨#[41]⟩,⟨#[91]⟩,⟨#[93]⟩,⟨#[123]⟩,⟨#[125]⟩,⟨#[44]⟩,⟨#[59]⟩,⟨#[58]⟩,⟨#[61]⟩,⟨#[45]⟩,⟨#[43]⟩,⟨#[42]⟩,⟨#[60]⟩,⟨#[124]⟩,⟨#[126]⟩]
def ju(s:Ξ):Bool:=(((s.toList==(bY [58,58]).toList)||(s.toList==(bY [61,61]).toList))||(s.toList==(bY [61,62]).toList))||(s.toList==(bY [45,62]).toList)
theorem jd{a b:Ξ}(h:a.toList=b.toList):a=b:=by
 rw[ByteArray.toList_eq,ByteArray.toList_eq] at h;obtain⟨⟨x⟩⟩:=a;obtain⟨⟨y⟩⟩:=b;simp only at h;rw[h]
theorem pv{s:Ξ}{a c:Nat}(h:c<=s.size):(s.extract a c).size=c-a:=by
 rw[ByteArray.size_extract];omega
theorem n9{s:Ξ}{a c m:Nat}(hc:c<=s.size)(hm:m<c-a):ag (s.extract a c) m=ag s (a+m):=by
 unfold ag;have hs:c<=s.data.size:=hc;rw[ByteArray.data_extract,Array.getElem?_extract,if_pos (by omega)]
theorem zh{s:Ξ}{j e:Nat}(he:e<=s.size):∀m,m<=e-j->e_ (s.extract j e) 0 m=e_ s j m
 |0,_=>rfl
 |m+1,h=>by
   simp only[e_,Nat.zero_add];rw[zh he m (by omega),n9 he (by omega)]
theorem rL{s:Ξ}{j e:Nat}(hj:j<=e)(he:e<=s.size):eg (s.extract j e) 0 (s.extract j e).size=eg s j e:=by
 unfold eg;rw[pv he,Nat.sub_zero,zh he _ (Nat.le_refl _)];by_cases h:1<e-j
 . rw[n9 he (by omega),Nat.add_zero]
 . simp[h]
theorem Dk{s : Ξ}{j e : Nat}(hj : j <= e)(he : e <= s.size)(h : eg (s.extract j e) 0 (s.extract j e).size = true) :
   (bif eg (s.extract j e) 0 (s.extract j e).size then e_ (s.extract j e) 0 (s.extract j e).size else 0)=e_ s j (e-j):=by
 rw[h,cond_true,pv he,zh he _ (Nat.le_refl _)]
theorem H_(s:Ξ)(j:Nat)(hj:j<=s.size):∀m,m<(s.extract j (stop aj s j)).size->aj (ag (s.extract j (stop aj s j)) m)=true:=by
 intro m hm;have h2:=dU aj s j hj;rw[pv h2] at hm;rw[n9 h2 hm];exact J2 aj s j (j+m) (by omega) (by omega)
def mF(s:Ξ)(j r:Nat):Bool:=decide (((j+(Gx.gs bj r).size:Nat):Int)<=(s.size:Int))&&((s.extract j (j+(Gx.gs bj r).size)).toList==(Gx.gs bj r).toList)
structure Nx where
 kind:Nat
 at_:Nat
 text:Ξ
 n:Nat
 nx:Nat
 fk:Nat
 fa:Nat
def fault(k a:Nat):Nx:=⟨0,0,⟨#[]⟩,0,0,k,a⟩
def cH(s:Ξ)(j:Nat):Nat:=if(decide (((j+2:Nat):Int)<=(s.size:Int))&&ju (s.extract j (j+2)))=true then 2 else 1
def tK(s:Ξ)(j:Nat):Nx:=
 if eg s j (stop aj s j)=true then⟨1,j,⟨#[]⟩,e_ s j (stop aj s j-j),stop aj s j,0,0⟩ else fault 3 j
def nameAt(s:Ξ)(j:Nat):Nx:=
 if stop (fun c=>az c||aj c) s j-j>20 then fault 3 j
 else⟨if pt (s.extract j (stop (fun c=>az c||aj c) s j))=true then 3 else 2,j,s.extract j (stop (fun c=>az c||aj c) s j),0,stop (fun c=>az c||aj c) s j,0,0⟩
def cU(s:Ξ)(j:Nat):Nx:=
 if aj (ag s j)=true then tK s j
 else if az (ag s j)=true then nameAt s j
 else if oL (ag s j)=true then⟨4,j,s.extract j (j+cH s j),0,j+cH s j,0,0⟩
 else fault 2 j
def next(s:Ξ)(i:Nat):Nx:=
 if pass s i<s.size then cU s (pass s i) else⟨0,s.size,⟨#[]⟩,0,s.size,0,0⟩
def Nx.ake(x:Nx):Value:=.agg #[.int .i64 (x.kind:Int),.int .i64 (x.at_:Int),.string x.text,.int .i64 (x.n:Int)]
def Nx.ZK(x:Nx):Value:=.agg #[.int .i64 (x.fk:Int),.int .i64 (x.fa:Int)]
def Nx.V(x:Nx):Value:=.tuple #[x.ake,.int .i64 (x.nx:Int),x.ZK]
theorem Vb{s:Ξ}{j:Nat}(h:j<s.size):(s.extract j (j+1)).toList=[ag s j]:=by
 rw[ByteArray.toList_eq,ByteArray.data_extract];have h':j<s.data.size:=h;apply List.ext_getElem?;intro i;rw[Array.getElem?_toList,Array.getElem?_extract];by_cases hi:i=0
 . subst hi;rw[if_pos (by omega),Nat.add_zero,List.getElem?_cons_zero,ag,Array.getElem?_eq_getElem h'];rfl
 . rw[if_neg (by omega)];symm;rw[List.getElem?_eq_none_iff];simp;omega
theorem Md{s:Ξ}(r:Nat)(hr:r<4)(h:(s.toList==(Gx.gs bj r).toList)=true):ju s=true:=by
 unfold ju;match r,hr with
 |0,_=>rw[show(s.toList==(bY [58,58]).toList)=true from h];rfl
 |1,_=>rw[show(s.toList==(bY [61,61]).toList)=true from h,Bool.or_true];rfl
 |2,_=>rw[show(s.toList==(bY [61,62]).toList)=true from h,Bool.or_true];rfl
 |3,_=>rw[show(s.toList==(bY [45,62]).toList)=true from h,Bool.or_true]
theorem Ia{s:Ξ}(h:∀r,r<4->(s.toList==(Gx.gs bj r).toList)=false):ju s=false:=by
 unfold ju
 rw[show(s.toList==(bY [58,58]).toList)=false from h 0 (by omega),show(s.toList==(bY [61,61]).toList)=false from h 1 (by omega),
   show(s.toList==(bY [61,62]).toList)=false from h 2 (by omega),show(s.toList==(bY [45,62]).toList)=false from h 3 (by omega)]
 rfl
theorem qN:∀r,r<20->(Gx.gs bj r).size=if r<4 then 2 else 1:=by decide +kernel
theorem Fu:∀r,r<20->oL (ag (Gx.gs bj r) 0)=true:=by decide +kernel
theorem Me:∀c:Fin 256,oL (UInt8.ofNat c.val)=true->∃r,r<20/\4<=r/\(Gx.gs bj r).toList=[UInt8.ofNat c.val]:=by decide +kernel
theorem OP{s t:Ξ}{j:Nat}(ht:0<t.size)(h:j+t.size<=s.size)(e:(s.extract j (j+t.size)).toList=t.toList):ag s j=ag t 0:=by
 have h1:=n9 (s:=s) (a:=j) (c:=j+t.size) (m:=0) h (by omega);rw[Nat.add_zero] at h1;rw[<- h1,jd e]
theorem OQ{s : Ξ}{j q : Nat}(hq : q < 20)(hn : ∀ r, r < q -> mF s j r = false)(h : mF s j q = true) :
   oL (ag s j)=true/\cH s j=(Gx.gs bj q).size/\s.extract j (j+(Gx.gs bj q).size)=Gx.gs bj q:=by
 have h0:=h;simp only[mF,Bool.and_eq_true,decide_eq_true_eq,beq_iff_eq] at h;obtain⟨h1,h2⟩:=h;have h1':j+(Gx.gs bj q).size<=s.size:=by omega
 have hl:=qN q hq;have Vc:0<(Gx.gs bj q).size:=by rw[hl];split<;>omega
 refine⟨by rw[OP Vc h1' h2];exact Fu q hq,?_,jd h2⟩;rw[hl];unfold cH;by_cases h4:q<4
 . rw[if_pos h4] at hl ⊢;rw[hl] at h1' h2;rw[if_pos];rw[decide_eq_true (show((j+2:Nat):Int)<=(s.size:Int) by omega),Bool.true_and];exact Md q h4 (by simpa using h2)
 . rw[if_neg h4];rw[if_neg];intro hc;simp only[Bool.and_eq_true,decide_eq_true_eq] at hc;obtain⟨c1,c2⟩:=hc
   have:ju (s.extract j (j+2))=false:=Ia (fun r hr=>by
     have:=hn r (by omega);have hl2:=qN r (by omega);rw[if_pos hr] at hl2;simp only[mF,hl2] at this;rw[decide_eq_true (show((j+2:Nat):Int)<=(s.size:Int) from c1),Bool.true_and] at this
     exact this)
   rw[this] at c2;cases c2
theorem Vd{s:Ξ}{j:Nat}(hj:j<s.size)(hn:∀r,r<20->mF s j r=false):oL (ag s j)=false:=by
 cases hb:oL (ag s j) with
 |false=>rfl
 |true=>
   exfalso;have hc:UInt8.ofNat (ag s j).toNat=ag s j:=by simp
   obtain⟨r,hr,h4,he⟩:=Me ⟨(ag s j).toNat,(ag s j).toNat_lt⟩ (by simpa using hb);have hl:=qN r hr;rw[if_neg (by omega)] at hl;have:=hn r hr;simp only[mF,hl] at this;rw[decide_eq_true (show((j+1:Nat):Int)<=(s.size:Int) by omega),Bool.true_and,Vb hj,he] at this;simp at this
theorem kL{s:Ξ}{i:Nat}(hi:i<=s.size)(hf:(next s i).fk=0)(hk:(next s i).kind≠0):i<(next s i).nx/\(next s i).nx<=s.size:=by
 have h1:=yy s i;have h2:=tJ s i hi;unfold next at*
 split at hk
 . rename_i eK;rw[if_pos eK] at hf;rw[if_pos eK];unfold cU at *;by_cases hd:aj (ag s (pass s i))=true
   . rw[if_pos hd] at *;unfold tK at *;split at hk
     . rename_i hn;rw[if_pos hn];have a:=fN eK hd;have b:=cV aj s (pass s i+1);have c:=dU aj s (pass s i) h2;show i<stop aj s (pass s i)/\stop aj s (pass s i)<=s.size;omega
     . exact absurd rfl hk
   . rw[if_neg hd] at *;by_cases hl:az (ag s (pass s i))=true
     . rw[if_pos hl] at *;unfold nameAt at *;split at hk
       . exact absurd rfl hk
       . rename_i hn;rw[if_neg hn];have a:=fN (p:=fun c=>az c||aj c) eK (by simp[hl]);have b:=cV (fun c=>az c||aj c) s (pass s i+1);have c:=dU (fun c=>az c||aj c) s (pass s i) h2;show i<stop _ s (pass s i)/\stop _ s (pass s i)<=s.size;omega
     . rw[if_neg hl] at *;by_cases hs:oL (ag s (pass s i))=true
       . rw[if_pos hs] at *;show i<pass s i+cH s (pass s i)/\pass s i+cH s (pass s i)<=s.size;unfold cH;split
         . rename_i h;simp only[Bool.and_eq_true,decide_eq_true_eq] at h;omega
         . omega
       . rw[if_neg hs] at *;exact absurd rfl hk
 . exact absurd rfl hk
def iF(x:Nx)(r:List Nx×Nat×Nat):List Nx×Nat×Nat:=if r.2.1=0 then(x::r.1,r.2) else([],r.2)
def im(s:Ξ)(i:Nat):List Nx×Nat×Nat:=
 if(next s i).fk≠0 then([],(next s i).fk,(next s i).fa)
 else if(next s i).kind=0 then([next s i],0,0)
 else if _h:i<(next s i).nx/\(next s i).nx<=s.size then iF (next s i) (im s (next s i).nx) else([],0,0)
termination_by s.size-i
def pre(ayy:List Nx)(r:List Nx×Nat×Nat):List Nx×Nat×Nat:=if r.2.1=0 then(ayy++r.1,r.2) else([],r.2)
theorem je{s:Ξ}{i:Nat}(h:(next s i).fk≠0):im s i=([],(next s i).fk,(next s i).fa):=by
 rw[im,if_pos h]
theorem kP{s:Ξ}{i:Nat}(h:(next s i).fk=0)(hk:(next s i).kind=0):im s i=([next s i],0,0):=by
 rw[im,if_neg (by omega),if_pos hk]
theorem jv{s:Ξ}{i:Nat}(hi:i<=s.size)(h:(next s i).fk=0)(hk:(next s i).kind≠0):im s i=iF (next s i) (im s (next s i).nx):=by
 rw[im,if_neg (by omega),if_neg hk,dif_pos (kL hi h hk)]
end Go.Lex
namespace Go.Gx
section
variable {P:Program} {Q:Exit->Act->Ψ->Prop} {w:Ψ} {ops:Array Oper} {b:Nat->Value} {n:Nat} {l:List (Nat×Value)} {d:List Deferred} {K:Act->Ψ->Prop}
theorem zj{o : Oper}{t t' : TypeId}{x y : Operand}(hop : o.op = .binOp .add t x y t')(s u : Ξ)(hx : ev b n l x = .string s)(hy : ev b n l y = .string u)(Ch : s.size + u.size <= 9223372036854775807) :
   (execOp (ev b n l) o).run P w=.ok (.value (.string (s++u))) w:=by
 unfold execOp;have h:¬(((s.size+u.size:Nat):Int)>IntKind.i64.max):=by
   have:IntKind.i64.max=9223372036854775807:=by decide
   rw[this];omega
 have h':¬(IntKind.i64.max<(s.size:Int)+(u.size:Int)):=by
   have:IntKind.i64.max=9223372036854775807:=by decide
   rw[this];omega
 simp[hop,hx,hy,eqGuard,Sem.run_bind,binOp,Op.stringOp,h'];omega
theorem aeH{m:Nat}(h:m<256):∀j,j<1->(#[Value.int .u8 (m:Int)]:Array Value)[0+j]?=some (.int .u8 (([UInt8.ofNat m].getD j 0).toNat:Int)):=by
 intro j hj;obtain rfl:j=0:=by omega
 have:(UInt8.ofNat m).toNat=m:=by simp[Nat.mod_eq_of_lt h]
 simp[this]
theorem ma{w:Ψ}{base:Nat}{e:TypeId}{size:Nat}{a:Ω}{m cap n:Nat}{xs:Θ}(h:w.ownsRow base e size (.slice a m cap) n xs)(hn:0<n):n<=cap:=by
 rcases h.2 with⟨_,h0⟩|⟨g,dj,cur,hv,_,_,Bl,_⟩
 . omega
 . cases hv;exact Bl
end
section
variable {P:Program} {Q:Exit->Act->Ψ->Prop} {w:Ψ} {ops:Array Oper} {b:Nat->Value} {n:Nat} {l:List (Nat×Value)} {d:List Deferred} {K:Act->Ψ->Prop}
theorem Mf{i : Nat}{o : Oper}{t : TypeId}{x y : Operand}(ho : ops[i]? = some o)(hg : Region.wanted o (yl ops b n l) = true)(hop : o.op = .store t x y)
   {bk:Nat} (off:Nat) (v:Value) (hx:ev b n l x=.pointer (some ⟨bk,off,none⟩)) (hy:ev b n l y=v) {cs:Array Value} {e:TypeId} (hb:Has w bk (.cells cs e))
   (hs:(P.info? t).map (·.size)=some 1) (hv:v.cells=#[v]) (h1:v.oneCell'=true) (ON:off<cs.size)
   (k:∀w',G w w' (some bk)->Has w' bk (.cells (cs.setIfInBounds off v) e)->K (Fr b n (iE o undef l) d) w'):wpOp P ops Q i K (Fr b n l d) w:=by
 have e1:(cs.toList.take off++v.cells.toList++cs.toList.drop (off+v.cells.size)).toArray=cs.setIfInBounds off v:=by
   rw[hv];apply Array.toList_inj.1;rw[Array.toList_setIfInBounds,List.set_eq_take_append_cons_drop,if_pos (by simpa using ON)];simp
 have e2:v.cells.size=1:=by rw[hv];rfl
 refine Ft ho hg hop off v hx hy hb (by rw[e2];exact hs) (by rw[hv];simpa using h1) (Nat.ble_eq_true_of_le (by rw[e2];omega)) (cs.setIfInBounds off v) e1 k
end
section
variable {P:Program} {ops:Array Oper} {Q:Exit->Act->Ψ->Prop} {md:Region.Mode} {S T:Ψ->Prop} {D:List Nat}
def clear(D:List Nat)(al:Array Bool):Bool:=D.all fun d=>!al.getD d true
def ru(P:Program)(md:Region.Mode)(ops:Array Oper)(Q:Exit->Act->Ψ->Prop)(S:Ψ->Prop)(D:List Nat):Nat->Array Bool->Act->Ψ->Prop
 |0,al,a,w=>Region.ready md ops al=[]/\Q .normal a w
 |fuel+1,al,a,w=>(Region.ready md ops al=[]->Q .normal a w)/\
   ∀i∈Region.ready md ops al,wpOp P ops Q i (fun a' w'=>(clear D (al.setIfInBounds i true)=true->S w')/\ru P md ops Q S D fuel (al.setIfInBounds i true) a' w') a w
theorem zl:∀(fuel:Nat)(al:Array Bool)(a:Act)(w:Ψ),ru P md ops Q S D fuel al a w->wpAny P md ops Q fuel al a w
 |0,_,_,_,h=>h
 |fuel+1,_,_,_,h=>⟨h.1,fun i hi=>wpOp_mono (fun a' w' h'=>zl fuel _ a' w' h'.2) (h.2 i hi)⟩
theorem qO{i:Nat}{al:Array Bool}(h:D.contains i=false):clear D (al.setIfInBounds i true)=clear D al:=by
 unfold clear;rw[Bool.eq_iff_iff,List.all_eq_true,List.all_eq_true];have e:∀x∈D,(al.setIfInBounds i true).getD x true=al.getD x true:=fun x hx=>by
   have:i≠x:=by rintro rfl;simp[hx] at h
   exact getD_set_ne true this
 constructor
 . intro k x hx;have:=k x hx;rwa [e x hx] at this
 . intro k x hx;rw[e x hx];exact k x hx
theorem zm{C:List Nat}{al:Array Bool}(h:D.all C.contains=true)(k:∀c∈C,al.getD c true=false):clear D al=true:=by
 unfold clear;rw[List.all_eq_true];intro x hx;rw[k x (by simpa using List.all_eq_true.1 h x hx)];rfl
def waits(md:Region.Mode)(ops:Array Oper)(C:List Nat)(i:Nat):Bool:=C.all fun j=>(ops[j]?).any fun o=>o.after.any fun e=>Region.binds md e&&(e.on==i||C.contains e.on)
theorem Ib{C:List Nat}{i j:Nat}{al:Array Bool}(h:waits md ops C i=true)(hi:al.getD i true=false)(hC:∀c∈C,al.getD c true=false)(hj:j∈Region.ready md ops al):j∉C:=by
 intro hm;have h1:=List.all_eq_true.1 h j hm;obtain⟨_,o,ho,Mg⟩:=mem_ready.1 hj;rw[ho,Option.any_some,Array.any_eq_true'] at h1;obtain⟨e,he,hb⟩:=h1;rw[Bool.and_eq_true,Bool.or_eq_true,beq_iff_eq] at hb;have hl:=Mg e he hb.1;have flip:∀q,al.getD q true=false->al.getD q false=true->False:=by
   intro q a b;rcases Nat.lt_or_ge q al.size with h'|h'
   . simp[h'] at a b;rw[a] at b;cases b
   . simp[Array.getElem?_eq_none h'] at b
 rcases hb.2 with q|q
 . exact flip _ hi (q▸hl)
 . exact flip _ (hC _ (by simpa using q)) hl
theorem sE{i : Nat}{oi : Oper}{v : Value}(C : List Nat)(hi : ops[i]? = some oi)(aeI : ∀(j : Nat)(o : Oper) cs b, ops[j]? = some o -> o.op ≠ .select cs b)
   (hQ:∀c a w,Q (.panic c) (a.put oi.dst v) w->Q (.panic c) a w) (Ve:D.contains i=false) (hST:∀w,S w->T w) (hd:(∀w,T w)∨(waits md ops C i=true/\C.contains i=false/\D.all C.contains=true)):
   ∀(fuel:Nat)(al:Array Bool)(a:Act)(w:Ψ),
     (∀j oj,ops[j]?=some oj->j≠i->al.getD j true=false->(∀e∈oj.after,Region.binds md e=true->e.on≠i)->oi.apart ops oj=true)->
     ((∀w,T w)∨(∀c∈C,al.getD c true=false))->
     i∈Region.ready md ops al->YieldsIf P ops T oi v a->(clear D al=true->S w)->T w->
     ru P md ops Q S D fuel (al.setIfInBounds i true) (a.put oi.dst v) w->ru P md ops Q S D (fuel+1) al a w:=by
 intro fuel;induction fuel with
 |zero=>
   intro al a w _ _ hr hy hS hT H;refine⟨fun h=>(by rw[h] at hr;cases hr),fun j hj=>?_⟩;by_cases N_:j=i
   . subst N_;exact hy.wpOp hi hT ⟨fun h=>hS (by rwa [qO Ve] at h),H⟩
   . have:=ready_mono hj N_;rw[H.1] at this;cases this
 |succ fuel ih=>
   intro al a w XZ aeJ hr hy hS hT H;refine⟨fun h=>(by rw[h] at hr;cases hr),fun j hj=>?_⟩;by_cases N_:j=i
   . subst N_;exact hy.wpOp hi hT ⟨fun h=>hS (by rwa [qO Ve] at h),H⟩
   . have h1 := H.2 j (ready_mono hj N_);obtain ⟨aeK, oj, hoj, Mg⟩ := mem_ready.1 hj;have ZL := (mem_ready.1 hr).1;have akg : ∀ e ∈ oj.after, Region.binds md e = true -> e.on ≠ i := fun e he hb heq => by
       have h1:=Mg e he hb;rw[heq] at h1;rcases Nat.lt_or_ge i al.size with h'|h'
       . simp[h'] at ZL h1;rw[ZL] at h1;cases h1
       . simp[Array.getElem?_eq_none h'] at h1
     have h2 := wpOp_putIf hoj (XZ j oj hoj N_ aeK akg) (fun cs b => aeI i oi cs b hi) (fun cs b => aeI j oj cs b hoj) hQ hy h1;have ZM : ∀ k ok, ops[k]? = some ok -> k ≠ i -> (al.setIfInBounds j true).getD k true = false ->
         (∀e∈ok.after,Region.binds md e=true->e.on≠i)->oi.apart ops ok=true:=fun k ok hk hki hun Mh=>by
       refine XZ k ok hk hki ?_ Mh
       by_cases hjk:j=k
       . subst hjk;exact aeK
       . rw[getD_set_ne true hjk] at hun;exact hun
     have wq:∀L:Array Bool,clear D (L.setIfInBounds i true)=clear D L:=fun L=>qO Ve;have OS:(∀w,T w)∨(∀c∈C,(al.setIfInBounds j true).getD c true=false):=by
       rcases aeJ with q|q
       . exact .inl q
       . rcases hd with d|⟨d1,_,_⟩
         . exact .inl d
         . have hjC := Ib d1 ZL q hj;exact .inr fun c hc => by
             rw[getD_set_ne true (by rintro rfl;exact hjC hc)];exact q c hc
     refine wpOp_mono (fun a' w' h3=>?_) h2;have hS':clear D (al.setIfInBounds j true)=true->S w':=fun h=>h3.2.1 (by rw[Array.setIfInBounds_comm _ _ (Ne.symm N_),wq];exact h);refine⟨hS',ih (al.setIfInBounds j true) a' w' ZM OS (ready_mono hr (Ne.symm N_)) h3.1 hS' ?_ ?_⟩
     . rcases OS with q|q
       . exact q w'
       . rcases hd with d|⟨_,_,d3⟩
         . exact d w'
         . exact hST w' (hS' (zm d3 q))
     . rw[Array.setIfInBounds_comm _ _ N_];exact h3.2.2
end
section
variable {P:Program} {Q:Exit->Act->Ψ->Prop} {w:Ψ} {ops:Array Oper} {b:Nat->Value} {n:Nat} {l:List (Nat×Value)} {d:List Deferred}
theorem aeL{id : Nat}{S : Ψ -> Prop}(D : List Nat){Q' : Exit -> Act -> Ψ -> Prop}{a : Act}(hm : P.follows .mixedOrders = true)
   (h:∀w',Ext w w'->ru P .any ops Q' S D ops.size (Array.replicate ops.size false) a w'):(Code.region id ops true).wp P Q' a w:=
 wp_region_any hm (zl _ _ _ _ (h _ (Ext.drawn w _)))
theorem Mi(i : Nat){S : Ψ -> Prop}{D : List Nat}{oi : Oper}{fuel : Nat}{al : Array Bool}(v v' : Value)(e : v = v')(hi : ops[i]? = some oi)
   (hs:Region.noSelect ops=true) (hf:Region.free .any ops al i=true) (hr:(Region.ready .any ops al).contains i=true) (Ve:D.contains i=false)
   (hQ:∀c a w,Q (.panic c) (a.put oi.dst v') w->Q (.panic c) a w) (hS:clear D al=true->S w) (hg:Region.wanted oi (yl ops b n l)=true)
   (hy:∀w,(execOp (ev b n l) oi).run P w=.ok (.value v) w)
   (h:ru P .any ops Q S D fuel (al.setIfInBounds i true) (Fr b n (iE oi v' l) d) w):ru P .any ops Q S D (fuel+1) al (Fr b n l d) w:=by
 subst e;exact sE (T:=fun _=>True) [] hi (Region.noSelect_spec hs) hQ Ve (fun _ _=>trivial) (.inl fun _=>trivial) fuel al _ w (Region.free_spec hi hf) (.inl fun _=>trivial) (by simpa using hr)
   (.inl ⟨by rw[fq];exact hg,fun w _=>by rw[iD];exact hy w⟩) hS trivial (by rw[gT];exact h)
theorem Mj(i : Nat){S : Ψ -> Prop}{D : List Nat}{oi : Oper}{fuel : Nat}{al : Array Bool}(hi : ops[i]? = some oi)
   (hs:Region.noSelect ops=true) (hf:Region.free .any ops al i=true) (hr:(Region.ready .any ops al).contains i=true) (Ve:D.contains i=false)
   (hQ:∀c a w,Q (.panic c) (a.put oi.dst undef) w->Q (.panic c) a w) (hS:clear D al=true->S w) (hg:Region.wanted oi (yl ops b n l)=false)
   (h:ru P .any ops Q S D fuel (al.setIfInBounds i true) (Fr b n (iE oi undef l) d) w):ru P .any ops Q S D (fuel+1) al (Fr b n l d) w:=
 sE (T:=fun _=>True) [] hi (Region.noSelect_spec hs) hQ Ve (fun _ _=>trivial) (.inl fun _=>trivial) fuel al _ w (Region.free_spec hi hf) (.inl fun _=>trivial) (by simpa using hr)
   (.inr ⟨by rw[fq];exact hg,rfl⟩) hS trivial (by rw[gT];exact h)
theorem zn(i : Nat){S : Ψ -> Prop}{D : List Nat}(C : List Nat){oi : Oper}{fuel : Nat}{al : Array Bool}(v v' : Value)(e : v = v')(hi : ops[i]? = some oi)
   (hs:Region.noSelect ops=true) (hf:Region.free .any ops al i=true) (hr:(Region.ready .any ops al).contains i=true) (Ve:D.contains i=false)
   (hC:(waits .any ops C i&&!C.contains i&&D.all C.contains&&C.all (fun c=>!al.getD c true))=true)
   (hQ:∀c a w,Q (.panic c) (a.put oi.dst v') w->Q (.panic c) a w) (hS:S w) (hg:Region.wanted oi (yl ops b n l)=true)
   (hy:∀w,S w->(execOp (ev b n l) oi).run P w=.ok (.value v) w)
   (h:ru P .any ops Q S D fuel (al.setIfInBounds i true) (Fr b n (iE oi v' l) d) w):ru P .any ops Q S D (fuel+1) al (Fr b n l d) w:=by
 subst e;simp only[Bool.and_eq_true] at hC;obtain⟨⟨⟨h1,h2⟩,h3⟩,h4⟩:=hC;exact sE (T:=S) C hi (Region.noSelect_spec hs) hQ Ve (fun _ q=>q) (.inr ⟨h1,by simpa using h2,h3⟩) fuel al _ w (Region.free_spec hi hf) (.inr fun c hc=>by simpa using List.all_eq_true.1 h4 c hc) (by simpa using hr)
   (.inl ⟨by rw[fq];exact hg,fun w hw=>by rw[iD];exact hy w hw⟩) (fun _=>hS) hS (by rw[gT];exact h)
theorem OT(i : Nat){S : Ψ -> Prop}{D : List Nat}{fuel : Nat}{al : Array Bool}{a : Act}(hr : Region.ready .any ops al = [i])
   (h:wpOp P ops Q i (fun a' w'=>(clear D (al.setIfInBounds i true)=true->S w')/\ru P .any ops Q S D fuel (al.setIfInBounds i true) a' w') a w):ru P .any ops Q S D (fuel+1) al a w:=
 ⟨fun h0=>absurd (hr▸h0) (by simp),fun j hj=>by
   have:j=i:=by rw[hr] at hj;simpa using hj
   subst this
   exact h⟩
theorem Mk{S:Ψ->Prop}{D:List Nat}{al:Array Bool}{a:Act}(hr:Region.ready .any ops al=[])(h:Q .normal a w):∀fuel,ru P .any ops Q S D fuel al a w
 |0=>⟨hr,h⟩
 |_+1=>⟨fun _=>h,by rw[hr];simp⟩
end
theorem Vf{w : Ψ}{base : Nat}{e : TypeId}{size n bk : Nat}{v : Value}{xs : Θ}{o : Obj}(h : w.ownsRow base e size v n xs)(hb : Has w bk o)(ho : ∀ cs fr, o ≠ .cells cs e fr) :
   ∀q,v.ownBlock=some q->q≠bk:=by
 intro q hq hqb;subst hqb;rcases h.2 with⟨rfl,_⟩|⟨g,cap,cur,rfl,_,hg,_⟩
 . simp[Value.ownBlock] at hq
 . simp[Value.ownBlock] at hq;subst hq;have Ml:w.heap[g]?=some o:=hb;rw[hg] at Ml;injection Ml with h1;exact ho _ _ h1.symm
structure Wx (e:TypeId) (B wb:Nat) (w w':Ψ):Prop where
 os:w'.os=w.os
 tape:w'.tape=w.tape
 output:w'.output=w.output
 size:w.heap.size<=w'.heap.size
 base:B<=w.heap.size
 low:∀k,k<B->w'.heap[k]?=w.heap[k]?
 kept:∀k o,w.heap[k]?=some o->k≠wb->(∀cs fr,o≠.cells cs e fr)->w'.heap[k]?=some o
section
variable {e:TypeId} {B wb:Nat} {w w' n8:Ψ}
theorem Wx.refl(w:Ψ)(h:B<=w.heap.size):Wx e B wb w w:=⟨rfl,rfl,rfl,Nat.le_refl _,h,fun _ _=>rfl,fun _ _ h _ _=>h⟩
theorem Wx.trans(h:Wx e B wb w w')(k:Wx e B wb w' n8):Wx e B wb w n8:=
 ⟨k.os.trans h.os,k.tape.trans h.tape,k.output.trans h.output,Nat.le_trans h.size k.size,h.base,fun j hj=>(k.low j hj).trans (h.low j hj),fun j o ho jQ Mh=>k.kept j o (h.kept j o ho jQ Mh) jQ Mh⟩
theorem Wx.sG(h:Ext w w')(hB:B<=w.heap.size):Wx e B wb w w':=
 ⟨h.os,h.tape,h.output,h.size,hB,fun j hj=>h.block j (Nat.lt_of_lt_of_le hj hB) (by simp),fun j o ho _ _=>(h.block j (Has.lt ho) (by simp)).trans ho⟩
theorem Wx.ZN(h:G w w' (some wb))(hB:B<=w.heap.size)(hb:B<=wb):Wx e B wb w w':=
 ⟨h.os,h.tape,h.output,h.size,hB,fun j hj=>h.block j (Nat.lt_of_lt_of_le hj hB) (by intro q;injection q with q;omega),fun j o ho jQ _=>(h.block j (Has.lt ho) (by intro q;injection q with q;exact jQ q)).trans ho⟩
theorem Wx.ZO{size n:Nat}{v:Value}{xs:Θ}(h:G w w' v.ownBlock)(kQ:w.ownsRow B e size v n xs)(hB:B<=w.heap.size):Wx e B wb w w':=
 ⟨h.os,h.tape,h.output,h.size,hB,fun j hj=>h.block j (Nat.lt_of_lt_of_le hj hB) (fun q=>by have:=(kQ.lt j q.symm).1;omega),
   fun j o ho _ Mh=>(h.block j (Has.lt ho) (fun q=>Vf kQ ho Mh j q.symm rfl)).trans ho⟩
theorem Wx.ext(h:Wx e B wb w w')(k:Ext w' n8):Wx e B wb w n8:=h.trans (Wx.sG k (Nat.le_trans h.base h.size))
theorem Wx.Dh(h:Wx e B wb w w')(k:G w' n8 (some wb))(hb:B<=wb):Wx e B wb w n8:=h.trans (Wx.ZN k (Nat.le_trans h.base h.size) hb)
theorem Wx.J3{j:Nat}(h:Wx e B wb w w')(k:G w' n8 (some j))(hj:w.heap.size<=j:=by omega):Wx e B wb w n8:=
 ⟨k.os.trans h.os,k.tape.trans h.tape,k.output.trans h.output,Nat.le_trans h.size k.size,h.base,fun i hi=>(k.block i (by have:=h.size;have:=h.base;omega) (by intro q;injection q with q;have:=h.base;omega)).trans (h.low i hi),
   fun i o ho jQ Mh=>(k.block i (by have:=h.size;have:=Has.lt ho;omega) (by intro q;injection q with q;have:=Has.lt ho;omega)).trans (h.kept i o ho jQ Mh)⟩
theorem Wx.app{size n:Nat}{v:Value}{xs:Θ}(h:Wx e B wb w w')(k:G w' n8 v.ownBlock)(kQ:w'.ownsRow B e size v n xs):Wx e B wb w n8:=h.trans (Wx.ZO k kQ (Nat.le_trans h.base h.size))
theorem Wx.has{k:Nat}{cs:Array Value}{t:TypeId}{fr:Nat×Nat}(x:Wx e B wb w w')(h:Has w k (.cells cs t fr))(jQ:k≠wb:=by omega)(ht:t≠e:=by decide):Has w' k (.cells cs t fr):=
 x.kept k _ h jQ (fun cs' fr' q=>by injection q with _ q;exact ht q)
theorem Wx.N9{k:Nat}{o:Obj}(x:Wx e B wb w w')(h:Has w k o)(hk:k<B):Has w' k o:=(x.low k hk).trans h
end
section
variable {P:Program} {Q:Exit->Act->Ψ->Prop} {w:Ψ}
end
def Rd(w:Ψ)(A:Ω)(n sz:Nat)(row:Nat->Θ):Prop:=∀i,i<n->∃a,A=some a/\w.cells? 0 (a.add (i*sz)) sz=some (row i)
theorem Mm{w w':Ψ}{a:Addr}{n:Nat}{cs:Θ}(h:w.cells? 0 a n=some cs)(hn:0<n)(x:Ext w w'):w'.cells? 0 a n=some cs:=by
 have hb:=World.cells?_block h hn;have e:(fun i=>w'.cell? (a.add i))=fun i=>w.cell? (a.add i):=funext fun i=>by
   unfold World.cell?;rw[x.block (a.add i).block (by show(a.add i).block<_;unfold Addr.add;split<;>exact hb) (by simp)]
 unfold World.cells? at h ⊢;rw[e];exact h
theorem Rd.ext{w w':Ψ}{A:Ω}{n sz:Nat}{row:Nat->Θ}(h:Rd w A n sz row)(Ch:0<sz)(x:Ext w w'):Rd w' A n sz row:=fun i hi=>by
 obtain⟨a,e,k⟩:=h i hi;exact⟨a,e,Mm k Ch x⟩
section
variable {P:Program} {Q:Exit->Act->Ψ->Prop} {w:Ψ} {ops:Array Oper} {b:Nat->Value} {n:Nat} {l:List (Nat×Value)} {d:List Deferred} {K:Act->Ψ->Prop}
theorem Mo{t:TypeId}{Dj:TypeDesc}(hu:P.underlying t=some Dj)(hd:Dj.isRow=true):(isAgg t).run P w=.ok true w:=by
 unfold isAgg;rw[Sem.run_bind,run_underlying hu w];cases Dj<;>simp_all
theorem wY{t : TypeId}{a : Addr}{cs : Θ}{Dj : TypeDesc}(hc : w.cells? 0 a cs.length = some cs)(hu : P.underlying t = some Dj)(v : Value)
   (hv:(match Dj with|.struct _|.array _ _=>(P.info? t).map (·.size)=some cs.length/\v=.agg cs.toArray|_=>cs=[v])):(loadVar t a).run P w=.ok v w:=by
 obtain⟨_,_,hg⟩:=World.cells?_some hc;have agg:∀(hd:Dj.isRow=true),(P.info? t).map (·.size)=some cs.length/\v=.agg cs.toArray->(loadVar t a).run P w=.ok v w:=by
   rintro hd ⟨hi,rfl⟩
   have hl:(loadCells a cs.length).run P w=.ok cs.toArray w:=run_loadCells_list (P:=P) w a cs (fun j v hv=>by
     rw[hg j (List.getElem?_eq_some_iff.1 hv).1];exact hv)
   cases hq:P.info? t with
   |none=>simp[hq] at hi
   |some i=>
     have hs:i.size=cs.length:=by simpa[hq] using hi
     have akj:(isAgg t).run P w=.ok true w:=Mo hu hd;simp[loadVar,Sem.run_bind,akj,sizeOf,typeInfo,hq,hs,hl]
 cases Dj with
 |struct fs=>exact agg rfl hv
 |array k e=>exact agg rfl hv
 |_=>
   simp only at hv;subst hv;have h1:w.cell? a=some v:=by
     have:=hg 0 (by simp);simpa[Addr.add] using this
   simp[loadVar,isAgg,underlying,hu,Sem.run_bind,go_sem,h1]
def Fv(P:Program)(t:TypeId)(cs:Θ):Option Value:=
 match P.underlying t with
 |some (.struct _)|some (.array _ _)=>match P.info? t with
   |some i=>match Nat.beq i.size cs.length with
     |true=>some (.agg cs.toArray)
     |false=>none
   |none=>none
 |some _=>match cs with
   |[v]=>some v
   |_=>none
 |none=>none
theorem Bz{t:TypeId}{a:Addr}{cs:Θ}(hc:w.cells? 0 a cs.length=some cs)(v:Value)(hv:Fv P t cs=some v):(loadVar t a).run P w=.ok v w:=by
 unfold Fv at hv;cases hu:P.underlying t with
 |none=>simp[hu] at hv
 |some Dj=>
   rw[hu] at hv;refine wY hc hu v ?_
   have agg : (match P.info? t with
       |some i=>match Nat.beq i.size cs.length with
         |true=>some (Value.agg cs.toArray)
         |false=>none
       |none=>none)=some v->(P.info? t).map (·.size)=some cs.length/\v=.agg cs.toArray:=by
     intro h
     cases hi:P.info? t with
     |none=>simp[hi] at h
     |some i=>
       rw[hi] at h
       cases hb:Nat.beq i.size cs.length with
       |false=>simp[hb] at h
       |true=>
         simp only[hb,Option.some.injEq] at h
         have:=Nat.eq_of_beq_eq_true hb
         exact⟨by simp[this],h.symm⟩
   have one : (match cs with
       |[v]=>some v
       |_=>none)=some v->cs=[v]:=by
     intro h
     match cs,h with
     |[u],h=>injection h with h;rw[h]
     |[],h=>cases h
     |_::_::_,h=>cases h
   cases Dj with
   |struct fs=>exact agg hv
   |array k e=>exact agg hv
   |_=>exact one hv
theorem Ci{o : Oper}{t : TypeId}{x : Operand}(hop : o.op = .load t x){a : Addr}(cs : Θ)(v : Value)(hx : ev b n l x = .pointer (some a))(m : Nat)(hc : w.cells? 0 a m = some cs)(hm : Nat.beq cs.length m = true)
   (hv:Fv P t cs=some v):(execOp (ev b n l) o).run P w=.ok (.value v) w:=by
 have hm:=Nat.eq_of_beq_eq_true hm;subst hm;unfold execOp;simp[hop,hx,Instr.loadAt,Instr.sureAddr,Sem.run_bind,Bz hc v hv]
theorem px{o : Oper}{t : TypeId}{x ix : Operand}(hop : o.op = .indexAddr t x ix)(e : TypeId)(sz : Nat)(hu : P.underlying t = some (.slice e))(Ch : (P.info? e).map (·.size) = some sz)
   {A:Ω} (a:Addr) (hA:A=some a) (len cap:Nat) (hx:ev b n l x=.slice A len cap) (kd:IntKind) (m:Nat) (hi:ev b n l ix=.int kd (m:Int)) (hm:m<len):
   (execOp (ev b n l) o).run P w=.ok (.value (.pointer (some (a.add (m*sz))))) w:=by
 subst hA;cases hq:P.info? e with
 |none=>simp[hq] at Ch
 |some i=>
   simp only[hq,Option.map_some,Option.some.injEq] at Ch;unfold execOp;simp[hop,hx,hi,Instr.indexAt,asIntOf,underlying,hu,sizeOf,typeInfo,hq,Ch,Sem.run_bind,go_sem,hm]
end
def rM(w:Ψ)(base:Nat)(e:TypeId)(v:Value)(n:Nat)(xs:Θ):Prop:=
 xs.length=n/\((v=.slice none 0 0/\n=0)∨
  ∃g cap cur fz,v=.slice (some ⟨g,0,none⟩) n cap/\base<=g/\w.heap[g]?=some (.cells cur e fz)/\(fz=(0,0)∨fz=(cur.size,cur.size+1))/\n<=cap/\cap<=maxLen/\cur.size=cap/\cur.toList.take n=xs)
section
variable {w:Ψ} {base:Nat} {e:TypeId} {v:Value} {n:Nat} {xs:Θ}
theorem rM.lt(h:rM w base e v n xs):∀k,v.ownBlock=some k->base<=k/\k<w.heap.size:=by
 intro k hk;rcases h.2 with⟨rfl,_⟩|⟨g,cap,cur,fz,rfl,hb,hg,_⟩
 . simp[Value.ownBlock] at hk
 . simp[Value.ownBlock] at hk;subst hk;exact⟨hb,(Array.getElem?_eq_some_iff.1 hg).1⟩
theorem rM.kept{w':Ψ}{row:Option Nat}(h:rM w base e v n xs)(hg:w.grownBy w' row)(jQ:v.ownBlock=none∨v.ownBlock≠row):rM w' base e v n xs:=by
 refine⟨h.1,?_⟩;rcases h.2 with hn|⟨g,cap,cur,fz,rfl,hb,hgg,rest⟩
 . exact .inl hn
 . refine .inr ⟨g,cap,cur,fz,rfl,hb,?_,rest⟩;rw[hg.block g (Array.getElem?_eq_some_iff.1 hgg).1 (by simpa[Value.ownBlock] using jQ)];exact hgg
theorem rM.cells(h:rM w base e v n xs){g:Nat}(hg:v.ownBlock=some g):∀j u,xs[j]?=some u->w.cell? ((⟨g,0,none⟩:Addr).add j)=some u:=by
 intro j u hu;rcases h.2 with⟨rfl,_⟩|⟨g',cap,cur,fz,rfl,_,hgg,_,_,_,_,OU⟩
 . simp[Value.ownBlock] at hg
 . simp[Value.ownBlock] at hg;subst hg;have ZP:(⟨g',0,none⟩:Addr).add j=⟨g',j,none⟩:=by unfold Addr.add;split<;>simp_all
   rw[ZP,cell_of_row w g' j cur e fz hgg];rw[<- OU,List.getElem?_take] at hu;split at hu
   . simpa using hu
   . cases hu
end
section
variable {P:Program} (w:Ψ)
end
section
variable {P:Program} {Q:Exit->Act->Ψ->Prop} {w:Ψ} {ops:Array Oper} {b:Nat->Value} {n:Nat} {l:List (Nat×Value)} {d:List Deferred} {K:Act->Ψ->Prop}
end
theorem OV{w : Ψ}{base : Nat}{e : TypeId}{n bk : Nat}{v : Value}{xs : Θ}{o : Obj}(h : rM w base e v n xs)(hb : Has w bk o)(ho : ∀ cs fr, o ≠ .cells cs e fr) :
   ∀q,v.ownBlock=some q->q≠bk:=by
 intro q hq hqb;subst hqb;rcases h.2 with⟨rfl,_⟩|⟨g,cap,cur,fz,rfl,_,hg,_⟩
 . simp[Value.ownBlock] at hq
 . simp[Value.ownBlock] at hq;subst hq;have Ml:w.heap[g]?=some o:=hb;rw[hg] at Ml;injection Ml with h1;exact ho _ _ h1.symm
theorem Wx.Vg{e:TypeId}{B wb n:Nat}{w w':Ψ}{v:Value}{xs:Θ}(h:G w w' v.ownBlock)(kQ:rM w B e v n xs)(hB:B<=w.heap.size):Wx e B wb w w':=
 ⟨h.os,h.tape,h.output,h.size,hB,fun j hj=>h.block j (Nat.lt_of_lt_of_le hj hB) (fun q=>by have:=(kQ.lt j q.symm).1;omega),
   fun j o ho _ Mh=>(h.block j (Has.lt ho) (fun q=>OV kQ ho Mh j q.symm rfl)).trans ho⟩
theorem Wx.Vh{e:TypeId}{B wb n:Nat}{w w' n8:Ψ}{v:Value}{xs:Θ}(h:Wx e B wb w w')(k:G w' n8 v.ownBlock)(kQ:rM w' B e v n xs):Wx e B wb w n8:=h.trans (Wx.Vg k kQ (Nat.le_trans h.base h.size))
section
variable {P:Program} {Q:Exit->Act->Ψ->Prop} {w:Ψ} {ops:Array Oper} {b:Nat->Value} {n:Nat} {l:List (Nat×Value)} {d:List Deferred} {K:Act->Ψ->Prop}
end
section
variable {P:Program} {Q:Exit->Act->Ψ->Prop} {w:Ψ} {ops:Array Oper} {b:Nat->Value} {n:Nat} {l:List (Nat×Value)} {d:List Deferred} {K:Act->Ψ->Prop}
def J4(P:Program)(s:TypeId)(f off:Nat):Bool:=
 match P.underlying s with
 |some (.struct fs)=>match fs[f]? with
   |some fl=>Nat.beq fl.offset off&&(match P.info? fl.type with
     |some i=>Nat.blt 0 i.size
     |none=>false)
   |none=>false
 |_=>false
theorem py{o : Oper}{s : TypeId}{x : Operand}{f : Nat}(hop : o.op = .fieldAddr s x f)(a : Addr)(hx : ev b n l x = .pointer (some a))(off : Nat)(h : J4 P s f off = true) :
   (execOp (ev b n l) o).run P w=.ok (.value (.pointer (some (a.add off)))) w:=by
 unfold J4 at h;cases hu:P.underlying s with
 |none=>simp[hu] at h
 |some Dj=>
   rw[hu] at h;cases Dj with
   |struct fs=>
     simp only at h;cases hf:fs[f]? with
     |none=>simp[hf] at h
     |some fl=>
       rw[hf] at h;simp only at h;cases hi:P.info? fl.type with
       |none=>simp[hi] at h
       |some i=>
         rw[hi] at h;simp only[Bool.and_eq_true] at h;have h1:=Nat.eq_of_beq_eq_true h.1;have h2:¬i.size=0:=by have:=Nat.le_of_ble_eq_true h.2;omega
         unfold execOp;simp[hop,hx,Instr.fieldAt,Instr.sureAddr,fieldPlace,underlying,hu,hf,sizeOf,typeInfo,hi,h1,h2,Sem.run_bind,go_sem]
   |_=>simp at h
theorem Fw{i : Nat}{o : Oper}{s x : Operand}{t : TypeId}(ho : ops[i]? = some o)(hg : Region.wanted o (yl ops b n l) = true)
   (hop:o.op=.call { callee:=.builtin .append,args:=#[s,x],argTypes:=#[t,t] }) (e:TypeId) (size bytes:Nat) (ht:P.underlying t=some (.slice e))
   (hi:(P.info? e).map (fun i=>(i.zero.map (·.cells.size),i.size,i.bytes))=some (some size,size,bytes)) (Ch:Nat.blt 0 size=true)
   (base:Nat) {v:Value} {m:Nat} {xs:Θ} (hs:ev b n l s=v) (kQ:w.ownsRow base e size v m xs)
   {bk:Nat} (off k' c:Nat) (hx:ev b n l x=.slice (some ⟨bk,off,none⟩) k' c) {cs:Array Value} {e':TypeId} {fr:Nat×Nat} (hb:Has w bk (.cells cs e' fr))
   (news:Θ) (hn:(cs.toList.drop off).take (k'*size)=news) (hl:news.length=k'*size) (h1:∀u∈news,u.oneCell'=true)
   (h63:m+k'<=maxLen) (ZQ:(m+k')*bytes<=140737488355328) (aeM:base<=w.heap.size)
   (k:∀v' w',w'.ownsRow base e size v' (m+k') (xs++news)->G w w' v.ownBlock->(v'.ownBlock=v.ownBlock∨v'.ownBlock=some w.heap.size)->K (Fr b n (iE o v' l) d) w'):wpOp P ops Q i K (Fr b n l d) w:=by
 cases ff:P.info? e with
 |none=>simp[ff] at hi
 |some info=>
   simp only[ff,Option.map_some,Option.some.injEq,Prod.mk.injEq,Option.map_eq_some_iff] at hi;obtain⟨⟨z,hz,X0⟩,aeN,hby⟩:=hi;have hc:∀j,w.cell? ⟨bk,j,none⟩=cs[j]?:=fun j=>cell_of_row w bk j cs e' fr hb;have Ic:∀j u,news[j]?=some u->w.cell? ((⟨bk,off,none⟩:Addr).add j)=some u:=fun j u hu=>by
     have ZP:(⟨bk,off,none⟩:Addr).add j=⟨bk,off+j,none⟩:=by unfold Addr.add;split<;>simp_all
     rw[ZP,hc];rw[<- hn,List.getElem?_take] at hu;split at hu
     . rw[List.getElem?_drop] at hu;simpa using hu
     . cases hu
   obtain⟨v',w',pC,Cj,X1,_,ZR⟩:=run_append_own_at (P:=P) w base t o.type e info z size bytes ht ff hz aeN hby X0 (Nat.le_of_ble_eq_true Ch) v m xs kQ ⟨bk,off,none⟩ k' c news
     hl Ic h1 h63 ZQ aeM
   refine Df ho hg ?_ (k v' w' Cj X1 ZR);unfold execOp;simp[hop,hs,hx,resolve,invoke,builtin,Sem.run_bind,pC]
end
theorem aa{w:Ψ}{a:Addr}{n:Nat}{row:Θ}(h:w.cells? 0 a n=some row)(off m:Nat)(hm:Nat.ble (off+m) n=true):w.cells? 0 (a.add off) m=some ((row.drop off).take m):=by
 have hm:=Nat.le_of_ble_eq_true hm;obtain⟨_,hl,hc⟩:=World.cells?_some h;by_cases h0:m=0
 . subst h0;simp[World.cells?]
 . have hs : a.spot = none := by
     have:=hc 0 (by omega);have h1:row[0]?=some (row[0]'(by omega)):=List.getElem?_eq_getElem (by omega);rw[show a.add 0=a by simp[Addr.add],h1] at this;exact World.cell?_spot this
   have e:∀j,a.add j=⟨a.block,a.off+j,none⟩:=fun j=>by
     obtain⟨b,o,s⟩:=a;simp only at hs;subst hs;unfold Addr.add;split
     . rename_i q;simp[q]
     . rfl
   rw[e off];refine ChangeShapes.cells?_of (Nat.zero_le _) (by rw[List.length_take,List.length_drop];omega) (fun j hj=>?_);have:=hc (off+j) (by omega);rw[e,<-Nat.add_assoc] at this;rw[this,List.getElem?_take,if_pos hj,List.getElem?_drop]
theorem k1{a b:Int}(h:(a==b)=true):a=b:=by simpa using h
theorem k0{a b:Int}(h:(a==b)=false):¬a=b:=by simpa using h
end Go.Gx
namespace Go.dy
open Go.Lex
inductive Nd where
 |mk (k a:Nat) (nm:Ξ) (n:Int) (ks:List Nd)
def Nd.k:Nd->Nat|.mk k _ _ _ _=>k
def Nd.a:Nd->Nat|.mk _ a _ _ _=>a
def Nd.nm:Nd->Ξ|.mk _ _ x _ _=>x
def Nd.n:Nd->Int|.mk _ _ _ n _=>n
def Nd.ks:Nd->List Nd|.mk _ _ _ _ l=>l
def gS:Nd:=.mk 0 0 (bY []) 0 []
def two(x:Ξ)(a b:Nd):Nd:=.mk 18 a.a x 0 [a,b]
structure bu (α:Type) where
 k:Nat
 a:Nat
 t:Ξ
 n:Nat
 e:α
 fk:Nat
 fa:Nat
 x:Nat
 y:Nat
abbrev Rs:=bu Nat
def okB{α:Type}(q:bu α):Bool:=(q.fk:Int)==(0:Int)
def bH{α:Type}(q:bu α)(s:Ξ):Bool:=okB q&&(((q.k:Int)==(3:Int))||((q.k:Int)==(4:Int)))&&(q.t.toList==s.toList)
def fy{α:Type}(q:bu α):Bool:=okB q&&((q.k:Int)==(2:Int))
def Mp(q:Rs):Bool:=okB q&&(((q.k:Int)==(2:Int))||((q.k:Int)==(1:Int))||bH q (bY [126])||bH q (bY [116,114,117,101])||bH q (bY [102,97,108,115,101])||bH q (bY [40])||bH q (bY [91]))
def cr(S:Ξ)(q:Rs):Rs:=if okB q=true then⟨(next S q.e).kind,(next S q.e).at_,(next S q.e).text,(next S q.e).n,(next S q.e).nx,(next S q.e).fk,(next S q.e).fa,q.x,q.y⟩ else q
def sH{α:Type}(q:bu α):bu α:=if okB q=true then { q with fk:=4,fa:=q.a } else q
def aH(S:Ξ)(q:Rs)(s:Ξ):Rs:=if bH q s=true then cr S q else q
def aN(S:Ξ)(q:Rs)(s:Ξ):Rs:=if bH q s=true then cr S q else sH q
def bZ(S:Ξ)(q:Rs):(Ξ×Nat)×Rs:=if fy q=true then((q.t,q.a),cr S q) else(((bY []),0),sH q)
inductive NT where
 |tL|pair|some|ki (a:Nd)|n_ (l:List Nd)|expr|any|params (sign:Ξ) (first:Bool)|Mq (at_:Nat)|cases (at_:Nat)|handle (at_:Nat)|tM (l:List Nd)
 |comp|cons|sum|zo (a:Nd)|mul|mulL (a:Nd)|app|Dl (a:Nd)|atom|round (at_:Nat)|sI (at_:Nat)|kD (l:List Nd)|prog|opsL (l:List Nd)|tN (n:Nat) (l:List Nd)
section
variable (S:Ξ) (R:NT->Rs->Nd×Rs)
def Hz(a:Nd)(q1:Rs):Nd×Rs:=
 let q2:=aH S q1 (bY [45,62])
 if bH q1 (bY [45,62])=true then
   let r:=R .tL q2
   (.mk 29 a.a (bY []) 0 [a,r.1],r.2)
 else
   let q3:=aH S q2 (bY [45])
   if bH q2 (bY [45])=true then
     let q4:=aN S q3 (bY [123])
     let r4:=R (.n_ []) q4
     let q5:=aN S r4.2 (bY [125])
     let q6:=aN S q5 (bY [45,62])
     let r6:=R .tL q6
     (.mk 29 a.a (bY []) 0 ([a,r6.1]++r4.1.ks),r6.2)
   else(a,q3)
def zp(q:Rs):Nd×Rs:=
 if okB q=true then
   if decide ((q.y:Int)>=(200:Int))=true then(gS,{ q with fk:=5,fa:=q.a })
   else
     let r1:=R .pair { q with y:=q.y+1 }
     let r:=Hz S R r1.1 r1.2
     (r.1,{ r.2 with y:=r.2.y-1 })
 else(gS,q)
def oa(l:List Nd)(q:Rs):Nd×Rs:=
 let r:=bZ S q
 let q1:=aH S r.2 (bY [44])
 if bH r.2 (bY [44])=true then R (.n_ (l++[.mk 23 r.1.2 r.1.1 0 []])) q1 else(.mk 0 0 (bY []) 0 (l++[.mk 23 r.1.2 r.1.1 0 []]),q1)
def zq(q:Rs):Nd×Rs:=
 let r1:=R .some q
 let q2:=aH S r1.2 (bY [42])
 if bH r1.2 (bY [42])=true then
   let r2:=R .pair q2
   (.mk 28 r1.1.a (bY []) 0 [r1.1,r2.1],r2.2)
 else(r1.1,q2)
def rN(q:Rs):Nd×Rs:=
 let q1:=aH S q (bY [105,110,116])
 if bH q (bY [105,110,116])=true then R (.ki (.mk 24 q.a (bY []) 0 [])) q1 else
 let q2:=aH S q1 (bY [98,111,111,108])
 if bH q1 (bY [98,111,111,108])=true then R (.ki (.mk 25 q.a (bY []) 0 [])) q2 else
 let q3:=aH S q2 (bY [117,110,105,116])
 if bH q2 (bY [117,110,105,116])=true then R (.ki (.mk 26 q.a (bY []) 0 [])) q3 else
 let q4:=aH S q3 (bY [40])
 if bH q3 (bY [40])=true then
   let r:=R .tL q4
   R (.ki r.1) (aN S r.2 (bY [41]))
 else R (.ki gS) (sH q4)
def sJ(a:Nd)(q:Rs):Nd×Rs:=
 let q1:=aH S q (bY [108,105,115,116])
 if bH q (bY [108,105,115,116])=true then R (.ki (.mk 27 a.a (bY []) 0 [a])) q1 else(a,q1)
def tO(q:Rs):Nd×Rs:=
 if okB q=true then
   if decide ((q.x:Int)>=(200:Int))=true then(gS,{ q with fk:=5,fa:=q.a })
   else
     let r1:=R .any { q with x:=q.x+1 }
     (r1.1,{ r1.2 with x:=r1.2.x-1 })
 else(gS,q)
def anyS(q:Rs):Nd×Rs:=
 let q1:=aH S q (bY [108,101,116])
 if bH q (bY [108,101,116])=true then R (.Mq q.a) q1 else
 let q2:=aH S q1 (bY [102,110])
 if bH q1 (bY [102,110])=true then
   let r:=R (.params (bY [61,62]) true) q2
   (.mk r.1.k q.a r.1.nm r.1.n r.1.ks,r.2)
 else
 let q3:=aH S q2 (bY [105,102])
 if bH q2 (bY [105,102])=true then
   let ra:=R .expr q3
   let qa:=aN S ra.2 (bY [116,104,101,110])
   let rb:=R .expr qa
   let qb:=aN S rb.2 (bY [101,108,115,101])
   let rc:=R .expr qb
   (.mk 11 q.a (bY []) 0 [ra.1,rb.1,rc.1],rc.2)
 else
 let q4:=aH S q3 (bY [99,97,115,101])
 if bH q3 (bY [99,97,115,101])=true then R (.cases q.a) q4 else
 if bH q4 (bY [104,97,110,100,108,101])=true then R (.handle q.a) q4 else
 if bH q4 (bY [115,104,97,108,108,111,119])=true then R (.handle q.a) q4 else
 let r:=R .comp q4
 let q5:=aH S r.2 (bY [59])
 if bH r.2 (bY [59])=true then
   let r2:=R .expr q5
   (.mk 10 r.1.a (bY []) 0 [r.1,r2.1],r2.2)
 else(r.1,q5)
def mG(sign:Ξ)(q:Rs):Nd×Rs:=
 let r:=bZ S q
 if okB r.2=true then
   let r2:=R (.params sign false) r.2
   (.mk 7 r.1.2 r.1.1 0 [r2.1],r2.2)
 else(gS,r.2)
def mb(sign:Ξ)(first:Bool)(q:Rs):Nd×Rs:=
 if first=true then mG S R sign q else if fy q=true then mG S R sign q else R .expr (aN S q sign)
def Dm(at_:Nat)(n:Int)(f:Bool)(q1:Rs):Nd×Rs:=
 let r:=bZ S q1
 let r2:=R (.params (bY [61]) f) r.2
 let q3:=aN S r2.2 (bY [105,110])
 let r4:=R .expr q3
 (.mk 9 at_ r.1.1 n [r2.1,r4.1],r4.2)
def Ie(at_:Nat)(q:Rs):Nd×Rs:=
 let q1:=aH S q (bY [114,101,99])
 if bH q (bY [114,101,99])=true then Dm S R at_ 1 true q1 else Dm S R at_ 0 false q1
def vd(at_:Nat)(q:Rs):Nd×Rs:=
 let r:=R .expr q
 let q1:=aN S r.2 (bY [111,102])
 let q2:=aN S q1 (bY [91])
 let q3:=aN S q2 (bY [93])
 let q4:=aN S q3 (bY [61,62])
 let r5:=R .expr q4
 let q6:=aN S r5.2 (bY [124])
 let r7:=bZ S q6
 let q8:=aN S r7.2 (bY [58,58])
 let r9:=bZ S q8
 let vg:=aN S r9.2 (bY [61,62])
 let r11:=R .expr vg
 let Ms:=aN S r11.2 (bY [101,110,100])
 (.mk 17 at_ (bY []) 0 [r.1,r5.1,.mk 23 r7.1.2 r7.1.1 0 [],.mk 23 r9.1.2 r9.1.1 0 [],r11.1],Ms)
def h_(at_:Nat)(n:Int)(q1:Rs):Nd×Rs:=
 let r:=R .expr q1
 let q2:=aN S r.2 (bY [119,105,116,104])
 let q3:=aN S q2 (bY [123])
 let q4:=aN S q3 (bY [114,101,116,117,114,110])
 let r5:=bZ S q4
 let q6:=aN S r5.2 (bY [61,62])
 let r7:=R .expr q6
 let r8:=R (.tM [r.1,.mk 21 q3.a r5.1.1 0 [r7.1]]) r7.2
 let q9:=aN S r8.2 (bY [125])
 (.mk 20 at_ (bY []) n r8.1.ks,q9)
def od(at_:Nat)(q:Rs):Nd×Rs:=
 let q1:=aH S q (bY [104,97,110,100,108,101])
 if bH q (bY [104,97,110,100,108,101])=true then h_ S R at_ 0 q1 else h_ S R at_ 1 (cr S q1)
def sL(l:List Nd)(q:Rs):Nd×Rs:=
 let q1:=aH S q (bY [124])
 if bH q (bY [124])=true then
   let r2:=bZ S q1
   let r3:=bZ S r2.2
   let r4:=bZ S r3.2
   let q5:=aN S r4.2 (bY [61,62])
   let r6:=R .expr q5
   R (.tM (l++[.mk 22 r2.1.2 r2.1.1 0 [.mk 23 r3.1.2 r3.1.1 0 [],.mk 23 r4.1.2 r4.1.1 0 [],r6.1]])) r6.2
 else(.mk 0 0 (bY []) 0 l,q1)
def wu(q:Rs):Nd×Rs:=
 let r:=R .cons q
 let q1:=aH S r.2 (bY [61,61])
 if bH r.2 (bY [61,61])=true then
   let r2:=R .cons q1
   (two (bY [61,61]) r.1 r2.1,r2.2)
 else
 let q2:=aH S q1 (bY [60])
 if bH q1 (bY [60])=true then
   let r2:=R .cons q2
   (two (bY [60]) r.1 r2.1,r2.2)
 else(r.1,q2)
def zr(q:Rs):Nd×Rs:=
 let r:=R .sum q
 let q1:=aH S r.2 (bY [58,58])
 if bH r.2 (bY [58,58])=true then
   let r2:=R .cons q1
   (.mk 16 r.1.a (bY []) 0 [r.1,r2.1],r2.2)
 else(r.1,q1)
def Mt(q:Rs):Nd×Rs:=
 let r:=R .mul q
 R (.zo r.1) r.2
def wv(a:Nd)(q:Rs):Nd×Rs:=
 let q1:=aH S q (bY [43])
 if bH q (bY [43])=true then
   let r:=R .mul q1
   R (.zo (two q.t a r.1)) r.2
 else
 let q2:=aH S q1 (bY [45])
 if bH q1 (bY [45])=true then
   let r:=R .mul q2
   R (.zo (two q.t a r.1)) r.2
 else(a,q2)
def Mu(q:Rs):Nd×Rs:=
 let r:=R .app q
 R (.mulL r.1) r.2
def zt(a:Nd)(q:Rs):Nd×Rs:=
 let q1:=aH S q (bY [42])
 if bH q (bY [42])=true then
   let r:=R .app q1
   R (.mulL (two (bY [42]) a r.1)) r.2
 else(a,q1)
def Dn(q:Rs):Nd×Rs:=
 let q1:=aH S q (bY [100,111])
 if bH q (bY [100,111])=true then
   let r:=bZ S q1
   let r2:=R .atom r.2
   (.mk 19 q.a r.1.1 0 [r2.1],r2.2)
 else
 let q2:=aH S q1 (bY [102,115,116])
 if bH q1 (bY [102,115,116])=true then
   let r:=R .atom q2
   (.mk 13 q.a (bY []) 0 [r.1],r.2)
 else
 let q3:=aH S q2 (bY [115,110,100])
 if bH q2 (bY [115,110,100])=true then
   let r:=R .atom q3
   (.mk 14 q.a (bY []) 0 [r.1],r.2)
 else
 let r:=R .atom q3
 R (.Dl r.1) r.2
def zu(a:Nd)(q:Rs):Nd×Rs:=
 if Mp q=true then
   let r:=R .atom q
   R (.Dl (.mk 8 a.a (bY []) 0 [a,r.1])) r.2
 else(a,q)
def oX(q:Rs)(q1:Rs):Nd×Rs:=
 if okB q1=true then
   if((q1.k:Int) != (1:Int))=true then(.mk 3 q.a (bY []) (-(q1.n:Int)) [],cr S (sH q1))
   else(.mk 3 q.a (bY []) (-(q1.n:Int)) [],cr S q1)
 else(.mk 3 q.a (bY []) (-(q1.n:Int)) [],cr S q1)
def iV(q:Rs):Nd×Rs:=
 if okB q=true then
   if((q.k:Int)==(2:Int))=true then(.mk 6 q.a q.t 0 [],cr S q) else
   if((q.k:Int)==(1:Int))=true then(.mk 3 q.a (bY []) (q.n:Int) [],cr S q) else
   let q1:=aH S q (bY [126])
   if bH q (bY [126])=true then oX S q q1 else
   let q2:=aH S q1 (bY [116,114,117,101])
   if bH q1 (bY [116,114,117,101])=true then(.mk 4 q.a (bY []) 1 [],q2) else
   let q3:=aH S q2 (bY [102,97,108,115,101])
   if bH q2 (bY [102,97,108,115,101])=true then(.mk 4 q.a (bY []) 0 [],q3) else
   let q4:=aH S q3 (bY [40])
   if bH q3 (bY [40])=true then R (.round q.a) q4 else
   let q5:=aH S q4 (bY [91])
   if bH q4 (bY [91])=true then R (.sI q.a) q5 else
   (gS,sH q5)
 else(gS,q)
def pD(at_:Nat)(q:Rs):Nd×Rs:=
 let q1:=aH S q (bY [41])
 if bH q (bY [41])=true then(.mk 5 at_ (bY []) 0 [],q1) else
 let r:=R .expr q1
 let q2:=aH S r.2 (bY [44])
 if bH r.2 (bY [44])=true then
   let r2:=R .expr q2
   let q3:=aN S r2.2 (bY [41])
   (.mk 12 at_ (bY []) 0 [r.1,r2.1],q3)
 else(r.1,aN S q2 (bY [41]))
def Cl(x e:Nd):Nd:=.mk 16 x.a (bY []) 0 [x,e]
def Dp(at_:Nat)(l:List Nd):Nd:=l.foldr Cl (.mk 15 at_ (bY []) 0 [])
def oe(at_:Nat)(q:Rs):Nd×Rs:=
 let q1:=aH S q (bY [93])
 if bH q (bY [93])=true then(.mk 15 at_ (bY []) 0 [],q1) else
 let r:=R (.kD []) q1
 (Dp at_ r.1.ks,aN S r.2 (bY [93]))
def kR(l:List Nd)(q:Rs):Nd×Rs:=
 let r:=R .expr q
 let q1:=aH S r.2 (bY [44])
 if bH r.2 (bY [44])=true then R (.kD (l++[r.1])) q1 else(.mk 0 0 (bY []) 0 (l++[r.1]),q1)
def vh(l:List Nd)(at_:Nat)(n:Int)(q2:Rs):Nd×Rs:=
 let r:=bZ S q2
 let q3:=aN S r.2 (bY [58])
 let ra:=R .tL q3
 let q4:=aN S ra.2 (bY [61,62])
 let rb:=R .tL q4
 R (.opsL (l++[.mk 1 at_ r.1.1 n [ra.1,rb.1]])) rb.2
def tP(l:List Nd)(q:Rs):Nd×Rs:=
 if bH q (bY [111,112])=true then
   let q1:=cr S q
   if bH q1 (bY [111,110,99,101])=true then vh S R l q.a 1 (cr S q1)
   else if bH q1 (bY [109,97,110,121])=true then vh S R l q.a 0 (cr S q1)
   else vh S R l q.a 0 (sH q1)
 else(.mk 0 0 (bY []) (l.length:Int) l,q)
def rO(n0:Nat)(l:List Nd)(at_:Nat)(n:Int)(q2:Rs):Nd×Rs:=
 let r:=bZ S q2
 let r2:=R (.params (bY [61]) true) r.2
 R (.tN n0 (l++[.mk 2 at_ r.1.1 n [r2.1]])) r2.2
def pE(n0:Nat)(l:List Nd)(q:Rs):Nd×Rs:=
 if bH q (bY [100,101,102])=true then
   let q1:=cr S q
   let q2:=aH S q1 (bY [114,101,99])
   if bH q1 (bY [114,101,99])=true then rO S R n0 l q.a 1 q2 else rO S R n0 l q.a 0 q2
 else(.mk 0 0 (bY []) (n0:Int) l,q)
def Cm(q:Rs):Nd×Rs:=
 let r:=R (.opsL []) q
 let r2:=R (.tN r.1.ks.length r.1.ks) r.2
 let q3:=aN S r2.2 (bY [109,97,105,110])
 let q4:=aN S q3 (bY [61])
 let r5:=R .expr q4
 (.mk 0 0 (bY []) (r.1.ks.length:Int) (r2.1.ks++[r5.1]),r5.2)
def aF(nt:NT)(q:Rs):Nd×Rs:=
 match nt with
 |.tL=>zp S R q
 |.pair=>zq S R q
 |.some=>rN S R q
 |.ki a=>sJ S R a q
 |.n_ l=>oa S R l q
 |.expr=>tO R q
 |.any=>anyS S R q
 |.params s f=>mb S R s f q
 |.Mq a=>Ie S R a q
 |.cases a=>vd S R a q
 |.handle a=>od S R a q
 |.tM l=>sL S R l q
 |.comp=>wu S R q
 |.cons=>zr S R q
 |.sum=>Mt R q
 |.zo a=>wv S R a q
 |.mul=>Mu R q
 |.mulL a=>zt S R a q
 |.app=>Dn S R q
 |.Dl a=>zu R a q
 |.atom=>iV S R q
 |.round a=>pD S R a q
 |.sI a=>oe S R a q
 |.kD l=>kR S R l q
 |.prog=>Cm S R q
 |.opsL l=>tP S R l q
 |.tN n l=>pE S R n l q
end
def run(S:Ξ):Nat->NT->Rs->Nd×Rs
 |0=>fun _ q=>(gS,sH q)
 |k+1=>aF S (run S k)
def M(S:Ξ)(q:Rs):Nat:=if q.fk≠0 then 0 else if q.k=0 then 1 else S.size+2-q.e
structure Ok (S:Ξ) (q:Rs):Prop where
 size:S.size<=3000
 e:q.e<=S.size
 x:q.x<=200
 y:q.y<=200
 a:q.a<=S.size
 n:q.n<=9223372036854775807
 t:q.t.size<=S.size
 k:q.k<=4
 end_:q.fk=0->q.k=0->q.e=S.size
 nm:q.fk=0->q.k=2->0<q.t.size
 sg:q.fk=0->q.k=4->az (Gx.ag q.t 0)=false
structure Tr (S:Ξ) (q q':Rs):Prop where
 ok:Ok S q'
 m:M S q'<=M S q
 x:q'.x=q.x
 y:q'.y=q.y
 fk:q.fk≠0->q'=q
theorem Tr.refl{S:Ξ}{q:Rs}(h:Ok S q):Tr S q q:=⟨h,Nat.le_refl _,rfl,rfl,fun _=>rfl⟩
theorem Tr.trans{S:Ξ}{q q' q'':Rs}(h:Tr S q q')(k:Tr S q' q''):Tr S q q'':=
 ⟨k.ok,Nat.le_trans k.m h.m,k.x.trans h.x,k.y.trans h.y,fun f=>by
   have:=h.fk f;subst this
   exact k.fk f⟩
theorem mc(q:Rs):okB q=true↔q.fk=0:=by simp[okB]
theorem OW{q:Rs}{s:Ξ}(h:bH q s=true):q.fk=0/\(q.k=3∨q.k=4)/\q.t=s:=by
 simp only[bH,okB,Bool.and_eq_true,Bool.or_eq_true,beq_iff_eq] at h;refine⟨by omega,by omega,jd h.2⟩
theorem Fx{S:Ξ}{j:Nat}(hj:j<S.size):Gx.ag (S.extract j (j+cH S j)) 0=Gx.ag S j:=by
 have h1:0<cH S j:=by unfold cH;split<;>omega
 have Uy:j<S.data.size:=hj;unfold Gx.ag;rw[ByteArray.data_extract,Array.getElem?_extract];simp only[Nat.add_zero];rw[if_pos (by omega)]
theorem Mv{S : Ξ}{j : Nat}(hs : S.size <= 3000)(hj : j < S.size) : ((cU S j).fk ≠ 0 -> (cU S j).nx <= S.size) /\ (cU S j).at_ <= S.size /\ (cU S j).n <= 9223372036854775807 /\ (cU S j).text.size <= S.size /\ (cU S j).kind <= 4 /\
   ((cU S j).fk=0->(cU S j).kind≠0)/\((cU S j).fk=0->(cU S j).kind=2->0<(cU S j).text.size)/\((cU S j).fk=0->(cU S j).kind=4->az (Gx.ag (cU S j).text 0)=false):=by
 have hex:∀a b,(S.extract a b).size<=S.size:=fun a b=>by rw[ByteArray.size_extract];omega
 have he:(bY []).size<=S.size:=Nat.zero_le _;unfold cU;split
 . unfold tK;split
   . rename_i a2;unfold eg at a2;simp only[Bool.and_eq_true,decide_eq_true_eq] at a2;exact⟨fun f=>absurd rfl f,Nat.le_of_lt hj,a2.2,he,by show(1:Nat)<=4;omega,(fun _ f=>by cases f),(fun _ f=>by cases f),(fun _ f=>by cases f)⟩
   . exact⟨fun _=>Nat.zero_le _,Nat.zero_le _,Nat.zero_le _,he,Nat.zero_le _,(fun f=>by cases f),(fun f=>by cases f),(fun f=>by cases f)⟩
 . split
   . rename_i hl;have hlen : 0 < (S.extract j (stop (fun c => az c || aj c) S j)).size := by
       have h1:stop (fun c=>az c||aj c) S j=stop (fun c=>az c||aj c) S (j+1):=fN hj (by simp[hl]);have h2:=cV (fun c=>az c||aj c) S (j+1);have h3:=dU (fun c=>az c||aj c) S j (by omega);rw[pv h3];omega
     unfold nameAt;split
     . exact⟨fun _=>Nat.zero_le _,Nat.zero_le _,Nat.zero_le _,he,Nat.zero_le _,(fun f=>by cases f),(fun f=>by cases f),(fun f=>by cases f)⟩
     . exact⟨fun f=>absurd rfl f,Nat.le_of_lt hj,Nat.zero_le _,hex _ _,by dsimp only;split<;>omega,(fun _ f=>by dsimp only at f;split at f<;>omega),(fun _ _=>hlen),(fun _ f=>by dsimp only at f;split at f<;>omega)⟩
   . split
     . rename_i hl _;refine⟨fun f=>absurd rfl f,Nat.le_of_lt hj,Nat.zero_le _,hex _ _,by show(4:Nat)<=4;omega,(fun _ f=>by cases f),(fun _ f=>by cases f),(fun _ _=>?_)⟩;show az (Gx.ag (S.extract j (j+cH S j)) 0)=false;rw[Fx hj];simpa using hl
     . exact⟨fun _=>Nat.zero_le _,Nat.zero_le _,Nat.zero_le _,he,Nat.zero_le _,(fun f=>by cases f),(fun f=>by cases f),(fun f=>by cases f)⟩
theorem sO{S : Ξ}{i : Nat}(hs : S.size <= 3000)(hi : i <= S.size) : (next S i).nx <= S.size /\ (next S i).at_ <= S.size /\ (next S i).n <= 9223372036854775807 /\ (next S i).text.size <= S.size /\ (next S i).kind <= 4 /\
   ((next S i).fk=0->(next S i).kind=0->(next S i).nx=S.size)/\((next S i).fk=0->(next S i).kind≠0->i<(next S i).nx)/\((next S i).fk=0->(next S i).kind=2->0<(next S i).text.size)/\((next S i).fk=0->(next S i).kind=4->az (Gx.ag (next S i).text 0)=false):=by
 have hp:=fun a b=>kL (s:=S) (i:=i) hi a b;by_cases eK:pass S i<S.size
 . have e:next S i=cU S (pass S i):=by unfold next;rw[if_pos eK]
   have p:=Mv hs eK;rw[e] at hp ⊢;refine⟨?_,p.2.1,p.2.2.1,p.2.2.2.1,p.2.2.2.2.1,fun a b=>absurd b (p.2.2.2.2.2.1 a),fun a b=>(hp a b).1,p.2.2.2.2.2.2.1,p.2.2.2.2.2.2.2⟩;by_cases f:(cU S (pass S i)).fk=0
   . exact(hp f (p.2.2.2.2.2.1 f)).2
   . exact p.1 f
 . have e:next S i=⟨0,S.size,⟨#[]⟩,0,S.size,0,0⟩:=by unfold next;rw[if_neg eK]
   rw[e];exact⟨Nat.le_refl _,Nat.le_refl _,Nat.zero_le _,Nat.zero_le _,Nat.zero_le _,fun _ _=>rfl,fun _ f=>absurd rfl f,(fun _ f=>by cases f),(fun _ f=>by cases f)⟩
theorem Mw{S:Ξ}:next S S.size=⟨0,S.size,⟨#[]⟩,0,S.size,0,0⟩:=by
 unfold next
 rw[pq (by omega),if_neg (by omega)]
theorem tQ{S:Ξ}{q:Rs}(h:Ok S q):Tr S q (cr S q):=by
 by_cases f:okB q=true
 . have p:=sO h.size h.e;have f0:=(mc q).1 f;unfold cr;rw[if_pos f];refine⟨⟨h.size,p.1,h.x,h.y,p.2.1,p.2.2.1,p.2.2.2.1,p.2.2.2.2.1,p.2.2.2.2.2.1,p.2.2.2.2.2.2.2.1,p.2.2.2.2.2.2.2.2⟩,?_,rfl,rfl,fun g=>absurd f0 g⟩;by_cases hk:q.k=0
   . have he:=h.end_ f0 hk;rw[he,Mw];unfold M;simp[f0,hk]
   . have hM:M S q=S.size+2-q.e:=by unfold M;simp[f0,hk]
     rw[hM];have he:=h.e;unfold M;dsimp only;split
     . omega
     . split
       . omega
       . have:=p.2.2.2.2.2.2.1 (by omega) (by omega);omega
 . unfold cr;rw[if_neg f];exact Tr.refl h
theorem tR{S:Ξ}{q:Rs}(h:Ok S q)(f0:q.fk=0)(hk:q.k≠0):M S (cr S q)<M S q:=by
 have p:=sO h.size h.e;have f:=(mc q).2 f0;have hM:M S q=S.size+2-q.e:=by unfold M;simp[f0,hk]
 have he:=h.e;unfold cr;rw[if_pos f,hM];unfold M;dsimp only;split
 . omega
 . split
   . omega
   . have:=p.2.2.2.2.2.2.1 (by omega) (by omega);omega
theorem Fy{S:Ξ}{q:Rs}(h:Ok S q):Tr S q (sH q):=by
 unfold sH;split
 . rename_i f;exact⟨⟨h.size,h.e,h.x,h.y,h.a,h.n,h.t,h.k,(fun g=>by cases g),(fun g=>by cases g),(fun g=>by cases g)⟩,by simp[M],rfl,rfl,fun g=>absurd ((mc q).1 f) g⟩
 . exact Tr.refl h
theorem zw{S:Ξ}{q:Rs}{s:Ξ}(h:Ok S q):Tr S q (aH S q s):=by
 unfold aH;split
 . exact tQ h
 . exact Tr.refl h
theorem J5{S:Ξ}{q:Rs}{s:Ξ}(h:Ok S q):Tr S q (aN S q s):=by
 unfold aN;split
 . exact tQ h
 . exact Fy h
theorem J6{S:Ξ}{q:Rs}(h:Ok S q):Tr S q (bZ S q).2:=by
 unfold bZ;split
 . exact tQ h
 . exact Fy h
theorem vj{S:Ξ}{q:Rs}{s:Ξ}(h:Ok S q)(hi:bH q s=true):M S (aH S q s)<M S q:=by
 have:=OW hi;unfold aH;rw[if_pos hi];exact tR h this.1 (by omega)
theorem is_lt{S:Ξ}{q:Rs}{s:Ξ}(h:Ok S q)(hi:bH q s=true):M S (cr S q)<M S q:=by
 have:=OW hi;exact tR h this.1 (by omega)
theorem aeP{q:Rs}(h:okB (sH q)=true):False:=by
 unfold sH at h;split at h
 . simp[okB] at h
 . rename_i f;exact f h
theorem Vi{S:Ξ}{q:Rs}(h:Ok S q)(hi:okB (bZ S q).2=true):M S (bZ S q).2<M S q:=by
 unfold bZ at hi ⊢;split
 . rename_i f;simp only[fy,Bool.and_eq_true,beq_iff_eq] at f;exact tR h ((mc q).1 f.1) (by omega)
 . rename_i f;rw[if_neg f] at hi;exact(aeP hi).elim
section
variable {S:Ξ} {R:NT->Rs->Nd×Rs} (hR:∀nt q,Ok S q->Tr S q (R nt q).2)
theorem bR{q q1:Rs}{nt:NT}(hR:∀nt q,Ok S q->Tr S q (R nt q).2)(h:Tr S q q1):Tr S q (R nt q1).2:=h.trans (hR _ _ h.ok)
theorem aeQ{q q1:Rs}{s:Ξ}(h:Tr S q q1):Tr S q (aH S q1 s):=h.trans (zw h.ok)
theorem X2{q q1:Rs}{s:Ξ}(h:Tr S q q1):Tr S q (aN S q1 s):=h.trans (J5 h.ok)
theorem X3{q q1:Rs}(h:Tr S q q1):Tr S q (bZ S q1).2:=h.trans (J6 h.ok)
theorem OX{q q1:Rs}(h:Tr S q q1):Tr S q (cr S q1):=h.trans (tQ h.ok)
theorem bNo{q q1:Rs}(h:Tr S q q1):Tr S q (sH q1):=h.trans (Fy h.ok)
theorem J7{q:Rs}(h:Ok S q)(f:okB q=true):Tr S q { q with fk:=5,fa:=q.a }:=
 ⟨⟨h.size,h.e,h.x,h.y,h.a,h.n,h.t,h.k,(fun g=>by cases g),(fun g=>by cases g),(fun g=>by cases g)⟩,by simp[M],rfl,rfl,fun g=>absurd ((mc q).1 f) g⟩
theorem aeR{q q1:Rs}{a:Nd}(hR:∀nt q,Ok S q->Tr S q (R nt q).2)(h:Tr S q q1):Tr S q (Hz S R a q1).2:=by
 unfold Hz;dsimp only;repeat' split
 all_goals (with_reducible (repeat (first|exact h|apply bR hR|apply X2|apply aeQ|apply X3)))
theorem Vj(hR:∀nt q,Ok S q->Tr S q (R nt q).2)(nt:NT)(q:Rs)(h:Ok S q):Tr S q (aF S R nt q).2:=by
 have h0:=Tr.refl h;cases nt;case tL=>
   show Tr S q (zp S R q).2;unfold zp;split
   . rename_i f;split
     . exact J7 h f
     . rename_i g;have hy:q.y<200:=by simp at g;omega
       have o1:Ok S { q with y:=q.y+1 }:=⟨h.size,h.e,h.x,by show q.y+1<=200;omega,h.a,h.n,h.t,h.k,h.end_,h.nm,h.sg⟩;have t1:Tr S { q with y:=q.y+1 } (Hz S R (R .pair { q with y:=q.y+1 }).1 (R .pair { q with y:=q.y+1 }).2).2:=aeR hR (bR hR (Tr.refl o1));have o2:=t1.ok;have e1:=t1.y;dsimp only at e1 ⊢;refine⟨⟨o2.size,o2.e,o2.x,by have:=o2.y;dsimp only;omega,o2.a,o2.n,o2.t,o2.k,o2.end_,o2.nm,o2.sg⟩,t1.m,t1.x,by dsimp only;omega,fun z=>absurd ((mc q).1 f) z⟩
   . exact h0
 case expr=>
   show Tr S q (tO R q).2;unfold tO;split
   . rename_i f;split
     . exact J7 h f
     . rename_i g;have hy:q.x<200:=by simp at g;omega
       have o1:Ok S { q with x:=q.x+1 }:=⟨h.size,h.e,by show q.x+1<=200;omega,h.y,h.a,h.n,h.t,h.k,h.end_,h.nm,h.sg⟩;have t1:Tr S { q with x:=q.x+1 } (R .any { q with x:=q.x+1 }).2:=bR hR (Tr.refl o1);have o2:=t1.ok;have e1:=t1.x;dsimp only at e1 ⊢;refine⟨⟨o2.size,o2.e,by have:=o2.x;dsimp only;omega,o2.y,o2.a,o2.n,o2.t,o2.k,o2.end_,o2.nm,o2.sg⟩,t1.m,by dsimp only;omega,t1.y,fun z=>absurd ((mc q).1 f) z⟩
   . exact h0
 all_goals (simp only[aF,zq,rN,sJ,oa,anyS,mG,mb,Dm,Ie,vd,h_,od,sL,wu,zr,Mt,wv,Mu,zt,Dn,zu,oX,iV,pD,oe,kR,vh,tP,rO,pE,Cm])
 all_goals (repeat' split)
 all_goals (with_reducible (repeat (first|exact h0|apply bR hR|apply X2|apply aeQ|apply X3|apply OX|apply bNo)))
end
theorem OY{S:Ξ}(k:Nat):∀(nt:NT)(q:Rs),Ok S q->Tr S q (run S k nt q).2:=by
 induction k with
 |zero=>exact fun _ _ h=>Fy h
 |succ k ih=>exact fun nt q h=>Vj ih nt q h
theorem Mx{S:Ξ}{k:Nat}{nt:NT}{q q':Rs}{t:Nd}(h:Ok S q)(e:run S k nt q=(t,q')):Tr S q q':=by
 have:=OY k nt q h;rw[e] at this;exact this
theorem Vk{S:Ξ}{k:Nat}{q q':Rs}{t:Nd}(h:Ok S q)(hk:0<k)(hb:Mp q=true)(e:run S k .atom q=(t,q')):M S q'<M S q:=by
 obtain⟨j,rfl⟩:∃j,k=j+1:=⟨k-1,by omega⟩;have e1:q'=(iV S (run S j) q).2:=by
   have:run S (j+1) .atom q=iV S (run S j) q:=rfl;rw[<- this,e]
 have hR:=OY (S:=S) j;have Ml:=hb;unfold Mp at Ml;simp only[Bool.and_eq_true] at Ml;obtain⟨f,Ml⟩:=Ml;have f0:=(mc q).1 f;have no:∀s,¬bH q s=true->aH S q s=q:=fun s hn=>by unfold aH;rw[if_neg hn]
 rw[e1];unfold iV;rw[if_pos f];by_cases h2:((q.k:Int)==(2:Int))=true
 . rw[if_pos h2];simp only[beq_iff_eq] at h2;exact tR h f0 (by omega)
 . rw[if_neg h2];by_cases h1:((q.k:Int)==(1:Int))=true
   . rw[if_pos h1];simp only[beq_iff_eq] at h1;exact tR h f0 (by omega)
   . rw[if_neg h1];simp only[Bool.or_eq_true] at Ml;dsimp only;by_cases c1:bH q (bY [126])=true
     . rw [if_pos c1];have l := vj h c1;have o := (zw (s := (bY [126])) h);have : Tr S q (oX S q (aH S q (bY [126]))).2 /\ M S (oX S q (aH S q (bY [126]))).2 <= M S (aH S q (bY [126])) := by
         have o1:=Tr.refl o.ok;unfold oX;repeat' split
         all_goals exact⟨by repeat (first|exact o|apply OX|apply bNo),by apply Tr.m;repeat (first|exact o1|apply OX|apply bNo)⟩
       omega
     . rw[if_neg c1,no _ c1];by_cases c2:bH q (bY [116,114,117,101])=true
       . rw[if_pos c2];exact vj h c2
       . rw[if_neg c2,no _ c2];by_cases c3:bH q (bY [102,97,108,115,101])=true
         . rw[if_pos c3];exact vj h c3
         . rw[if_neg c3,no _ c3];by_cases c4:bH q (bY [40])=true
           . rw[if_pos c4];have:=vj h c4;have:=(hR (.round q.a) _ (zw (s:=(bY [40])) h).ok).m;omega
           . rw[if_neg c4,no _ c4];by_cases c5:bH q (bY [91])=true
             . rw[if_pos c5];have:=vj h c5;have:=(hR (.sI q.a) _ (zw (s:=(bY [91])) h).ok).m;omega
             . simp_all
theorem OZ{S:Ξ}{q:Rs}(h:Ok S q):M S q<=3002:=by
 have:=h.size;unfold M;split
 . omega
 . split<;>omega
theorem ak(S:Ξ)(k:Nat)(nt:NT)(q:Rs):run S (k+1) nt q=aF S (run S k) nt q:=rfl
def Uz:Rs:=⟨0,0,(bY []),0,0,0,0,0,0⟩
def tS:Nat:=48100
def ib(q:Rs):Rs:=if okB q=true then(if((q.k:Int) != (0:Int))=true then sH q else q) else q
def jf(s:Ξ):Nd×Nat×Nat:=
 if s.size>3000 then(gS,1,0) else
 let r:=run s tS .prog (cr s Uz)
 let q:=ib r.2
 if okB q=true then(r.1,0,0) else(gS,q.fk,q.fa)
theorem O0{S:Ξ}(h:S.size<=3000):Ok S (cr S Uz):=by
 have p:=sO h (Nat.zero_le S.size);show Ok S (cr S Uz);unfold cr;rw[if_pos (by decide)];exact⟨h,p.1,Nat.zero_le _,Nat.zero_le _,p.2.1,p.2.2.1,p.2.2.2.1,p.2.2.2.2.1,p.2.2.2.2.2.1,p.2.2.2.2.2.2.2.1,p.2.2.2.2.2.2.2.2⟩
def zx(t:Nd)(A:Ω)(c:Nat):Θ:=[.int .i64 (t.k:Int),.int .i64 (t.a:Int),.string t.nm,.int .i64 t.n,.slice A t.ks.length c]
inductive KV (Q:Φ) (w:Ψ):List Nd->Ω->Nat->Prop
 | mk {ks : List Nd} {A : Ω} {c : Nat} (As : Nat -> Ω) (cs : Nat -> Nat) (hc : ks.length <= c) (hl : ks.length <= maxLen) (hA : ∀ i, i < ks.length -> ∃ a, A = some a /\ Q a.block)
     (hr:Gx.Rd w A ks.length 5 (fun i=>zx (ks.getD i gS) (As i) (cs i))) (h:∀i,i<ks.length->KV Q w (ks.getD i gS).ks (As i) (cs i)):KV Q w ks A c
theorem Fz{w w':Ψ}{a:Addr}{n:Nat}{cs:Θ}(h:w.cells? 0 a n=some cs)(x:w'.heap[a.block]?=w.heap[a.block]?):w'.cells? 0 a n=some cs:=by
 have e:(fun i=>w'.cell? (a.add i))=fun i=>w.cell? (a.add i):=funext fun i=>by
   unfold World.cell?;have:(a.add i).block=a.block:=by unfold Addr.add;split<;>rfl
   rw[this,x]
 unfold World.cells? at h ⊢;rw[e];exact h
theorem KV.frame{Q:Nat->Prop}{w w':Ψ}{ks:List Nd}{A:Ω}{c:Nat}(h:KV Q w ks A c)(x:∀j,Q j->j<w.heap.size->w'.heap[j]?=w.heap[j]?):KV Q w' ks A c:=by
 induction h with
 |@mk ks A c As cs hc hl hA hr _ ih=>
   refine .mk As cs hc hl hA (fun i hi=>?_) (fun i hi=>ih i hi);obtain⟨a,ha,hq⟩:=hA i hi;obtain⟨a',O1,hc⟩:=hr i hi;rw[ha] at O1;cases O1;have hb:=World.cells?_block hc (by decide);have e:(a.add (i*5)).block=a.block:=by unfold Addr.add;split<;>rfl
   rw[e] at hb;exact⟨a,ha,Fz hc (by rw[e];exact x _ hq hb)⟩
theorem KV.mono{Q Q':Nat->Prop}{w:Ψ}{ks:List Nd}{A:Ω}{c:Nat}(h:KV Q w ks A c)(x:∀j,Q j->j<w.heap.size->Q' j):KV Q' w ks A c:=by
 induction h with
 |@mk ks A c As cs hc hl hA hr _ ih=>
   refine .mk As cs hc hl (fun i hi=>?_) hr (fun i hi=>ih i hi);obtain⟨a,ha,hq⟩:=hA i hi;obtain⟨a',O1,hc⟩:=hr i hi;rw[ha] at O1;cases O1;have hb:=World.cells?_block hc (by decide);have e:(a.add (i*5)).block=a.block:=by unfold Addr.add;split<;>rfl
   rw[e] at hb;exact⟨a,ha,x _ hq hb⟩
theorem KV.nil{Q:Nat->Prop}{w:Ψ}{A:Ω}{c:Nat}:KV Q w [] A c:=
 .mk (fun _=>none) (fun _=>0) (Nat.zero_le _) (Nat.zero_le _) (fun i h=>absurd h (Nat.not_lt_zero i)) (fun i h=>absurd h (Nat.not_lt_zero i)) (fun i h=>absurd h (Nat.not_lt_zero i))
section
variable {lo hi lo' pG k:Nat} {X X':List Nat} {w w':Ψ} {ks:List Nd} {A:Ω} {c:Nat}
end
section
variable {lo hi lo' k:Nat} {X X':List Nat} {w w':Ψ} {ks:List Nd} {A:Ω} {c:Nat} {v v':Value}
end
def jR(L:List (Nd×Ω×Nat)):List Nd:=L.map (·.1)
theorem Vm(L M:List (Nd×Ω×Nat)):jR (L++M)=jR L++jR M:=by simp[jR]
theorem O2(p:Nd×Ω×Nat)(L:List (Nd×Ω×Nat)):jR (p::L)=p.1::jR L:=rfl
theorem Vn:jR []=[]:=rfl
theorem g_(L:List (Nd×Ω×Nat)):(jR L).length=L.length:=by simp[jR]
theorem maps : (∀ L M : List (Nd × Ω × Nat), jR (L ++ M) = jR L ++ jR M) /\ (∀(p : Nd × Ω × Nat)(L : List (Nd × Ω × Nat)), jR (p :: L) = p.1 :: jR L) /\ jR [] = [] /\ (∀ L : List (Nd × Ω × Nat), (jR L).length = L.length) /\
   (∀l:List Nd,[]++l=l)/\(∀(a:Nd)(l m:List Nd),(a::l)++m=a::(l++m))/\(∀l m r:List Nd,(l++m)++r=l++(m++r))/\
   (∀l:List (Nd×Ω×Nat),[]++l=l)/\(∀(a:Nd×Ω×Nat)(l m:List (Nd×Ω×Nat)),(a::l)++m=a::(l++m))/\(∀l m r:List (Nd×Ω×Nat),(l++m)++r=l++(m++r)):=
 ⟨Vm,O2,Vn,g_,fun _=>rfl,fun _ _ _=>rfl,List.append_assoc,fun _=>rfl,fun _ _ _=>rfl,List.append_assoc⟩
def flat(L:List (Nd×Ω×Nat)):Θ:=L.flatMap (fun p=>zx p.1 p.2.1 p.2.2)
theorem pH(L:List (Nd×Ω×Nat)):(flat L).length=L.length*5:=by
 induction L with
 |nil=>rfl
 |cons p r ih=>simp only[flat,List.flatMap_cons,List.length_append] at ih ⊢;rw[ih];simp[zx];omega
theorem gA(L:List (Nd×Ω×Nat))(p:Nd×Ω×Nat):flat (L++[p])=flat L++zx p.1 p.2.1 p.2.2:=by simp[flat]
theorem Vo(L:List (Nd×Ω×Nat))(i:Nat)(h:i<L.length)(d:Nd×Ω×Nat):((flat L).drop (i*5)).take 5=zx (L.getD i d).1 (L.getD i d).2.1 (L.getD i d).2.2:=by
 induction L generalizing i with
 |nil=>simp at h
 |cons p r ih=>
   cases i with
   |zero=>simp[flat,zx]
   |succ i=>
     have:=ih i (by simpa using h);simp only[List.getD_cons_succ];rw[<- this];simp only[flat,List.flatMap_cons];rw[show(i+1)*5=5+i*5 by omega,List.drop_append,List.drop_eq_nil_of_le (by simp[zx]),List.nil_append];simp[zx]
theorem My{w : Ψ}{b m i : Nat}{cs : Array Value}{t : TypeId}{fr : Nat × Nat}{row : Θ}(h : Gx.Has w b (.cells cs t fr))(ZS : (cs.toList.drop (i * m)).take m = row)(hm : row.length = m) :
   w.cells? 0 ((⟨b,0,none⟩:Addr).add (i*m)) m=some row:=by
 have e:(⟨b,0,none⟩:Addr).add (i*m)=⟨b,i*m,none⟩:=by
   unfold Addr.add;split
   . rename_i q;rw[q]
   . simp
 rw[e];refine ChangeShapes.cells?_of (Nat.zero_le _) hm (fun j hj=>?_);unfold World.cell?;unfold Gx.Has at h;rw[h];show cs[i*m+j]?=row[j]?;rw[<- ZS,List.getElem?_take,if_pos hj,List.getElem?_drop,Array.getElem?_toList]
theorem KV.O3{Q : Nat -> Prop}{w : Ψ}{kb n : Nat}{cs : Array Value}{e : TypeId}{fr : Nat × Nat}(L : List (Nd × Ω × Nat))(hb : Gx.Has w kb (.cells cs e fr))(hn : cs.toList.take n = flat L)(hQ : Q kb)
   (hk:∀p∈L,KV Q w p.1.ks p.2.1 p.2.2) {c:Nat} (hc:L.length<=c:=by first|decide|simp) (hl:L.length<=maxLen:=by simp[maxLen]):KV Q w (jR L) (some ⟨kb,0,none⟩) c:=by
 have hg:∀i,i<L.length->(jR L).getD i gS=(L.getD i (gS,none,0)).1:=fun i hi=>by
   unfold jR;rw[List.getD_eq_getElem?_getD,List.getD_eq_getElem?_getD,List.getElem?_map,List.getElem?_eq_getElem hi];rfl
 refine .mk (fun i=>(L.getD i (gS,none,0)).2.1) (fun i=>(L.getD i (gS,none,0)).2.2) (by rw[g_];exact hc) (by rw[g_];exact hl) (fun i hi=>⟨_,rfl,hQ⟩) (fun i hi=>⟨_,rfl,My hb ?_ (by simp[zx])⟩) (fun i hi=>?_)
 . have pG:i<L.length:=by simpa[jR] using hi
   have hle:(i+1)*5<=n/\(i+1)*5<=cs.toList.length:=by
     have h1:(cs.toList.take n).length=L.length*5:=by rw[hn,pH]
     rw[List.length_take] at h1;omega
   show _=zx ((jR L).getD i gS) _ _;rw[hg i pG,<-Vo L i pG,<-hn];rw[List.drop_take,List.take_take];congr 1;omega
 . have pG:i<L.length:=by simpa[jR] using hi
   rw[hg i pG];have hm:L.getD i (gS,none,0)∈L:=by
     rw[List.getD_eq_getElem?_getD,List.getElem?_eq_getElem pG];exact List.getElem_mem pG
   exact hk _ hm
theorem KV.ZT{Q : Nat -> Prop}{w : Ψ}{base n : Nat}{e : TypeId}{v : Value}(L : List (Nd × Ω × Nat))(h : w.ownsRow base e 5 v n (flat L))(hQ : ∀ j, v.ownBlock = some j -> Q j)(hk : ∀ p ∈ L, KV Q w p.1.ks p.2.1 p.2.2) :
   ∃A c,v=.slice A (jR L).length c/\KV Q w (jR L) A c:=by
 obtain⟨h1,h2⟩:=h;have hn:n=L.length:=by rw[pH] at h1;omega
 rcases h2 with⟨rfl,rfl⟩|⟨g,cap,cur,rfl,hb,hg,Bl,O4,Ch,X4⟩
 . have:L=[]:=List.length_eq_zero_iff.1 hn.symm;subst this;exact⟨none,0,rfl,.nil⟩
 . exact⟨some ⟨g,0,none⟩,cap,by rw[g_,hn],.O3 L hg X4 (hQ g rfl) hk (by omega) (by omega)⟩
theorem KV.at_{Q:Nat->Prop}{w:Ψ}{ks:List Nd}{A:Ω}{c:Nat}(h:KV Q w ks A c):∃(As:Nat->Ω) (cs:Nat->Nat),Gx.Rd w A ks.length 5 (fun i=>zx (ks.getD i gS) (As i) (cs i))/\∀i,i<ks.length->KV Q w (ks.getD i gS).ks (As i) (cs i):=by
 cases h with
 |mk As cs hc hl hA hr hk=>exact⟨As,cs,hr,hk⟩
theorem KV.cap{Q:Nat->Prop}{w:Ψ}{ks:List Nd}{A:Ω}{c:Nat}(h:KV Q w ks A c):ks.length<=c:=by
 cases h with
 |mk As cs hc hl hA hr hk=>exact hc
theorem KV.max{Q:Nat->Prop}{w:Ψ}{ks:List Nd}{A:Ω}{c:Nat}(h:KV Q w ks A c):ks.length<=maxLen:=by
 cases h with
 |mk As cs hc hl hA hr hk=>exact hl
section
variable {w w' n8:Ψ} {b j:Nat}
end
theorem O5(L:List (Nd×Ω×Nat)):∀u∈flat L,u.oneCell'=true:=by
 intro u hu;simp only[flat,List.mem_flatMap,zx,List.mem_cons,List.not_mem_nil,or_false] at hu;obtain⟨p,_,h⟩:=hu;rcases h with rfl|rfl|rfl|rfl|rfl<;>rfl
end Go.dy
namespace Go.aR
abbrev Nm:=Ξ
def Oa(a b:Nm):Bool:=Go.Op.bytesLess a.data.toList b.data.toList||(a.data.toList==b.data.toList)
def dh(a b:Nm):Bool:=a.data.toList==b.data.toList
structure G where
 kind:List Nat
 a:List (Option Nat)
 b:List (Option Nat)
 row:List Nat
 link:List (Option Nat)
 ops:List (List Nm)
 next:List (Option Nat)
 tv:List (Int×Nat)
 rv:List (Int×Nat)
def wN{β:Type}(n:Nat)(k:Nat->β):β:=match n with
 |0=>k 0
 |m+1=>k (m+1)
def wO{β:Type}(o:Option Nat)(k:Option Nat->β):β:=match o with
 |none=>k none
 |some n=>wN n fun n=>k (some n)
def wL{α β:Type}:List α->(List α->β)->β
 |[],k=>k []
 |x::l,k=>wL l fun l=>k (x::l)
theorem jB{β:Type}(n:Nat)(k:Nat->β):wN n k=k n:=by cases n<;>rfl
theorem mf{β:Type}(o:Option Nat)(k:Option Nat->β):wO o k=k o:=by cases o<;>simp[wO,jB]
theorem kj{α β:Type}(l:List α)(k:List α->β):wL l k=k l:=by
 induction l generalizing k with
 |nil=>rfl
 |cons x l ih=>simp[wL,ih]
def eQ:Nat:=1000000000
def G.new:G:=⟨[],[],[],[],[],[[]],[some 0],[],[]⟩
def G.put(g:G)(kd:Nat)(a b:Option Nat)(r:Nat):Option (G×Nat):=
 if g.kind.length<eQ then wO a fun a=>wO b fun b=>wN r fun r=>wN g.kind.length fun n=>wL (g.kind++[kd]) fun k'=>wL (g.a++[a]) fun a'=>wL (g.b++[b]) fun b'=>wL (g.row++[r]) fun r'=>wL (g.link++[none]) fun l'=>
   some (⟨k',a',b',r',l',g.ops,g.next,g.tv,g.rv⟩,n) else none
def G.putRow(g:G)(l:List Nm)(nx:Option Nat):Option (G×Nat):=
 if g.ops.length<eQ then wL l fun l=>wO nx fun nx=>wN g.ops.length fun n=>wL (g.ops++[l]) fun o'=>wL (g.next++[nx]) fun n'=>some (⟨g.kind,g.a,g.b,g.row,g.link,o',n',g.tv,g.rv⟩,n) else none
def G.var(g:G):Option (G×Nat):=g.put 0 none none 0
def G.eR(g:G):Option (G×Nat):=g.putRow [] none
def find:Nat->G->Nat->Option Nat
 |0,_,_=>none
 |k+1,g,n=>match g.link[n]? with
   |some (some m)=>find k g m
   |some none=>some n
   |none=>none
def jg:List Nm->Nm->List Nm
 |[],s=>[s]
 |x::l,s=>if Oa x s then x::jg l s else s::x::l
def c_(l:List Nm):List Nm->List Nm
 |[]=>l
 |s::r=>c_ (jg l s) r
def whole:Nat->G->Nat->List Nm->Option (List Nm×Nat)
 |0,_,_,_=>none
 |k+1,g,r,acc=>match g.ops[r]? with
   |some l=>if acc.length+l.length<eQ then(match g.next[r]? with
     |some none=>some (c_ acc l,r)
     |some (some 0)=>some (c_ acc l,0)
     |some (some (q+1))=>whole k g (q+1) (c_ acc l)
     |none=>none) else none
   |none=>none
def cG(s:Nm):List (Nm×Bool)->Option Nat
 |[]=>none
 |(x,u)::r=>if !u&&dh x s then some 0 else(cG s r).map (·+1)
def nu:List Nm->List (Nm×Bool)->List Nm
 |[],_=>[]
 |s::a,b=>match cG s b with
   |none=>s::nu a b
   |some j=>nu a (b.set j (s,true))
def less(a b:List Nm):List Nm:=nu a (b.map fun x=>(x,false))
def G.eh(g:G)(v:Nat)(l:List Nm)(nx:Option Nat):G:=wN v fun v=>wL l fun l=>wO nx fun nx=>wL (g.ops.set v l) fun o'=>wL (g.next.set v nx) fun n'=>⟨g.kind,g.a,g.b,g.row,g.link,o',n',g.tv,g.rv⟩
def G.FA(g:G)(m n:Nat):G:=wN m fun m=>wN n fun n=>wL (g.link.set m (some n)) fun l'=>⟨g.kind,g.a,g.b,g.row,l',g.ops,g.next,g.tv,g.rv⟩
def fC(k:Nat)(g:G)(r s:Nat):Option (G×Bool):=
 match whole k g r [],whole k g s [] with
 |some (a,v),some (b,w)=>
   let d:=less a b
   let e:=less b a
   if v=w then some (g,d.isEmpty&&e.isEmpty)
   else if(v==0&&!e.isEmpty)||(w==0&&!d.isEmpty) then some (g,false)
   else if v=0 then some (g.eh w d (some 0),true)
   else if w=0 then some (g.eh v e (some 0),true)
   else match g.eR with
     |some (g,x)=>some ((g.eh v e (some x)).eh w d (some x),true)
     |none=>none
 |_,_=>none
def same:Nat->G->Nat->Nat->Option (G×Bool)
 |0,_,_,_=>none
 |k+1,g,m,n=>match find k g m,find k g n with
   |some m,some n=>
     if m=n then some (g,true) else
     match g.kind[m]?,g.kind[n]? with
     |some km,some kn=>
       if km=0 then some (g.FA m n,true)
       else if kn=0 then some (g.FA n m,true)
       else if km≠kn then some (g,false)
       else
         let g:=g.FA m n
         let arg (g:G) (x y:Option (Option Nat)):Option (G×Bool):=match x,y with
           |some none,_=>some (g,true)
           |some (some p),some (some q)=>same k g p q
           |_,_=>none
         match arg g g.a[m]? g.a[n]? with
         |some (g,false)=>some (g,false)
         |some (g,true)=>match arg g g.b[m]? g.b[n]? with
           |some (g,false)=>some (g,false)
           |some (g,true)=>if km=6 then(match g.row[m]?,g.row[n]? with
             |some r,some s=>fC k g r s
             |_,_=>none) else some (g,true)
           |none=>none
         |none=>none
     |_,_=>none
   |_,_=>none
abbrev Seen:=List (Nat×Nat)
def Seen.at(s:Seen)(n:Nat):Nat:=match s with
 |[]=>0
 |(m,v)::r=>if m=n then v else Seen.at r n
def Seen.put(s:Seen)(n v:Nat):Seen:=match s with
 |[]=>[(n,v)]
 |(m,u)::r=>if m=n then(n,v)::r else(m,u)::Seen.put r n v
def round:Nat->G->Nat->Seen->Option (Bool×Seen)
 |0,_,_,_=>none
 |k+1,g,n,s=>match find k g n with
   |some n=>
     if 0<s.at n then some (s.at n==1,s) else
     let s:=s.put n 1
     let arg (x:Option (Option Nat)) (s:Seen):Option (Bool×Seen):=match x with
       |some none=>some (false,s)
       |some (some m)=>round k g m s
       |none=>none
     match arg g.a[n]? s with
     |some (true,s)=>some (true,s)
     |some (false,s)=>match arg g.b[n]? s with
       |some (true,s)=>some (true,s)
       |some (false,s)=>some (false,s.put n 2)
       |none=>none
     |none=>none
   |none=>none
def parts:Nat->G->Nat->Seen->Option (Nat×Seen)
 |0,_,_,_=>none
 |k+1,g,n,s=>match find k g n with
   |some n=>
     if 0<s.at n then some (s.at n,s) else
     let arg (x:Option (Option Nat)) (c:Nat) (s:Seen):Option (Nat×Seen):=match x with
       |some none=>some (c,s)
       |some (some m)=>match parts k g m s with
         |some (j,s)=>some (c+j,s)
         |none=>none
       |none=>none
     match arg g.a[n]? 1 s with
     |some (c,s)=>match arg g.b[n]? c s with
       |some (c,s)=>
         let own:Option Nat:=match g.kind[n]? with
           |some 6=>(match g.row[n]? with
             |some r=>(whole k g r []).map fun p=>p.1.length
             |none=>none)
           |some _=>some 0
           |none=>none
         match own with
         |some j=>if c+j<=2147483647 then some (min (c+j) 1000000,s.put n (min (c+j) 1000000)) else none
         |none=>none
       |none=>none
     |none=>none
   |none=>none
inductive Ty
 |mk (kind n row:Nat) (ops:List Nm) (args:List Ty)
def Ty.kind:Ty->Nat|.mk k _ _ _ _=>k
structure gJ where
 t:List (Int×Nat)
 r:List (Int×Nat)
def du(n:Int):List (Int×Nat)->Option Nat
 |[]=>none
 |(m,v)::r=>if m=n then some v else du n r
def fJ(m:List (Int×Nat))(n:Nat):List (Int×Nat)×Nat:=match du n m with
 |some k=>(m,k)
 |none=>(m++[((n:Int),m.length+1)],m.length+1)
def told:Nat->G->Nat->gJ->Option (Ty×gJ)
 |0,_,_,_=>none
 |k+1,g,n,l=>match find k g n with
   |some n=>match g.kind[n]? with
     |some 0=>if l.t.length<eQ then(let (t,c):=fJ l.t n;some (.mk 0 c 0 [] [],{ l with t:=t })) else none
     |some kd=>
       let arg (x:Option (Option Nat)) (l:gJ):Option (List Ty×gJ):=match x with
         |some none=>some ([],l)
         |some (some m)=>match told k g m l with
           |some (t,l)=>some ([t],l)
           |none=>none
         |none=>none
       match arg g.a[n]? l with
       |some (ta,l)=>
         let rw:Option (List Nm×Nat×gJ):=if kd=6 then(match g.row[n]? with
           |some r=>(match whole k g r [] with
             |some (ops,0)=>some (ops,0,l)
             |some (ops,v+1)=>if l.r.length<eQ then(let (t,c):=fJ l.r (v+1);some (ops,c,{ l with r:=t })) else none
             |none=>none)
           |none=>none) else some ([],0,l)
         match rw with
         |some (ops,c,l)=>match arg g.b[n]? l with
           |some (tb,l)=>some (.mk kd 0 c ops (ta++tb),l)
           |none=>none
         |none=>none
       |none=>none
     |none=>none
   |none=>none
def pI:Nat->G->Ty->Option (G×Nat)
 |0,_,_=>none
 |k+1,g,.mk kd n row ops args=>
   if kd=0 then(match du n g.tv with
     |some m=>some (g,m)
     |none=>match g.var with
       |some (g,m)=>some ({ g with tv:=g.tv++[((n:Int),m)] },m)
       |none=>none)
   else
     let arg (g:G) (x:Option Ty):Option (G×Option Nat):=match x with
       |none=>some (g,none)
       |some t=>match pI k g t with
         |some (g,m)=>some (g,some m)
         |none=>none
     match arg g args[0]? with
     |some (g,a)=>match arg g args[1]? with
       |some (g,b)=>
         if kd=6 then
           let nx:Option (G×Nat):=if 0<row then(match du row g.rv with
             |some m=>some (g,m)
             |none=>match g.eR with
               |some (g,m)=>some ({ g with rv:=g.rv++[((row:Int),m)] },m)
               |none=>none) else some (g,0)
           match nx with
           |some (g,m)=>match g.putRow ops (some m) with
             |some (g,r)=>g.put kd a b r
             |none=>none
           |none=>none
         else g.put kd a b 0
       |none=>none
     |none=>none
end Go.aR
