/- A text by its bytes. -/
import Derived.WalkKit
import Derived.OrdersHeld
import Derived.Deep.Quiet
import Derived.Deep.LoopGhost
import Derived.Deep.MidRow
import Derived.Laws.IdiomStrings
import Derived.Laws.AppendOwn
import Derived.KernelRfl
import Derived.Lib.AppendStr
import Derived.LoopN
import Derived.Lib.SlBytesConst
import Derived.Lib.FrozenHead
import Derived.ChangeShapes
import Derived.Maps.AppendAt
import GoSem.Op.String
set_option linter.unusedVariables false
set_option linter.unusedSimpArgs false
namespace Go
abbrev bY(l:List UInt8):ByteArray:=⟨l.toArray⟩
end Go
namespace Go.Gx
open Go.RowKit
theorem TO{a b:Nat}(h:a<b):Nat.blt a b=true:=Nat.ble_eq_true_of_le h
theorem TP{a b:Nat}(h:¬a<b):Nat.blt a b=false:=by
 cases e:Nat.blt a b
 · rfl
 · exact absurd (Nat.le_of_ble_eq_true e) h
def get(b:Nat→Value):List (Nat×Value)→Nat→Value
 |[],i=>b i
 |(j,v)::r,i=>match Nat.beq j i with
   |true=>v
   |false=>get b r i
def ev(b:Nat→Value)(n:Nat)(l:List (Nat×Value)):Operand→Value
 |.tmp t=>match Nat.blt t n with
   |true=>get b l t
   |false=>undef
 |.const v=>v
 |.global g=>.pointer (some ⟨g,0,none⟩)
 |.func f=>.func (.func f) #[] #[]
def Fr(b:Nat→Value)(n:Nat)(l:List (Nat×Value))(d:List Deferred):Act:=
 { tmps:=Array.ofFn (n:=n) (fun i=>get b l i.val),defers:=d }
theorem gD(b:Nat→Value)(n:Nat)(l:List (Nat×Value))(d:List Deferred):(Fr b n l d).eval=ev b n l:=by
 funext x;cases x with
 |tmp t=>
   by_cases h:t<n
   · have:=TO h;simp [Act.eval,Fr,ev,this,Array.getD,h]
   · have:=TP h;simp [Act.eval,Fr,ev,this,Array.getD,h]
 |const v=>rfl
 |global g=>rfl
 |func f=>rfl
theorem Vs(b : Nat → Value)(n : Nat)(l : List (Nat × Value))(d : List Deferred)(i : Nat)(v : Value) :
   (Fr b n l d).put (some i) v=Fr b n ((i,v)::l) d:=by
 simp only[Act.put,Fr];congr 1;apply Array.ext
 · simp
 · intro j h1 h2;simp only[Array.size_setIfInBounds,Array.size_ofFn] at h1;simp only[Array.getElem_ofFn,get];by_cases P6:i=j
   · subst P6;rw [Array.getElem_setIfInBounds (by simpa using h1)];simp
   · have : Nat.beq i j = false := by
       rw[Bool.eq_false_iff];intro h';exact P6 (Nat.eq_of_beq_eq_true h')
     rw[Array.getElem_setIfInBounds (by simpa using h1),if_neg P6];simp [this]
def yl(ops:Array Oper)(b:Nat→Value)(n:Nat)(l:List (Nat×Value))(j:Nat):Option Bool:=
 match ops[j]? with
 |none=>none
 |some o=>match o.dst with
   |none=>none
   |some d=>match Nat.blt d n with
     |true=>match get b l d with
       |.bool t=>some t
       |_=>none
     |false=>none
theorem ep(ops:Array Oper)(b:Nat→Value)(n:Nat)(l:List (Nat×Value))(d:List Deferred):yielded ops (Fr b n l d).tmps=yl ops b n l:=by
 funext j;unfold yielded yl;cases ops[j]? with
 |none=>rfl
 |some o=>
   simp only[Option.bind_some];cases o.dst with
   |none=>rfl
   |some k=>
     simp only[Option.bind_some];by_cases h:k<n
     · have:=TO h;have e:(Fr b n l d).tmps[k]?=some (get b l k):=by simp[Fr,h]
       rw[e,this];cases get b l k<;>rfl
     · have:=TP h;have e:(Fr b n l d).tmps[k]?=none:=Array.getElem?_eq_none (by simpa [Fr] using Nat.le_of_not_lt h);rw [e,this]
theorem forget{b : Nat → Value}{n : Nat}{l : List (Nat × Value)}{d : List Deferred}(l' : List (Nat × Value))
   (h:l'.map (fun p=>get b l p.1)=l'.map (fun p=>p.2)):Fr b n l d=Fr (get b l) n l' d:=by
 unfold Fr;congr 1;apply Array.ext
 · simp
 · intro j h1 h2;simp only[Array.getElem_ofFn];clear h1 h2;induction l' with
   |nil=>rfl
   |cons p r ih=>
     obtain⟨k,v⟩:=p;simp only[List.map_cons,List.cons.injEq] at h;simp only[get];cases hk:Nat.beq k j with
     |true=>
       have:=Nat.eq_of_beq_eq_true hk;subst this;simpa using h.1
     |false=>simpa using ih h.2
def gE(o:Oper)(v:Value)(l:List (Nat×Value)):List (Nat×Value):=
 match o.dst with
 |some d=>(d,v)::l
 |none=>l
def tC(P:Program)(ops:Array Oper)(b:Nat→Value)(n:Nat):List Nat→List (Nat×Value)→World→Option (List (Nat×Value)×World)
 |[],l,w=>some (l,w)
 |i::r,l,w=>match ops[i]? with
   |none=>tC P ops b n r l w
   |some o=>match Region.wanted o (yl ops b n l) with
     |true=>match(execOp (ev b n l) o).run P w with
       |.ok (.value v) w'=>tC P ops b n r (gE o v l) w'
       |.ok .skip w'=>tC P ops b n r (gE o undef l) w'
       |_=>none
     |false=>tC P ops b n r (gE o undef l) w
section
variable {P:Program} {ops:Array Oper} {Q:Exit→Act→World→Prop} {b:Nat→Value} {n:Nat} {l:List (Nat×Value)} {d:List Deferred} {w:World}
theorem fN(o:Oper)(v:Value):(Fr b n l d).put o.dst v=Fr b n (gE o v l) d:=by
 unfold gE;cases o.dst with
 |none=>rfl
 |some k=>exact Vs b n l d k v
theorem QF{is js : List Nat}{l' : List (Nat × Value)}{w' : World}(h : tC P ops b n is l w = some (l', w'))(k : wpOps P ops Q js (Fr b n l' d) w') :
   wpOps P ops Q (is++js) (Fr b n l d) w:=by
 induction is generalizing l w with
 |nil=>
   simp only[tC,Option.some.injEq,Prod.mk.injEq] at h;obtain ⟨rfl,rfl⟩:=h;exact k
 |cons i r ih=>
   simp only[tC] at h;simp only[List.cons_append,wpOps];cases ho:ops[i]? with
   |none=>simp only[ho] at h;exact ih h
   |some o=>
     simp only[ho] at h;simp only[ep];cases hw:Region.wanted o (yl ops b n l) with
     |false=>
       simp only[hw] at h;simp only[Bool.false_eq_true,if_false,fN];exact ih h
     |true=>
       simp only[hw] at h;simp only[if_true];refine .inl ?_;unfold Oper.wp;rw [gD];cases hr:(execOp (ev b n l) o).run P w with
       |halt x w1=>simp[hr] at h
       |ok x w1=>
         rw[hr] at h;cases x<;>simp only[reduceCtorEq] at h;case value v=>simp only[Oper.upon,fN];exact ih h
         case skip=>simp only[Oper.upon,fN];exact ih h
theorem pure{all : List Nat}(is js : List Nat)(new : List (Nat × Value))(hs : is ++ js = all)(h : tC P ops b n is l w = some (new ++ l, w))(k : wpOps P ops Q js (Fr b n (new ++ l) d) w) :
   wpOps P ops Q all (Fr b n l d) w:=by subst hs;exact QF h k
theorem cons{i:Nat}{js:List Nat}{a:Act}(h:wpOp P ops Q i (wpOps P ops Q js) a w):wpOps P ops Q (i::js) a w:=by rw[wpOps_cons];exact h
variable {K:Act→World→Prop}
theorem AK{i : Nat}{o : Oper}{v : Value}{w' : World}(ho : ops[i]? = some o)(hg : Region.wanted o (yl ops b n l) = true)
   (hr:(execOp (ev b n l) o).run P w=.ok (.value v) w') (k:K (Fr b n (gE o v l) d) w'):wpOp P ops Q i K (Fr b n l d) w:=by
 simp only[wpOp,ho];rw [ep,if_pos hg];refine .inl ?_;unfold Oper.wp;rw [gD,hr];simp only[Oper.upon,fN];exact k
theorem AL{i : Nat}{o : Oper}{w' : World}(ho : ops[i]? = some o)(hg : Region.wanted o (yl ops b n l) = true)
   (hr:(execOp (ev b n l) o).run P w=.ok .skip w') (k:K (Fr b n (gE o undef l) d) w'):wpOp P ops Q i K (Fr b n l d) w:=by
 simp only[wpOp,ho];rw [ep,if_pos hg];refine .inl ?_;unfold Oper.wp;rw [gD,hr];simp only[Oper.upon,fN];exact k
theorem Vt{i:Nat}{o:Oper}(ho:ops[i]?=some o)(hg:Region.wanted o (yl ops b n l)=false)(k:K (Fr b n (gE o undef l) d) w):wpOp P ops Q i K (Fr b n l d) w:=by
 simp only[wpOp,ho];rw [ep,if_neg (by simp[hg]),fN];exact k
theorem QG{i f : Nat}{args : Array Value}{o : Oper}(ho : ops[i]? = some o)(hg : Region.wanted o (yl ops b n l) = true)
   (hr:(execOp (ev b n l) o).run P w=.ok (.enter f args) w)
   (k:∀R:Ending→World→Prop,(∀v w',K (Fr b n (gE o v l) d) w'→R (.returned v) w')→Calls P f args w R):wpOp P ops Q i K (Fr b n l d) w:=by
 simp only[wpOp,ho];rw [ep,if_pos hg];refine .inl ?_;unfold Oper.wp;rw [gD,hr];simp only[Oper.upon,fN];exact k _ fun v w' h=>h
theorem GX{a:Act}(h:Q .normal a w):wpOps P ops Q [] a w:=h
theorem split{all:List Nat}{a:Act}(T:Bool)(h1:T=true→wpOps P ops Q all a w)(h2:T=false→wpOps P ops Q all a w):wpOps P ops Q all a w:=by
 cases T
 · exact h2 rfl
 · exact h1 rfl
theorem EU{a:Act}{i:Nat}(h:Q .normal a w):Exit.inBlock i Q (.exit i) a w:=by simpa [Exit.inBlock] using h
theorem CO{a:Act}{i j:Nat}(mU:Nat.beq j i=false)(h:Q (.exit j) a w):Exit.inBlock i Q (.exit j) a w:=by
 have:¬j=i:=fun e=>by subst e;simp at mU
 simpa [Exit.inBlock,this] using h
theorem cond{c : Operand}{x y : Code}(T : Bool)(hc : ev b n l c = .bool T)(h1 : T = true → x.wp P Q (Fr b n l d) w)(h2 : T = false → y.wp P Q (Fr b n l d) w) :
   (Code.cond c x y).wp P Q (Fr b n l d) w:=by
 refine wp_cond_split (t:=T) ?_ h1 h2;rw [gD];exact hc
theorem cut{x y : Code}{n' : Nat}{d' : List Deferred}(I : List (Nat × Value) → World → Prop){a : Act}
   (h1:∀K:Act→World→Prop,(∀b' l' w',I l' w'→K (Fr b' n' l' d') w')→x.wp P (Exit.then K Q) a w)
   (h2:∀b' l' w',I l' w'→y.wp P Q (Fr b' n' l' d') w'):(Code.seq x y).wp P Q a w:=
 wp_seq (h1 _ h2)
theorem loop{c : Code}{n' : Nat}{d' : List Deferred}(I : Nat → List (Nat × Value) → World → Prop)(CQ : Nat)(Le : Nat → Value)(EV : List (Nat × Value)){a : Act}
   (ha:a=Fr Le n' EV d') (Lf:I CQ EV w)
   (round:∀(b':Nat→Value)(m:Nat)(l':List (Nat×Value))(w':World),I m l' w'→∀K:Act→World→Prop,
     (∀(QH:Nat→Value)(m':Nat)(KD:List (Nat×Value))(ny:World),m'<m→I m' KD ny→K (Fr QH n' KD d') ny)→c.wp P (Exit.then K Q) (Fr b' n' l' d') w'):
   (Code.loop c).wp P Q a w:=by
 refine wp_loop_ghost (fun m a w=>∃b' l',a=Fr b' n' l' d'∧I m l' w) CQ ⟨Le,EV,ha,Lf⟩ ?_;rintro m a w ⟨b',l',rfl,hI⟩;exact round b' m l' w hI _ fun QH m' KD ny dO YH=>⟨m',dO,QH,KD,rfl,YH⟩
end
def p_:List Value→Nat→List (Nat×Value)
 |[],_=>[]
 |v::r,i=>(i,v)::p_ r (i+1)
theorem vu(b:Nat→Value):∀(vs:List Value)(i j:Nat),get b (p_ vs i) j=if h:i≤j∧j-i<vs.length then vs[j-i]'h.2 else b j
 |[],i,j=>by simp[p_,get]
 |v::r,i,j=>by
   simp only[p_,get];by_cases P6:i=j
   · subst P6;simp
   · have : Nat.beq i j = false := by
       rw[Bool.eq_false_iff];intro h';exact P6 (Nat.eq_of_beq_eq_true h')
     rw[this,vu b r (i+1) j];by_cases dO:i+1≤j∧j-(i+1)<r.length
     · rw[dif_pos dO,dif_pos (by simp;omega)];have:j-i=(j-(i+1))+1:=by omega
       simp[this]
     · rw[dif_neg dO,dif_neg (by simp;omega)]
theorem enter{P : Program}{f : FuncId}{fn : Func}{c : Code}{vs : List Value}{w : World}{K : Ending → World → Prop}(n : Nat)
   (hf:P.funcs[f]?=some fn) (hb:fn.body=some c) (hn:fn.ntmps=n) (hle:vs.length≤n)
   (h:c.wp P (bodyPost P fn K) (Fr (fun _=>undef) n (p_ vs 0) []) w):Calls P f vs.toArray w K:=by
 refine calls_of_wp hf hb ?_;have e:({ tmps:=vs.toArray++Array.replicate (fn.ntmps-vs.toArray.size) undef,defers:=[] }:Act)=Fr (fun _=>undef) n (p_ vs 0) []:=by
   unfold Fr;congr 1;apply Array.ext
   · simp[hn];omega
   · intro j h1 h2;simp only[Array.getElem_ofFn,vu,Nat.zero_le,true_and,Nat.sub_zero];by_cases hj:j<vs.length
     · rw[dif_pos hj,Array.getElem_append_left (by simpa using hj)];simp
     · rw[dif_neg hj,Array.getElem_append_right (by simpa using hj)];simp
 rw[e];exact h
theorem zD(b:Nat→Value)(n:Nat)(l:List (Nat×Value))(d:List Deferred)(t:Nat):(Fr b n l d).tmps.getD t undef=ev b n l (.tmp t):=by
 have:=congrFun (gD b n l d) (.tmp t);simpa [Act.eval] using this
theorem ret{P : Program}{fn : Func}{K : Ending → World → Prop}{b : Nat → Value}{n : Nat}{l : List (Nat × Value)}{w : World}{v : Value}
   (hr:(results fn (Fr b n l []).tmps).run P w=.ok v w) (h:K (.returned v) w):bodyPost P fn K .ret (Fr b n l []) w:=⟨rfl,v,hr,h⟩
theorem ZK{P : Program}{fn : Func}{K : Ending → World → Prop}{b : Nat → Value}{n : Nat}{l : List (Nat × Value)}{w : World}{v : Value}
   (hr:(results fn (Fr b n l []).tmps).run P w=.ok v w) (h:K (.returned v) w):bodyPost P fn K .normal (Fr b n l []) w:=⟨rfl,v,hr,h⟩
def Has(w:World)(b:Nat)(o:Obj):Prop:=w.heap[b]?=some o
theorem Has.lt{w:World}{b:Nat}{o:Obj}(h:Has w b o):b<w.heap.size:=(Array.getElem?_eq_some_iff.1 h).1
abbrev G(w w':World)(r:Option Nat):Prop:=w.grownBy w' r
abbrev Ext(w w':World):Prop:=w.grownBy w' none
theorem Ext.refl(w:World):Ext w w:=⟨rfl,rfl,rfl,Nat.le_refl _,fun _ _ _=>rfl⟩
theorem Ext.trans{w w' ny:World}(h:Ext w w')(k:Ext w' ny):Ext w ny:=
 ⟨k.os.trans h.os,k.tape.trans h.tape,k.output.trans h.output,Nat.le_trans h.size k.size,
   fun i hi _=>(k.block i (Nat.lt_of_lt_of_le hi h.size) (by simp)).trans (h.block i hi (by simp))⟩
theorem Ext.AM{w w' ny:World}{r:Option Nat}(h:Ext w w')(k:G w' ny r)(hr:∀j,r=some j→w.heap.size≤j):Ext w ny:=
 ⟨k.os.trans h.os,k.tape.trans h.tape,k.output.trans h.output,Nat.le_trans h.size k.size,
   fun i hi _=>(k.block i (Nat.lt_of_lt_of_le hi h.size) (fun e=>by have:=hr i e.symm;omega)).trans (h.block i hi (by simp))⟩
theorem Ext.below{w w':World}(h:Ext w w'):Below w.heap.size w w':=⟨h.os,h.tape,h.output,h.size,fun k hk=>h.block k hk (by simp)⟩
theorem Ext.Lg{w w':World}(h:Below w.heap.size w w'):Ext w w':=⟨h.os,h.tape,h.output,h.size,fun k hk _=>h.block k hk⟩
theorem Ext.drawn(w:World)(k:Nat):Ext w { w with drawn:=k }:=⟨rfl,rfl,rfl,Nat.le_refl _,fun _ _ _=>rfl⟩
theorem Has.ext{w w':World}{b:Nat}{o:Obj}(h:Has w b o)(k:Ext w w'):Has w' b o:=(k.block b h.lt (by simp)).trans h
theorem Has.AM{w w':World}{b:Nat}{o:Obj}{r:Option Nat}(h:Has w b o)(k:G w w' r)(mU:some b≠r):Has w' b o:=(k.block b h.lt mU).trans h
theorem AN(w:World)(o:Obj):Ext w (w.alloc o):=World.grownBy_alloc w o none
theorem zE(w:World)(o:Obj):Has (w.alloc o) w.heap.size o:=heap_alloc_new w o
theorem Lh(w:World)(g:Nat)(cs:Array Value):G w (w.setRow g cs) (some g):=
 ⟨rfl,rfl,rfl,by simp,fun k _ mU=>setRow_other w g k cs (by simpa using mU)⟩
theorem EW{w:World}{g:Nat}{KE:Array Value}{e:TypeId}(cs:Array Value)(h:Has w g (.cells KE e)):Has (w.setRow g cs) g (.cells cs e):=
 setRow_heap w g KE cs e (0,0) h
theorem vw(w:World)(g:Nat)(o:Obj):G w { w with heap:=w.heap.setIfInBounds g o } (some g):=
 ⟨rfl,rfl,rfl,by simp,fun k _ mU=>by
   have:g≠k:=fun e=>mU (by rw[e])
   simp[Array.getElem?_setIfInBounds_ne this]⟩
theorem qd{w:World}{g:Nat}{o:Obj}(o':Obj)(h:Has w g o):Has { w with heap:=w.heap.setIfInBounds g o' } g o':=by
 have:=h.lt;simp [Has,this]
section
variable {P:Program} {ops:Array Oper} {Q:Exit→Act→World→Prop} {b:Nat→Value} {n:Nat} {l:List (Nat×Value)} {d:List Deferred} {w:World}
variable {K:Act→World→Prop}
def po(P:Program)(t:TypeId)(cs:Array Value)(off:Nat):Option Value:=
 match P.underlying t with
 |some (.struct _)|some (.array _ _)=>match P.info? t with
   |some i=>match Nat.ble (off+i.size) cs.size with
     |true=>some (.agg ((cs.toList.drop off).take i.size).toArray)
     |false=>none
   |none=>none
 |some _=>cs[off]?
 |none=>none
theorem jI{t : TypeId}{bk off : Nat}{cs : Array Value}{e : TypeId}{fr : Nat × Nat}{v : Value}(hb : Has w bk (.cells cs e fr))(hv : po P t cs off = some v) :
   (loadVar t ⟨bk,off,none⟩).run P w=.ok v w:=by
 have hc:∀j,w.cell? ⟨bk,j,none⟩=cs[j]?:=fun j=>cell_of_row w bk j cs e fr hb;unfold po at hv;cases hu:P.underlying t with
 |none=>simp[hu] at hv
 |some AO=>
   rw[hu] at hv
   have agg : ∀(hd : (match AO with | .struct _ | .array _ _ => true | _ => false) = true), (match P.info? t with
       |some i=>match Nat.ble (off+i.size) cs.size with
         |true=>some (Value.agg ((cs.toList.drop off).take i.size).toArray)
         |false=>none
       |none=>none)=some v→(loadVar t ⟨bk,off,none⟩).run P w=.ok v w:=by
     intro hd hv
     cases hi:P.info? t with
     |none=>simp[hi] at hv
     |some i=>
       rw[hi] at hv
       cases hle:Nat.ble (off+i.size) cs.size with
       |false=>simp[hle] at hv
       |true=>
         have anG:=Nat.le_of_ble_eq_true hle
         simp only[hle,Option.some.injEq] at hv
         have hlen:((cs.toList.drop off).take i.size).length=i.size:=by simp;omega
         subst hv
         refine run_loadVar_mid (P:=P) w bk off t ((cs.toList.drop off).take i.size) AO (fun j u hu=>?_) hu (by cases AO<;>simp_all [TypeDesc.isRow]) (by simp[hi,hlen])
         have hj:j<i.size:=by
           have:=(List.getElem?_eq_some_iff.1 hu).1;omega
         rw[hc]
         rw[List.getElem?_take,if_pos hj,List.getElem?_drop] at hu
         simpa using hu
   cases AO with
   |struct fs=>exact agg rfl hv
   |array k e=>exact agg rfl hv
   |_=>
     simp only at hv;have h1:w.cell? ⟨bk,off,none⟩=some v:=by rw[hc];exact hv
     simp[loadVar,isAgg,underlying,hu,Sem.run_bind,go_sem,h1]
theorem GY{i : Nat}{o : Oper}{t : TypeId}{x : Operand}(ho : ops[i]? = some o)(hg : Region.wanted o (yl ops b n l) = true)(hop : o.op = .load t x)
   {bk:Nat} (off:Nat) (v:Value) (hx:ev b n l x=.pointer (some ⟨bk,off,none⟩)) {cs:Array Value} {e:TypeId} {fr:Nat×Nat} (hb:Has w bk (.cells cs e fr)) (hv:po P t cs off=some v)
   (k:K (Fr b n (gE o v l) d) w):wpOp P ops Q i K (Fr b n l d) w:=by
 refine AK ho hg ?_ k;unfold execOp;simp [hop,hx,Instr.loadAt,Instr.sureAddr,Sem.run_bind,jI hb hv]
theorem run_load{o : Oper}{t : TypeId}{x : Operand}(hop : o.op = .load t x)
   {bk:Nat} (off:Nat) (v:Value) (hx:ev b n l x=.pointer (some ⟨bk,off,none⟩)) {cs:Array Value} {e:TypeId} {fr:Nat×Nat} (hb:Has w bk (.cells cs e fr)) (hv:po P t cs off=some v):
   (execOp (ev b n l) o).run P w=.ok (.value v) w:=by
 unfold execOp;simp [hop,hx,Instr.loadAt,Instr.sureAddr,Sem.run_bind,jI hb hv]
theorem CR{i : Nat}{o : Oper}{t : TypeId}{x y : Operand}(ho : ops[i]? = some o)(hg : Region.wanted o (yl ops b n l) = true)(hop : o.op = .store t x y)
   {bk:Nat} (off:Nat) (v:Value) (hx:ev b n l x=.pointer (some ⟨bk,off,none⟩)) (hy:ev b n l y=v) {cs:Array Value} {e:TypeId} (hb:Has w bk (.cells cs e))
   (hs:(P.info? t).map (·.size)=some v.cells.size) (h1:v.cells.all (·.oneCell')=true) (Li:Nat.ble (off+v.cells.size) cs.size=true)
   (YI:Array Value) (pq:(cs.toList.take off++v.cells.toList++cs.toList.drop (off+v.cells.size)).toArray=YI)
   (k:∀w',G w w' (some bk)→Has w' bk (.cells YI e)→K (Fr b n (gE o undef l) d) w'):wpOp P ops Q i K (Fr b n l d) w:=by
 have cw:=run_storeCells_at P bk off e v.cells.toList 0 cs w hb (by simpa using Nat.le_of_ble_eq_true Li) (fun u hu=>(Array.all_eq_true_iff_forall_mem.1 h1) u (by simpa using hu));simp only[Nat.add_zero,Array.length_toList,pq] at cw;refine AL ho hg (w':=w.setRow bk YI) ?_ (k _ (Lh w bk YI) (EW YI hb));cases hi:P.info? t with
 |none=>simp[hi] at hs
 |some info=>
   simp only[hi,Option.map_some,Option.some.injEq] at hs;generalize hcv:v.cells=cv at *;unfold execOp;simp [hop,hx,hy,Instr.storeAt,Instr.sureAddr,storeVar,sizeOf,typeInfo,Sem.run_bind,hi,hs,cw,hcv]
def ae(s:ByteArray)(m:Nat):UInt8:=s.data[m]?.getD 0
theorem IW{s:ByteArray}{m:Nat}(h:m<s.size):s[m]?=some (ae s m):=by
 have h':m<s.data.size:=h;have:s[m]?=some (s[m]'h):=by simp[getElem?_pos,h]
 rw[this];unfold ae;rw [Array.getElem?_eq_getElem h'];rfl
theorem pt{t : TypeId}{s : ByteArray}(hu : P.underlying t = some .string)(lo hi : Option Value)(a c : Nat)
   (hlo:(lo=none∧a=0)∨∃kd,lo=some (.int kd (a:Int))) (hhi:(hi=none∧c=s.size)∨∃kd,hi=some (.int kd (c:Int))) (QI:a≤c) (hc:c≤s.size):
   (Instr.slice t (.string s) lo hi none).run P w=.ok (.string (s.extract a c)) w:=by
 rcases hlo with⟨rfl,rfl⟩|⟨kl,rfl⟩<;>rcases hhi with⟨rfl,rfl⟩|⟨kh,rfl⟩<;>
   simp[Instr.slice,Instr.sliceBounds,Instr.sliceBound,asIntOf,underlying,hu,Sem.run_bind,go_sem,QI,hc]
theorem draw{id : Nat}{S : World → Prop}{Q' : Exit → Act → World → Prop}{a : Act}(hm : P.follows .mixedOrders = true)
   (h:∀w',Ext w w'→wpAnyH P .any ops Q' S ops.size (Array.replicate ops.size false) a w'):(Code.region id ops true).wp P Q' a w:=
 wp_region_held hm (h _ (Ext.drawn w _))
end
theorem bj{x:Int}{n:Nat}(h:x=(n:Int))(hb:n≤9223372036854775807):IntKind.i64.wrap x=(n:Int):=by
 rw[IntWalk.i64_in _ (by omega),h]
theorem af{K:Ending→World→Prop}{v v':Value}{w:World}(e:v'=v)(h:K (.returned v') w):K (.returned v) w:=e▸h
section
variable {P:Program} {Q:Exit→Act→World→Prop} {a:Act} {w:World}
variable {ops:Array Oper} {b:Nat→Value} {n:Nat} {l:List (Nat×Value)} {d:List Deferred} {K:Act→World→Prop}
end
section
variable {P:Program} {Q:Exit→Act→World→Prop} {w:World} {ops:Array Oper} {b:Nat→Value} {n:Nat} {l:List (Nat×Value)} {d:List Deferred} {K:Act→World→Prop}
def uf(L:List ByteArray):Array Value:=(L.map Value.string).toArray
def gs(L:List ByteArray)(m:Nat):ByteArray:=(L[m]?).getD ⟨#[]⟩
theorem nE{o : Oper}{t : TypeId}{x : Operand}{lo hi : Option Operand}(hop : o.op = .slice t x lo hi none)
   (hu:P.underlying t=some .string) (s:ByteArray) (a c:Nat) (hx:ev b n l x=.string s)
   (hlo:(lo=none∧a=0)∨∃kd,lo.map (ev b n l)=some (.int kd (a:Int))) (hhi:(hi=none∧c=s.size)∨∃kd,hi.map (ev b n l)=some (.int kd (c:Int))) (QI:a≤c) (hc:c≤s.size):
   (execOp (ev b n l) o).run P w=.ok (.value (.string (s.extract a c))) w:=by
 unfold execOp;have h:=pt (P:=P) (w:=w) hu (lo.map (ev b n l)) (hi.map (ev b n l)) a c (hlo.imp (fun h=>⟨by simp[h.1],h.2⟩) id) (hhi.imp (fun h=>⟨by simp[h.1],h.2⟩) id) QI hc;have h':(Instr.sliceAt t (.string s) (lo.map (ev b n l)) (hi.map (ev b n l)) none).run P w=.ok (.string (s.extract a c)) w:=by
   unfold Instr.sliceAt;simp only[Sem.run_bind,run_underlying hu,Result.andThen_ok,h]
 simp[hop,hx,Sem.run_bind,h']
end
section
variable {P:Program} {Q:Exit→Act→World→Prop} {w:World} {ops:Array Oper} {b:Nat→Value} {n:Nat} {l:List (Nat×Value)} {d:List Deferred}
end
section
variable {P:Program} {Q:Exit→Act→World→Prop} {w:World} {ops:Array Oper} {b:Nat→Value} {n:Nat} {l:List (Nat×Value)} {d:List Deferred} {K:Act→World→Prop}
end
section
variable {P:Program}
variable {w:World} {b:Nat→Value} {n:Nat} {l:List (Nat×Value)}
end
theorem sD{w : World}{base : Nat}{e : TypeId}{size : Nat}{v : Value}{n : Nat}{xs : List Value}(h : w.ownsRow base e size v n xs) : xs.length = n * size ∧ ∃ a cap, v = .slice a n cap ∧
   (0<n→∃g cs,a=some ⟨g,0,none⟩∧base≤g∧Has w g (.cells cs e)∧n*size≤cs.size∧cs.toList.take (n*size)=xs):=by
 obtain⟨h0,h⟩:=h;refine ⟨h0,?_⟩;rcases h with⟨rfl,rfl⟩|⟨g,cap,cur,rfl,hb,hg,hn,hm,hs,ht⟩
 · exact⟨none,0,rfl,fun h=>absurd h (by omega)⟩
 · exact⟨some ⟨g,0,none⟩,cap,rfl,fun _=>⟨g,cur,rfl,hb,hg,by rw[hs];exact Nat.mul_le_mul_right _ hn,ht⟩⟩
end Go.Gx
namespace Go.Lex
open Go.Gx (ae)
def ah(c:UInt8):Bool:=decide ((c.toNat:Int)≥48)&&decide ((c.toNat:Int)≤57)
def ax(c:UInt8):Bool:=((decide ((c.toNat:Int)≥97)&&decide ((c.toNat:Int)≤122))||(decide ((c.toNat:Int)≥65)&&decide ((c.toNat:Int)≤90)))||((c.toNat:Int)==95)
def cY(c:UInt8):Bool:=((((c.toNat:Int)==9)||((c.toNat:Int)==10))||((c.toNat:Int)==13))||((c.toNat:Int)==32)
abbrev sgB:ByteArray:=⟨#[40,41,91,93,123,125,44,59,58,61,45,43,42,60,124,126]⟩
def mG(c:UInt8):Bool:=(List.range 16).any (fun j=>(ae sgB j).toNat==c.toNat)
def cls(c:UInt8):Nat:=
 if cY c=true then 1 else if((c.toNat:Int)==35)=true then 2 else if ah c=true then 3 else if ax c=true then 4 else if mG c=true then 5 else 0
theorem oJ(c:UInt8):ah c=true↔48≤c.toNat∧c.toNat≤57:=by simp[ah];omega
theorem EX(c:UInt8):ax c=true↔(97≤c.toNat∧c.toNat≤122)∨(65≤c.toNat∧c.toNat≤90)∨c.toNat=95:=by simp[ax];omega
theorem oK(c:UInt8):cY c=true↔c.toNat=9∨c.toNat=10∨c.toNat=13∨c.toNat=32:=by simp[cY];omega
def stop(p:UInt8→Bool)(s:ByteArray)(k:Nat):Nat:=
 if _h:k<s.size∧p (ae s k)=true then stop p s (k+1) else k
termination_by s.size-k
theorem eO{p:UInt8→Bool}{s:ByteArray}{k:Nat}(h:k<s.size)(hp:p (ae s k)=true):stop p s k=stop p s (k+1):=by
 rw[stop,dif_pos ⟨h,hp⟩]
theorem er{p:UInt8→Bool}{s:ByteArray}{k:Nat}(h:¬(k<s.size∧p (ae s k)=true)):stop p s k=k:=by
 rw[stop,dif_neg h]
theorem cy(p:UInt8→Bool)(s:ByteArray)(k:Nat):k≤stop p s k:=by
 rw[stop];split
 · have:=cy p s (k+1);omega
 · exact Nat.le_refl _
termination_by s.size-k
theorem di(p:UInt8→Bool)(s:ByteArray)(k:Nat)(h:k≤s.size):stop p s k≤s.size:=by
 rw[stop];split
 · exact di p s (k+1) (by omega)
 · exact h
termination_by s.size-k
theorem GZ(p:UInt8→Bool)(s:ByteArray)(k j:Nat)(h1:k≤j)(h2:j<stop p s k):p (ae s j)=true:=by
 rw[stop] at h2;split at h2
 · rename_i h;by_cases e:k=j
   · subst e;exact h.2
   · exact GZ p s (k+1) j (by omega) h2
 · omega
termination_by s.size-k
def cE(c:UInt8):Bool:=(c.toNat:Int) != 10
def pass(s:ByteArray)(k:Nat):Nat:=
 if _h:k<s.size then
   if cY (ae s k)=true then pass s (k+1)
   else if((ae s k).toNat:Int)==35 then pass s (stop cE s (k+1))
   else k
 else k
termination_by s.size-k
decreasing_by
 all_goals (have:=cy cE s (k+1);omega)
theorem gZ{s:ByteArray}{k:Nat}(h:k<s.size)(hb:cY (ae s k)=true):pass s k=pass s (k+1):=by
 rw[pass,dif_pos h,if_pos hb]
theorem iw{s:ByteArray}{k:Nat}(h:k<s.size)(hb:((ae s k).toNat:Int)=35):pass s k=pass s (stop cE s (k+1)):=by
 have hn:¬cY (ae s k)=true:=by rw[oK];omega
 rw[pass,dif_pos h,if_neg hn,if_pos (by simpa using hb)]
theorem jF{s:ByteArray}{k:Nat}(h:k<s.size)(hb:¬cY (ae s k)=true)(hr:¬((ae s k).toNat:Int)=35):pass s k=k:=by
 rw[pass,dif_pos h,if_neg hb,if_neg (by simpa using hr)]
theorem nG{s:ByteArray}{k:Nat}(h:¬k<s.size):pass s k=k:=by
 rw[pass,dif_neg h]
theorem uU(s:ByteArray)(k:Nat):k≤pass s k:=by
 rw[pass];split
 · split
   · have:=uU s (k+1);omega
   · split
     · have h1:=cy cE s (k+1);have:=uU s (stop cE s (k+1));omega
     · omega
 · omega
termination_by s.size-k
decreasing_by
 all_goals (have:=cy cE s (k+1);omega)
theorem qO(s:ByteArray)(k:Nat)(h:k≤s.size):pass s k≤s.size:=by
 rw[pass];split
 · split
   · exact qO s (k+1) (by omega)
   · split
     · exact qO s _ (di cE s (k+1) (by omega))
     · omega
 · exact h
termination_by s.size-k
decreasing_by
 all_goals (have:=cy cE s (k+1);omega)
def fW:Nat:=9223372036854775807
def ed(s:ByteArray)(j:Nat):Nat→Nat
 |0=>0
 |m+1=>ed s j m*10+((ae s (j+m)).toNat-48)
def dq(s:ByteArray)(j e:Nat):Bool:=!(decide (e-j>1)&&((ae s j).toNat==48))&&decide (ed s j (e-j)≤fW)
theorem IX(s:ByteArray)(j:Nat){m m':Nat}(h:m≤m'):ed s j m≤ed s j m':=by
 induction m' with
 |zero=>simp_all
 |succ m' ih=>
   rcases Nat.lt_or_ge m (m'+1) with h1|h1
   · have:=ih (by omega);simp only[ed];omega
   · obtain rfl:m=m'+1:=by omega
     exact Nat.le_refl _
theorem IY{s:ByteArray}{j k m d:Nat}(hk:k<m)(hd:(ae s (j+k)).toNat-48=d)(h:ed s j k>(fW-d)/10)(hd9:d≤9):¬ed s j m≤fW:=by
 have h1:=IX s j (m:=k+1) (m':=m) (by omega);simp only[ed,hd] at h1;unfold fW at *;omega
theorem EY{s:ByteArray}{j e k d:Nat}(hk:k<e-j)(hd:(ae s (j+k)).toNat-48=d)(h:ed s j k>(fW-d)/10)(hd9:d≤9):dq s j e=false:=by
 unfold dq;rw [decide_eq_false (IY hk hd h hd9),Bool.and_false]
theorem EZ{s:ByteArray}{j e:Nat}(h1:1<e-j)(h2:(ae s j).toNat=48):dq s j e=false:=by
 unfold dq;simp [h1,h2]
theorem zF{s:ByteArray}{j e:Nat}(h1:¬(1<e-j∧(ae s j).toNat=48))(h2:ed s j (e-j)≤fW):dq s j e=true:=by
 unfold dq;simp [h2];omega
def eJ:List ByteArray:=[⟨#[111,112]⟩,⟨#[111,110,99,101]⟩,⟨#[109,97,110,121]⟩,⟨#[100,101,102]⟩,⟨#[114,101,99]⟩,⟨#[109,97,105,110]⟩,⟨#[108,101,116]⟩,⟨#[105,110]⟩,⟨#[102,110]⟩,⟨#[105,102]⟩,⟨#[116,104,101,110]⟩,⟨#[101,108,115,101]⟩,⟨#[99,97,115,101]⟩,⟨#[111,102]⟩,⟨#[101,110,100]⟩,⟨#[100,111]⟩,⟨#[102,115,116]⟩,⟨#[115,110,100]⟩,⟨#[104,97,110,100,108,101]⟩,⟨#[115,104,97,108,108,111,119]⟩,⟨#[119,105,116,104]⟩,⟨#[114,101,116,117,114,110]⟩,⟨#[116,114,117,101]⟩,⟨#[102,97,108,115,101]⟩,⟨#[105,110,116]⟩,⟨#[98,111,111,108]⟩,⟨#[117,110,105,116]⟩,⟨#[108,105,115,116]⟩]
def nH(s:ByteArray):Bool:=eJ.any (fun x=>s.toList==x.toList)
theorem IZ{s:ByteArray}(i:Nat)(x:ByteArray)(hx:eJ[i]?=some x)(h:(s.toList==x.toList)=true):nH s=true:=
 List.any_eq_true.2 ⟨x,List.mem_of_getElem? hx,h⟩
theorem Lj{s:ByteArray}{k:Nat}(hk:k<28)(h:((Gx.gs eJ k).toList==s.toList)=true):nH s=true:=by
 have hl:k<eJ.length:=hk;refine IZ k eJ[k] (List.getElem?_eq_getElem hl) ?_;have:Gx.gs eJ k=eJ[k]:=by simp[Gx.gs,hl]
 rw[← this,beq_iff_eq];exact (beq_iff_eq.1 h).symm
theorem E0{s:ByteArray}(h:∀j,j<28→((Gx.gs eJ j).toList==s.toList)=false):nH s=false:=by
 unfold nH;rw [List.any_eq_false];intro x hx;obtain ⟨j,hj,rfl⟩:=List.getElem_of_mem hx;have:=h j hj;have e:Gx.gs eJ j=eJ[j]:=by simp[Gx.gs,hj]
 rw[beq_eq_false_iff_ne,e] at this;intro hc;exact this (beq_iff_eq.1 hc).symm
def a_:List ByteArray:=[⟨#[58,58]⟩,⟨#[61,61]⟩,⟨#[61,62]⟩,⟨#[45,62]⟩,⟨#[40]⟩,⟨#[41]⟩,⟨#[91]⟩,⟨#[93]⟩,⟨#[123]⟩,⟨#[125]⟩,⟨#[44]⟩,⟨#[59]⟩,⟨#[58]⟩,⟨#[61]⟩,⟨#[45]⟩,⟨#[43]⟩,⟨#[42]⟩,⟨#[60]⟩,⟨#[124]⟩,⟨#[126]⟩]
def ij(s:ByteArray):Bool:=(((s.toList==(bY [58,58]).toList)||(s.toList==(bY [61,61]).toList))||(s.toList==(bY [61,62]).toList))||(s.toList==(bY [45,62]).toList)
theorem g_{a b:ByteArray}(h:a.toList=b.toList):a=b:=by
 rw[ByteArray.toList_eq,ByteArray.toList_eq] at h;obtain ⟨⟨x⟩⟩:=a;obtain ⟨⟨y⟩⟩:=b;simp only at h;rw [h]
theorem nI{s:ByteArray}{a c:Nat}(h:c≤s.size):(s.extract a c).size=c-a:=by
 rw[ByteArray.size_extract];omega
theorem lZ{s:ByteArray}{a c m:Nat}(hc:c≤s.size)(hm:m<c-a):ae (s.extract a c) m=ae s (a+m):=by
 unfold ae;have hs:c≤s.data.size:=hc;rw [ByteArray.data_extract,Array.getElem?_extract,if_pos (by omega)]
theorem vy{s:ByteArray}{j e:Nat}(he:e≤s.size):∀m,m≤e-j→ed (s.extract j e) 0 m=ed s j m
 |0,_=>rfl
 |m+1,h=>by
   simp only[ed,Nat.zero_add];rw [vy he m (by omega),lZ he (by omega)]
theorem pv{s:ByteArray}{j e:Nat}(hj:j≤e)(he:e≤s.size):dq (s.extract j e) 0 (s.extract j e).size=dq s j e:=by
 unfold dq;rw [nI he,Nat.sub_zero,vy he _ (Nat.le_refl _)];by_cases h:1<e-j
 · rw[lZ he (by omega),Nat.add_zero]
 · simp[h]
theorem AP{s : ByteArray}{j e : Nat}(hj : j ≤ e)(he : e ≤ s.size)(h : dq (s.extract j e) 0 (s.extract j e).size = true) :
   (bif dq (s.extract j e) 0 (s.extract j e).size then ed (s.extract j e) 0 (s.extract j e).size else 0)=ed s j (e-j):=by
 rw[h,cond_true,nI he,vy he _ (Nat.le_refl _)]
theorem E1(s:ByteArray)(j:Nat)(hj:j≤s.size):∀m,m<(s.extract j (stop ah s j)).size→ah (ae (s.extract j (stop ah s j)) m)=true:=by
 intro m hm;have h2:=di ah s j hj;rw [nI h2] at hm;rw [lZ h2 hm];exact GZ ah s j (j+m) (by omega) (by omega)
def kP(s:ByteArray)(j r:Nat):Bool:=decide (((j+(Gx.gs a_ r).size:Nat):Int)≤(s.size:Int))&&((s.extract j (j+(Gx.gs a_ r).size)).toList==(Gx.gs a_ r).toList)
structure Nx where
 kind:Nat
 at_:Nat
 text:ByteArray
 n:Nat
 nx:Nat
 fk:Nat
 fa:Nat
def fault(k a:Nat):Nx:=⟨0,0,⟨#[]⟩,0,0,k,a⟩
def ch(s:ByteArray)(j:Nat):Nat:=if(decide (((j+2:Nat):Int)≤(s.size:Int))&&ij (s.extract j (j+2)))=true then 2 else 1
def qP(s:ByteArray)(j:Nat):Nx:=
 if dq s j (stop ah s j)=true then⟨1,j,⟨#[]⟩,ed s j (stop ah s j-j),stop ah s j,0,0⟩ else fault 3 j
def nameAt(s:ByteArray)(j:Nat):Nx:=
 if stop (fun c=>ax c||ah c) s j-j>20 then fault 3 j
 else⟨if nH (s.extract j (stop (fun c=>ax c||ah c) s j))=true then 3 else 2,j,s.extract j (stop (fun c=>ax c||ah c) s j),0,stop (fun c=>ax c||ah c) s j,0,0⟩
def cx(s:ByteArray)(j:Nat):Nx:=
 if ah (ae s j)=true then qP s j
 else if ax (ae s j)=true then nameAt s j
 else if mG (ae s j)=true then⟨4,j,s.extract j (j+ch s j),0,j+ch s j,0,0⟩
 else fault 2 j
def next(s:ByteArray)(i:Nat):Nx:=
 if pass s i<s.size then cx s (pass s i) else⟨0,s.size,⟨#[]⟩,0,s.size,0,0⟩
def Nx.afw(x:Nx):Value:=.agg #[.int .i64 (x.kind:Int),.int .i64 (x.at_:Int),.string x.text,.int .i64 (x.n:Int)]
def Nx.Vu(x:Nx):Value:=.agg #[.int .i64 (x.fk:Int),.int .i64 (x.fa:Int)]
def Nx.V(x:Nx):Value:=.tuple #[x.afw,.int .i64 (x.nx:Int),x.Vu]
theorem QJ{s:ByteArray}{j:Nat}(h:j<s.size):(s.extract j (j+1)).toList=[ae s j]:=by
 rw[ByteArray.toList_eq,ByteArray.data_extract];have h':j<s.data.size:=h;apply List.ext_getElem?;intro i;rw [Array.getElem?_toList,Array.getElem?_extract];by_cases hi:i=0
 · subst hi;rw [if_pos (by omega),Nat.add_zero,List.getElem?_cons_zero,ae,Array.getElem?_eq_getElem h'];rfl
 · rw[if_neg (by omega)];symm;rw [List.getElem?_eq_none_iff];simp;omega
theorem I0{s:ByteArray}(r:Nat)(hr:r<4)(h:(s.toList==(Gx.gs a_ r).toList)=true):ij s=true:=by
 unfold ij;match r,hr with
 |0,_=>rw[show (s.toList==(bY [58,58]).toList)=true from h];rfl
 |1,_=>rw[show (s.toList==(bY [61,61]).toList)=true from h,Bool.or_true];rfl
 |2,_=>rw[show (s.toList==(bY [61,62]).toList)=true from h,Bool.or_true];rfl
 |3,_=>rw[show (s.toList==(bY [45,62]).toList)=true from h,Bool.or_true]
theorem E2{s:ByteArray}(h:∀r,r<4→(s.toList==(Gx.gs a_ r).toList)=false):ij s=false:=by
 unfold ij
 rw[show (s.toList==(bY [58,58]).toList)=false from h 0 (by omega),show(s.toList==(bY [61,61]).toList)=false from h 1 (by omega),
   show(s.toList==(bY [61,62]).toList)=false from h 2 (by omega),show(s.toList==(bY [45,62]).toList)=false from h 3 (by omega)]
 rfl
theorem oL:∀r,r<20→(Gx.gs a_ r).size=if r<4 then 2 else 1:=by decide +kernel
theorem CS:∀r,r<20→mG (ae (Gx.gs a_ r) 0)=true:=by decide +kernel
theorem I1:∀c:Fin 256,mG (UInt8.ofNat c.val)=true→∃r,r<20∧4≤r∧(Gx.gs a_ r).toList=[UInt8.ofNat c.val]:=by decide +kernel
theorem Lk{s t:ByteArray}{j:Nat}(ht:0<t.size)(h:j+t.size≤s.size)(e:(s.extract j (j+t.size)).toList=t.toList):ae s j=ae t 0:=by
 have h1:=lZ (s:=s) (a:=j) (c:=j+t.size) (m:=0) h (by omega);rw [Nat.add_zero] at h1;rw [← h1,g_ e]
theorem Ll{s : ByteArray}{j q : Nat}(hq : q < 20)(hn : ∀ r, r < q → kP s j r = false)(h : kP s j q = true) :
   mG (ae s j)=true∧ch s j=(Gx.gs a_ q).size∧s.extract j (j+(Gx.gs a_ q).size)=Gx.gs a_ q:=by
 have h0:=h;simp only[kP,Bool.and_eq_true,decide_eq_true_eq,beq_iff_eq] at h;obtain ⟨h1,h2⟩:=h;have h1':j+(Gx.gs a_ q).size≤s.size:=by omega
 have hl:=oL q hq;have QK:0<(Gx.gs a_ q).size:=by rw[hl];split<;>omega
 refine⟨by rw[Lk QK h1' h2];exact CS q hq,?_,g_ h2⟩;rw [hl];unfold ch;by_cases h4:q<4
 · rw[if_pos h4] at hl ⊢;rw [hl] at h1' h2;rw [if_pos];rw [decide_eq_true (show ((j+2:Nat):Int)≤(s.size:Int) by omega),Bool.true_and];exact I0 q h4 (by simpa using h2)
 · rw[if_neg h4];rw [if_neg];intro hc;simp only[Bool.and_eq_true,decide_eq_true_eq] at hc;obtain ⟨c1,c2⟩:=hc
   have:ij (s.extract j (j+2))=false:=E2 (fun r hr=>by
     have:=hn r (by omega);have hl2:=oL r (by omega);rw [if_pos hr] at hl2;simp only[kP,hl2] at this;rw [decide_eq_true (show ((j+2:Nat):Int)≤(s.size:Int) from c1),Bool.true_and] at this
     exact this)
   rw[this] at c2;cases c2
theorem QL{s:ByteArray}{j:Nat}(hj:j<s.size)(hn:∀r,r<20→kP s j r=false):mG (ae s j)=false:=by
 cases hb:mG (ae s j) with
 |false=>rfl
 |true=>
   exfalso;have hc:UInt8.ofNat (ae s j).toNat=ae s j:=by simp
   obtain⟨r,hr,h4,he⟩:=I1 ⟨(ae s j).toNat,(ae s j).toNat_lt⟩ (by simpa using hb);have hl:=oL r hr;rw [if_neg (by omega)] at hl;have:=hn r hr;simp only[kP,hl] at this;rw [decide_eq_true (show ((j+1:Nat):Int)≤(s.size:Int) by omega),Bool.true_and,QJ hj,he] at this;simp at this
theorem jG{s:ByteArray}{i:Nat}(hi:i≤s.size)(hf:(next s i).fk=0)(hk:(next s i).kind≠0):i<(next s i).nx∧(next s i).nx≤s.size:=by
 have h1:=uU s i;have h2:=qO s i hi;unfold next at*
 split at hk
 · rename_i dO;rw [if_pos dO] at hf;rw [if_pos dO];unfold cx at *;by_cases hd:ah (ae s (pass s i))=true
   · rw[if_pos hd] at *;unfold qP at *;split at hk
     · rename_i hn;rw [if_pos hn];have a:=eO dO hd;have b:=cy ah s (pass s i+1);have c:=di ah s (pass s i) h2;show i<stop ah s (pass s i)∧stop ah s (pass s i)≤s.size;omega
     · exact absurd rfl hk
   · rw[if_neg hd] at *;by_cases hl:ax (ae s (pass s i))=true
     · rw[if_pos hl] at *;unfold nameAt at *;split at hk
       · exact absurd rfl hk
       · rename_i hn;rw [if_neg hn];have a:=eO (p:=fun c=>ax c||ah c) dO (by simp[hl]);have b:=cy (fun c=>ax c||ah c) s (pass s i+1);have c:=di (fun c=>ax c||ah c) s (pass s i) h2;show i<stop _ s (pass s i)∧stop _ s (pass s i)≤s.size;omega
     · rw[if_neg hl] at *;by_cases hs:mG (ae s (pass s i))=true
       · rw[if_pos hs] at *;show i<pass s i+ch s (pass s i)∧pass s i+ch s (pass s i)≤s.size;unfold ch;split
         · rename_i h;simp only[Bool.and_eq_true,decide_eq_true_eq] at h;omega
         · omega
       · rw[if_neg hs] at *;exact absurd rfl hk
 · exact absurd rfl hk
def hF(x:Nx)(r:List Nx×Nat×Nat):List Nx×Nat×Nat:=if r.2.1=0 then(x::r.1,r.2) else([],r.2)
def gp(s:ByteArray)(i:Nat):List Nx×Nat×Nat:=
 if(next s i).fk≠0 then([],(next s i).fk,(next s i).fa)
 else if(next s i).kind=0 then([next s i],0,0)
 else if _h:i<(next s i).nx∧(next s i).nx≤s.size then hF (next s i) (gp s (next s i).nx) else([],0,0)
termination_by s.size-i
theorem hH{s:ByteArray}{i:Nat}(h:(next s i).fk≠0):gp s i=([],(next s i).fk,(next s i).fa):=by
 rw[gp,if_pos h]
theorem jJ{s:ByteArray}{i:Nat}(h:(next s i).fk=0)(hk:(next s i).kind=0):gp s i=([next s i],0,0):=by
 rw[gp,if_neg (by omega),if_pos hk]
theorem jw{s:ByteArray}{i:Nat}(hi:i≤s.size)(h:(next s i).fk=0)(hk:(next s i).kind≠0):gp s i=hF (next s i) (gp s (next s i).nx):=by
 rw[gp,if_neg (by omega),if_neg hk,dif_pos (jG hi h hk)]
end Go.Lex
namespace Go.Gx
section
variable {P:Program} {Q:Exit→Act→World→Prop} {w:World} {ops:Array Oper} {b:Nat→Value} {n:Nat} {l:List (Nat×Value)} {d:List Deferred} {K:Act→World→Prop}
theorem vz{o : Oper}{t t' : TypeId}{x y : Operand}(hop : o.op = .binOp .add t x y t')(s u : ByteArray)(hx : ev b n l x = .string s)(hy : ev b n l y = .string u)(zG : s.size + u.size ≤ 9223372036854775807) :
   (execOp (ev b n l) o).run P w=.ok (.value (.string (s++u))) w:=by
 unfold execOp;have h:¬(((s.size+u.size:Nat):Int)>IntKind.i64.max):=by
   have:IntKind.i64.max=9223372036854775807:=by decide
   rw[this];omega
 have h':¬(IntKind.i64.max<(s.size:Int)+(u.size:Int)):=by
   have:IntKind.i64.max=9223372036854775807:=by decide
   rw[this];omega
 simp[hop,hx,hy,eqGuard,Sem.run_bind,binOp,Op.stringOp,h'];omega
theorem ZL{m:Nat}(h:m<256):∀j,j<1→(#[Value.int .u8 (m:Int)]:Array Value)[0+j]?=some (.int .u8 (([UInt8.ofNat m].getD j 0).toNat:Int)):=by
 intro j hj;obtain rfl:j=0:=by omega
 have:(UInt8.ofNat m).toNat=m:=by simp[Nat.mod_eq_of_lt h]
 simp[this]
theorem kD{w:World}{base:Nat}{e:TypeId}{size:Nat}{a:Option Addr}{m cap n:Nat}{xs:List Value}(h:w.ownsRow base e size (.slice a m cap) n xs)(hn:0<n):n≤cap:=by
 rcases h.2 with⟨_,h0⟩|⟨g,cM,cur,hv,_,_,zH,_⟩
 · omega
 · cases hv;exact zH
end
section
variable {P:Program} {Q:Exit→Act→World→Prop} {w:World} {ops:Array Oper} {b:Nat→Value} {n:Nat} {l:List (Nat×Value)} {d:List Deferred} {K:Act→World→Prop}
theorem I2{i : Nat}{o : Oper}{t : TypeId}{x y : Operand}(ho : ops[i]? = some o)(hg : Region.wanted o (yl ops b n l) = true)(hop : o.op = .store t x y)
   {bk:Nat} (off:Nat) (v:Value) (hx:ev b n l x=.pointer (some ⟨bk,off,none⟩)) (hy:ev b n l y=v) {cs:Array Value} {e:TypeId} (hb:Has w bk (.cells cs e))
   (hs:(P.info? t).map (·.size)=some 1) (hv:v.cells=#[v]) (h1:v.oneCell'=true) (Li:off<cs.size)
   (k:∀w',G w w' (some bk)→Has w' bk (.cells (cs.setIfInBounds off v) e)→K (Fr b n (gE o undef l) d) w'):wpOp P ops Q i K (Fr b n l d) w:=by
 have e1:(cs.toList.take off++v.cells.toList++cs.toList.drop (off+v.cells.size)).toArray=cs.setIfInBounds off v:=by
   rw[hv];apply Array.toList_inj.1;rw [Array.toList_setIfInBounds,List.set_eq_take_append_cons_drop,if_pos (by simpa using Li)];simp
 have e2:v.cells.size=1:=by rw[hv];rfl
 refine CR ho hg hop off v hx hy hb (by rw[e2];exact hs) (by rw[hv];simpa using h1) (Nat.ble_eq_true_of_le (by rw[e2];omega)) (cs.setIfInBounds off v) e1 k
end
section
variable {P:Program} {ops:Array Oper} {Q:Exit→Act→World→Prop} {md:Region.Mode} {S T:World→Prop} {D:List Nat}
def clear(D:List Nat)(aj:Array Bool):Bool:=D.all fun d=>!aj.getD d true
def o0(P:Program)(md:Region.Mode)(ops:Array Oper)(Q:Exit→Act→World→Prop)(S:World→Prop)(D:List Nat):Nat→Array Bool→Act→World→Prop
 |0,aj,a,w=>Region.ready md ops aj=[]∧Q .normal a w
 |fuel+1,aj,a,w=>(Region.ready md ops aj=[]→Q .normal a w)∧
   ∀i∈Region.ready md ops aj,wpOp P ops Q i (fun a' w'=>(clear D (aj.setIfInBounds i true)=true→S w')∧o0 P md ops Q S D fuel (aj.setIfInBounds i true) a' w') a w
theorem vC:∀(fuel:Nat)(aj:Array Bool)(a:Act)(w:World),o0 P md ops Q S D fuel aj a w→wpAny P md ops Q fuel aj a w
 |0,_,_,_,h=>h
 |fuel+1,_,_,_,h=>⟨h.1,fun i hi=>wpOp_mono (fun a' w' h'=>vC fuel _ a' w' h'.2) (h.2 i hi)⟩
theorem oM{i:Nat}{aj:Array Bool}(h:D.contains i=false):clear D (aj.setIfInBounds i true)=clear D aj:=by
 unfold clear;rw [Bool.eq_iff_iff,List.all_eq_true,List.all_eq_true];have e:∀x∈D,(aj.setIfInBounds i true).getD x true=aj.getD x true:=fun x hx=>by
   have:i≠x:=by rintro rfl;simp[hx] at h
   exact getD_set_ne true this
 constructor
 · intro k x hx;have:=k x hx;rwa [e x hx] at this
 · intro k x hx;rw[e x hx];exact k x hx
theorem vD{C:List Nat}{aj:Array Bool}(h:D.all C.contains=true)(k:∀c∈C,aj.getD c true=false):clear D aj=true:=by
 unfold clear;rw [List.all_eq_true];intro x hx;rw [k x (by simpa using List.all_eq_true.1 h x hx)];rfl
def waits(md:Region.Mode)(ops:Array Oper)(C:List Nat)(i:Nat):Bool:=C.all fun j=>(ops[j]?).any fun o=>o.after.any fun e=>Region.binds md e&&(e.on==i||C.contains e.on)
theorem E3{C:List Nat}{i j:Nat}{aj:Array Bool}(h:waits md ops C i=true)(hi:aj.getD i true=false)(hC:∀c∈C,aj.getD c true=false)(hj:j∈Region.ready md ops aj):j∉C:=by
 intro hm;have h1:=List.all_eq_true.1 h j hm;obtain ⟨_,o,ho,I3⟩:=mem_ready.1 hj;rw [ho,Option.any_some,Array.any_eq_true'] at h1;obtain ⟨e,he,hb⟩:=h1;rw [Bool.and_eq_true,Bool.or_eq_true,beq_iff_eq] at hb;have hl:=I3 e he hb.1;have flip:∀q,aj.getD q true=false→aj.getD q false=true→False:=by
   intro q a b;rcases Nat.lt_or_ge q aj.size with h'|h'
   · simp[h'] at a b;rw[a] at b;cases b
   · simp[Array.getElem?_eq_none h'] at b
 rcases hb.2 with q|q
 · exact flip _ hi (q▸hl)
 · exact flip _ (hC _ (by simpa using q)) hl
theorem qf{i : Nat}{oi : Oper}{v : Value}(C : List Nat)(hi : ops[i]? = some oi)(ZM : ∀(j : Nat)(o : Oper) cs b, ops[j]? = some o → o.op ≠ .select cs b)
   (hQ:∀c a w,Q (.panic c) (a.put oi.dst v) w→Q (.panic c) a w) (QM:D.contains i=false) (hST:∀w,S w→T w) (hd:(∀w,T w)∨(waits md ops C i=true∧C.contains i=false∧D.all C.contains=true)):
   ∀(fuel:Nat)(aj:Array Bool)(a:Act)(w:World),
     (∀j oj,ops[j]?=some oj→j≠i→aj.getD j true=false→(∀e∈oj.after,Region.binds md e=true→e.on≠i)→oi.apart ops oj=true)→
     ((∀w,T w)∨(∀c∈C,aj.getD c true=false))→
     i∈Region.ready md ops aj→YieldsIf P ops T oi v a→(clear D aj=true→S w)→T w→
     o0 P md ops Q S D fuel (aj.setIfInBounds i true) (a.put oi.dst v) w→o0 P md ops Q S D (fuel+1) aj a w:=by
 intro fuel;induction fuel with
 |zero=>
   intro aj a w _ _ hr hy hS hT H;refine ⟨fun h=>(by rw[h] at hr;cases hr),fun j hj=>?_⟩;by_cases KF:j=i
   · subst KF;exact hy.wpOp hi hT ⟨fun h=>hS (by rwa [oM QM] at h),H⟩
   · have:=ready_mono hj KF;rw [H.1] at this;cases this
 |succ fuel ih=>
   intro aj a w TQ ZN hr hy hS hT H;refine ⟨fun h=>(by rw[h] at hr;cases hr),fun j hj=>?_⟩;by_cases KF:j=i
   · subst KF;exact hy.wpOp hi hT ⟨fun h=>hS (by rwa [oM QM] at h),H⟩
   · have h1 := H.2 j (ready_mono hj KF);obtain ⟨ZO, oj, hoj, I3⟩ := mem_ready.1 hj;have Vv := (mem_ready.1 hr).1;have afy : ∀ e ∈ oj.after, Region.binds md e = true → e.on ≠ i := fun e he hb heq => by
       have h1:=I3 e he hb;rw [heq] at h1;rcases Nat.lt_or_ge i aj.size with h'|h'
       · simp[h'] at Vv h1;rw[Vv] at h1;cases h1
       · simp[Array.getElem?_eq_none h'] at h1
     have h2 := wpOp_putIf hoj (TQ j oj hoj KF ZO afy) (fun cs b => ZM i oi cs b hi) (fun cs b => ZM j oj cs b hoj) hQ hy h1;have Vw : ∀ k ok, ops[k]? = some ok → k ≠ i → (aj.setIfInBounds j true).getD k true = false →
         (∀e∈ok.after,Region.binds md e=true→e.on≠i)→oi.apart ops ok=true:=fun k ok hk hki hun I4=>by
       refine TQ k ok hk hki ?_ I4
       by_cases hjk:j=k
       · subst hjk;exact ZO
       · rw[getD_set_ne true hjk] at hun;exact hun
     have tD:∀L:Array Bool,clear D (L.setIfInBounds i true)=clear D L:=fun L=>oM QM;have Lm:(∀w,T w)∨(∀c∈C,(aj.setIfInBounds j true).getD c true=false):=by
       rcases ZN with q|q
       · exact .inl q
       · rcases hd with d|⟨d1,_,_⟩
         · exact .inl d
         · have hjC := E3 d1 Vv q hj;exact .inr fun c hc => by
             rw[getD_set_ne true (by rintro rfl;exact hjC hc)];exact q c hc
     refine wpOp_mono (fun a' w' h3=>?_) h2;have hS':clear D (aj.setIfInBounds j true)=true→S w':=fun h=>h3.2.1 (by rw[Array.setIfInBounds_comm _ _ (Ne.symm KF),tD];exact h);refine ⟨hS',ih (aj.setIfInBounds j true) a' w' Vw Lm (ready_mono hr (Ne.symm KF)) h3.1 hS' ?_ ?_⟩
     · rcases Lm with q|q
       · exact q w'
       · rcases hd with d|⟨_,_,d3⟩
         · exact d w'
         · exact hST w' (hS' (vD d3 q))
     · rw[Array.setIfInBounds_comm _ _ KF];exact h3.2.2
end
section
variable {P:Program} {Q:Exit→Act→World→Prop} {w:World} {ops:Array Oper} {b:Nat→Value} {n:Nat} {l:List (Nat×Value)} {d:List Deferred}
theorem ZP{id : Nat}{S : World → Prop}(D : List Nat){Q' : Exit → Act → World → Prop}{a : Act}(hm : P.follows .mixedOrders = true)
   (h:∀w',Ext w w'→o0 P .any ops Q' S D ops.size (Array.replicate ops.size false) a w'):(Code.region id ops true).wp P Q' a w:=
 wp_region_any hm (vC _ _ _ _ (h _ (Ext.drawn w _)))
theorem I5(i : Nat){S : World → Prop}{D : List Nat}{oi : Oper}{fuel : Nat}{aj : Array Bool}(v v' : Value)(e : v = v')(hi : ops[i]? = some oi)
   (hs:Region.noSelect ops=true) (hf:Region.free .any ops aj i=true) (hr:(Region.ready .any ops aj).contains i=true) (QM:D.contains i=false)
   (hQ:∀c a w,Q (.panic c) (a.put oi.dst v') w→Q (.panic c) a w) (hS:clear D aj=true→S w) (hg:Region.wanted oi (yl ops b n l)=true)
   (hy:∀w,(execOp (ev b n l) oi).run P w=.ok (.value v) w)
   (h:o0 P .any ops Q S D fuel (aj.setIfInBounds i true) (Fr b n (gE oi v' l) d) w):o0 P .any ops Q S D (fuel+1) aj (Fr b n l d) w:=by
 subst e;exact qf (T:=fun _=>True) [] hi (Region.noSelect_spec hs) hQ QM (fun _ _=>trivial) (.inl fun _=>trivial) fuel aj _ w (Region.free_spec hi hf) (.inl fun _=>trivial) (by simpa using hr)
   (.inl ⟨by rw[ep];exact hg,fun w _=>by rw[gD];exact hy w⟩) hS trivial (by rw[fN];exact h)
theorem I6(i : Nat){S : World → Prop}{D : List Nat}{oi : Oper}{fuel : Nat}{aj : Array Bool}(hi : ops[i]? = some oi)
   (hs:Region.noSelect ops=true) (hf:Region.free .any ops aj i=true) (hr:(Region.ready .any ops aj).contains i=true) (QM:D.contains i=false)
   (hQ:∀c a w,Q (.panic c) (a.put oi.dst undef) w→Q (.panic c) a w) (hS:clear D aj=true→S w) (hg:Region.wanted oi (yl ops b n l)=false)
   (h:o0 P .any ops Q S D fuel (aj.setIfInBounds i true) (Fr b n (gE oi undef l) d) w):o0 P .any ops Q S D (fuel+1) aj (Fr b n l d) w:=
 qf (T:=fun _=>True) [] hi (Region.noSelect_spec hs) hQ QM (fun _ _=>trivial) (.inl fun _=>trivial) fuel aj _ w (Region.free_spec hi hf) (.inl fun _=>trivial) (by simpa using hr)
   (.inr ⟨by rw[ep];exact hg,rfl⟩) hS trivial (by rw[fN];exact h)
theorem vE(i : Nat){S : World → Prop}{D : List Nat}(C : List Nat){oi : Oper}{fuel : Nat}{aj : Array Bool}(v v' : Value)(e : v = v')(hi : ops[i]? = some oi)
   (hs:Region.noSelect ops=true) (hf:Region.free .any ops aj i=true) (hr:(Region.ready .any ops aj).contains i=true) (QM:D.contains i=false)
   (hC:(waits .any ops C i&&!C.contains i&&D.all C.contains&&C.all (fun c=>!aj.getD c true))=true)
   (hQ:∀c a w,Q (.panic c) (a.put oi.dst v') w→Q (.panic c) a w) (hS:S w) (hg:Region.wanted oi (yl ops b n l)=true)
   (hy:∀w,S w→(execOp (ev b n l) oi).run P w=.ok (.value v) w)
   (h:o0 P .any ops Q S D fuel (aj.setIfInBounds i true) (Fr b n (gE oi v' l) d) w):o0 P .any ops Q S D (fuel+1) aj (Fr b n l d) w:=by
 subst e;simp only[Bool.and_eq_true] at hC;obtain ⟨⟨⟨h1,h2⟩,h3⟩,h4⟩:=hC;exact qf (T:=S) C hi (Region.noSelect_spec hs) hQ QM (fun _ q=>q) (.inr ⟨h1,by simpa using h2,h3⟩) fuel aj _ w (Region.free_spec hi hf) (.inr fun c hc=>by simpa using List.all_eq_true.1 h4 c hc) (by simpa using hr)
   (.inl ⟨by rw[ep];exact hg,fun w hw=>by rw[gD];exact hy w hw⟩) (fun _=>hS) hS (by rw[fN];exact h)
theorem Ln(i : Nat){S : World → Prop}{D : List Nat}{fuel : Nat}{aj : Array Bool}{a : Act}(hr : Region.ready .any ops aj = [i])
   (h:wpOp P ops Q i (fun a' w'=>(clear D (aj.setIfInBounds i true)=true→S w')∧o0 P .any ops Q S D fuel (aj.setIfInBounds i true) a' w') a w):o0 P .any ops Q S D (fuel+1) aj a w:=
 ⟨fun h0=>absurd (hr▸h0) (by simp),fun j hj=>by
   have:j=i:=by rw[hr] at hj;simpa using hj
   subst this
   exact h⟩
theorem I7{S:World→Prop}{D:List Nat}{aj:Array Bool}{a:Act}(hr:Region.ready .any ops aj=[])(h:Q .normal a w):∀fuel,o0 P .any ops Q S D fuel aj a w
 |0=>⟨hr,h⟩
 |_+1=>⟨fun _=>h,by rw[hr];simp⟩
end
theorem QN{w : World}{base : Nat}{e : TypeId}{size n bk : Nat}{v : Value}{xs : List Value}{o : Obj}(h : w.ownsRow base e size v n xs)(hb : Has w bk o)(ho : ∀ cs fr, o ≠ .cells cs e fr) :
   ∀q,v.ownBlock=some q→q≠bk:=by
 intro q hq hqb;subst hqb;rcases h.2 with⟨rfl,_⟩|⟨g,cap,cur,rfl,_,hg,_⟩
 · simp[Value.ownBlock] at hq
 · simp[Value.ownBlock] at hq;subst hq;have I8:w.heap[g]?=some o:=hb;rw [hg] at I8;injection I8 with h1;exact ho _ _ h1.symm
structure Wx (e:TypeId) (B wb:Nat) (w w':World):Prop where
 os:w'.os=w.os
 tape:w'.tape=w.tape
 output:w'.output=w.output
 size:w.heap.size≤w'.heap.size
 base:B≤w.heap.size
 low:∀k,k<B→w'.heap[k]?=w.heap[k]?
 kept:∀k o,w.heap[k]?=some o→k≠wb→(∀cs fr,o≠.cells cs e fr)→w'.heap[k]?=some o
section
variable {e:TypeId} {B wb:Nat} {w w' ny:World}
theorem Wx.refl(w:World)(h:B≤w.heap.size):Wx e B wb w w:=⟨rfl,rfl,rfl,Nat.le_refl _,h,fun _ _=>rfl,fun _ _ h _ _=>h⟩
theorem Wx.trans(h:Wx e B wb w w')(k:Wx e B wb w' ny):Wx e B wb w ny:=
 ⟨k.os.trans h.os,k.tape.trans h.tape,k.output.trans h.output,Nat.le_trans h.size k.size,h.base,fun j hj=>(k.low j hj).trans (h.low j hj),fun j o ho mU I4=>k.kept j o (h.kept j o ho mU I4) mU I4⟩
theorem Wx.qg(h:Ext w w')(hB:B≤w.heap.size):Wx e B wb w w':=
 ⟨h.os,h.tape,h.output,h.size,hB,fun j hj=>h.block j (Nat.lt_of_lt_of_le hj hB) (by simp),fun j o ho _ _=>(h.block j (Has.lt ho) (by simp)).trans ho⟩
theorem Wx.Vx(h:G w w' (some wb))(hB:B≤w.heap.size)(hb:B≤wb):Wx e B wb w w':=
 ⟨h.os,h.tape,h.output,h.size,hB,fun j hj=>h.block j (Nat.lt_of_lt_of_le hj hB) (by intro q;injection q with q;omega),fun j o ho mU _=>(h.block j (Has.lt ho) (by intro q;injection q with q;exact mU q)).trans ho⟩
theorem Wx.Vy{size n:Nat}{v:Value}{xs:List Value}(h:G w w' v.ownBlock)(jK:w.ownsRow B e size v n xs)(hB:B≤w.heap.size):Wx e B wb w w':=
 ⟨h.os,h.tape,h.output,h.size,hB,fun j hj=>h.block j (Nat.lt_of_lt_of_le hj hB) (fun q=>by have:=(jK.lt j q.symm).1;omega),
   fun j o ho _ I4=>(h.block j (Has.lt ho) (fun q=>QN jK ho I4 j q.symm rfl)).trans ho⟩
theorem Wx.ext(h:Wx e B wb w w')(k:Ext w' ny):Wx e B wb w ny:=h.trans (Wx.qg k (Nat.le_trans h.base h.size))
theorem Wx.AM(h:Wx e B wb w w')(k:G w' ny (some wb))(hb:B≤wb):Wx e B wb w ny:=h.trans (Wx.Vx k (Nat.le_trans h.base h.size) hb)
theorem Wx.G0{j:Nat}(h:Wx e B wb w w')(k:G w' ny (some j))(hj:w.heap.size≤j:=by omega):Wx e B wb w ny:=
 ⟨k.os.trans h.os,k.tape.trans h.tape,k.output.trans h.output,Nat.le_trans h.size k.size,h.base,fun i hi=>(k.block i (by have:=h.size;have:=h.base;omega) (by intro q;injection q with q;have:=h.base;omega)).trans (h.low i hi),
   fun i o ho mU I4=>(k.block i (by have:=h.size;have:=Has.lt ho;omega) (by intro q;injection q with q;have:=Has.lt ho;omega)).trans (h.kept i o ho mU I4)⟩
theorem Wx.app{size n:Nat}{v:Value}{xs:List Value}(h:Wx e B wb w w')(k:G w' ny v.ownBlock)(jK:w'.ownsRow B e size v n xs):Wx e B wb w ny:=h.trans (Wx.Vy k jK (Nat.le_trans h.base h.size))
theorem Wx.has{k:Nat}{cs:Array Value}{t:TypeId}{fr:Nat×Nat}(x:Wx e B wb w w')(h:Has w k (.cells cs t fr))(mU:k≠wb:=by omega)(ht:t≠e:=by decide):Has w' k (.cells cs t fr):=
 x.kept k _ h mU (fun YI fr' q=>by injection q with _ q;exact ht q)
theorem Wx.KE{k:Nat}{o:Obj}(x:Wx e B wb w w')(h:Has w k o)(hk:k<B):Has w' k o:=(x.low k hk).trans h
end
section
variable {P:Program} {Q:Exit→Act→World→Prop} {w:World}
end
def Rd(w:World)(A:Option Addr)(n sz:Nat)(row:Nat→List Value):Prop:=∀i,i<n→∃a,A=some a∧w.cells? 0 (a.add (i*sz)) sz=some (row i)
theorem I9{w w':World}{a:Addr}{n:Nat}{cs:List Value}(h:w.cells? 0 a n=some cs)(hn:0<n)(x:Ext w w'):w'.cells? 0 a n=some cs:=by
 have hb:=World.cells?_block h hn;have e:(fun i=>w'.cell? (a.add i))=fun i=>w.cell? (a.add i):=funext fun i=>by
   unfold World.cell?;rw [x.block (a.add i).block (by show(a.add i).block<_;unfold Addr.add;split<;>exact hb) (by simp)]
 unfold World.cells? at h ⊢;rw [e];exact h
theorem Rd.ext{w w':World}{A:Option Addr}{n sz:Nat}{row:Nat→List Value}(h:Rd w A n sz row)(zG:0<sz)(x:Ext w w'):Rd w' A n sz row:=fun i hi=>by
 obtain⟨a,e,k⟩:=h i hi;exact ⟨a,e,I9 k zG x⟩
section
variable {P:Program} {Q:Exit→Act→World→Prop} {w:World} {ops:Array Oper} {b:Nat→Value} {n:Nat} {l:List (Nat×Value)} {d:List Deferred} {K:Act→World→Prop}
theorem I_{t:TypeId}{AO:TypeDesc}(hu:P.underlying t=some AO)(hd:AO.isRow=true):(isAgg t).run P w=.ok true w:=by
 unfold isAgg;rw [Sem.run_bind,run_underlying hu w];cases AO<;>simp_all
theorem ug{t : TypeId}{a : Addr}{cs : List Value}{AO : TypeDesc}(hc : w.cells? 0 a cs.length = some cs)(hu : P.underlying t = some AO)(v : Value)
   (hv:(match AO with|.struct _|.array _ _=>(P.info? t).map (·.size)=some cs.length∧v=.agg cs.toArray|_=>cs=[v])):(loadVar t a).run P w=.ok v w:=by
 obtain⟨_,_,hg⟩:=World.cells?_some hc;have agg:∀(hd:AO.isRow=true),(P.info? t).map (·.size)=some cs.length∧v=.agg cs.toArray→(loadVar t a).run P w=.ok v w:=by
   rintro hd ⟨hi,rfl⟩
   have hl:(loadCells a cs.length).run P w=.ok cs.toArray w:=run_loadCells_list (P:=P) w a cs (fun j v hv=>by
     rw[hg j (List.getElem?_eq_some_iff.1 hv).1];exact hv)
   cases hq:P.info? t with
   |none=>simp[hq] at hi
   |some i=>
     have hs:i.size=cs.length:=by simpa [hq] using hi
     have afB:(isAgg t).run P w=.ok true w:=I_ hu hd;simp [loadVar,Sem.run_bind,afB,sizeOf,typeInfo,hq,hs,hl]
 cases AO with
 |struct fs=>exact agg rfl hv
 |array k e=>exact agg rfl hv
 |_=>
   simp only at hv;subst hv;have h1:w.cell? a=some v:=by
     have:=hg 0 (by simp);simpa [Addr.add] using this
   simp[loadVar,isAgg,underlying,hu,Sem.run_bind,go_sem,h1]
def CT(P:Program)(t:TypeId)(cs:List Value):Option Value:=
 match P.underlying t with
 |some (.struct _)|some (.array _ _)=>match P.info? t with
   |some i=>match Nat.beq i.size cs.length with
     |true=>some (.agg cs.toArray)
     |false=>none
   |none=>none
 |some _=>match cs with
   |[v]=>some v
   |_=>none
 |none=>none
theorem yY{t:TypeId}{a:Addr}{cs:List Value}(hc:w.cells? 0 a cs.length=some cs)(v:Value)(hv:CT P t cs=some v):(loadVar t a).run P w=.ok v w:=by
 unfold CT at hv;cases hu:P.underlying t with
 |none=>simp[hu] at hv
 |some AO=>
   rw[hu] at hv;refine ug hc hu v ?_
   have agg : (match P.info? t with
       |some i=>match Nat.beq i.size cs.length with
         |true=>some (Value.agg cs.toArray)
         |false=>none
       |none=>none)=some v→(P.info? t).map (·.size)=some cs.length∧v=.agg cs.toArray:=by
     intro h
     cases hi:P.info? t with
     |none=>simp[hi] at h
     |some i=>
       rw[hi] at h
       cases hb:Nat.beq i.size cs.length with
       |false=>simp[hb] at h
       |true=>
         simp only[hb,Option.some.injEq] at h
         have:=Nat.eq_of_beq_eq_true hb
         exact⟨by simp[this],h.symm⟩
   have one : (match cs with
       |[v]=>some v
       |_=>none)=some v→cs=[v]:=by
     intro h
     match cs,h with
     |[u],h=>injection h with h;rw[h]
     |[],h=>cases h
     |_::_::_,h=>cases h
   cases AO with
   |struct fs=>exact agg hv
   |array k e=>exact agg hv
   |_=>exact one hv
theorem zI{o : Oper}{t : TypeId}{x : Operand}(hop : o.op = .load t x){a : Addr}(cs : List Value)(v : Value)(hx : ev b n l x = .pointer (some a))(m : Nat)(hc : w.cells? 0 a m = some cs)(hm : Nat.beq cs.length m = true)
   (hv:CT P t cs=some v):(execOp (ev b n l) o).run P w=.ok (.value v) w:=by
 have hm:=Nat.eq_of_beq_eq_true hm;subst hm;unfold execOp;simp [hop,hx,Instr.loadAt,Instr.sureAddr,Sem.run_bind,yY hc v hv]
theorem nJ{o : Oper}{t : TypeId}{x ix : Operand}(hop : o.op = .indexAddr t x ix)(e : TypeId)(sz : Nat)(hu : P.underlying t = some (.slice e))(zG : (P.info? e).map (·.size) = some sz)
   {A:Option Addr} (a:Addr) (hA:A=some a) (len cap:Nat) (hx:ev b n l x=.slice A len cap) (kd:IntKind) (m:Nat) (hi:ev b n l ix=.int kd (m:Int)) (hm:m<len):
   (execOp (ev b n l) o).run P w=.ok (.value (.pointer (some (a.add (m*sz))))) w:=by
 subst hA;cases hq:P.info? e with
 |none=>simp[hq] at zG
 |some i=>
   simp only[hq,Option.map_some,Option.some.injEq] at zG;unfold execOp;simp [hop,hx,hi,Instr.indexAt,asIntOf,underlying,hu,sizeOf,typeInfo,hq,zG,Sem.run_bind,go_sem,hm]
end
def px(w:World)(base:Nat)(e:TypeId)(v:Value)(n:Nat)(xs:List Value):Prop:=
 xs.length=n∧((v=.slice none 0 0∧n=0)∨
  ∃g cap cur fz,v=.slice (some ⟨g,0,none⟩) n cap∧base≤g∧w.heap[g]?=some (.cells cur e fz)∧(fz=(0,0)∨fz=(cur.size,cur.size+1))∧n≤cap∧cap≤maxLen∧cur.size=cap∧cur.toList.take n=xs)
section
variable {w:World} {base:Nat} {e:TypeId} {v:Value} {n:Nat} {xs:List Value}
theorem px.lt(h:px w base e v n xs):∀k,v.ownBlock=some k→base≤k∧k<w.heap.size:=by
 intro k hk;rcases h.2 with⟨rfl,_⟩|⟨g,cap,cur,fz,rfl,hb,hg,_⟩
 · simp[Value.ownBlock] at hk
 · simp[Value.ownBlock] at hk;subst hk;exact ⟨hb,(Array.getElem?_eq_some_iff.1 hg).1⟩
theorem px.kept{w':World}{row:Option Nat}(h:px w base e v n xs)(hg:w.grownBy w' row)(mU:v.ownBlock=none∨v.ownBlock≠row):px w' base e v n xs:=by
 refine⟨h.1,?_⟩;rcases h.2 with hn|⟨g,cap,cur,fz,rfl,hb,hgg,rest⟩
 · exact .inl hn
 · refine .inr ⟨g,cap,cur,fz,rfl,hb,?_,rest⟩;rw [hg.block g (Array.getElem?_eq_some_iff.1 hgg).1 (by simpa [Value.ownBlock] using mU)];exact hgg
theorem px.cells(h:px w base e v n xs){g:Nat}(hg:v.ownBlock=some g):∀j u,xs[j]?=some u→w.cell? ((⟨g,0,none⟩:Addr).add j)=some u:=by
 intro j u hu;rcases h.2 with⟨rfl,_⟩|⟨g',cap,cur,fz,rfl,_,hgg,_,_,_,_,Lo⟩
 · simp[Value.ownBlock] at hg
 · simp[Value.ownBlock] at hg;subst hg;have Vz:(⟨g',0,none⟩:Addr).add j=⟨g',j,none⟩:=by unfold Addr.add;split<;>simp_all
   rw[Vz,cell_of_row w g' j cur e fz hgg];rw [← Lo,List.getElem?_take] at hu;split at hu
   · simpa using hu
   · cases hu
end
section
variable {P:Program} (w:World)
end
section
variable {P:Program} {Q:Exit→Act→World→Prop} {w:World} {ops:Array Oper} {b:Nat→Value} {n:Nat} {l:List (Nat×Value)} {d:List Deferred} {K:Act→World→Prop}
end
theorem Lp{w : World}{base : Nat}{e : TypeId}{n bk : Nat}{v : Value}{xs : List Value}{o : Obj}(h : px w base e v n xs)(hb : Has w bk o)(ho : ∀ cs fr, o ≠ .cells cs e fr) :
   ∀q,v.ownBlock=some q→q≠bk:=by
 intro q hq hqb;subst hqb;rcases h.2 with⟨rfl,_⟩|⟨g,cap,cur,fz,rfl,_,hg,_⟩
 · simp[Value.ownBlock] at hq
 · simp[Value.ownBlock] at hq;subst hq;have I8:w.heap[g]?=some o:=hb;rw [hg] at I8;injection I8 with h1;exact ho _ _ h1.symm
theorem Wx.QO{e:TypeId}{B wb n:Nat}{w w':World}{v:Value}{xs:List Value}(h:G w w' v.ownBlock)(jK:px w B e v n xs)(hB:B≤w.heap.size):Wx e B wb w w':=
 ⟨h.os,h.tape,h.output,h.size,hB,fun j hj=>h.block j (Nat.lt_of_lt_of_le hj hB) (fun q=>by have:=(jK.lt j q.symm).1;omega),
   fun j o ho _ I4=>(h.block j (Has.lt ho) (fun q=>Lp jK ho I4 j q.symm rfl)).trans ho⟩
theorem Wx.QP{e:TypeId}{B wb n:Nat}{w w' ny:World}{v:Value}{xs:List Value}(h:Wx e B wb w w')(k:G w' ny v.ownBlock)(jK:px w' B e v n xs):Wx e B wb w ny:=h.trans (Wx.QO k jK (Nat.le_trans h.base h.size))
section
variable {P:Program} {Q:Exit→Act→World→Prop} {w:World} {ops:Array Oper} {b:Nat→Value} {n:Nat} {l:List (Nat×Value)} {d:List Deferred} {K:Act→World→Prop}
end
section
variable {P:Program} {Q:Exit→Act→World→Prop} {w:World} {ops:Array Oper} {b:Nat→Value} {n:Nat} {l:List (Nat×Value)} {d:List Deferred} {K:Act→World→Prop}
def G_(P:Program)(s:TypeId)(f off:Nat):Bool:=
 match P.underlying s with
 |some (.struct fs)=>match fs[f]? with
   |some fl=>Nat.beq fl.offset off&&(match P.info? fl.type with
     |some i=>Nat.blt 0 i.size
     |none=>false)
   |none=>false
 |_=>false
theorem nK{o : Oper}{s : TypeId}{x : Operand}{f : Nat}(hop : o.op = .fieldAddr s x f)(a : Addr)(hx : ev b n l x = .pointer (some a))(off : Nat)(h : G_ P s f off = true) :
   (execOp (ev b n l) o).run P w=.ok (.value (.pointer (some (a.add off)))) w:=by
 unfold G_ at h;cases hu:P.underlying s with
 |none=>simp[hu] at h
 |some AO=>
   rw[hu] at h;cases AO with
   |struct fs=>
     simp only at h;cases hf:fs[f]? with
     |none=>simp[hf] at h
     |some fl=>
       rw[hf] at h;simp only at h;cases hi:P.info? fl.type with
       |none=>simp[hi] at h
       |some i=>
         rw[hi] at h;simp only[Bool.and_eq_true] at h;have h1:=Nat.eq_of_beq_eq_true h.1;have h2:¬i.size=0:=by have:=Nat.le_of_ble_eq_true h.2;omega
         unfold execOp;simp [hop,hx,Instr.fieldAt,Instr.sureAddr,fieldPlace,underlying,hu,hf,sizeOf,typeInfo,hi,h1,h2,Sem.run_bind,go_sem]
   |_=>simp at h
theorem CU{i : Nat}{o : Oper}{s x : Operand}{t : TypeId}(ho : ops[i]? = some o)(hg : Region.wanted o (yl ops b n l) = true)
   (hop:o.op=.call { callee:=.builtin .append,args:=#[s,x],argTypes:=#[t,t] }) (e:TypeId) (size bytes:Nat) (ht:P.underlying t=some (.slice e))
   (hi:(P.info? e).map (fun i=>(i.zero.map (·.cells.size),i.size,i.bytes))=some (some size,size,bytes)) (zG:Nat.blt 0 size=true)
   (base:Nat) {v:Value} {m:Nat} {xs:List Value} (hs:ev b n l s=v) (jK:w.ownsRow base e size v m xs)
   {bk:Nat} (off k' c:Nat) (hx:ev b n l x=.slice (some ⟨bk,off,none⟩) k' c) {cs:Array Value} {e':TypeId} {fr:Nat×Nat} (hb:Has w bk (.cells cs e' fr))
   (news:List Value) (hn:(cs.toList.drop off).take (k'*size)=news) (hl:news.length=k'*size) (h1:∀u∈news,u.oneCell'=true)
   (h63:m+k'≤maxLen) (VD:(m+k')*bytes≤140737488355328) (ZQ:base≤w.heap.size)
   (k:∀v' w',w'.ownsRow base e size v' (m+k') (xs++news)→G w w' v.ownBlock→(v'.ownBlock=v.ownBlock∨v'.ownBlock=some w.heap.size)→K (Fr b n (gE o v' l) d) w'):wpOp P ops Q i K (Fr b n l d) w:=by
 cases eE:P.info? e with
 |none=>simp[eE] at hi
 |some info=>
   simp only[eE,Option.map_some,Option.some.injEq,Prod.mk.injEq,Option.map_eq_some_iff] at hi;obtain ⟨⟨z,hz,TR⟩,ZR,hby⟩:=hi;have hc:∀j,w.cell? ⟨bk,j,none⟩=cs[j]?:=fun j=>cell_of_row w bk j cs e' fr hb;have E4:∀j u,news[j]?=some u→w.cell? ((⟨bk,off,none⟩:Addr).add j)=some u:=fun j u hu=>by
     have Vz:(⟨bk,off,none⟩:Addr).add j=⟨bk,off+j,none⟩:=by unfold Addr.add;split<;>simp_all
     rw[Vz,hc];rw [← hn,List.getElem?_take] at hu;split at hu
     · rw[List.getElem?_drop] at hu;simpa using hu
     · cases hu
   obtain⟨v',w',nL,zJ,TS,_,VE⟩:=run_append_own_at (P:=P) w base t o.type e info z size bytes ht eE hz ZR hby TR (Nat.le_of_ble_eq_true zG) v m xs jK ⟨bk,off,none⟩ k' c news
     hl E4 h1 h63 VD ZQ
   refine AK ho hg ?_ (k v' w' zJ TS VE);unfold execOp;simp [hop,hs,hx,resolve,invoke,builtin,Sem.run_bind,nL]
end
theorem aa{w:World}{a:Addr}{n:Nat}{row:List Value}(h:w.cells? 0 a n=some row)(off m:Nat)(hm:Nat.ble (off+m) n=true):w.cells? 0 (a.add off) m=some ((row.drop off).take m):=by
 have hm:=Nat.le_of_ble_eq_true hm;obtain ⟨_,hl,hc⟩:=World.cells?_some h;by_cases h0:m=0
 · subst h0;simp[World.cells?]
 · have hs : a.spot = none := by
     have:=hc 0 (by omega);have h1:row[0]?=some (row[0]'(by omega)):=List.getElem?_eq_getElem (by omega);rw [show a.add 0=a by simp[Addr.add],h1] at this;exact World.cell?_spot this
   have e:∀j,a.add j=⟨a.block,a.off+j,none⟩:=fun j=>by
     obtain⟨b,o,s⟩:=a;simp only at hs;subst hs;unfold Addr.add;split
     · rename_i q;simp[q]
     · rfl
   rw[e off];refine ChangeShapes.cells?_of (Nat.zero_le _) (by rw[List.length_take,List.length_drop];omega) (fun j hj=>?_);have:=hc (off+j) (by omega);rw [e,←Nat.add_assoc] at this;rw [this,List.getElem?_take,if_pos hj,List.getElem?_drop]
theorem k1{a b:Int}(h:(a==b)=true):a=b:=by simpa using h
theorem k0{a b:Int}(h:(a==b)=false):¬a=b:=by simpa using h
end Go.Gx
namespace Go.fO
open Go.Lex
inductive Nd where
 |mk (k a:Nat) (nm:ByteArray) (n:Int) (ks:List Nd)
def Nd.k:Nd→Nat|.mk k _ _ _ _=>k
def Nd.a:Nd→Nat|.mk _ a _ _ _=>a
def Nd.nm:Nd→ByteArray|.mk _ _ x _ _=>x
def Nd.n:Nd→Int|.mk _ _ _ n _=>n
def Nd.ks:Nd→List Nd|.mk _ _ _ _ l=>l
def gF:Nd:=.mk 0 0 (bY []) 0 []
def two(x:ByteArray)(a b:Nd):Nd:=.mk 18 a.a x 0 [a,b]
structure Rs where
 k:Nat
 a:Nat
 t:ByteArray
 n:Nat
 e:Nat
 fk:Nat
 fa:Nat
 x:Nat
 y:Nat
def okB(q:Rs):Bool:=(q.fk:Int)==(0:Int)
def bw(q:Rs)(s:ByteArray):Bool:=okB q&&(((q.k:Int)==(3:Int))||((q.k:Int)==(4:Int)))&&(q.t.toList==s.toList)
def eu(q:Rs):Bool:=okB q&&((q.k:Int)==(2:Int))
def Ja(q:Rs):Bool:=okB q&&(((q.k:Int)==(2:Int))||((q.k:Int)==(1:Int))||bw q (bY [126])||bw q (bY [116,114,117,101])||bw q (bY [102,97,108,115,101])||bw q (bY [40])||bw q (bY [91]))
def bU(S:ByteArray)(q:Rs):Rs:=if okB q=true then⟨(next S q.e).kind,(next S q.e).at_,(next S q.e).text,(next S q.e).n,(next S q.e).nx,(next S q.e).fk,(next S q.e).fa,q.x,q.y⟩ else q
def qh(q:Rs):Rs:=if okB q=true then { q with fk:=4,fa:=q.a } else q
def aO(S:ByteArray)(q:Rs)(s:ByteArray):Rs:=if bw q s=true then bU S q else q
def aK(S:ByteArray)(q:Rs)(s:ByteArray):Rs:=if bw q s=true then bU S q else qh q
def bK(S:ByteArray)(q:Rs):(ByteArray×Nat)×Rs:=if eu q=true then((q.t,q.a),bU S q) else(((bY []),0),qh q)
inductive NT where
 |qQ|pair|some|jn (a:Nd)|l_ (l:List Nd)|expr|any|params (sign:ByteArray) (first:Bool)|Jb (at_:Nat)|cases (at_:Nat)|handle (at_:Nat)|qR (l:List Nd)
 |comp|cons|sum|vF (a:Nd)|mul|mulL (a:Nd)|app|AQ (a:Nd)|atom|round (at_:Nat)|qi (at_:Nat)|jx (l:List Nd)|prog|opsL (l:List Nd)|qS (n:Nat) (l:List Nd)
section
variable (S:ByteArray) (R:NT→Rs→Nd×Rs)
def Ew(a:Nd)(q1:Rs):Nd×Rs:=
 let q2:=aO S q1 (bY [45,62])
 if bw q1 (bY [45,62])=true then
   let r:=R .qQ q2
   (.mk 29 a.a (bY []) 0 [a,r.1],r.2)
 else
   let q3:=aO S q2 (bY [45])
   if bw q2 (bY [45])=true then
     let q4:=aK S q3 (bY [123])
     let r4:=R (.l_ []) q4
     let q5:=aK S r4.2 (bY [125])
     let q6:=aK S q5 (bY [45,62])
     let r6:=R .qQ q6
     (.mk 29 a.a (bY []) 0 ([a,r6.1]++r4.1.ks),r6.2)
   else(a,q3)
def vG(q:Rs):Nd×Rs:=
 if okB q=true then
   if decide ((q.y:Int)≥(200:Int))=true then(gF,{ q with fk:=5,fa:=q.a })
   else
     let r1:=R .pair { q with y:=q.y+1 }
     let r:=Ew S R r1.1 r1.2
     (r.1,{ r.2 with y:=r.2.y-1 })
 else(gF,q)
def ma(l:List Nd)(q:Rs):Nd×Rs:=
 let r:=bK S q
 let q1:=aO S r.2 (bY [44])
 if bw r.2 (bY [44])=true then R (.l_ (l++[.mk 23 r.1.2 r.1.1 0 []])) q1 else(.mk 0 0 (bY []) 0 (l++[.mk 23 r.1.2 r.1.1 0 []]),q1)
def vH(q:Rs):Nd×Rs:=
 let r1:=R .some q
 let q2:=aO S r1.2 (bY [42])
 if bw r1.2 (bY [42])=true then
   let r2:=R .pair q2
   (.mk 28 r1.1.a (bY []) 0 [r1.1,r2.1],r2.2)
 else(r1.1,q2)
def py(q:Rs):Nd×Rs:=
 let q1:=aO S q (bY [105,110,116])
 if bw q (bY [105,110,116])=true then R (.jn (.mk 24 q.a (bY []) 0 [])) q1 else
 let q2:=aO S q1 (bY [98,111,111,108])
 if bw q1 (bY [98,111,111,108])=true then R (.jn (.mk 25 q.a (bY []) 0 [])) q2 else
 let q3:=aO S q2 (bY [117,110,105,116])
 if bw q2 (bY [117,110,105,116])=true then R (.jn (.mk 26 q.a (bY []) 0 [])) q3 else
 let q4:=aO S q3 (bY [40])
 if bw q3 (bY [40])=true then
   let r:=R .qQ q4
   R (.jn r.1) (aK S r.2 (bY [41]))
 else R (.jn gF) (qh q4)
def qj(a:Nd)(q:Rs):Nd×Rs:=
 let q1:=aO S q (bY [108,105,115,116])
 if bw q (bY [108,105,115,116])=true then R (.jn (.mk 27 a.a (bY []) 0 [a])) q1 else(a,q1)
def qT(q:Rs):Nd×Rs:=
 if okB q=true then
   if decide ((q.x:Int)≥(200:Int))=true then(gF,{ q with fk:=5,fa:=q.a })
   else
     let r1:=R .any { q with x:=q.x+1 }
     (r1.1,{ r1.2 with x:=r1.2.x-1 })
 else(gF,q)
def anyS(q:Rs):Nd×Rs:=
 let q1:=aO S q (bY [108,101,116])
 if bw q (bY [108,101,116])=true then R (.Jb q.a) q1 else
 let q2:=aO S q1 (bY [102,110])
 if bw q1 (bY [102,110])=true then
   let r:=R (.params (bY [61,62]) true) q2
   (.mk r.1.k q.a r.1.nm r.1.n r.1.ks,r.2)
 else
 let q3:=aO S q2 (bY [105,102])
 if bw q2 (bY [105,102])=true then
   let ra:=R .expr q3
   let qa:=aK S ra.2 (bY [116,104,101,110])
   let rb:=R .expr qa
   let qb:=aK S rb.2 (bY [101,108,115,101])
   let rc:=R .expr qb
   (.mk 11 q.a (bY []) 0 [ra.1,rb.1,rc.1],rc.2)
 else
 let q4:=aO S q3 (bY [99,97,115,101])
 if bw q3 (bY [99,97,115,101])=true then R (.cases q.a) q4 else
 if bw q4 (bY [104,97,110,100,108,101])=true then R (.handle q.a) q4 else
 if bw q4 (bY [115,104,97,108,108,111,119])=true then R (.handle q.a) q4 else
 let r:=R .comp q4
 let q5:=aO S r.2 (bY [59])
 if bw r.2 (bY [59])=true then
   let r2:=R .expr q5
   (.mk 10 r.1.a (bY []) 0 [r.1,r2.1],r2.2)
 else(r.1,q5)
def kQ(sign:ByteArray)(q:Rs):Nd×Rs:=
 let r:=bK S q
 if okB r.2=true then
   let r2:=R (.params sign false) r.2
   (.mk 7 r.1.2 r.1.1 0 [r2.1],r2.2)
 else(gF,r.2)
def kE(sign:ByteArray)(first:Bool)(q:Rs):Nd×Rs:=
 if first=true then kQ S R sign q else if eu q=true then kQ S R sign q else R .expr (aK S q sign)
def AR(at_:Nat)(n:Int)(f:Bool)(q1:Rs):Nd×Rs:=
 let r:=bK S q1
 let r2:=R (.params (bY [61]) f) r.2
 let q3:=aK S r2.2 (bY [105,110])
 let r4:=R .expr q3
 (.mk 9 at_ r.1.1 n [r2.1,r4.1],r4.2)
def E5(at_:Nat)(q:Rs):Nd×Rs:=
 let q1:=aO S q (bY [114,101,99])
 if bw q (bY [114,101,99])=true then AR S R at_ 1 true q1 else AR S R at_ 0 false q1
def sE(at_:Nat)(q:Rs):Nd×Rs:=
 let r:=R .expr q
 let q1:=aK S r.2 (bY [111,102])
 let q2:=aK S q1 (bY [91])
 let q3:=aK S q2 (bY [93])
 let q4:=aK S q3 (bY [61,62])
 let r5:=R .expr q4
 let q6:=aK S r5.2 (bY [124])
 let r7:=bK S q6
 let q8:=aK S r7.2 (bY [58,58])
 let r9:=bK S q8
 let sF:=aK S r9.2 (bY [61,62])
 let ZS:=R .expr sF
 let Jc:=aK S ZS.2 (bY [101,110,100])
 (.mk 17 at_ (bY []) 0 [r.1,r5.1,.mk 23 r7.1.2 r7.1.1 0 [],.mk 23 r9.1.2 r9.1.1 0 [],ZS.1],Jc)
def pB(at_:Nat)(n:Int)(q1:Rs):Nd×Rs:=
 let r:=R .expr q1
 let q2:=aK S r.2 (bY [119,105,116,104])
 let q3:=aK S q2 (bY [123])
 let q4:=aK S q3 (bY [114,101,116,117,114,110])
 let r5:=bK S q4
 let q6:=aK S r5.2 (bY [61,62])
 let r7:=R .expr q6
 let r8:=R (.qR [r.1,.mk 21 q3.a r5.1.1 0 [r7.1]]) r7.2
 let q9:=aK S r8.2 (bY [125])
 (.mk 20 at_ (bY []) n r8.1.ks,q9)
def mb(at_:Nat)(q:Rs):Nd×Rs:=
 let q1:=aO S q (bY [104,97,110,100,108,101])
 if bw q (bY [104,97,110,100,108,101])=true then pB S R at_ 0 q1 else pB S R at_ 1 (bU S q1)
def ql(l:List Nd)(q:Rs):Nd×Rs:=
 let q1:=aO S q (bY [124])
 if bw q (bY [124])=true then
   let r2:=bK S q1
   let r3:=bK S r2.2
   let r4:=bK S r3.2
   let q5:=aK S r4.2 (bY [61,62])
   let r6:=R .expr q5
   R (.qR (l++[.mk 22 r2.1.2 r2.1.1 0 [.mk 23 r3.1.2 r3.1.1 0 [],.mk 23 r4.1.2 r4.1.1 0 [],r6.1]])) r6.2
 else(.mk 0 0 (bY []) 0 l,q1)
def tE(q:Rs):Nd×Rs:=
 let r:=R .cons q
 let q1:=aO S r.2 (bY [61,61])
 if bw r.2 (bY [61,61])=true then
   let r2:=R .cons q1
   (two (bY [61,61]) r.1 r2.1,r2.2)
 else
 let q2:=aO S q1 (bY [60])
 if bw q1 (bY [60])=true then
   let r2:=R .cons q2
   (two (bY [60]) r.1 r2.1,r2.2)
 else(r.1,q2)
def vI(q:Rs):Nd×Rs:=
 let r:=R .sum q
 let q1:=aO S r.2 (bY [58,58])
 if bw r.2 (bY [58,58])=true then
   let r2:=R .cons q1
   (.mk 16 r.1.a (bY []) 0 [r.1,r2.1],r2.2)
 else(r.1,q1)
def Jd(q:Rs):Nd×Rs:=
 let r:=R .mul q
 R (.vF r.1) r.2
def tF(a:Nd)(q:Rs):Nd×Rs:=
 let q1:=aO S q (bY [43])
 if bw q (bY [43])=true then
   let r:=R .mul q1
   R (.vF (two q.t a r.1)) r.2
 else
 let q2:=aO S q1 (bY [45])
 if bw q1 (bY [45])=true then
   let r:=R .mul q2
   R (.vF (two q.t a r.1)) r.2
 else(a,q2)
def Je(q:Rs):Nd×Rs:=
 let r:=R .app q
 R (.mulL r.1) r.2
def vJ(a:Nd)(q:Rs):Nd×Rs:=
 let q1:=aO S q (bY [42])
 if bw q (bY [42])=true then
   let r:=R .app q1
   R (.mulL (two (bY [42]) a r.1)) r.2
 else(a,q1)
def AS(q:Rs):Nd×Rs:=
 let q1:=aO S q (bY [100,111])
 if bw q (bY [100,111])=true then
   let r:=bK S q1
   let r2:=R .atom r.2
   (.mk 19 q.a r.1.1 0 [r2.1],r2.2)
 else
 let q2:=aO S q1 (bY [102,115,116])
 if bw q1 (bY [102,115,116])=true then
   let r:=R .atom q2
   (.mk 13 q.a (bY []) 0 [r.1],r.2)
 else
 let q3:=aO S q2 (bY [115,110,100])
 if bw q2 (bY [115,110,100])=true then
   let r:=R .atom q3
   (.mk 14 q.a (bY []) 0 [r.1],r.2)
 else
 let r:=R .atom q3
 R (.AQ r.1) r.2
def vK(a:Nd)(q:Rs):Nd×Rs:=
 if Ja q=true then
   let r:=R .atom q
   R (.AQ (.mk 8 a.a (bY []) 0 [a,r.1])) r.2
 else(a,q)
def mV(q:Rs)(q1:Rs):Nd×Rs:=
 if okB q1=true then
   if((q1.k:Int) != (1:Int))=true then(.mk 3 q.a (bY []) (-(q1.n:Int)) [],bU S (qh q1))
   else(.mk 3 q.a (bY []) (-(q1.n:Int)) [],bU S q1)
 else(.mk 3 q.a (bY []) (-(q1.n:Int)) [],bU S q1)
def gT(q:Rs):Nd×Rs:=
 if okB q=true then
   if((q.k:Int)==(2:Int))=true then(.mk 6 q.a q.t 0 [],bU S q) else
   if((q.k:Int)==(1:Int))=true then(.mk 3 q.a (bY []) (q.n:Int) [],bU S q) else
   let q1:=aO S q (bY [126])
   if bw q (bY [126])=true then mV S q q1 else
   let q2:=aO S q1 (bY [116,114,117,101])
   if bw q1 (bY [116,114,117,101])=true then(.mk 4 q.a (bY []) 1 [],q2) else
   let q3:=aO S q2 (bY [102,97,108,115,101])
   if bw q2 (bY [102,97,108,115,101])=true then(.mk 4 q.a (bY []) 0 [],q3) else
   let q4:=aO S q3 (bY [40])
   if bw q3 (bY [40])=true then R (.round q.a) q4 else
   let q5:=aO S q4 (bY [91])
   if bw q4 (bY [91])=true then R (.qi q.a) q5 else
   (gF,qh q5)
 else(gF,q)
def nM(at_:Nat)(q:Rs):Nd×Rs:=
 let q1:=aO S q (bY [41])
 if bw q (bY [41])=true then(.mk 5 at_ (bY []) 0 [],q1) else
 let r:=R .expr q1
 let q2:=aO S r.2 (bY [44])
 if bw r.2 (bY [44])=true then
   let r2:=R .expr q2
   let q3:=aK S r2.2 (bY [41])
   (.mk 12 at_ (bY []) 0 [r.1,r2.1],q3)
 else(r.1,aK S q2 (bY [41]))
def zK(x e:Nd):Nd:=.mk 16 x.a (bY []) 0 [x,e]
def AT(at_:Nat)(l:List Nd):Nd:=l.foldr zK (.mk 15 at_ (bY []) 0 [])
def mc(at_:Nat)(q:Rs):Nd×Rs:=
 let q1:=aO S q (bY [93])
 if bw q (bY [93])=true then(.mk 15 at_ (bY []) 0 [],q1) else
 let r:=R (.jx []) q1
 (AT at_ r.1.ks,aK S r.2 (bY [93]))
def jL(l:List Nd)(q:Rs):Nd×Rs:=
 let r:=R .expr q
 let q1:=aO S r.2 (bY [44])
 if bw r.2 (bY [44])=true then R (.jx (l++[r.1])) q1 else(.mk 0 0 (bY []) 0 (l++[r.1]),q1)
def sG(l:List Nd)(at_:Nat)(n:Int)(q2:Rs):Nd×Rs:=
 let r:=bK S q2
 let q3:=aK S r.2 (bY [58])
 let ra:=R .qQ q3
 let q4:=aK S ra.2 (bY [61,62])
 let rb:=R .qQ q4
 R (.opsL (l++[.mk 1 at_ r.1.1 n [ra.1,rb.1]])) rb.2
def qU(l:List Nd)(q:Rs):Nd×Rs:=
 if bw q (bY [111,112])=true then
   let q1:=bU S q
   if bw q1 (bY [111,110,99,101])=true then sG S R l q.a 1 (bU S q1)
   else if bw q1 (bY [109,97,110,121])=true then sG S R l q.a 0 (bU S q1)
   else sG S R l q.a 0 (qh q1)
 else(.mk 0 0 (bY []) (l.length:Int) l,q)
def pC(n0:Nat)(l:List Nd)(at_:Nat)(n:Int)(q2:Rs):Nd×Rs:=
 let r:=bK S q2
 let r2:=R (.params (bY [61]) true) r.2
 R (.qS n0 (l++[.mk 2 at_ r.1.1 n [r2.1]])) r2.2
def nN(n0:Nat)(l:List Nd)(q:Rs):Nd×Rs:=
 if bw q (bY [100,101,102])=true then
   let q1:=bU S q
   let q2:=aO S q1 (bY [114,101,99])
   if bw q1 (bY [114,101,99])=true then pC S R n0 l q.a 1 q2 else pC S R n0 l q.a 0 q2
 else(.mk 0 0 (bY []) (n0:Int) l,q)
def zL(q:Rs):Nd×Rs:=
 let r:=R (.opsL []) q
 let r2:=R (.qS r.1.ks.length r.1.ks) r.2
 let q3:=aK S r2.2 (bY [109,97,105,110])
 let q4:=aK S q3 (bY [61])
 let r5:=R .expr q4
 (.mk 0 0 (bY []) (r.1.ks.length:Int) (r2.1.ks++[r5.1]),r5.2)
def aB(nt:NT)(q:Rs):Nd×Rs:=
 match nt with
 |.qQ=>vG S R q
 |.pair=>vH S R q
 |.some=>py S R q
 |.jn a=>qj S R a q
 |.l_ l=>ma S R l q
 |.expr=>qT R q
 |.any=>anyS S R q
 |.params s f=>kE S R s f q
 |.Jb a=>E5 S R a q
 |.cases a=>sE S R a q
 |.handle a=>mb S R a q
 |.qR l=>ql S R l q
 |.comp=>tE S R q
 |.cons=>vI S R q
 |.sum=>Jd R q
 |.vF a=>tF S R a q
 |.mul=>Je R q
 |.mulL a=>vJ S R a q
 |.app=>AS S R q
 |.AQ a=>vK R a q
 |.atom=>gT S R q
 |.round a=>nM S R a q
 |.qi a=>mc S R a q
 |.jx l=>jL S R l q
 |.prog=>zL S R q
 |.opsL l=>qU S R l q
 |.qS n l=>nN S R n l q
end
def run(S:ByteArray):Nat→NT→Rs→Nd×Rs
 |0=>fun _ q=>(gF,qh q)
 |k+1=>aB S (run S k)
def M(S:ByteArray)(q:Rs):Nat:=if q.fk≠0 then 0 else if q.k=0 then 1 else S.size+2-q.e
structure Ok (S:ByteArray) (q:Rs):Prop where
 size:S.size≤3000
 e:q.e≤S.size
 x:q.x≤200
 y:q.y≤200
 a:q.a≤S.size
 n:q.n≤9223372036854775807
 t:q.t.size≤S.size
 k:q.k≤4
 end_:q.fk=0→q.k=0→q.e=S.size
 nm:q.fk=0→q.k=2→0<q.t.size
 sg:q.fk=0→q.k=4→ax (Gx.ae q.t 0)=false
structure Tr (S:ByteArray) (q q':Rs):Prop where
 ok:Ok S q'
 m:M S q'≤M S q
 x:q'.x=q.x
 y:q'.y=q.y
 fk:q.fk≠0→q'=q
theorem Tr.refl{S:ByteArray}{q:Rs}(h:Ok S q):Tr S q q:=⟨h,Nat.le_refl _,rfl,rfl,fun _=>rfl⟩
theorem Tr.trans{S:ByteArray}{q q' q'':Rs}(h:Tr S q q')(k:Tr S q' q''):Tr S q q'':=
 ⟨k.ok,Nat.le_trans k.m h.m,k.x.trans h.x,k.y.trans h.y,fun f=>by
   have:=h.fk f;subst this
   exact k.fk f⟩
theorem kF(q:Rs):okB q=true↔q.fk=0:=by simp[okB]
theorem Lq{q:Rs}{s:ByteArray}(h:bw q s=true):q.fk=0∧(q.k=3∨q.k=4)∧q.t=s:=by
 simp only[bw,okB,Bool.and_eq_true,Bool.or_eq_true,beq_iff_eq] at h;refine ⟨by omega,by omega,g_ h.2⟩
theorem CV{S:ByteArray}{j:Nat}(hj:j<S.size):Gx.ae (S.extract j (j+ch S j)) 0=Gx.ae S j:=by
 have h1:0<ch S j:=by unfold ch;split<;>omega
 have TT:j<S.data.size:=hj;unfold Gx.ae;rw [ByteArray.data_extract,Array.getElem?_extract];simp only[Nat.add_zero];rw [if_pos (by omega)]
theorem Jf{S : ByteArray}{j : Nat}(hs : S.size ≤ 3000)(hj : j < S.size) : ((cx S j).fk ≠ 0 → (cx S j).nx ≤ S.size) ∧ (cx S j).at_ ≤ S.size ∧ (cx S j).n ≤ 9223372036854775807 ∧ (cx S j).text.size ≤ S.size ∧ (cx S j).kind ≤ 4 ∧
   ((cx S j).fk=0→(cx S j).kind≠0)∧((cx S j).fk=0→(cx S j).kind=2→0<(cx S j).text.size)∧((cx S j).fk=0→(cx S j).kind=4→ax (Gx.ae (cx S j).text 0)=false):=by
 have hex:∀a b,(S.extract a b).size≤S.size:=fun a b=>by rw[ByteArray.size_extract];omega
 have he:(bY []).size≤S.size:=Nat.zero_le _;unfold cx;split
 · unfold qP;split
   · rename_i a2;unfold dq at a2;simp only[Bool.and_eq_true,decide_eq_true_eq] at a2;exact ⟨fun f=>absurd rfl f,Nat.le_of_lt hj,a2.2,he,by show(1:Nat)≤4;omega,(fun _ f=>by cases f),(fun _ f=>by cases f),(fun _ f=>by cases f)⟩
   · exact⟨fun _=>Nat.zero_le _,Nat.zero_le _,Nat.zero_le _,he,Nat.zero_le _,(fun f=>by cases f),(fun f=>by cases f),(fun f=>by cases f)⟩
 · split
   · rename_i hl;have hlen : 0 < (S.extract j (stop (fun c => ax c || ah c) S j)).size := by
       have h1:stop (fun c=>ax c||ah c) S j=stop (fun c=>ax c||ah c) S (j+1):=eO hj (by simp[hl]);have h2:=cy (fun c=>ax c||ah c) S (j+1);have h3:=di (fun c=>ax c||ah c) S j (by omega);rw [nI h3];omega
     unfold nameAt;split
     · exact⟨fun _=>Nat.zero_le _,Nat.zero_le _,Nat.zero_le _,he,Nat.zero_le _,(fun f=>by cases f),(fun f=>by cases f),(fun f=>by cases f)⟩
     · exact⟨fun f=>absurd rfl f,Nat.le_of_lt hj,Nat.zero_le _,hex _ _,by dsimp only;split<;>omega,(fun _ f=>by dsimp only at f;split at f<;>omega),(fun _ _=>hlen),(fun _ f=>by dsimp only at f;split at f<;>omega)⟩
   · split
     · rename_i hl _;refine ⟨fun f=>absurd rfl f,Nat.le_of_lt hj,Nat.zero_le _,hex _ _,by show(4:Nat)≤4;omega,(fun _ f=>by cases f),(fun _ f=>by cases f),(fun _ _=>?_)⟩;show ax (Gx.ae (S.extract j (j+ch S j)) 0)=false;rw [CV hj];simpa using hl
     · exact⟨fun _=>Nat.zero_le _,Nat.zero_le _,Nat.zero_le _,he,Nat.zero_le _,(fun f=>by cases f),(fun f=>by cases f),(fun f=>by cases f)⟩
theorem qm{S : ByteArray}{i : Nat}(hs : S.size ≤ 3000)(hi : i ≤ S.size) : (next S i).nx ≤ S.size ∧ (next S i).at_ ≤ S.size ∧ (next S i).n ≤ 9223372036854775807 ∧ (next S i).text.size ≤ S.size ∧ (next S i).kind ≤ 4 ∧
   ((next S i).fk=0→(next S i).kind=0→(next S i).nx=S.size)∧((next S i).fk=0→(next S i).kind≠0→i<(next S i).nx)∧((next S i).fk=0→(next S i).kind=2→0<(next S i).text.size)∧((next S i).fk=0→(next S i).kind=4→ax (Gx.ae (next S i).text 0)=false):=by
 have hp:=fun a b=>jG (s:=S) (i:=i) hi a b;by_cases dO:pass S i<S.size
 · have e:next S i=cx S (pass S i):=by unfold next;rw[if_pos dO]
   have p:=Jf hs dO;rw [e] at hp ⊢;refine ⟨?_,p.2.1,p.2.2.1,p.2.2.2.1,p.2.2.2.2.1,fun a b=>absurd b (p.2.2.2.2.2.1 a),fun a b=>(hp a b).1,p.2.2.2.2.2.2.1,p.2.2.2.2.2.2.2⟩;by_cases f:(cx S (pass S i)).fk=0
   · exact(hp f (p.2.2.2.2.2.1 f)).2
   · exact p.1 f
 · have e:next S i=⟨0,S.size,⟨#[]⟩,0,S.size,0,0⟩:=by unfold next;rw[if_neg dO]
   rw[e];exact ⟨Nat.le_refl _,Nat.le_refl _,Nat.zero_le _,Nat.zero_le _,Nat.zero_le _,fun _ _=>rfl,fun _ f=>absurd rfl f,(fun _ f=>by cases f),(fun _ f=>by cases f)⟩
theorem Jg{S:ByteArray}:next S S.size=⟨0,S.size,⟨#[]⟩,0,S.size,0,0⟩:=by
 unfold next
 rw[nG (by omega),if_neg (by omega)]
theorem qV{S:ByteArray}{q:Rs}(h:Ok S q):Tr S q (bU S q):=by
 by_cases f:okB q=true
 · have p:=qm h.size h.e;have f0:=(kF q).1 f;unfold bU;rw [if_pos f];refine ⟨⟨h.size,p.1,h.x,h.y,p.2.1,p.2.2.1,p.2.2.2.1,p.2.2.2.2.1,p.2.2.2.2.2.1,p.2.2.2.2.2.2.2.1,p.2.2.2.2.2.2.2.2⟩,?_,rfl,rfl,fun g=>absurd f0 g⟩;by_cases hk:q.k=0
   · have he:=h.end_ f0 hk;rw [he,Jg];unfold M;simp [f0,hk]
   · have hM:M S q=S.size+2-q.e:=by unfold M;simp[f0,hk]
     rw[hM];have he:=h.e;unfold M;dsimp only;split
     · omega
     · split
       · omega
       · have:=p.2.2.2.2.2.2.1 (by omega) (by omega);omega
 · unfold bU;rw [if_neg f];exact Tr.refl h
theorem qW{S:ByteArray}{q:Rs}(h:Ok S q)(f0:q.fk=0)(hk:q.k≠0):M S (bU S q)<M S q:=by
 have p:=qm h.size h.e;have f:=(kF q).2 f0;have hM:M S q=S.size+2-q.e:=by unfold M;simp[f0,hk]
 have he:=h.e;unfold bU;rw [if_pos f,hM];unfold M;dsimp only;split
 · omega
 · split
   · omega
   · have:=p.2.2.2.2.2.2.1 (by omega) (by omega);omega
theorem CW{S:ByteArray}{q:Rs}(h:Ok S q):Tr S q (qh q):=by
 unfold qh;split
 · rename_i f;exact ⟨⟨h.size,h.e,h.x,h.y,h.a,h.n,h.t,h.k,(fun g=>by cases g),(fun g=>by cases g),(fun g=>by cases g)⟩,by simp[M],rfl,rfl,fun g=>absurd ((kF q).1 f) g⟩
 · exact Tr.refl h
theorem vL{S:ByteArray}{q:Rs}{s:ByteArray}(h:Ok S q):Tr S q (aO S q s):=by
 unfold aO;split
 · exact qV h
 · exact Tr.refl h
theorem Ha{S:ByteArray}{q:Rs}{s:ByteArray}(h:Ok S q):Tr S q (aK S q s):=by
 unfold aK;split
 · exact qV h
 · exact CW h
theorem Hb{S:ByteArray}{q:Rs}(h:Ok S q):Tr S q (bK S q).2:=by
 unfold bK;split
 · exact qV h
 · exact CW h
theorem sH{S:ByteArray}{q:Rs}{s:ByteArray}(h:Ok S q)(hi:bw q s=true):M S (aO S q s)<M S q:=by
 have:=Lq hi;unfold aO;rw[if_pos hi];exact qW h this.1 (by omega)
theorem is_lt{S:ByteArray}{q:Rs}{s:ByteArray}(h:Ok S q)(hi:bw q s=true):M S (bU S q)<M S q:=by
 have:=Lq hi;exact qW h this.1 (by omega)
theorem ZT{q:Rs}(h:okB (qh q)=true):False:=by
 unfold qh at h;split at h
 · simp[okB] at h
 · rename_i f;exact f h
theorem QQ{S:ByteArray}{q:Rs}(h:Ok S q)(hi:okB (bK S q).2=true):M S (bK S q).2<M S q:=by
 unfold bK at hi ⊢;split
 · rename_i f;simp only[eu,Bool.and_eq_true,beq_iff_eq] at f;exact qW h ((kF q).1 f.1) (by omega)
 · rename_i f;rw [if_neg f] at hi;exact (ZT hi).elim
section
variable {S:ByteArray} {R:NT→Rs→Nd×Rs} (hR:∀nt q,Ok S q→Tr S q (R nt q).2)
theorem bR{q q1:Rs}{nt:NT}(hR:∀nt q,Ok S q→Tr S q (R nt q).2)(h:Tr S q q1):Tr S q (R nt q1).2:=h.trans (hR _ _ h.ok)
theorem ZU{q q1:Rs}{s:ByteArray}(h:Tr S q q1):Tr S q (aO S q1 s):=h.trans (vL h.ok)
theorem TU{q q1:Rs}{s:ByteArray}(h:Tr S q q1):Tr S q (aK S q1 s):=h.trans (Ha h.ok)
theorem TV{q q1:Rs}(h:Tr S q q1):Tr S q (bK S q1).2:=h.trans (Hb h.ok)
theorem Lr{q q1:Rs}(h:Tr S q q1):Tr S q (bU S q1):=h.trans (qV h.ok)
theorem bNo{q q1:Rs}(h:Tr S q q1):Tr S q (qh q1):=h.trans (CW h.ok)
theorem Hc{q:Rs}(h:Ok S q)(f:okB q=true):Tr S q { q with fk:=5,fa:=q.a }:=
 ⟨⟨h.size,h.e,h.x,h.y,h.a,h.n,h.t,h.k,(fun g=>by cases g),(fun g=>by cases g),(fun g=>by cases g)⟩,by simp[M],rfl,rfl,fun g=>absurd ((kF q).1 f) g⟩
theorem ZV{q q1:Rs}{a:Nd}(hR:∀nt q,Ok S q→Tr S q (R nt q).2)(h:Tr S q q1):Tr S q (Ew S R a q1).2:=by
 unfold Ew;dsimp only;repeat' split
 all_goals (with_reducible (repeat (first|exact h|apply bR hR|apply TU|apply ZU|apply TV)))
theorem QR(hR:∀nt q,Ok S q→Tr S q (R nt q).2)(nt:NT)(q:Rs)(h:Ok S q):Tr S q (aB S R nt q).2:=by
 have h0:=Tr.refl h;cases nt;case qQ=>
   show Tr S q (vG S R q).2;unfold vG;split
   · rename_i f;split
     · exact Hc h f
     · rename_i g;have hy:q.y<200:=by simp at g;omega
       have o1:Ok S { q with y:=q.y+1 }:=⟨h.size,h.e,h.x,by show q.y+1≤200;omega,h.a,h.n,h.t,h.k,h.end_,h.nm,h.sg⟩;have t1:Tr S { q with y:=q.y+1 } (Ew S R (R .pair { q with y:=q.y+1 }).1 (R .pair { q with y:=q.y+1 }).2).2:=ZV hR (bR hR (Tr.refl o1));have o2:=t1.ok;have e1:=t1.y;dsimp only at e1 ⊢;refine ⟨⟨o2.size,o2.e,o2.x,by have:=o2.y;dsimp only;omega,o2.a,o2.n,o2.t,o2.k,o2.end_,o2.nm,o2.sg⟩,t1.m,t1.x,by dsimp only;omega,fun z=>absurd ((kF q).1 f) z⟩
   · exact h0
 case expr=>
   show Tr S q (qT R q).2;unfold qT;split
   · rename_i f;split
     · exact Hc h f
     · rename_i g;have hy:q.x<200:=by simp at g;omega
       have o1:Ok S { q with x:=q.x+1 }:=⟨h.size,h.e,by show q.x+1≤200;omega,h.y,h.a,h.n,h.t,h.k,h.end_,h.nm,h.sg⟩;have t1:Tr S { q with x:=q.x+1 } (R .any { q with x:=q.x+1 }).2:=bR hR (Tr.refl o1);have o2:=t1.ok;have e1:=t1.x;dsimp only at e1 ⊢;refine ⟨⟨o2.size,o2.e,by have:=o2.x;dsimp only;omega,o2.y,o2.a,o2.n,o2.t,o2.k,o2.end_,o2.nm,o2.sg⟩,t1.m,by dsimp only;omega,t1.y,fun z=>absurd ((kF q).1 f) z⟩
   · exact h0
 all_goals (simp only[aB,vH,py,qj,ma,anyS,kQ,kE,AR,E5,sE,pB,mb,ql,tE,vI,Jd,tF,Je,vJ,AS,vK,mV,gT,nM,mc,jL,sG,qU,pC,nN,zL])
 all_goals (repeat' split)
 all_goals (with_reducible (repeat (first|exact h0|apply bR hR|apply TU|apply ZU|apply TV|apply Lr|apply bNo)))
end
theorem Ls{S:ByteArray}(k:Nat):∀(nt:NT)(q:Rs),Ok S q→Tr S q (run S k nt q).2:=by
 induction k with
 |zero=>exact fun _ _ h=>CW h
 |succ k ih=>exact fun nt q h=>QR ih nt q h
theorem Jh{S:ByteArray}{k:Nat}{nt:NT}{q q':Rs}{t:Nd}(h:Ok S q)(e:run S k nt q=(t,q')):Tr S q q':=by
 have:=Ls k nt q h;rw [e] at this;exact this
theorem QS{S:ByteArray}{k:Nat}{q q':Rs}{t:Nd}(h:Ok S q)(hk:0<k)(hb:Ja q=true)(e:run S k .atom q=(t,q')):M S q'<M S q:=by
 obtain⟨j,rfl⟩:∃j,k=j+1:=⟨k-1,by omega⟩;have e1:q'=(gT S (run S j) q).2:=by
   have:run S (j+1) .atom q=gT S (run S j) q:=rfl;rw [← this,e]
 have hR:=Ls (S:=S) j;have I8:=hb;unfold Ja at I8;simp only[Bool.and_eq_true] at I8;obtain ⟨f,I8⟩:=I8;have f0:=(kF q).1 f;have no:∀s,¬bw q s=true→aO S q s=q:=fun s hn=>by unfold aO;rw[if_neg hn]
 rw[e1];unfold gT;rw [if_pos f];by_cases h2:((q.k:Int)==(2:Int))=true
 · rw[if_pos h2];simp only[beq_iff_eq] at h2;exact qW h f0 (by omega)
 · rw[if_neg h2];by_cases h1:((q.k:Int)==(1:Int))=true
   · rw[if_pos h1];simp only[beq_iff_eq] at h1;exact qW h f0 (by omega)
   · rw[if_neg h1];simp only[Bool.or_eq_true] at I8;dsimp only;by_cases c1:bw q (bY [126])=true
     · rw [if_pos c1];have l := sH h c1;have o := (vL (s := (bY [126])) h);have : Tr S q (mV S q (aO S q (bY [126]))).2 ∧ M S (mV S q (aO S q (bY [126]))).2 ≤ M S (aO S q (bY [126])) := by
         have o1:=Tr.refl o.ok;unfold mV;repeat' split
         all_goals exact⟨by repeat (first|exact o|apply Lr|apply bNo),by apply Tr.m;repeat (first|exact o1|apply Lr|apply bNo)⟩
       omega
     · rw[if_neg c1,no _ c1];by_cases c2:bw q (bY [116,114,117,101])=true
       · rw[if_pos c2];exact sH h c2
       · rw[if_neg c2,no _ c2];by_cases c3:bw q (bY [102,97,108,115,101])=true
         · rw[if_pos c3];exact sH h c3
         · rw[if_neg c3,no _ c3];by_cases c4:bw q (bY [40])=true
           · rw[if_pos c4];have:=sH h c4;have:=(hR (.round q.a) _ (vL (s:=(bY [40])) h).ok).m;omega
           · rw[if_neg c4,no _ c4];by_cases c5:bw q (bY [91])=true
             · rw[if_pos c5];have:=sH h c5;have:=(hR (.qi q.a) _ (vL (s:=(bY [91])) h).ok).m;omega
             · simp_all
theorem Lt{S:ByteArray}{q:Rs}(h:Ok S q):M S q≤3002:=by
 have:=h.size;unfold M;split
 · omega
 · split<;>omega
theorem ai(S:ByteArray)(k:Nat)(nt:NT)(q:Rs):run S (k+1) nt q=aB S (run S k) nt q:=rfl
def QT:Rs:=⟨0,0,(bY []),0,0,0,0,0,0⟩
def CX:Nat:=48100
def iA(q:Rs):Rs:=if okB q=true then(if ((q.k:Int) != (0:Int))=true then qh q else q) else q
def iX(s:ByteArray):Nd×Nat×Nat:=
 if s.size>3000 then(gF,1,0) else
 let r:=run s CX .prog (bU s QT)
 let q:=iA r.2
 if okB q=true then(r.1,0,0) else(gF,q.fk,q.fa)
theorem Lu{S:ByteArray}(h:S.size≤3000):Ok S (bU S QT):=by
 have p:=qm h (Nat.zero_le S.size);show Ok S (bU S QT);unfold bU;rw [if_pos (by decide)];exact ⟨h,p.1,Nat.zero_le _,Nat.zero_le _,p.2.1,p.2.2.1,p.2.2.2.1,p.2.2.2.2.1,p.2.2.2.2.2.1,p.2.2.2.2.2.2.2.1,p.2.2.2.2.2.2.2.2⟩
def vM(t:Nd)(A:Option Addr)(c:Nat):List Value:=[.int .i64 (t.k:Int),.int .i64 (t.a:Int),.string t.nm,.int .i64 t.n,.slice A t.ks.length c]
inductive KV (Q:Nat→Prop) (w:World):List Nd→Option Addr→Nat→Prop
 | mk {ks : List Nd} {A : Option Addr} {c : Nat} (As : Nat → Option Addr) (cs : Nat → Nat) (hc : ks.length ≤ c) (hl : ks.length ≤ maxLen) (hA : ∀ i, i < ks.length → ∃ a, A = some a ∧ Q a.block)
     (hr:Gx.Rd w A ks.length 5 (fun i=>vM (ks.getD i gF) (As i) (cs i))) (h:∀i,i<ks.length→KV Q w (ks.getD i gF).ks (As i) (cs i)):KV Q w ks A c
theorem CY{w w':World}{a:Addr}{n:Nat}{cs:List Value}(h:w.cells? 0 a n=some cs)(x:w'.heap[a.block]?=w.heap[a.block]?):w'.cells? 0 a n=some cs:=by
 have e:(fun i=>w'.cell? (a.add i))=fun i=>w.cell? (a.add i):=funext fun i=>by
   unfold World.cell?;have:(a.add i).block=a.block:=by unfold Addr.add;split<;>rfl
   rw[this,x]
 unfold World.cells? at h ⊢;rw [e];exact h
theorem KV.frame{Q:Nat→Prop}{w w':World}{ks:List Nd}{A:Option Addr}{c:Nat}(h:KV Q w ks A c)(x:∀j,Q j→j<w.heap.size→w'.heap[j]?=w.heap[j]?):KV Q w' ks A c:=by
 induction h with
 |@mk ks A c As cs hc hl hA hr _ ih=>
   refine .mk As cs hc hl hA (fun i hi=>?_) (fun i hi=>ih i hi);obtain ⟨a,ha,hq⟩:=hA i hi;obtain ⟨a',Lv,hc⟩:=hr i hi;rw [ha] at Lv;cases Lv;have hb:=World.cells?_block hc (by decide);have e:(a.add (i*5)).block=a.block:=by unfold Addr.add;split<;>rfl
   rw[e] at hb;exact ⟨a,ha,CY hc (by rw[e];exact x _ hq hb)⟩
theorem KV.mono{Q Q':Nat→Prop}{w:World}{ks:List Nd}{A:Option Addr}{c:Nat}(h:KV Q w ks A c)(x:∀j,Q j→j<w.heap.size→Q' j):KV Q' w ks A c:=by
 induction h with
 |@mk ks A c As cs hc hl hA hr _ ih=>
   refine .mk As cs hc hl (fun i hi=>?_) hr (fun i hi=>ih i hi);obtain ⟨a,ha,hq⟩:=hA i hi;obtain ⟨a',Lv,hc⟩:=hr i hi;rw [ha] at Lv;cases Lv;have hb:=World.cells?_block hc (by decide);have e:(a.add (i*5)).block=a.block:=by unfold Addr.add;split<;>rfl
   rw[e] at hb;exact ⟨a,ha,x _ hq hb⟩
theorem KV.nil{Q:Nat→Prop}{w:World}{A:Option Addr}{c:Nat}:KV Q w [] A c:=
 .mk (fun _=>none) (fun _=>0) (Nat.zero_le _) (Nat.zero_le _) (fun i h=>absurd h (Nat.not_lt_zero i)) (fun i h=>absurd h (Nat.not_lt_zero i)) (fun i h=>absurd h (Nat.not_lt_zero i))
section
variable {lo hi lo' oN k:Nat} {X X':List Nat} {w w':World} {ks:List Nd} {A:Option Addr} {c:Nat}
end
section
variable {lo hi lo' k:Nat} {X X':List Nat} {w w':World} {ks:List Nd} {A:Option Addr} {c:Nat} {v v':Value}
end
def iT(L:List (Nd×Option Addr×Nat)):List Nd:=L.map (·.1)
theorem QU(L M:List (Nd×Option Addr×Nat)):iT (L++M)=iT L++iT M:=by simp[iT]
theorem Lw(p:Nd×Option Addr×Nat)(L:List (Nd×Option Addr×Nat)):iT (p::L)=p.1::iT L:=rfl
theorem QV:iT []=[]:=rfl
theorem fT(L:List (Nd×Option Addr×Nat)):(iT L).length=L.length:=by simp[iT]
theorem maps : (∀ L M : List (Nd × Option Addr × Nat), iT (L ++ M) = iT L ++ iT M) ∧ (∀(p : Nd × Option Addr × Nat)(L : List (Nd × Option Addr × Nat)), iT (p :: L) = p.1 :: iT L) ∧ iT [] = [] ∧ (∀ L : List (Nd × Option Addr × Nat), (iT L).length = L.length) ∧
   (∀l:List Nd,[]++l=l)∧(∀(a:Nd)(l m:List Nd),(a::l)++m=a::(l++m))∧(∀l m r:List Nd,(l++m)++r=l++(m++r))∧
   (∀l:List (Nd×Option Addr×Nat),[]++l=l)∧(∀(a:Nd×Option Addr×Nat)(l m:List (Nd×Option Addr×Nat)),(a::l)++m=a::(l++m))∧(∀l m r:List (Nd×Option Addr×Nat),(l++m)++r=l++(m++r)):=
 ⟨QU,Lw,QV,fT,fun _=>rfl,fun _ _ _=>rfl,List.append_assoc,fun _=>rfl,fun _ _ _=>rfl,List.append_assoc⟩
def flat(L:List (Nd×Option Addr×Nat)):List Value:=L.flatMap (fun p=>vM p.1 p.2.1 p.2.2)
theorem nO(L:List (Nd×Option Addr×Nat)):(flat L).length=L.length*5:=by
 induction L with
 |nil=>rfl
 |cons p r ih=>simp only[flat,List.flatMap_cons,List.length_append] at ih ⊢;rw[ih];simp[vM];omega
theorem fD(L:List (Nd×Option Addr×Nat))(p:Nd×Option Addr×Nat):flat (L++[p])=flat L++vM p.1 p.2.1 p.2.2:=by simp[flat]
theorem QW(L:List (Nd×Option Addr×Nat))(i:Nat)(h:i<L.length)(d:Nd×Option Addr×Nat):((flat L).drop (i*5)).take 5=vM (L.getD i d).1 (L.getD i d).2.1 (L.getD i d).2.2:=by
 induction L generalizing i with
 |nil=>simp at h
 |cons p r ih=>
   cases i with
   |zero=>simp[flat,vM]
   |succ i=>
     have:=ih i (by simpa using h);simp only[List.getD_cons_succ];rw [← this];simp only[flat,List.flatMap_cons];rw [show (i+1)*5=5+i*5 by omega,List.drop_append,List.drop_eq_nil_of_le (by simp[vM]),List.nil_append];simp [vM]
theorem Ji{w : World}{b m i : Nat}{cs : Array Value}{t : TypeId}{fr : Nat × Nat}{row : List Value}(h : Gx.Has w b (.cells cs t fr))(VF : (cs.toList.drop (i * m)).take m = row)(hm : row.length = m) :
   w.cells? 0 ((⟨b,0,none⟩:Addr).add (i*m)) m=some row:=by
 have e:(⟨b,0,none⟩:Addr).add (i*m)=⟨b,i*m,none⟩:=by
   unfold Addr.add;split
   · rename_i q;rw[q]
   · simp
 rw[e];refine ChangeShapes.cells?_of (Nat.zero_le _) hm (fun j hj=>?_);unfold World.cell?;unfold Gx.Has at h;rw [h];show cs[i*m+j]?=row[j]?;rw [← VF,List.getElem?_take,if_pos hj,List.getElem?_drop,Array.getElem?_toList]
theorem KV.Ly{Q : Nat → Prop}{w : World}{kb n : Nat}{cs : Array Value}{e : TypeId}{fr : Nat × Nat}(L : List (Nd × Option Addr × Nat))(hb : Gx.Has w kb (.cells cs e fr))(hn : cs.toList.take n = flat L)(hQ : Q kb)
   (hk:∀p∈L,KV Q w p.1.ks p.2.1 p.2.2) {c:Nat} (hc:L.length≤c:=by first|decide|simp) (hl:L.length≤maxLen:=by simp[maxLen]):KV Q w (iT L) (some ⟨kb,0,none⟩) c:=by
 have hg:∀i,i<L.length→(iT L).getD i gF=(L.getD i (gF,none,0)).1:=fun i hi=>by
   unfold iT;rw[List.getD_eq_getElem?_getD,List.getD_eq_getElem?_getD,List.getElem?_map,List.getElem?_eq_getElem hi];rfl
 refine .mk (fun i=>(L.getD i (gF,none,0)).2.1) (fun i=>(L.getD i (gF,none,0)).2.2) (by rw[fT];exact hc) (by rw[fT];exact hl) (fun i hi=>⟨_,rfl,hQ⟩) (fun i hi=>⟨_,rfl,Ji hb ?_ (by simp[vM])⟩) (fun i hi=>?_)
 · have oN:i<L.length:=by simpa [iT] using hi
   have hle:(i+1)*5≤n∧(i+1)*5≤cs.toList.length:=by
     have h1:(cs.toList.take n).length=L.length*5:=by rw[hn,nO]
     rw[List.length_take] at h1;omega
   show _=vM ((iT L).getD i gF) _ _;rw [hg i oN,←QW L i oN,←hn];rw [List.drop_take,List.take_take];congr 1;omega
 · have oN:i<L.length:=by simpa [iT] using hi
   rw[hg i oN];have hm:L.getD i (gF,none,0)∈L:=by
     rw[List.getD_eq_getElem?_getD,List.getElem?_eq_getElem oN];exact List.getElem_mem oN
   exact hk _ hm
theorem KV.VG{Q : Nat → Prop}{w : World}{base n : Nat}{e : TypeId}{v : Value}(L : List (Nd × Option Addr × Nat))(h : w.ownsRow base e 5 v n (flat L))(hQ : ∀ j, v.ownBlock = some j → Q j)(hk : ∀ p ∈ L, KV Q w p.1.ks p.2.1 p.2.2) :
   ∃A c,v=.slice A (iT L).length c∧KV Q w (iT L) A c:=by
 obtain⟨h1,h2⟩:=h;have hn:n=L.length:=by rw[nO] at h1;omega
 rcases h2 with⟨rfl,rfl⟩|⟨g,cap,cur,rfl,hb,hg,zH,Lz,zG,ZW⟩
 · have:L=[]:=List.length_eq_zero_iff.1 hn.symm;subst this;exact ⟨none,0,rfl,.nil⟩
 · exact⟨some ⟨g,0,none⟩,cap,by rw[fT,hn],.Ly L hg ZW (hQ g rfl) hk (by omega) (by omega)⟩
theorem KV.at_{Q:Nat→Prop}{w:World}{ks:List Nd}{A:Option Addr}{c:Nat}(h:KV Q w ks A c):∃(As:Nat→Option Addr) (cs:Nat→Nat),Gx.Rd w A ks.length 5 (fun i=>vM (ks.getD i gF) (As i) (cs i))∧∀i,i<ks.length→KV Q w (ks.getD i gF).ks (As i) (cs i):=by
 cases h with
 |mk As cs hc hl hA hr hk=>exact⟨As,cs,hr,hk⟩
theorem KV.cap{Q:Nat→Prop}{w:World}{ks:List Nd}{A:Option Addr}{c:Nat}(h:KV Q w ks A c):ks.length≤c:=by
 cases h with
 |mk As cs hc hl hA hr hk=>exact hc
theorem KV.max{Q:Nat→Prop}{w:World}{ks:List Nd}{A:Option Addr}{c:Nat}(h:KV Q w ks A c):ks.length≤maxLen:=by
 cases h with
 |mk As cs hc hl hA hr hk=>exact hl
section
variable {w w' ny:World} {b j:Nat}
end
theorem LA(L:List (Nd×Option Addr×Nat)):∀u∈flat L,u.oneCell'=true:=by
 intro u hu;simp only[flat,List.mem_flatMap,vM,List.mem_cons,List.not_mem_nil,or_false] at hu;obtain ⟨p,_,h⟩:=hu;rcases h with rfl|rfl|rfl|rfl|rfl<;>rfl
end Go.fO
namespace Go.aS
abbrev Nm:=ByteArray
def KG(a b:Nm):Bool:=Go.Op.bytesLess a.data.toList b.data.toList||(a.data.toList==b.data.toList)
def ee(a b:Nm):Bool:=a.data.toList==b.data.toList
structure G where
 kind:List Nat
 a:List (Option Nat)
 b:List (Option Nat)
 row:List Nat
 link:List (Option Nat)
 ops:List (List Nm)
 next:List (Option Nat)
 tv:List (Int×Nat)
 rv:List (Int×Nat)
def wN{β:Type}(n:Nat)(k:Nat→β):β:=match n with
 |0=>k 0
 |m+1=>k (m+1)
def wO{β:Type}(o:Option Nat)(k:Option Nat→β):β:=match o with
 |none=>k none
 |some n=>wN n fun n=>k (some n)
def wL{α β:Type}:List α→(List α→β)→β
 |[],k=>k []
 |x::l,k=>wL l fun l=>k (x::l)
theorem lD{β:Type}(n:Nat)(k:Nat→β):wN n k=k n:=by cases n<;>rfl
theorem nP{β:Type}(o:Option Nat)(k:Option Nat→β):wO o k=k o:=by cases o<;>simp[wO,lD]
theorem mH{α β:Type}(l:List α)(k:List α→β):wL l k=k l:=by
 induction l generalizing k with
 |nil=>rfl
 |cons x l ih=>simp[wL,ih]
def QX:Nat:=1000000000
def G.new:G:=⟨[],[],[],[],[],[[]],[some 0],[],[]⟩
def G.put(g:G)(kd:Nat)(a b:Option Nat)(r:Nat):Option (G×Nat):=
 if g.kind.length<QX then wO a fun a=>wO b fun b=>wN r fun r=>wN g.kind.length fun n=>wL (g.kind++[kd]) fun k'=>wL (g.a++[a]) fun a'=>wL (g.b++[b]) fun b'=>wL (g.row++[r]) fun r'=>wL (g.link++[none]) fun l'=>
   some (⟨k',a',b',r',l',g.ops,g.next,g.tv,g.rv⟩,n) else none
def G.putRow(g:G)(l:List Nm)(nx:Option Nat):Option (G×Nat):=
 if g.ops.length<QX then wL l fun l=>wO nx fun nx=>wN g.ops.length fun n=>wL (g.ops++[l]) fun o'=>wL (g.next++[nx]) fun n'=>some (⟨g.kind,g.a,g.b,g.row,g.link,o',n',g.tv,g.rv⟩,n) else none
def G.var(g:G):Option (G×Nat):=g.put 0 none none 0
def G.gu(g:G):Option (G×Nat):=g.putRow [] none
def find:Nat→G→Nat→Option Nat
 |0,_,_=>none
 |k+1,g,n=>match g.link[n]? with
   |some (some m)=>find k g m
   |some none=>some n
   |none=>none
def iY:List Nm→Nm→List Nm
 |[],s=>[s]
 |x::l,s=>if KG x s then x::iY l s else s::x::l
def fX(l:List Nm):List Nm→List Nm
 |[]=>l
 |s::r=>fX (iY l s) r
def whole:Nat→G→Nat→List Nm→Option (List Nm×Nat)
 |0,_,_,_=>none
 |k+1,g,r,acc=>match g.ops[r]? with
   |some l=>if acc.length+l.length<QX then(match g.next[r]? with
     |some none=>some (fX acc l,r)
     |some (some 0)=>some (fX acc l,0)
     |some (some (q+1))=>whole k g (q+1) (fX acc l)
     |none=>none) else none
   |none=>none
def dt(s:Nm):List (Nm×Bool)→Option Nat
 |[]=>none
 |(x,u)::r=>if !u&&ee x s then some 0 else(dt s r).map (·+1)
def pD:List Nm→List (Nm×Bool)→List Nm
 |[],_=>[]
 |s::a,b=>match dt s b with
   |none=>s::pD a b
   |some j=>pD a (b.set j (s,true))
def less(a b:List Nm):List Nm:=pD a (b.map fun x=>(x,false))
def G.eY(g:G)(v:Nat)(l:List Nm)(nx:Option Nat):G:=wN v fun v=>wL l fun l=>wO nx fun nx=>wL (g.ops.set v l) fun o'=>wL (g.next.set v nx) fun n'=>⟨g.kind,g.a,g.b,g.row,g.link,o',n',g.tv,g.rv⟩
def G.ZX(g:G)(m n:Nat):G:=wN m fun m=>wN n fun n=>wL (g.link.set m (some n)) fun l'=>⟨g.kind,g.a,g.b,g.row,l',g.ops,g.next,g.tv,g.rv⟩
def ik(k:Nat)(g:G)(r s:Nat):Option (G×Bool):=
 match whole k g r [],whole k g s [] with
 |some (a,v),some (b,w)=>
   let d:=less a b
   let e:=less b a
   if v=w then some (g,d.isEmpty&&e.isEmpty)
   else if(v==0&&!e.isEmpty)||(w==0&&!d.isEmpty) then some (g,false)
   else if v=0 then some (g.eY w d (some 0),true)
   else if w=0 then some (g.eY v e (some 0),true)
   else match g.gu with
     |some (g,x)=>some ((g.eY v e (some x)).eY w d (some x),true)
     |none=>none
 |_,_=>none
def same:Nat→G→Nat→Nat→Option (G×Bool)
 |0,_,_,_=>none
 |k+1,g,m,n=>match find k g m,find k g n with
   |some m,some n=>
     if m=n then some (g,true) else
     match g.kind[m]?,g.kind[n]? with
     |some km,some kn=>
       if km=0 then some (g.ZX m n,true)
       else if kn=0 then some (g.ZX n m,true)
       else if km≠kn then some (g,false)
       else
         let g:=g.ZX m n
         let arg (g:G) (x y:Option (Option Nat)):Option (G×Bool):=match x,y with
           |some none,_=>some (g,true)
           |some (some p),some (some q)=>same k g p q
           |_,_=>none
         match arg g g.a[m]? g.a[n]? with
         |some (g,false)=>some (g,false)
         |some (g,true)=>match arg g g.b[m]? g.b[n]? with
           |some (g,false)=>some (g,false)
           |some (g,true)=>if km=6 then(match g.row[m]?,g.row[n]? with
             |some r,some s=>ik k g r s
             |_,_=>none) else some (g,true)
           |none=>none
         |none=>none
     |_,_=>none
   |_,_=>none
abbrev Seen:=List (Nat×Nat)
def Seen.at(s:Seen)(n:Nat):Nat:=match s with
 |[]=>0
 |(m,v)::r=>if m=n then v else Seen.at r n
def Seen.put(s:Seen)(n v:Nat):Seen:=match s with
 |[]=>[(n,v)]
 |(m,u)::r=>if m=n then(n,v)::r else(m,u)::Seen.put r n v
def round:Nat→G→Nat→Seen→Option (Bool×Seen)
 |0,_,_,_=>none
 |k+1,g,n,s=>match find k g n with
   |some n=>
     if 0<s.at n then some (s.at n==1,s) else
     let s:=s.put n 1
     let arg (x:Option (Option Nat)) (s:Seen):Option (Bool×Seen):=match x with
       |some none=>some (false,s)
       |some (some m)=>round k g m s
       |none=>none
     match arg g.a[n]? s with
     |some (true,s)=>some (true,s)
     |some (false,s)=>match arg g.b[n]? s with
       |some (true,s)=>some (true,s)
       |some (false,s)=>some (false,s.put n 2)
       |none=>none
     |none=>none
   |none=>none
def parts:Nat→G→Nat→Seen→Option (Nat×Seen)
 |0,_,_,_=>none
 |k+1,g,n,s=>match find k g n with
   |some n=>
     if 0<s.at n then some (s.at n,s) else
     let arg (x:Option (Option Nat)) (c:Nat) (s:Seen):Option (Nat×Seen):=match x with
       |some none=>some (c,s)
       |some (some m)=>match parts k g m s with
         |some (j,s)=>some (c+j,s)
         |none=>none
       |none=>none
     match arg g.a[n]? 1 s with
     |some (c,s)=>match arg g.b[n]? c s with
       |some (c,s)=>
         let own:Option Nat:=match g.kind[n]? with
           |some 6=>(match g.row[n]? with
             |some r=>(whole k g r []).map fun p=>p.1.length
             |none=>none)
           |some _=>some 0
           |none=>none
         match own with
         |some j=>if c+j≤2147483647 then some (min (c+j) 1000000,s.put n (min (c+j) 1000000)) else none
         |none=>none
       |none=>none
     |none=>none
   |none=>none
inductive Ty
 |mk (kind n row:Nat) (ops:List Nm) (args:List Ty)
def Ty.kind:Ty→Nat|.mk k _ _ _ _=>k
structure gG where
 t:List (Int×Nat)
 r:List (Int×Nat)
def c0(n:Int):List (Int×Nat)→Option Nat
 |[]=>none
 |(m,v)::r=>if m=n then some v else c0 n r
def hJ(m:List (Int×Nat))(n:Nat):List (Int×Nat)×Nat:=match c0 n m with
 |some k=>(m,k)
 |none=>(m++[((n:Int),m.length+1)],m.length+1)
def told:Nat→G→Nat→gG→Option (Ty×gG)
 |0,_,_,_=>none
 |k+1,g,n,l=>match find k g n with
   |some n=>match g.kind[n]? with
     |some 0=>if l.t.length<QX then(let (t,c):=hJ l.t n;some (.mk 0 c 0 [] [],{ l with t:=t })) else none
     |some kd=>
       let arg (x:Option (Option Nat)) (l:gG):Option (List Ty×gG):=match x with
         |some none=>some ([],l)
         |some (some m)=>match told k g m l with
           |some (t,l)=>some ([t],l)
           |none=>none
         |none=>none
       match arg g.a[n]? l with
       |some (ta,l)=>
         let rw:Option (List Nm×Nat×gG):=if kd=6 then(match g.row[n]? with
           |some r=>(match whole k g r [] with
             |some (ops,0)=>some (ops,0,l)
             |some (ops,v+1)=>if l.r.length<QX then(let (t,c):=hJ l.r (v+1);some (ops,c,{ l with r:=t })) else none
             |none=>none)
           |none=>none) else some ([],0,l)
         match rw with
         |some (ops,c,l)=>match arg g.b[n]? l with
           |some (tb,l)=>some (.mk kd 0 c ops (ta++tb),l)
           |none=>none
         |none=>none
       |none=>none
     |none=>none
   |none=>none
def tG:Nat→G→Ty→Option (G×Nat)
 |0,_,_=>none
 |k+1,g,.mk kd n row ops args=>
   if kd=0 then(match c0 n g.tv with
     |some m=>some (g,m)
     |none=>match g.var with
       |some (g,m)=>some ({ g with tv:=g.tv++[((n:Int),m)] },m)
       |none=>none)
   else
     let arg (g:G) (x:Option Ty):Option (G×Option Nat):=match x with
       |none=>some (g,none)
       |some t=>match tG k g t with
         |some (g,m)=>some (g,some m)
         |none=>none
     match arg g args[0]? with
     |some (g,a)=>match arg g args[1]? with
       |some (g,b)=>
         if kd=6 then
           let nx:Option (G×Nat):=if 0<row then(match c0 row g.rv with
             |some m=>some (g,m)
             |none=>match g.gu with
               |some (g,m)=>some ({ g with rv:=g.rv++[((row:Int),m)] },m)
               |none=>none) else some (g,0)
           match nx with
           |some (g,m)=>match g.putRow ops (some m) with
             |some (g,r)=>g.put kd a b r
             |none=>none
           |none=>none
         else g.put kd a b 0
       |none=>none
     |none=>none
end Go.aS
