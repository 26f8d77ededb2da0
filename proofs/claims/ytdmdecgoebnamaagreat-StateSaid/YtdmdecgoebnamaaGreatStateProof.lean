/- The law State returns true of every number and every list: what is got and put by a text of the prelude, in any order, is what the document says. There are no conditions. -/
import Derived.Test.YtdmdecgoebnamaaGreatYb
import Derived.Test.YtdmdecgoebnamaaGreatTd
import Derived.Test.YtdmdecgoebnamaaGreatRows
import Derived.Deep.Slices
import Derived.WalkKit
import Derived.ProofKit
import Derived.OpenShut
import Derived.ShutString
set_option linter.unusedVariables false
set_option linter.unusedSimpArgs false
namespace Go.Proofs.YtdmdecgoebnamaaGreat.state
open Go.ChangeShapes Go.WideShapes Go.ChangeAt Go.RowKit Go.Deep
open Go.WideMaps Go.WideElems
theorem own:ownKnob Tryz.prog.godebug=none:=by kernel_rfl
theorem laidOut:laidOutB Tryz.prog=true:=by kernel_rfl
theorem c3:Tryz.prog.cellsOf 3=1:=by kernel_rfl
theorem sy{H : Type}{enc : TypeId × Value -> H}{P : Program}(hl : laidOutB P = true){W W' : Ψ}(hb : Below W.heap.size W W') :
   ∀(ts:List TypeId)(vs:Θ)(ds:List (DataW H))(ps:List MemPlace),(∀t∈ts,P.readableRec t=true/\t<P.types.size)->(∀x∈ps,x.block<W.heap.size)->
     DataW.TrodAll enc P W 0 (fun _=>true) true ts vs ds ps->DataW.TrodAll enc P W' 0 (fun b=>decide (b<W.heap.size)) true ts vs ds ps
 |[],[],[],_,_,_,h=>h
 |t::ts,v::vs,d::ds,ps,hr,eK,h=>by
   obtain⟨p,q,h1,h2,e⟩:=h;subst e
   exact⟨p,q,Below.trod hl (hr t (by simp)).1 (hr t (by simp)).2 h1 hb (fun x hx=>eK x (List.mem_append_left _ hx)),
     sy hl hb ts vs ds q (fun u hu=>hr u (by simp[hu])) (fun x hx=>eK x (List.mem_append_right _ hx)) h2,rfl⟩
 |[],_::_,_,_,_,_,h=>h.elim
 |[],[],_::_,_,_,_,h=>h.elim
 |_::_,[],_,_,_,_,h=>h.elim
 |_::_,_::_,[],_,_,_,h=>h.elim
theorem N7{H : Type}{enc : TypeId × Value -> H}{w : Ψ}{sp : Nat -> Bool}{held : Bool}{fuel : Nat}{v : Value}{x : DataW H × List MemPlace}(h : DataW.trod enc Tryz.prog w 0 sp held fuel 25 [v] = some x) :
   ∃(A:Ω) (n c:Nat) (lv:Nat->Int),v=.slice A n c/\n<=c/\Gx.Rd w A n 1 (fun i=>[.int .i64 (lv i)]):=by
 rcases open_slice Tryz.underlying25 h with⟨hn,_⟩|⟨a,len,cap,m,n,D,Pl,hc,_,hl,_,hm,rfl,hx⟩
 . injection hn with hn;exact⟨none,0,0,fun _=>0,hn,Nat.le_refl _,fun i hi=>absurd hi (Nat.not_lt_zero i)⟩
 . injection hc with hc;have hlm:len<=m:=by rw[hm];split<;>omega
   have hk:∀i,i<len->∃p:Int,w.cells? 0 (a.add (i*1)) 1=some [.int .i64 p]:=fun i hi=>by
     obtain⟨cs,h1,h2⟩:=hx i (by omega);rw[c3] at h1;obtain⟨x0,k0,_,_⟩:=DataW.trod_int Tryz.underlying3 h2;subst k0;exact⟨x0,h1⟩
   refine⟨some a,len,cap,fun i=>if hi:i<len then(hk i hi).choose else 0,by simpa using hc,hl,fun i hi=>⟨a,rfl,?_⟩⟩;simp only[dif_pos hi];exact(hk i hi).choose_spec
set_option maxRecDepth 100000 in
theorem adt:(aR.wg dy.N.pS).size<=1500:=Nat.le_of_ble_eq_true (by kernel_rfl)
set_option maxRecDepth 100000 in
attribute [local irreducible] Go.Calls in
theorem call{H : Type}{enc : TypeId × Value -> H}(W : Ψ)(u v : Value)(d d' : DataW H)(p p' : List MemPlace)(K : Ending -> Ψ -> Prop)
   (base:Nat) (hu:Value.okWide Tryz.prog W .any base 3 u) (hv:Value.okWide Tryz.prog W .any base 25 v) (h:DataW.Trod enc Tryz.prog W 0 (fun _=>true) true 25 v d' p') (hK:∀W',Gx.Ext W W'->K (.returned (.bool true)) W'):Calls Tryz.prog 4 #[u,v] W K:=by
 obtain⟨fuel,h1⟩:=h;obtain⟨z,rfl⟩:=okWide_int Tryz.underlying3 hu;obtain⟨A0,n0,c0,rfl⟩:=okWide_slice Tryz.underlying25 hv;obtain⟨A,n,c,lv,e0,Bl,hR⟩:=N7 h1;rw[e0];refine Mr.XV z A n c lv W _ (Sx.ads W) Bl hR adt (fun W' hH=>hK W' ?_);exact Sx.Kp.ext (hH.kp.mono fun x hx=>by obtain⟨it,hi,hw,_⟩:=hx;rw[List.mem_singleton.1 hi] at hw;cases hw)
set_option maxRecDepth 100000 in
theorem lifted(os : Os)(started : os.Started)(H : Type)(enc : TypeId × Value -> H) :
   ReturnsInHanded {} Tryz.checked os 4 .any (Rows.stateSpec.pre6 enc Tryz.prog Tryz.f4 Rows.stateRow.domain false) (Rows.stateSpec.post enc Tryz.prog Tryz.f4 false true false false):=by
 refine returnsInHanded_of_change (C:=Tryz.checked) own started (by kernel_rfl) Tryz.func4
   (ChangeSpec.witness6 (enc:=enc) (C:=Tryz.checked) false ⟨#[],#[.int .i64 0,.slice none 0 0],[]⟩ 8 (by kernel_rfl) (by kernel_rfl) (by kernel_rfl) (by kernel_rfl)) ?_
 intro W base args ds gs before aiM hW aws _;have adu:∀(j:Nat) t v,Tryz.f4.params[j]?=some t->args[j]?=some v->Value.okWide Tryz.prog W .any base t v:=aiM;have hW':=hW;have eK:=hW.lt;obtain⟨p,q,hA0,hV,rfl,hfz,hnd⟩:=hW;have hA:DataW.TrodAll enc Tryz.prog W 0 (fun _=>true) true Tryz.f4.params.toList args.toList ds p:=hA0;have hAk:=hA;rw[Tryz.params4] at hA adu;obtain⟨v0,v1,d0,d1,p0,p1,rfl,rfl,rfl,h0,h1⟩:=trodAll_two hA;obtain⟨rfl,rfl⟩:=trodVars_none hV;refine call W v0 v1 d0 d1 p0 p1 _ base (adu 0 3 v0 rfl rfl) (adu 1 25 v1 rfl rfl) h1 (fun W' hb=>?_)
 exact⟨_,rfl,_,_,_,[],p0++p1,[],hW',trodAll_mk1 (shut_bool Tryz.underlying4 true),
   sy laidOut hb.below _ _ _ _ (by rw[Tryz.params4];intro t ht;simp at ht;rcases ht with rfl|rfl<;>exact⟨by kernel_rfl,of_decide_eq_true (by kernel_rfl)⟩) (fun x hx=>eK x (by simpa using hx)) hAk,rfl,hb.below.frame _,fun h=>by cases h⟩
theorem aoX:Rows.stateRow.holds Tryz.pinned (OpenSpec.ofChange Rows.stateSpec):=
 OpenClaim.holds_of_wide 4 Tryz.f4 rfl rfl rfl rfl rfl rfl rfl ⟨rfl,rfl,rfl,rfl,rfl⟩ rfl rfl rfl rfl rfl (by kernel_rfl) Tryz.func4 (by kernel_rfl)
   (of_decide_eq_true (by kernel_rfl)) (by unfold Func.isWrapper;first|(rw[if_pos (by decide +kernel)];kernel_rfl)|(rw[if_neg (by decide +kernel)];exact⟨rfl,rfl⟩))
   (fun os started H enc _=>lifted os started H enc)
theorem proved:Rows.StateSaid:=aoX
#print axioms proved
end Go.Proofs.YtdmdecgoebnamaaGreat.state
