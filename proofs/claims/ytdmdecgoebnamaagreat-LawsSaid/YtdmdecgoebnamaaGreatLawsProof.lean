/- The law Laws returns true of every four numbers: the equations of state (put put, put get, get put, get get) hold of the programs' meaning. There are no conditions. -/
import Derived.Test.YtdmdecgoebnamaaGreatInf25
import Derived.Test.YtdmdecgoebnamaaGreatNa
import Derived.Test.YtdmdecgoebnamaaGreatRows
import Derived.WalkKit
import Derived.ProofKit
import Derived.OpenShut
import Derived.ShutString
set_option linter.unusedVariables false
set_option linter.unusedSimpArgs false
namespace Go.Proofs.YtdmdecgoebnamaaGreat.laws
open Go.ChangeShapes Go.WideShapes Go.ChangeAt Go.RowKit
open Go.WideMaps Go.WideElems
open Go.ChangeMaps (setBlock shut_map_nil open_string shut_string keptBut_setBlock frozen?_setBlock heap_setBlock_same)
theorem YF{w w':World}(h:Sx.Hs w [] w' []):Gx.Ext w w':=
 ⟨h.kp.os,h.kp.tape,h.kp.output,h.kp.size,fun i hi _=>h.kp.block i hi (fun ⟨_,a,_⟩=>by cases a)⟩
theorem IV{n:Int}(h:(Lit.int .i64 n).wf=true): -9223372036854775808≤n∧n≤9223372036854775807:=by
 simpa [Lit.wf,IntKind.min,IntKind.max,IntKind.signed,IntKind.bits] using h
theorem YG(n a b k:Int)(w:World)(K:Ending→World→Prop)(hn:(Lit.int .i64 n).wf=true)(ha:(Lit.int .i64 a).wf=true)(hb:(Lit.int .i64 b).wf=true)(hk:(Lit.int .i64 k).wf=true)(hK:∀w',Gx.Ext w w'→K (.returned (.bool true)) w'):Calls Tryz.prog 5 #[.int .i64 n,.int .i64 a,.int .i64 b,.int .i64 k] w K:=by
 have H0:Sx.Sp w []:=⟨fun _ h=>(by cases h),.nil⟩;have hT:(aS.AI Mn.pT).size≤1500:=Nat.le_of_ble_eq_true (by kernel_rfl);exact Mr.Yh n a b k w K H0 (IV hn) (IV ha) (IV hb) (IV hk) hT (Mn.YE hT (Mn.jE _ (by decide)) (Mn.jE _ (by decide)) (Mn.jE _ (by decide)) (Mn.jE _ (by decide))) (fun w' x=>hK w' (YF x))
theorem own:ownKnob Tryz.prog.godebug=none:=by kernel_rfl
theorem laidOut:laidOutB Tryz.prog=true:=by kernel_rfl
theorem p9{H : Type}{enc : TypeId × Value → H}{P : Program}(hl : laidOutB P = true){W W' : World}(hb : Below W.heap.size W W') :
   ∀(ts:List TypeId)(vs:List Value)(ds:List (DataW H))(ps:List MemPlace),(∀t∈ts,P.readableRec t=true∧t<P.types.size)→(∀x∈ps,x.block<W.heap.size)→
     DataW.TrodAll enc P W 0 (fun _=>true) true ts vs ds ps→DataW.TrodAll enc P W' 0 (fun b=>decide (b<W.heap.size)) true ts vs ds ps
 |[],[],[],_,_,_,h=>h
 |t::ts,v::vs,d::ds,ps,hr,dO,h=>by
   obtain⟨p,q,h1,h2,e⟩:=h;subst e
   exact⟨p,q,Below.trod hl (hr t (by simp)).1 (hr t (by simp)).2 h1 hb (fun x hx=>dO x (List.mem_append_left _ hx)),
     p9 hl hb ts vs ds q (fun u hu=>hr u (by simp[hu])) (fun x hx=>dO x (List.mem_append_right _ hx)) h2,rfl⟩
 |[],_::_,_,_,_,_,h=>h.elim
 |[],[],_::_,_,_,_,h=>h.elim
 |_::_,[],_,_,_,_,h=>h.elim
 |_::_,_::_,[],_,_,_,h=>h.elim
set_option maxRecDepth 100000 in
theorem lifted(os : Os)(started : os.Started)(H : Type)(enc : TypeId × Value → H) :
   ReturnsInHanded {} Tryz.checked os 5 .any (Rows.lawsSpec.pre6 enc Tryz.prog Tryz.f5 Rows.lawsRow.domain false) (Rows.lawsSpec.post enc Tryz.prog Tryz.f5 false true false false):=by
 refine returnsInHanded_of_change (C:=Tryz.checked) own started (by kernel_rfl) Tryz.func5
   (ChangeSpec.witness6 (enc:=enc) (C:=Tryz.checked) false ⟨#[],#[.int .i64 0,.int .i64 0,.int .i64 0,.int .i64 0],[]⟩ 8 (by kernel_rfl) (by kernel_rfl) (by kernel_rfl) (by kernel_rfl)) ?_
 intro W base args ds gs before Vr hW asf _;have P5:∀(j:Nat) t v,Tryz.f5.params[j]?=some t→args[j]?=some v→Value.okWide Tryz.prog W .any base t v:=Vr;have hW':=hW;have dO:=hW.lt;obtain ⟨p,q,hA0,hV,rfl,hfz,hnd⟩:=hW;have hA:DataW.TrodAll enc Tryz.prog W 0 (fun _=>true) true Tryz.f5.params.toList args.toList ds p:=hA0;have hAk:=hA;rw [Tryz.params5] at hA P5;obtain ⟨v0,v1,v2,v3,d0,d1,d2,d3,p0,p1,p2,p3,rfl,rfl,rfl,h0,h1,h2,h3⟩:=trodAll_four hA;obtain ⟨rfl,rfl⟩:=trodVars_none hV;obtain ⟨n,rfl,rfl,rfl,w0⟩:=open_int Tryz.underlying3 (P5 0 3 v0 rfl rfl) h0;obtain ⟨a,rfl,rfl,rfl,w1⟩:=open_int Tryz.underlying3 (P5 1 3 v1 rfl rfl) h1;obtain ⟨b,rfl,rfl,rfl,w2⟩:=open_int Tryz.underlying3 (P5 2 3 v2 rfl rfl) h2;obtain ⟨k,rfl,rfl,rfl,w3⟩:=open_int Tryz.underlying3 (P5 3 3 v3 rfl rfl) h3;clear Vr;refine YG n a b k W _ w0 w1 w2 w3 (fun W' hb=>?_)
 exact⟨_,rfl,_,_,_,[],_,[],hW',trodAll_mk1 (shut_bool Tryz.underlying4 true),
   p9 laidOut hb.below _ _ _ _ (by rw[Tryz.params5];intro t ht;simp at ht;subst ht;exact⟨by kernel_rfl,of_decide_eq_true (by kernel_rfl)⟩) (fun x hx=>by simp at hx) hAk,rfl,hb.below.frame _,fun h=>by cases h⟩
theorem akY:Rows.lawsRow.holds Tryz.pinned (OpenSpec.ofChange Rows.lawsSpec):=
 OpenClaim.holds_of_wide 5 Tryz.f5 rfl rfl rfl rfl rfl rfl rfl ⟨rfl,rfl,rfl,rfl,rfl⟩ rfl rfl rfl rfl rfl (by kernel_rfl) Tryz.func5 (by kernel_rfl)
   (of_decide_eq_true (by kernel_rfl)) (by unfold Func.isWrapper;first|(rw [if_pos (by decide +kernel)];kernel_rfl)|(rw [if_neg (by decide +kernel)];exact⟨rfl,rfl⟩))
   (fun os started H enc _=>lifted os started H enc)
theorem proved:Rows.LawsSaid:=akY
#print axioms proved
end Go.Proofs.YtdmdecgoebnamaaGreat.laws
