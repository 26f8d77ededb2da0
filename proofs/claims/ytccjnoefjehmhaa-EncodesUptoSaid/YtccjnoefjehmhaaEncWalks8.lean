/- The walks of the encoders' functions, written by a program of ours (wip/gx/gx.py, wip/enc/encgen.py). -/
import Derived.Test.YtccjnoefjehmhaaRows
import Derived.Test.YtccjnoefjehmhaaGw
import Derived.Test.YtccjnoefjehmhaaEncPlain
import Derived.Test.YtccjnoefjehmhaaEncWalks1
import Derived.Test.YtccjnoefjehmhaaEncWalks2
import Derived.Test.YtccjnoefjehmhaaEncWalks3
import Derived.Test.YtccjnoefjehmhaaEncWalks4
import Derived.Test.YtccjnoefjehmhaaEncWalks5
import Derived.Test.YtccjnoefjehmhaaEncWalks6
import Derived.Test.YtccjnoefjehmhaaEncWalks7
namespace Go.Proofs.Ytccjnoefjehmhaa
open Go.RowKit Go.Enc
attribute [local irreducible] Go.wpOps Go.Code.wp Go.wpOp Go.wpAnyH Go.Calls
set_option maxHeartbeats 400000 in
set_option maxRecDepth 10000 in
theorem Encodes_c (shape : ByteArray) (ops : List OpP) (hds : List HdP) (funs : List FunP) (A1 A2 A3 : Option Addr) (c1 c2 c3 : Nat) (HB FB : Nat → Option Addr) (HC FC : Nat → Nat) (w : World) (K : Ending → World → Prop) (R1 : Gx.Rd w A1 ops.length 2 (fun i => [.string ((ops.getD i op0).name), .bool ((ops.getD i op0).once)])) (R2 : Gx.Rd w A2 hds.length 2 (fun i => [.bool ((hds.getD i hd0).shallow), .slice (HB i) ((hds.getD i hd0).ops.length) (HC i)])) (R2' : ∀ i, i < hds.length → Gx.Rd w (HB i) (hds.getD i hd0).ops.length 1 (fun j => [.int .i64 ((hds.getD i hd0).ops.getD j 0)])) (R3 : Gx.Rd w A3 funs.length 3 (fun i => [.int .i64 ((funs.getD i fun0).free), .int .i64 ((funs.getD i fun0).slots), .slice (FB i) ((funs.getD i fun0).ins.length) (FC i)])) (R3' : ∀ i, i < funs.length → Gx.Rd w (FB i) (funs.getD i fun0).ins.length 4 (fun j => [.int .i64 (((funs.getD i fun0).ins.getD j ins0).op), .int .i64 (((funs.getD i fun0).ins.getD j ins0).a), .int .i64 (((funs.getD i fun0).ins.getD j ins0).b), .int .i64 (((funs.getD i fun0).ins.getD j ins0).n)])) (zs : shape.size ≤ 1048576) (zo : ops.length ≤ 1048576) (zn : ∀ i, (ops.getD i op0).name.size ≤ 1048576) (zh : hds.length ≤ 1048576) (zho : ∀ i, (hds.getD i hd0).ops.length ≤ 1048576) (zf : funs.length ≤ 1048576) (zfi : ∀ i, (funs.getD i fun0).ins.length ≤ 1048576) (ih : ∀ i j, I64 ((hds.getD i hd0).ops.getD j 0)) (jf : ∀ i, I64 (funs.getD i fun0).free ∧ I64 (funs.getD i fun0).slots) (hix : ∀ i j, I64 ((funs.getD i fun0).ins.getD j ins0).op ∧ I64 ((funs.getD i fun0).ins.getD j ins0).a ∧ I64 ((funs.getD i fun0).ins.getD j ins0).b ∧ I64 ((funs.getD i fun0).ins.getD j ins0).n) (hK : ∀ w', Gx.Ext w w' → K (.returned (.bool true)) w') :
    Calls Try.prog 3 #[.agg #[.string shape, .slice A1 ops.length c1, .slice A2 hds.length c2, .slice A3 funs.length c3]] w K := by
  refine Gx.enter 25 Try.func3 rfl rfl (Nat.le_of_ble_eq_true rfl) ?_
  refine Gx.seq_reg [0, 1] (by kernel_rfl) ?_
  refine Gx.cons (Gx.op_new (.cells #[.string shape, .slice A1 ops.length c1, .slice A2 hds.length c2, .slice A3 funs.length c3] 26) rfl (by kernel_rfl) (by kernel_rfl) (fun k1 w1 l1 x1 b1 => ?_))
  have zw1 := x1.size
  have tb1 := b1.lt
  refine Gx.pure [1] [] [(2, .bool false)] rfl (by kernel_rfl) ?_
  refine Gx.ops_end ?_
  refine Gx.seq_reg [0, 1, 2, 3, 4, 5, 6] (by kernel_rfl) ?_
  refine Gx.cons (Gx.op_load rfl (by kernel_rfl) rfl 0 (.agg #[.string shape, .slice A1 ops.length c1, .slice A2 hds.length c2, .slice A3 funs.length c3]) (by kernel_rfl) b1 (by kernel_rfl) ?_)
  refine Gx.cons (Gx.op_call rfl (by kernel_rfl) (by kernel_rfl) (fun R hR => Encode_c shape ops hds funs A1 A2 A3 c1 c2 c3 HB FB HC FC _ R (Gx.Rd.ext R1 (by decide) ((Gx.Ext.refl w).trans x1)) (Gx.Rd.ext R2 (by decide) ((Gx.Ext.refl w).trans x1)) (fun i hi => Gx.Rd.ext (R2' i hi) (by decide) ((Gx.Ext.refl w).trans x1)) (Gx.Rd.ext R3 (by decide) ((Gx.Ext.refl w).trans x1)) (fun i hi => Gx.Rd.ext (R3' i hi) (by decide) ((Gx.Ext.refl w).trans x1)) zs zo zn zh zho zf zfi ih jf hix (fun w2 x2  => hR _ _ ?_)))
  have zw2 := x2.size
  refine Gx.pure [2, 3, 4, 5, 6] [] [(4, .int .i64 (resK (chunks shape ops hds funs))), (3, .string (resS (chunks shape ops hds funs))), (11, .int .i64 (resK (chunks shape ops hds funs))), (10, .string (resS (chunks shape ops hds funs))), (7, .tuple #[.string (resS (chunks shape ops hds funs)), .int .i64 (resK (chunks shape ops hds funs))])] rfl (by kernel_rfl) ?_
  refine Gx.ops_end ?_
  refine Gx.seq_reg [0, 1, 2, 3, 4, 5, 6] (by kernel_rfl) ?_
  refine Gx.cons (Gx.op_load rfl (by kernel_rfl) rfl 0 (.agg #[.string shape, .slice A1 ops.length c1, .slice A2 hds.length c2, .slice A3 funs.length c3]) (by kernel_rfl) (b1.ext x2) (by kernel_rfl) ?_)
  refine Gx.cons (Gx.op_call rfl (by kernel_rfl) (by kernel_rfl) (fun R hR => rEncode_c shape ops hds funs A1 A2 A3 c1 c2 c3 HB FB HC FC _ R (Gx.Rd.ext R1 (by decide) (((Gx.Ext.refl w).trans x1).trans x2)) (Gx.Rd.ext R2 (by decide) (((Gx.Ext.refl w).trans x1).trans x2)) (fun i hi => Gx.Rd.ext (R2' i hi) (by decide) (((Gx.Ext.refl w).trans x1).trans x2)) (Gx.Rd.ext R3 (by decide) (((Gx.Ext.refl w).trans x1).trans x2)) (fun i hi => Gx.Rd.ext (R3' i hi) (by decide) (((Gx.Ext.refl w).trans x1).trans x2)) zs zo zn zh zho zf zfi ih jf hix (fun w3 x3  => hR _ _ ?_)))
  have zw3 := x3.size
  refine Gx.pure [2, 3, 4, 5, 6] [] [(6, .int .i64 (resK (chunks shape ops hds funs))), (5, .string (resS (chunks shape ops hds funs))), (16, .int .i64 (resK (chunks shape ops hds funs))), (15, .string (resS (chunks shape ops hds funs))), (12, .tuple #[.string (resS (chunks shape ops hds funs)), .int .i64 (resK (chunks shape ops hds funs))])] rfl (by kernel_rfl) ?_
  refine Gx.ops_end ?_
  refine Gx.cut (d' := []) (n' := 25) (fun l' w' => l' = [(2, .bool (((resS (chunks shape ops hds funs)).toList == (resS (chunks shape ops hds funs)).toList) && ((resK (chunks shape ops hds funs)) == (resK (chunks shape ops hds funs)))))] ∧ w3 = w') (fun K1 hK1 => ?_) (fun bb1 ll1 w4 hI1 => ?_)
  · refine Gx.reg [0, 1, 2, 3, 4, 5, 6, 7, 8] (by kernel_rfl) ?_
    refine Gx.pure [0, 1, 2, 3] [4, 5, 6, 7, 8] [(20, .bool ((resS (chunks shape ops hds funs)).toList == (resS (chunks shape ops hds funs)).toList)), (19, .bool ((resS (chunks shape ops hds funs)).toList == (resS (chunks shape ops hds funs)).toList)), (18, .string (resS (chunks shape ops hds funs))), (17, .string (resS (chunks shape ops hds funs)))] rfl (by kernel_rfl) ?_
    refine Gx.split ((resS (chunks shape ops hds funs)).toList == (resS (chunks shape ops hds funs)).toList) (fun h_g20 => ?_) (fun h_g20 => ?_)
    · rw [h_g20]
      refine Gx.pure [4, 5, 6, 7, 8] [] [(2, .bool ((resK (chunks shape ops hds funs)) == (resK (chunks shape ops hds funs)))), (24, .bool ((resK (chunks shape ops hds funs)) == (resK (chunks shape ops hds funs)))), (23, .bool ((resK (chunks shape ops hds funs)) == (resK (chunks shape ops hds funs)))), (22, .int .i64 (resK (chunks shape ops hds funs))), (21, .int .i64 (resK (chunks shape ops hds funs)))] rfl (by kernel_rfl) ?_
      refine Gx.ops_end ?_
      rw [Gx.forget [(2, .bool (((resS (chunks shape ops hds funs)).toList == (resS (chunks shape ops hds funs)).toList) && ((resK (chunks shape ops hds funs)) == (resK (chunks shape ops hds funs)))))] (by rw [h_g20]; try kernel_rfl)]
      exact hK1 _ _ _ ⟨rfl, rfl⟩
    rw [h_g20]
    refine Gx.pure [4, 5, 6, 7, 8] [] [(2, .bool false), (24, .bool false), (23, undef), (22, undef), (21, undef)] rfl (by kernel_rfl) ?_
    refine Gx.ops_end ?_
    rw [Gx.forget [(2, .bool (((resS (chunks shape ops hds funs)).toList == (resS (chunks shape ops hds funs)).toList) && ((resK (chunks shape ops hds funs)) == (resK (chunks shape ops hds funs)))))] (by rw [h_g20]; try kernel_rfl)]
    exact hK1 _ _ _ ⟨rfl, rfl⟩
  obtain ⟨rfl, rfl⟩ := hI1
  refine wp_ret ?_
  refine Gx.ret (v := .bool (((resS (chunks shape ops hds funs)).toList == (resS (chunks shape ops hds funs)).toList) && ((resK (chunks shape ops hds funs)) == (resK (chunks shape ops hds funs))))) (Gx.res1 rfl (by kernel_rfl)) ?_
  exact Gx.ret_as (v' := .bool true) (by simp) (hK _ ((((Gx.Ext.refl w).trans x1).trans x2).trans x3))

end Go.Proofs.Ytccjnoefjehmhaa
