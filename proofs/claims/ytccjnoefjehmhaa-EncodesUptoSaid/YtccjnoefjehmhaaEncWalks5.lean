/- The walks of the encoders' functions, written by a program of ours (wip/gx/gx.py, wip/enc/encgen.py). -/
import Derived.Test.YtccjnoefjehmhaaRows
import Derived.Test.YtccjnoefjehmhaaGw
import Derived.Test.YtccjnoefjehmhaaEncPlain
import Derived.Test.YtccjnoefjehmhaaEncWalks1
import Derived.Test.YtccjnoefjehmhaaEncWalks2
import Derived.Test.YtccjnoefjehmhaaEncWalks3
import Derived.Test.YtccjnoefjehmhaaEncWalks4
namespace Go.Proofs.Ytccjnoefjehmhaa
open Go.RowKit Go.Enc
attribute [local irreducible] Go.wpOps Go.Code.wp Go.wpOp Go.wpAnyH Go.Calls
set_option maxHeartbeats 2000000 in
set_option maxRecDepth 10000 in
theorem Encode_c (shape : ByteArray) (ops : List OpP) (hds : List HdP) (funs : List FunP) (A1 A2 A3 : Option Addr) (c1 c2 c3 : Nat) (HB FB : Nat → Option Addr) (HC FC : Nat → Nat) (w : World) (K : Ending → World → Prop) (R1 : Gx.Rd w A1 ops.length 2 (fun i => [.string ((ops.getD i op0).name), .bool ((ops.getD i op0).once)])) (R2 : Gx.Rd w A2 hds.length 2 (fun i => [.bool ((hds.getD i hd0).shallow), .slice (HB i) ((hds.getD i hd0).ops.length) (HC i)])) (R2' : ∀ i, i < hds.length → Gx.Rd w (HB i) (hds.getD i hd0).ops.length 1 (fun j => [.int .i64 ((hds.getD i hd0).ops.getD j 0)])) (R3 : Gx.Rd w A3 funs.length 3 (fun i => [.int .i64 ((funs.getD i fun0).free), .int .i64 ((funs.getD i fun0).slots), .slice (FB i) ((funs.getD i fun0).ins.length) (FC i)])) (R3' : ∀ i, i < funs.length → Gx.Rd w (FB i) (funs.getD i fun0).ins.length 4 (fun j => [.int .i64 (((funs.getD i fun0).ins.getD j ins0).op), .int .i64 (((funs.getD i fun0).ins.getD j ins0).a), .int .i64 (((funs.getD i fun0).ins.getD j ins0).b), .int .i64 (((funs.getD i fun0).ins.getD j ins0).n)])) (zs : shape.size ≤ 1048576) (zo : ops.length ≤ 1048576) (zn : ∀ i, (ops.getD i op0).name.size ≤ 1048576) (zh : hds.length ≤ 1048576) (zho : ∀ i, (hds.getD i hd0).ops.length ≤ 1048576) (zf : funs.length ≤ 1048576) (zfi : ∀ i, (funs.getD i fun0).ins.length ≤ 1048576) (ih : ∀ i j, I64 ((hds.getD i hd0).ops.getD j 0)) (jf : ∀ i, I64 (funs.getD i fun0).free ∧ I64 (funs.getD i fun0).slots) (hix : ∀ i j, I64 ((funs.getD i fun0).ins.getD j ins0).op ∧ I64 ((funs.getD i fun0).ins.getD j ins0).a ∧ I64 ((funs.getD i fun0).ins.getD j ins0).b ∧ I64 ((funs.getD i fun0).ins.getD j ins0).n) (hK : ∀ w', Gx.Ext w w' → K (.returned (.tuple #[.string (resS (chunks shape ops hds funs)), .int .i64 (resK (chunks shape ops hds funs))])) w') :
    Calls Try.prog 4 #[.agg #[.string shape, .slice A1 ops.length c1, .slice A2 hds.length c2, .slice A3 funs.length c3]] w K := by
  refine Gx.enter 166 Try.func4 rfl rfl (Nat.le_of_ble_eq_true rfl) ?_
  refine Gx.seq_reg [0, 1, 2] (by kernel_rfl) ?_
  refine Gx.cons (Gx.op_new (.cells #[.string shape, .slice A1 ops.length c1, .slice A2 hds.length c2, .slice A3 funs.length c3] 26) rfl (by kernel_rfl) (by kernel_rfl) (fun k1 w1 l1 x1 b1 => ?_))
  have zw1 := x1.size
  have tb1 := b1.lt
  refine Gx.pure [1, 2] [] [(3, .int .i64 0), (2, .string (⟨#[]⟩ : ByteArray))] rfl (by kernel_rfl) ?_
  refine Gx.ops_end ?_
  refine Gx.seq_reg [0, 1, 2, 3, 4] (by kernel_rfl) ?_
  refine Gx.cons (Gx.op_row (.cells #[.int .u8 69, .int .u8 70, .int .u8 49] 5) 3 3 rfl (by kernel_rfl) (by kernel_rfl) (fun k2 w2 l2 x2 b2 => ?_))
  have zw2 := x2.size
  have tb2 := b2.lt
  refine Gx.cons (Gx.op_convConst rfl (by kernel_rfl) rfl 5 (by kernel_rfl) (by kernel_rfl) 3 3 (by kernel_rfl) b2 (fun w3 u1 b3 => ?_))
  have zw3 := u1.size
  have ow1 := Gx.own_rowM b3 (n := 3) rfl (by unfold maxLen; omega)
  refine Gx.pure [2] [3, 4] [(17, .agg #[(.slice (some ⟨k2, 0, none⟩) 3 3), .bool false])] rfl (by kernel_rfl) ?_
  refine Gx.cons (Gx.op_new (.cells #[(.slice (some ⟨k2, 0, none⟩) 3 3), .bool false] 34) rfl (by kernel_rfl) (by kernel_rfl) (fun k3 w4 l3 x3 b4 => ?_))
  have zw4 := x3.size
  have tb4 := b4.lt
  refine Gx.pure [4] [] [(4, .pointer (some ⟨k3, 0, none⟩))] rfl (by kernel_rfl) ?_
  refine Gx.ops_end ?_
  obtain ⟨p1, hp1⟩ : ∃ q : List Ch, q = [some ef1] := ⟨_, rfl⟩
  have b5 : Gx.Has w4 k3 (.cells #[(.slice (some ⟨k2, 0, none⟩) 3 3), .bool (bd p1)] 34) := by rw [hp1]; exact b4
  have hzp1 : (cat p1).size = 3 := by rw [hp1, cat_one]; rfl
  have ow2 : Gx.ownsM w4 k2 5 (.slice (some ⟨k2, 0, none⟩) 3 3) (cat p1).size (Lib.strCells (cat p1)) := by rw [hp1, cat_one]; exact (Gx.own_extM ow1 x3)
  have hB : k2 ≤ k3 := by omega
  refine Gx.seq_reg [0, 1, 2, 3, 4] (by kernel_rfl) ?_
  refine Gx.pure [0, 1] [2, 3, 4] [(20, .pointer (some ⟨k1, 0, none⟩)), (19, .pointer (some ⟨k3, 0, none⟩))] rfl (by kernel_rfl) ?_
  refine Gx.cons (Gx.op_load rfl (by kernel_rfl) rfl 0 (.string shape) (by kernel_rfl) (((b1.ext x2).upd1 u1 (by omega)).ext x3) (by kernel_rfl) ?_)
  refine Gx.pure [3] [4] [(22, .int .i64 ((shape.size : Nat) : Int))] rfl (by kernel_rfl) ?_
  refine Gx.cons (Gx.op_call rfl (by kernel_rfl) (by kernel_rfl) (fun R hR => number_p k2 k3 p1 ((shape.size : Nat) : Int) 2 _ R ⟨_, b5, ow2, hB⟩ (by omega) (by omega) (by first | exact .inl rfl | exact .inr rfl) (by unfold I64 at *; omega) (fun w5 p2 hp2 x4 hw1 hz1 => hR _ _ ?_)))
  have zw5 := x4.size
  obtain ⟨v1, b6, ow3, _⟩ := hw1
  have tb6 := b6.lt
  refine Gx.ops_end ?_
  refine wp_seq ?_
  refine Gx.drawE (S := fun w' => Gx.Has w' k3 (.cells #[v1, .bool (bd p2)] 34) ∧ Gx.Has w' k1 (.cells #[.string shape, .slice A1 ops.length c1, .slice A2 hds.length c2, .slice A3 funs.length c3] 26)) [10] (by kernel_rfl) (fun w6 x5 => ?_)
  have zw6 := x5.size
  refine Gx.anyE_take 0 (.pointer (some ⟨k3, 0, none⟩)) (.pointer (some ⟨k3, 0, none⟩)) rfl rfl (by kernel_rfl) (by kernel_rfl) (by kernel_rfl) (by kernel_rfl) (fun _ _ _ h => h) (fun _ => ⟨(b6.ext x5), ((x4.has (((b1.ext x2).upd1 u1 (by omega)).ext x3) (by omega) (by decide)).ext x5)⟩) (by kernel_rfl) (fun _ => (by kernel_rfl)) ?_
  refine Gx.anyE_take 1 (.pointer (some ⟨k3, 0, none⟩)) (.pointer (some ⟨k3, 0, none⟩)) rfl rfl (by kernel_rfl) (by kernel_rfl) (by kernel_rfl) (by kernel_rfl) (fun _ _ _ h => h) (fun _ => ⟨(b6.ext x5), ((x4.has (((b1.ext x2).upd1 u1 (by omega)).ext x3) (by omega) (by decide)).ext x5)⟩) (by kernel_rfl) (fun _ => (by kernel_rfl)) ?_
  refine Gx.anyE_take 2 (.pointer (some ⟨k3, 0, none⟩)) (.pointer (some ⟨k3, 0, none⟩)) rfl rfl (by kernel_rfl) (by kernel_rfl) (by kernel_rfl) (by kernel_rfl) (fun _ _ _ h => h) (fun _ => ⟨(b6.ext x5), ((x4.has (((b1.ext x2).upd1 u1 (by omega)).ext x3) (by omega) (by decide)).ext x5)⟩) (by kernel_rfl) (fun _ => (by kernel_rfl)) ?_
  refine Gx.anyE_take 3 (.pointer (some ⟨k3, 0, none⟩)) (.pointer (some ⟨k3, 0, none⟩)) rfl rfl (by kernel_rfl) (by kernel_rfl) (by kernel_rfl) (by kernel_rfl) (fun _ _ _ h => h) (fun _ => ⟨(b6.ext x5), ((x4.has (((b1.ext x2).upd1 u1 (by omega)).ext x3) (by omega) (by decide)).ext x5)⟩) (by kernel_rfl) (fun _ => (by kernel_rfl)) ?_
  refine Gx.anyE_takeS 4 [7, 8, 9, 10] (v1) (v1) rfl rfl (by kernel_rfl) (by kernel_rfl) (by kernel_rfl) (by kernel_rfl) (by kernel_rfl) (fun _ _ _ h => h) ⟨(b6.ext x5), ((x4.has (((b1.ext x2).upd1 u1 (by omega)).ext x3) (by omega) (by decide)).ext x5)⟩ (by kernel_rfl) (fun _ hs => Gx.run_load rfl 0 (v1) (by kernel_rfl) hs.1 (by kernel_rfl)) ?_
  refine Gx.anyE_take 5 (.pointer (some ⟨k1, 0, none⟩)) (.pointer (some ⟨k1, 0, none⟩)) rfl rfl (by kernel_rfl) (by kernel_rfl) (by kernel_rfl) (by kernel_rfl) (fun _ _ _ h => h) (fun _ => ⟨(b6.ext x5), ((x4.has (((b1.ext x2).upd1 u1 (by omega)).ext x3) (by omega) (by decide)).ext x5)⟩) (by kernel_rfl) (fun _ => (by kernel_rfl)) ?_
  refine Gx.anyE_takeS 6 [7, 8, 9, 10] (.string shape) (.string shape) rfl rfl (by kernel_rfl) (by kernel_rfl) (by kernel_rfl) (by kernel_rfl) (by kernel_rfl) (fun _ _ _ h => h) ⟨(b6.ext x5), ((x4.has (((b1.ext x2).upd1 u1 (by omega)).ext x3) (by omega) (by decide)).ext x5)⟩ (by kernel_rfl) (fun _ hs => Gx.run_load rfl 0 (.string shape) (by kernel_rfl) hs.2 (by kernel_rfl)) ?_
  refine Gx.anyE_one 7 (by kernel_rfl) (Gx.op_append_strM rfl (by kernel_rfl) rfl 5 (by kernel_rfl) (by kernel_rfl) (by kernel_rfl) (k2) (by kernel_rfl) (Gx.own_extM ow3 x5) shape (by kernel_rfl) (by omega) (by omega) (fun v2 w7 ow4 g1 => ⟨(fun _ => ⟨((b6.ext x5).upd g1 (fun e => Gx.own_neM (Gx.own_extM ow3 x5) (b6.ext x5) (by decide) _ e.symm rfl)), (((x4.has (((b1.ext x2).upd1 u1 (by omega)).ext x3) (by omega) (by decide)).ext x5).upd g1 (fun e => Gx.own_neM (Gx.own_extM ow3 x5) ((x4.has (((b1.ext x2).upd1 u1 (by omega)).ext x3) (by omega) (by decide)).ext x5) (by decide) _ e.symm rfl))⟩), ?_⟩))
  have zw7 := g1.size
  refine Gx.anyE_take 8 (.pointer (some ⟨k3, 0, none⟩)) (.pointer (some ⟨k3, 0, none⟩)) rfl rfl (by kernel_rfl) (by kernel_rfl) (by kernel_rfl) (by kernel_rfl) (fun _ _ _ h => h) (fun _ => ⟨((b6.ext x5).upd g1 (fun e => Gx.own_neM (Gx.own_extM ow3 x5) (b6.ext x5) (by decide) _ e.symm rfl)), (((x4.has (((b1.ext x2).upd1 u1 (by omega)).ext x3) (by omega) (by decide)).ext x5).upd g1 (fun e => Gx.own_neM (Gx.own_extM ow3 x5) ((x4.has (((b1.ext x2).upd1 u1 (by omega)).ext x3) (by omega) (by decide)).ext x5) (by decide) _ e.symm rfl))⟩) (by kernel_rfl) (fun _ => (by kernel_rfl)) ?_
  refine Gx.anyE_take 9 (.pointer (some ⟨k3, 0, none⟩)) (.pointer (some ⟨k3, 0, none⟩)) rfl rfl (by kernel_rfl) (by kernel_rfl) (by kernel_rfl) (by kernel_rfl) (fun _ _ _ h => h) (fun _ => ⟨((b6.ext x5).upd g1 (fun e => Gx.own_neM (Gx.own_extM ow3 x5) (b6.ext x5) (by decide) _ e.symm rfl)), (((x4.has (((b1.ext x2).upd1 u1 (by omega)).ext x3) (by omega) (by decide)).ext x5).upd g1 (fun e => Gx.own_neM (Gx.own_extM ow3 x5) ((x4.has (((b1.ext x2).upd1 u1 (by omega)).ext x3) (by omega) (by decide)).ext x5) (by decide) _ e.symm rfl))⟩) (by kernel_rfl) (fun _ => (by kernel_rfl)) ?_
  refine Gx.anyE_one 10 (by kernel_rfl) (Gx.op_storeO rfl (by kernel_rfl) rfl 0 (v2) (by kernel_rfl) (by kernel_rfl) ((b6.ext x5).upd g1 (fun e => Gx.own_neM (Gx.own_extM ow3 x5) (b6.ext x5) (by decide) _ e.symm rfl)) (by kernel_rfl) (Gx.own_cellsM ow4) (by kernel_rfl) #[v2, .bool (bd p2)] (by kernel_rfl) (fun w8 u2 b7 => ⟨(Gx.not_clear (by kernel_rfl)), ?_⟩))
  have zw8 := u2.size
  refine Gx.anyE_done (by kernel_rfl) ?_ _
  refine Gx.then_normal ?_
  obtain ⟨p3, hp3⟩ : ∃ q, q = p2 ++ [some shape] := ⟨_, rfl⟩
  have b8 : Gx.Has w8 k3 (.cells #[v2, .bool (bd p3)] 34) := by rw [hp3, bd_snoc]; simpa using b7
  have ow5 : Gx.ownsM w8 k2 5 v2 (cat p3).size (Lib.strCells (cat p3)) := by rw [hp3, cat_snoc]; show Gx.ownsM _ _ 5 _ (cat p2 ++ shape).size (Lib.strCells (cat p2 ++ shape)); rw [ByteArray.size_append, strCells_append]; exact (Gx.own_upd1M ow4 u2 (Gx.own_neM ow4 ((b6.ext x5).upd g1 (fun e => Gx.own_neM (Gx.own_extM ow3 x5) (b6.ext x5) (by decide) _ e.symm rfl)) (by decide)))
  have hz2 : (cat p3).size = (cat p2).size + shape.size := by rw [hp3, cat_snoc]; exact ByteArray.size_append
  refine Gx.seq_reg [0, 1, 2, 3, 4] (by kernel_rfl) ?_
  refine Gx.pure [0, 1] [2, 3, 4] [(35, .pointer (some ⟨k1, 1, none⟩)), (34, .pointer (some ⟨k3, 0, none⟩))] rfl (by kernel_rfl) ?_
  refine Gx.cons (Gx.op_load rfl (by kernel_rfl) rfl 1 (.slice A1 ops.length c1) (by kernel_rfl) ((((x4.has (((b1.ext x2).upd1 u1 (by omega)).ext x3) (by omega) (by decide)).ext x5).upd g1 (fun e => Gx.own_neM (Gx.own_extM ow3 x5) ((x4.has (((b1.ext x2).upd1 u1 (by omega)).ext x3) (by omega) (by decide)).ext x5) (by decide) _ e.symm rfl)).upd1 u2 (by omega)) (by kernel_rfl) ?_)
  refine Gx.pure [3] [4] [(37, .int .i64 ((ops.length : Nat) : Int))] rfl (by kernel_rfl) ?_
  refine Gx.cons (Gx.op_call rfl (by kernel_rfl) (by kernel_rfl) (fun R hR => number_p k2 k3 p3 ((ops.length : Nat) : Int) 1 _ R ⟨_, b8, ow5, hB⟩ (by omega) (by omega) (by first | exact .inl rfl | exact .inr rfl) (by unfold I64 at *; omega) (fun w9 p4 hp4 x6 hw2 hz3 => hR _ _ ?_)))
  have zw9 := x6.size
  obtain ⟨v3, b9, ow6, _⟩ := hw2
  have tb9 := b9.lt
  refine Gx.ops_end ?_
  refine wp_seq ?_
  refine Gx.seq_reg [0, 1, 2, 3] (by kernel_rfl) ?_
  refine Gx.pure [0] [1, 2, 3] [(39, .pointer (some ⟨k1, 1, none⟩))] rfl (by kernel_rfl) ?_
  refine Gx.cons (Gx.op_load rfl (by kernel_rfl) rfl 1 (.slice A1 ops.length c1) (by kernel_rfl) (x6.has ((((x4.has (((b1.ext x2).upd1 u1 (by omega)).ext x3) (by omega) (by decide)).ext x5).upd g1 (fun e => Gx.own_neM (Gx.own_extM ow3 x5) ((x4.has (((b1.ext x2).upd1 u1 (by omega)).ext x3) (by omega) (by decide)).ext x5) (by decide) _ e.symm rfl)).upd1 u2 (by omega)) (by omega) (by decide)) (by kernel_rfl) ?_)
  refine Gx.pure [2, 3] [] [(42, .int .i64 0), (41, .int .i64 ((ops.length : Nat) : Int))] rfl (by kernel_rfl) ?_
  refine Gx.ops_end ?_
  refine wp_block ?_
  refine Gx.loop (n' := 166) (d' := []) (fun mz l' w' => ∃ (k : Nat) (vo : Value) (po : List Ch), l' = [(1, .pointer (some ⟨k1, 0, none⟩)), (4, .pointer (some ⟨k3, 0, none⟩)), (40, .slice A1 ops.length c1), (41, .int .i64 ((ops.length : Nat) : Int)), (42, .int .i64 ((k : Nat) : Int))] ∧ mz = ops.length - k ∧ Gx.Ext w w' ∧ Gx.Has w' k1 (.cells #[.string shape, .slice A1 ops.length c1, .slice A2 hds.length c2, .slice A3 funs.length c3] 26) ∧ Gx.Has w' k3 (.cells #[vo, .bool (bd po)] 34) ∧ (k ≤ ops.length) ∧ (Gx.ownsM w' k2 5 vo (cat po).size (Lib.strCells (cat po))) ∧ (po = p4 ++ upTo opC ops k) ∧ ((cat po).size ≤ (cat p4).size + k * 2000000)) _ _ [(1, .pointer (some ⟨k1, 0, none⟩)), (4, .pointer (some ⟨k3, 0, none⟩)), (40, .slice A1 ops.length c1), (41, .int .i64 ((ops.length : Nat) : Int)), (42, .int .i64 ((0 : Nat) : Int))] (Gx.forget [(1, .pointer (some ⟨k1, 0, none⟩)), (4, .pointer (some ⟨k3, 0, none⟩)), (40, .slice A1 ops.length c1), (41, .int .i64 ((ops.length : Nat) : Int)), (42, .int .i64 ((0 : Nat) : Int))] (by kernel_rfl)) ⟨0, v3, p4, rfl, rfl, ((((((((((Gx.Ext.refl w).trans x1).trans x2).upd1 u1 (by omega)).trans x3).wx x4 (by omega)).trans x5).upd g1 (fun j e => by have := (ow3).lt j e; omega)).upd1 u2 (by omega)).wx x6 (by omega)), (x6.has ((((x4.has (((b1.ext x2).upd1 u1 (by omega)).ext x3) (by omega) (by decide)).ext x5).upd g1 (fun e => Gx.own_neM (Gx.own_extM ow3 x5) ((x4.has (((b1.ext x2).upd1 u1 (by omega)).ext x3) (by omega) (by decide)).ext x5) (by decide) _ e.symm rfl)).upd1 u2 (by omega)) (by omega) (by decide)), b9, (Nat.zero_le _), ow6, (by simp [upTo_zero]), (by omega)⟩ (fun bb1 m1 ll1 w10 hI1 K1 hK1 => ?_)
  obtain ⟨k, vo, po, rfl, rfl, x7, b10, b11, hko, hoo, hlo, hzo⟩ := hI1
  have zw10 := x7.size
  have tb10 := b10.lt
  have tb11 := b11.lt
  have zn' := zn k
  refine Gx.seq_run [(43, .bool (decide (((k : Nat) : Int) < ((ops.length : Nat) : Int))))] (by kernel_rfl) ?_
  refine wp_seq ?_
  refine Gx.cond (decide (((k : Nat) : Int) < ((ops.length : Nat) : Int))) (by kernel_rfl) (fun h_c43 => ?_) (fun h_c43 => ?_)
  · skip
    refine wp_skip ?_
    refine Gx.then_normal ?_
    refine wp_seq ?_
    refine wp_block ?_
    refine Gx.seq_reg [0, 1, 2, 3] (by kernel_rfl) ?_
    have p_c43 := h_c43; try simp [-List.getD_eq_getElem?_getD] at p_c43
    obtain ⟨a1, ha1, hc1⟩ := R1 k (by omega)
    refine Gx.cons (Gx.op_indexAddrO rfl (by kernel_rfl) rfl 37 2 (by kernel_rfl) (by kernel_rfl) a1 ha1 ops.length c1 (by kernel_rfl) .i64 k (by kernel_rfl) (by omega) ?_)
    refine Gx.cons (Gx.op_loadO rfl (by kernel_rfl) rfl [.string ((ops.getD k op0).name), .bool ((ops.getD k op0).once)] (.agg #[.string ((ops.getD k op0).name), .bool ((ops.getD k op0).once)]) (by kernel_rfl) 2 (Gx.cells_ext hc1 (by decide) ((Gx.Ext.refl w).trans x7)) (by kernel_rfl) (by kernel_rfl) ?_)
    refine Gx.cons (Gx.op_new (.cells #[.string (⟨#[]⟩ : ByteArray), .bool false] 37) rfl (by kernel_rfl) (by kernel_rfl) (fun k4 w11 l4 x8 b12 => ?_))
    have zw11 := x8.size
    have tb12 := b12.lt
    refine Gx.cons (Gx.op_store rfl (by kernel_rfl) rfl 0 (.agg #[.string ((ops.getD k op0).name), .bool ((ops.getD k op0).once)]) (by kernel_rfl) (by kernel_rfl) b12 (by kernel_rfl) (by kernel_rfl) (by kernel_rfl) #[.string ((ops.getD k op0).name), .bool ((ops.getD k op0).once)] (by kernel_rfl) (fun w12 u3 b13 => ?_))
    have zw12 := u3.size
    refine Gx.ops_end ?_
    refine Gx.cut (d' := []) (n' := 166) (fun l' w' => l' = [(1, .pointer (some ⟨k1, 0, none⟩)), (4, .pointer (some ⟨k3, 0, none⟩)), (6, .pointer (some ⟨k4, 0, none⟩)), (40, .slice A1 ops.length c1), (41, .int .i64 ((ops.length : Nat) : Int)), (42, .int .i64 ((k : Nat) : Int))] ∧ Gx.Ext w w' ∧ Gx.Has w' k1 (.cells #[.string shape, .slice A1 ops.length c1, .slice A2 hds.length c2, .slice A3 funs.length c3] 26) ∧ Gx.Has w' k4 (.cells #[.string ((ops.getD k op0).name), .bool ((ops.getD k op0).once)] 37) ∧ (Gx.Has w' k3 (.cells #[vo, .bool (bd po || decide ((((ops.getD k op0).name.size : Nat) : Int) > 20))] 34)) ∧ (Gx.ownsM w' k2 5 vo (cat po).size (Lib.strCells (cat po)))) (fun K2 hK2 => ?_) (fun bb2 ll2 w13 hI2 => ?_)
    · skip
      refine Gx.reg [0, 1, 2, 3, 4, 5, 6, 7, 8, 9, 10, 11, 12, 13] (by kernel_rfl) ?_
      refine Gx.pure [0, 1, 2, 3] [4, 5, 6, 7, 8, 9, 10, 11, 12, 13] [(49, .pointer (some ⟨k3, 1, none⟩)), (48, .pointer (some ⟨k3, 0, none⟩)), (47, .pointer (some ⟨k3, 0, none⟩)), (46, .pointer (some ⟨k3, 0, none⟩))] rfl (by kernel_rfl) ?_
      refine Gx.cons (Gx.op_load rfl (by kernel_rfl) rfl 1 (.bool (bd po)) (by kernel_rfl) ((b11.ext x8).upd1 u3 (by omega)) (by kernel_rfl) ?_)
      refine Gx.pure [5] [6, 7, 8, 9, 10, 11, 12, 13] [(51, .bool (bd po))] rfl (by kernel_rfl) ?_
      refine Gx.split (bd po) (fun h_g51 => ?_) (fun h_g51 => ?_)
      · rw [h_g51]
        refine Gx.pure [6, 7, 8, 9, 10, 11, 12] [13] [(58, .pointer (some ⟨k3, 1, none⟩)), (57, .pointer (some ⟨k3, 0, none⟩)), (56, .bool true), (55, undef), (54, undef), (53, undef), (52, undef)] rfl (by kernel_rfl) ?_
        have p_g51 := h_g51; try simp [-List.getD_eq_getElem?_getD] at p_g51
        refine Gx.cons (Gx.op_store rfl (by kernel_rfl) rfl 1 (.bool true) (by kernel_rfl) (by kernel_rfl) ((b11.ext x8).upd1 u3 (by omega)) (by kernel_rfl) (by kernel_rfl) (by kernel_rfl) #[vo, .bool true] (by kernel_rfl) (fun w14 u4 b14 => ?_))
        have zw14 := u4.size
        refine Gx.ops_nil ?_
        refine Gx.then_normal ?_
        rw [Gx.forget [(1, .pointer (some ⟨k1, 0, none⟩)), (4, .pointer (some ⟨k3, 0, none⟩)), (6, .pointer (some ⟨k4, 0, none⟩)), (40, .slice A1 ops.length c1), (41, .int .i64 ((ops.length : Nat) : Int)), (42, .int .i64 ((k : Nat) : Int))] (by kernel_rfl)]
        exact hK2 _ _ _ ⟨rfl, (((((Gx.Ext.refl w).trans x7).trans x8).upd1 u3 (by omega)).upd1 u4 (by omega)), (((b10.ext x8).upd1 u3 (by omega)).upd1 u4 (by omega)), (b13.upd1 u4 (by omega)), (by rw [h_g51]; exact b14), (Gx.own_upd1M (Gx.own_upd1M (Gx.own_extM hoo x8) u3 (Gx.own_neM (Gx.own_extM hoo x8) b12 (by decide))) u4 (Gx.own_neM (Gx.own_upd1M (Gx.own_extM hoo x8) u3 (Gx.own_neM (Gx.own_extM hoo x8) b12 (by decide))) ((b11.ext x8).upd1 u3 (by omega)) (by decide)))⟩
      rw [h_g51]
      refine Gx.pure [6] [7, 8, 9, 10, 11, 12, 13] [(52, .pointer (some ⟨k4, 0, none⟩))] rfl (by kernel_rfl) ?_
      refine Gx.cons (Gx.op_load rfl (by kernel_rfl) rfl 0 (.string ((ops.getD k op0).name)) (by kernel_rfl) b13 (by kernel_rfl) ?_)
      refine Gx.pure [8, 9, 10, 11, 12] [13] [(58, .pointer (some ⟨k3, 1, none⟩)), (57, .pointer (some ⟨k3, 0, none⟩)), (56, .bool (decide (((((ops.getD k op0).name).size : Nat) : Int) > (20 : Int)))), (55, .bool (decide (((((ops.getD k op0).name).size : Nat) : Int) > (20 : Int)))), (54, .int .i64 ((((ops.getD k op0).name).size : Nat) : Int))] rfl (by kernel_rfl) ?_
      have p_g51 := h_g51; try simp [-List.getD_eq_getElem?_getD] at p_g51
      refine Gx.cons (Gx.op_store rfl (by kernel_rfl) rfl 1 (.bool (decide (((((ops.getD k op0).name).size : Nat) : Int) > (20 : Int)))) (by kernel_rfl) (by kernel_rfl) ((b11.ext x8).upd1 u3 (by omega)) (by kernel_rfl) (by kernel_rfl) (by kernel_rfl) #[vo, .bool (decide (((((ops.getD k op0).name).size : Nat) : Int) > (20 : Int)))] (by kernel_rfl) (fun w15 u5 b15 => ?_))
      have zw15 := u5.size
      refine Gx.ops_nil ?_
      refine Gx.then_normal ?_
      rw [Gx.forget [(1, .pointer (some ⟨k1, 0, none⟩)), (4, .pointer (some ⟨k3, 0, none⟩)), (6, .pointer (some ⟨k4, 0, none⟩)), (40, .slice A1 ops.length c1), (41, .int .i64 ((ops.length : Nat) : Int)), (42, .int .i64 ((k : Nat) : Int))] (by kernel_rfl)]
      exact hK2 _ _ _ ⟨rfl, (((((Gx.Ext.refl w).trans x7).trans x8).upd1 u3 (by omega)).upd1 u5 (by omega)), (((b10.ext x8).upd1 u3 (by omega)).upd1 u5 (by omega)), (b13.upd1 u5 (by omega)), (by rw [h_g51]; exact b15), (Gx.own_upd1M (Gx.own_upd1M (Gx.own_extM hoo x8) u3 (Gx.own_neM (Gx.own_extM hoo x8) b12 (by decide))) u5 (Gx.own_neM (Gx.own_upd1M (Gx.own_extM hoo x8) u3 (Gx.own_neM (Gx.own_extM hoo x8) b12 (by decide))) ((b11.ext x8).upd1 u3 (by omega)) (by decide)))⟩
    obtain ⟨rfl, x9, b16, b17, hbc, hoc⟩ := hI2
    have zw13 := x9.size
    have tb16 := b16.lt
    have tb17 := b17.lt
    obtain ⟨p5, hp5⟩ : ∃ q, q = po ++ [markC (decide ((((ops.getD k op0).name.size : Nat) : Int) > 20))] := ⟨_, rfl⟩
    have b18 : Gx.Has w13 k3 (.cells #[vo, .bool (bd p5)] 34) := by rw [hp5, bd_snoc, markC_none]; exact hbc
    have ow7 : Gx.ownsM w13 k2 5 vo (cat p5).size (Lib.strCells (cat p5)) := by rw [hp5, cat_snoc, markC_e0, app_e0]; exact hoc
    have hz4 : (cat p5).size = (cat po).size := by rw [hp5, cat_snoc, markC_e0, app_e0]
    refine Gx.seq_reg [0, 1, 2, 3, 4] (by kernel_rfl) ?_
    refine Gx.pure [0, 1] [2, 3, 4] [(60, .pointer (some ⟨k4, 0, none⟩)), (59, .pointer (some ⟨k3, 0, none⟩))] rfl (by kernel_rfl) ?_
    refine Gx.cons (Gx.op_load rfl (by kernel_rfl) rfl 0 (.string ((ops.getD k op0).name)) (by kernel_rfl) b17 (by kernel_rfl) ?_)
    refine Gx.pure [3] [4] [(62, .int .i64 ((((ops.getD k op0).name).size : Nat) : Int))] rfl (by kernel_rfl) ?_
    refine Gx.cons (Gx.op_call rfl (by kernel_rfl) (by kernel_rfl) (fun R hR => number_p k2 k3 p5 ((((ops.getD k op0).name).size : Nat) : Int) 1 _ R ⟨_, b18, ow7, hB⟩ (by omega) (by omega) (by first | exact .inl rfl | exact .inr rfl) (by unfold I64 at *; omega) (fun w16 p6 hp6 x10 hw3 hz5 => hR _ _ ?_)))
    have zw16 := x10.size
    obtain ⟨v4, b19, ow8, _⟩ := hw3
    have tb19 := b19.lt
    refine Gx.ops_end ?_
    refine wp_seq ?_
    refine Gx.drawE (S := fun w' => Gx.Has w' k3 (.cells #[v4, .bool (bd p6)] 34) ∧ Gx.Has w' k4 (.cells #[.string ((ops.getD k op0).name), .bool ((ops.getD k op0).once)] 37)) [10] (by kernel_rfl) (fun w17 x11 => ?_)
    have zw17 := x11.size
    refine Gx.anyE_take 0 (.pointer (some ⟨k3, 0, none⟩)) (.pointer (some ⟨k3, 0, none⟩)) rfl rfl (by kernel_rfl) (by kernel_rfl) (by kernel_rfl) (by kernel_rfl) (fun _ _ _ h => h) (fun _ => ⟨(b19.ext x11), ((x10.has b17 (by omega) (by decide)).ext x11)⟩) (by kernel_rfl) (fun _ => (by kernel_rfl)) ?_
    refine Gx.anyE_take 1 (.pointer (some ⟨k3, 0, none⟩)) (.pointer (some ⟨k3, 0, none⟩)) rfl rfl (by kernel_rfl) (by kernel_rfl) (by kernel_rfl) (by kernel_rfl) (fun _ _ _ h => h) (fun _ => ⟨(b19.ext x11), ((x10.has b17 (by omega) (by decide)).ext x11)⟩) (by kernel_rfl) (fun _ => (by kernel_rfl)) ?_
    refine Gx.anyE_take 2 (.pointer (some ⟨k3, 0, none⟩)) (.pointer (some ⟨k3, 0, none⟩)) rfl rfl (by kernel_rfl) (by kernel_rfl) (by kernel_rfl) (by kernel_rfl) (fun _ _ _ h => h) (fun _ => ⟨(b19.ext x11), ((x10.has b17 (by omega) (by decide)).ext x11)⟩) (by kernel_rfl) (fun _ => (by kernel_rfl)) ?_
    refine Gx.anyE_take 3 (.pointer (some ⟨k3, 0, none⟩)) (.pointer (some ⟨k3, 0, none⟩)) rfl rfl (by kernel_rfl) (by kernel_rfl) (by kernel_rfl) (by kernel_rfl) (fun _ _ _ h => h) (fun _ => ⟨(b19.ext x11), ((x10.has b17 (by omega) (by decide)).ext x11)⟩) (by kernel_rfl) (fun _ => (by kernel_rfl)) ?_
    refine Gx.anyE_takeS 4 [7, 8, 9, 10] (v4) (v4) rfl rfl (by kernel_rfl) (by kernel_rfl) (by kernel_rfl) (by kernel_rfl) (by kernel_rfl) (fun _ _ _ h => h) ⟨(b19.ext x11), ((x10.has b17 (by omega) (by decide)).ext x11)⟩ (by kernel_rfl) (fun _ hs => Gx.run_load rfl 0 (v4) (by kernel_rfl) hs.1 (by kernel_rfl)) ?_
    refine Gx.anyE_take 5 (.pointer (some ⟨k4, 0, none⟩)) (.pointer (some ⟨k4, 0, none⟩)) rfl rfl (by kernel_rfl) (by kernel_rfl) (by kernel_rfl) (by kernel_rfl) (fun _ _ _ h => h) (fun _ => ⟨(b19.ext x11), ((x10.has b17 (by omega) (by decide)).ext x11)⟩) (by kernel_rfl) (fun _ => (by kernel_rfl)) ?_
    refine Gx.anyE_takeS 6 [7, 8, 9, 10] (.string ((ops.getD k op0).name)) (.string ((ops.getD k op0).name)) rfl rfl (by kernel_rfl) (by kernel_rfl) (by kernel_rfl) (by kernel_rfl) (by kernel_rfl) (fun _ _ _ h => h) ⟨(b19.ext x11), ((x10.has b17 (by omega) (by decide)).ext x11)⟩ (by kernel_rfl) (fun _ hs => Gx.run_load rfl 0 (.string ((ops.getD k op0).name)) (by kernel_rfl) hs.2 (by kernel_rfl)) ?_
    refine Gx.anyE_one 7 (by kernel_rfl) (Gx.op_append_strM rfl (by kernel_rfl) rfl 5 (by kernel_rfl) (by kernel_rfl) (by kernel_rfl) (k2) (by kernel_rfl) (Gx.own_extM ow8 x11) ((ops.getD k op0).name) (by kernel_rfl) (by omega) (by omega) (fun v5 w18 ow9 g2 => ⟨(fun _ => ⟨((b19.ext x11).upd g2 (fun e => Gx.own_neM (Gx.own_extM ow8 x11) (b19.ext x11) (by decide) _ e.symm rfl)), (((x10.has b17 (by omega) (by decide)).ext x11).upd g2 (fun e => Gx.own_neM (Gx.own_extM ow8 x11) ((x10.has b17 (by omega) (by decide)).ext x11) (by decide) _ e.symm rfl))⟩), ?_⟩))
    have zw18 := g2.size
    refine Gx.anyE_take 8 (.pointer (some ⟨k3, 0, none⟩)) (.pointer (some ⟨k3, 0, none⟩)) rfl rfl (by kernel_rfl) (by kernel_rfl) (by kernel_rfl) (by kernel_rfl) (fun _ _ _ h => h) (fun _ => ⟨((b19.ext x11).upd g2 (fun e => Gx.own_neM (Gx.own_extM ow8 x11) (b19.ext x11) (by decide) _ e.symm rfl)), (((x10.has b17 (by omega) (by decide)).ext x11).upd g2 (fun e => Gx.own_neM (Gx.own_extM ow8 x11) ((x10.has b17 (by omega) (by decide)).ext x11) (by decide) _ e.symm rfl))⟩) (by kernel_rfl) (fun _ => (by kernel_rfl)) ?_
    refine Gx.anyE_take 9 (.pointer (some ⟨k3, 0, none⟩)) (.pointer (some ⟨k3, 0, none⟩)) rfl rfl (by kernel_rfl) (by kernel_rfl) (by kernel_rfl) (by kernel_rfl) (fun _ _ _ h => h) (fun _ => ⟨((b19.ext x11).upd g2 (fun e => Gx.own_neM (Gx.own_extM ow8 x11) (b19.ext x11) (by decide) _ e.symm rfl)), (((x10.has b17 (by omega) (by decide)).ext x11).upd g2 (fun e => Gx.own_neM (Gx.own_extM ow8 x11) ((x10.has b17 (by omega) (by decide)).ext x11) (by decide) _ e.symm rfl))⟩) (by kernel_rfl) (fun _ => (by kernel_rfl)) ?_
    refine Gx.anyE_one 10 (by kernel_rfl) (Gx.op_storeO rfl (by kernel_rfl) rfl 0 (v5) (by kernel_rfl) (by kernel_rfl) ((b19.ext x11).upd g2 (fun e => Gx.own_neM (Gx.own_extM ow8 x11) (b19.ext x11) (by decide) _ e.symm rfl)) (by kernel_rfl) (Gx.own_cellsM ow9) (by kernel_rfl) #[v5, .bool (bd p6)] (by kernel_rfl) (fun w19 u6 b20 => ⟨(Gx.not_clear (by kernel_rfl)), ?_⟩))
    have zw19 := u6.size
    refine Gx.anyE_done (by kernel_rfl) ?_ _
    refine Gx.then_normal ?_
    obtain ⟨p7, hp7⟩ : ∃ q, q = p6 ++ [some (ops.getD k op0).name] := ⟨_, rfl⟩
    have b21 : Gx.Has w19 k3 (.cells #[v5, .bool (bd p7)] 34) := by rw [hp7, bd_snoc]; simpa using b20
    have ow10 : Gx.ownsM w19 k2 5 v5 (cat p7).size (Lib.strCells (cat p7)) := by rw [hp7, cat_snoc]; show Gx.ownsM _ _ 5 _ (cat p6 ++ (ops.getD k op0).name).size (Lib.strCells (cat p6 ++ (ops.getD k op0).name)); rw [ByteArray.size_append, strCells_append]; exact (Gx.own_upd1M ow9 u6 (Gx.own_neM ow9 ((b19.ext x11).upd g2 (fun e => Gx.own_neM (Gx.own_extM ow8 x11) (b19.ext x11) (by decide) _ e.symm rfl)) (by decide)))
    have hz6 : (cat p7).size = (cat p6).size + (ops.getD k op0).name.size := by rw [hp7, cat_snoc]; exact ByteArray.size_append
    refine Gx.reg [0, 1, 2, 3] (by kernel_rfl) ?_
    refine Gx.pure [0, 1] [2, 3] [(75, .pointer (some ⟨k4, 1, none⟩)), (74, .pointer (some ⟨k3, 0, none⟩))] rfl (by kernel_rfl) ?_
    refine Gx.cons (Gx.op_load rfl (by kernel_rfl) rfl 1 (.bool ((ops.getD k op0).once)) (by kernel_rfl) ((((x10.has b17 (by omega) (by decide)).ext x11).upd g2 (fun e => Gx.own_neM (Gx.own_extM ow8 x11) ((x10.has b17 (by omega) (by decide)).ext x11) (by decide) _ e.symm rfl)).upd1 u6 (by omega)) (by kernel_rfl) ?_)
    refine Gx.cons (Gx.op_call rfl (by kernel_rfl) (by kernel_rfl) (fun R hR => flag_p k2 k3 p7 ((ops.getD k op0).once) _ R ⟨_, b21, ow10, hB⟩ (by omega) (by omega) (fun w20 p8 hp8 x12 hw4 hz7 => hR _ _ ?_)))
    have zw20 := x12.size
    obtain ⟨v6, b22, ow11, _⟩ := hw4
    have tb22 := b22.lt
    refine Gx.ops_nil ?_
    refine Gx.block_normal ?_
    refine Gx.then_normal ?_
    refine Gx.reg [0, 1] (by kernel_rfl) ?_
    refine Gx.pure_eq [0] [1] [(78, .int .i64 (IntKind.i64.wrap (((k : Nat) : Int) + (1 : Int))))] [(78, .int .i64 ((k + 1 : Nat) : Int))] rfl (by kernel_rfl) (Gx.eqI (Gx.i64n (by omega) (by omega))) ?_
    refine Gx.pure [1] [] [(42, .int .i64 ((k + 1 : Nat) : Int))] rfl (by kernel_rfl) ?_
    refine Gx.ops_nil ?_
    refine Gx.then_normal ?_
    rw [Gx.forget [(1, .pointer (some ⟨k1, 0, none⟩)), (4, .pointer (some ⟨k3, 0, none⟩)), (40, .slice A1 ops.length c1), (41, .int .i64 ((ops.length : Nat) : Int)), (42, .int .i64 (((k + 1) : Nat) : Int))] (by kernel_rfl)]
    exact hK1 _ _ _ _ (by omega) ⟨(k + 1), v6, p8, rfl, rfl, (((((((Gx.Ext.refl w).trans x9).wx x10 (by omega)).trans x11).upd g2 (fun j e => by have := (ow8).lt j e; omega)).upd1 u6 (by omega)).wx x12 (by omega)), (x12.has ((((x10.has b16 (by omega) (by decide)).ext x11).upd g2 (fun e => Gx.own_neM (Gx.own_extM ow8 x11) ((x10.has b16 (by omega) (by decide)).ext x11) (by decide) _ e.symm rfl)).upd1 u6 (by omega)) (by omega) (by decide)), b22, (by omega), ow11, (by rw [hp8, hp7, hp6, hp5, hlo, upTo_succ opC ops op0 (by omega)]; simp [opC]), (by omega)⟩
  refine wp_exit ?_
  refine Gx.then_exit ?_
  refine Gx.then_exit ?_
  refine Gx.block_exit ?_
  refine Gx.then_normal ?_
  have p_c43 := h_c43; try simp [-List.getD_eq_getElem?_getD] at p_c43
  rw [upTo_all opC ops (by omega)] at hlo
  refine Gx.seq_reg [0, 1, 2, 3, 4] (by kernel_rfl) ?_
  refine Gx.pure [0, 1] [2, 3, 4] [(80, .pointer (some ⟨k1, 2, none⟩)), (79, .pointer (some ⟨k3, 0, none⟩))] rfl (by kernel_rfl) ?_
  refine Gx.cons (Gx.op_load rfl (by kernel_rfl) rfl 2 (.slice A2 hds.length c2) (by kernel_rfl) b10 (by kernel_rfl) ?_)
  refine Gx.pure [3] [4] [(82, .int .i64 ((hds.length : Nat) : Int))] rfl (by kernel_rfl) ?_
  refine Gx.cons (Gx.op_call rfl (by kernel_rfl) (by kernel_rfl) (fun R hR => number_p k2 k3 po ((hds.length : Nat) : Int) 2 _ R ⟨_, b11, hoo, hB⟩ (by omega) (by omega) (by first | exact .inl rfl | exact .inr rfl) (by unfold I64 at *; omega) (fun w21 p9 hp9 x13 hw5 hz8 => hR _ _ ?_)))
  have zw21 := x13.size
  obtain ⟨v7, b23, ow12, _⟩ := hw5
  have tb23 := b23.lt
  refine Gx.ops_end ?_
  refine wp_seq ?_
  refine Gx.seq_reg [0, 1, 2, 3] (by kernel_rfl) ?_
  refine Gx.pure [0] [1, 2, 3] [(84, .pointer (some ⟨k1, 2, none⟩))] rfl (by kernel_rfl) ?_
  refine Gx.cons (Gx.op_load rfl (by kernel_rfl) rfl 2 (.slice A2 hds.length c2) (by kernel_rfl) (x13.has b10 (by omega) (by decide)) (by kernel_rfl) ?_)
  refine Gx.pure [2, 3] [] [(87, .int .i64 0), (86, .int .i64 ((hds.length : Nat) : Int))] rfl (by kernel_rfl) ?_
  refine Gx.ops_end ?_
  refine wp_block ?_
  refine Gx.loop (n' := 166) (d' := []) (fun mz l' w' => ∃ (m : Nat) (vh : Value) (ph : List Ch), l' = [(1, .pointer (some ⟨k1, 0, none⟩)), (4, .pointer (some ⟨k3, 0, none⟩)), (85, .slice A2 hds.length c2), (86, .int .i64 ((hds.length : Nat) : Int)), (87, .int .i64 ((m : Nat) : Int))] ∧ mz = hds.length - m ∧ Gx.Ext w w' ∧ Gx.Has w' k1 (.cells #[.string shape, .slice A1 ops.length c1, .slice A2 hds.length c2, .slice A3 funs.length c3] 26) ∧ Gx.Has w' k3 (.cells #[vh, .bool (bd ph)] 34) ∧ (m ≤ hds.length) ∧ (Gx.ownsM w' k2 5 vh (cat ph).size (Lib.strCells (cat ph))) ∧ (ph = p9 ++ upTo hdC hds m) ∧ ((cat ph).size ≤ (cat p9).size + m * 1100000)) _ _ [(1, .pointer (some ⟨k1, 0, none⟩)), (4, .pointer (some ⟨k3, 0, none⟩)), (85, .slice A2 hds.length c2), (86, .int .i64 ((hds.length : Nat) : Int)), (87, .int .i64 ((0 : Nat) : Int))] (Gx.forget [(1, .pointer (some ⟨k1, 0, none⟩)), (4, .pointer (some ⟨k3, 0, none⟩)), (85, .slice A2 hds.length c2), (86, .int .i64 ((hds.length : Nat) : Int)), (87, .int .i64 ((0 : Nat) : Int))] (by kernel_rfl)) ⟨0, v7, p9, rfl, rfl, (((Gx.Ext.refl w).trans x7).wx x13 (by omega)), (x13.has b10 (by omega) (by decide)), b23, (Nat.zero_le _), ow12, (by simp [upTo_zero]), (by omega)⟩ (fun bb3 m2 ll3 w22 hI3 K3 hK3 => ?_)
  obtain ⟨m, vh, ph, rfl, rfl, x14, b24, b25, hkh, hoh, hlh, hzh⟩ := hI3
  have zw22 := x14.size
  have tb24 := b24.lt
  have tb25 := b25.lt
  have zho' := zho m
  refine Gx.seq_run [(88, .bool (decide (((m : Nat) : Int) < ((hds.length : Nat) : Int))))] (by kernel_rfl) ?_
  refine wp_seq ?_
  refine Gx.cond (decide (((m : Nat) : Int) < ((hds.length : Nat) : Int))) (by kernel_rfl) (fun h_c88 => ?_) (fun h_c88 => ?_)
  · skip
    refine wp_skip ?_
    refine Gx.then_normal ?_
    refine wp_seq ?_
    refine wp_block ?_
    refine Gx.seq_reg [0, 1, 2, 3] (by kernel_rfl) ?_
    have p_c88 := h_c88; try simp [-List.getD_eq_getElem?_getD] at p_c88
    obtain ⟨a2, ha2, hc2⟩ := R2 m (by omega)
    refine Gx.cons (Gx.op_indexAddrO rfl (by kernel_rfl) rfl 41 2 (by kernel_rfl) (by kernel_rfl) a2 ha2 hds.length c2 (by kernel_rfl) .i64 m (by kernel_rfl) (by omega) ?_)
    refine Gx.cons (Gx.op_loadO rfl (by kernel_rfl) rfl [.bool ((hds.getD m hd0).shallow), .slice (HB m) ((hds.getD m hd0).ops.length) (HC m)] (.agg #[.bool ((hds.getD m hd0).shallow), .slice (HB m) ((hds.getD m hd0).ops.length) (HC m)]) (by kernel_rfl) 2 (Gx.cells_ext hc2 (by decide) ((Gx.Ext.refl w).trans x14)) (by kernel_rfl) (by kernel_rfl) ?_)
    refine Gx.cons (Gx.op_new (.cells #[.bool false, .slice none 0 0] 41) rfl (by kernel_rfl) (by kernel_rfl) (fun k5 w23 l5 x15 b26 => ?_))
    have zw23 := x15.size
    have tb26 := b26.lt
    refine Gx.cons (Gx.op_store rfl (by kernel_rfl) rfl 0 (.agg #[.bool ((hds.getD m hd0).shallow), .slice (HB m) ((hds.getD m hd0).ops.length) (HC m)]) (by kernel_rfl) (by kernel_rfl) b26 (by kernel_rfl) (by kernel_rfl) (by kernel_rfl) #[.bool ((hds.getD m hd0).shallow), .slice (HB m) ((hds.getD m hd0).ops.length) (HC m)] (by kernel_rfl) (fun w24 u7 b27 => ?_))
    have zw24 := u7.size
    refine Gx.ops_end ?_
    refine Gx.seq_reg [0, 1, 2, 3] (by kernel_rfl) ?_
    refine Gx.pure [0, 1] [2, 3] [(92, .pointer (some ⟨k5, 0, none⟩)), (91, .pointer (some ⟨k3, 0, none⟩))] rfl (by kernel_rfl) ?_
    refine Gx.cons (Gx.op_load rfl (by kernel_rfl) rfl 0 (.bool ((hds.getD m hd0).shallow)) (by kernel_rfl) b27 (by kernel_rfl) ?_)
    refine Gx.cons (Gx.op_call rfl (by kernel_rfl) (by kernel_rfl) (fun R hR => flag_p k2 k3 ph ((hds.getD m hd0).shallow) _ R ⟨_, ((b25.ext x15).upd1 u7 (by omega)), (Gx.own_upd1M (Gx.own_extM hoh x15) u7 (Gx.own_neM (Gx.own_extM hoh x15) b26 (by decide))), hB⟩ (by omega) (by omega) (fun w25 p10 hp10 x16 hw6 hz9 => hR _ _ ?_)))
    have zw25 := x16.size
    obtain ⟨v8, b28, ow13, _⟩ := hw6
    have tb28 := b28.lt
    refine Gx.ops_end ?_
    refine Gx.seq_reg [0, 1, 2, 3, 4] (by kernel_rfl) ?_
    refine Gx.pure [0, 1] [2, 3, 4] [(96, .pointer (some ⟨k5, 1, none⟩)), (95, .pointer (some ⟨k3, 0, none⟩))] rfl (by kernel_rfl) ?_
    refine Gx.cons (Gx.op_load rfl (by kernel_rfl) rfl 1 (.slice (HB m) ((hds.getD m hd0).ops.length) (HC m)) (by kernel_rfl) (x16.has b27 (by omega) (by decide)) (by kernel_rfl) ?_)
    refine Gx.pure [3] [4] [(98, .int .i64 (((hds.getD m hd0).ops.length : Nat) : Int))] rfl (by kernel_rfl) ?_
    refine Gx.cons (Gx.op_call rfl (by kernel_rfl) (by kernel_rfl) (fun R hR => number_p k2 k3 p10 (((hds.getD m hd0).ops.length : Nat) : Int) 1 _ R ⟨_, b28, ow13, hB⟩ (by omega) (by omega) (by first | exact .inl rfl | exact .inr rfl) (by unfold I64 at *; omega) (fun w26 p11 hp11 x17 hw7 hz10 => hR _ _ ?_)))
    have zw26 := x17.size
    obtain ⟨v9, b29, ow14, _⟩ := hw7
    have tb29 := b29.lt
    refine Gx.ops_end ?_
    refine Gx.seq_reg [0, 1, 2, 3] (by kernel_rfl) ?_
    refine Gx.pure [0] [1, 2, 3] [(100, .pointer (some ⟨k5, 1, none⟩))] rfl (by kernel_rfl) ?_
    refine Gx.cons (Gx.op_load rfl (by kernel_rfl) rfl 1 (.slice (HB m) ((hds.getD m hd0).ops.length) (HC m)) (by kernel_rfl) (x17.has (x16.has b27 (by omega) (by decide)) (by omega) (by decide)) (by kernel_rfl) ?_)
    refine Gx.pure [2, 3] [] [(103, .int .i64 0), (102, .int .i64 (((hds.getD m hd0).ops.length : Nat) : Int))] rfl (by kernel_rfl) ?_
    refine Gx.ops_end ?_
    refine wp_block ?_
    refine Gx.loop (n' := 166) (d' := []) (fun mz l' w' => ∃ (m2 : Nat) (vj : Value) (pj : List Ch), l' = [(1, .pointer (some ⟨k1, 0, none⟩)), (4, .pointer (some ⟨k3, 0, none⟩)), (85, .slice A2 hds.length c2), (86, .int .i64 ((hds.length : Nat) : Int)), (87, .int .i64 ((m : Nat) : Int)), (101, .slice (HB m) ((hds.getD m hd0).ops.length) (HC m)), (102, .int .i64 (((hds.getD m hd0).ops.length : Nat) : Int)), (103, .int .i64 ((m2 : Nat) : Int))] ∧ mz = (hds.getD m hd0).ops.length - m2 ∧ Gx.Ext w w' ∧ Gx.Has w' k1 (.cells #[.string shape, .slice A1 ops.length c1, .slice A2 hds.length c2, .slice A3 funs.length c3] 26) ∧ Gx.Has w' k3 (.cells #[vj, .bool (bd pj)] 34) ∧ Gx.Has w' k5 (.cells #[.bool ((hds.getD m hd0).shallow), .slice (HB m) ((hds.getD m hd0).ops.length) (HC m)] 41) ∧ (m2 ≤ (hds.getD m hd0).ops.length) ∧ (Gx.ownsM w' k2 5 vj (cat pj).size (Lib.strCells (cat pj))) ∧ (pj = p11 ++ upTo (fun o => [numC o 1]) (hds.getD m hd0).ops m2) ∧ ((cat pj).size ≤ (cat p11).size + m2 * 1)) _ _ [(1, .pointer (some ⟨k1, 0, none⟩)), (4, .pointer (some ⟨k3, 0, none⟩)), (85, .slice A2 hds.length c2), (86, .int .i64 ((hds.length : Nat) : Int)), (87, .int .i64 ((m : Nat) : Int)), (101, .slice (HB m) ((hds.getD m hd0).ops.length) (HC m)), (102, .int .i64 (((hds.getD m hd0).ops.length : Nat) : Int)), (103, .int .i64 ((0 : Nat) : Int))] (Gx.forget [(1, .pointer (some ⟨k1, 0, none⟩)), (4, .pointer (some ⟨k3, 0, none⟩)), (85, .slice A2 hds.length c2), (86, .int .i64 ((hds.length : Nat) : Int)), (87, .int .i64 ((m : Nat) : Int)), (101, .slice (HB m) ((hds.getD m hd0).ops.length) (HC m)), (102, .int .i64 (((hds.getD m hd0).ops.length : Nat) : Int)), (103, .int .i64 ((0 : Nat) : Int))] (by kernel_rfl)) ⟨0, v9, p11, rfl, rfl, ((((((Gx.Ext.refl w).trans x14).trans x15).upd1 u7 (by omega)).wx x16 (by omega)).wx x17 (by omega)), (x17.has (x16.has ((b24.ext x15).upd1 u7 (by omega)) (by omega) (by decide)) (by omega) (by decide)), b29, (x17.has (x16.has b27 (by omega) (by decide)) (by omega) (by decide)), (Nat.zero_le _), ow14, (by simp [upTo_zero]), (by omega)⟩ (fun bb4 m3 ll4 w27 hI4 K4 hK4 => ?_)
    obtain ⟨m2, vj, pj, rfl, rfl, x18, b30, b31, b32, hkj, hoj, hlj, hzj⟩ := hI4
    have zw27 := x18.size
    have tb30 := b30.lt
    have tb31 := b31.lt
    have tb32 := b32.lt
    have ih' := ih m m2
    refine Gx.seq_run [(104, .bool (decide (((m2 : Nat) : Int) < (((hds.getD m hd0).ops.length : Nat) : Int))))] (by kernel_rfl) ?_
    refine wp_seq ?_
    refine Gx.cond (decide (((m2 : Nat) : Int) < (((hds.getD m hd0).ops.length : Nat) : Int))) (by kernel_rfl) (fun h_c104 => ?_) (fun h_c104 => ?_)
    · skip
      refine wp_skip ?_
      refine Gx.then_normal ?_
      refine wp_seq ?_
      refine wp_block ?_
      refine Gx.seq_reg [0, 1, 2] (by kernel_rfl) ?_
      have p_c104 := h_c104; try simp [-List.getD_eq_getElem?_getD] at p_c104
      obtain ⟨a3, ha3, hc3⟩ := (R2' m (by omega)) m2 (by omega)
      refine Gx.cons (Gx.op_indexAddrO rfl (by kernel_rfl) rfl 3 1 (by kernel_rfl) (by kernel_rfl) a3 ha3 ((hds.getD m hd0).ops.length) (HC m) (by kernel_rfl) .i64 m2 (by kernel_rfl) (by omega) ?_)
      refine Gx.cons (Gx.op_loadO rfl (by kernel_rfl) rfl [.int .i64 ((hds.getD m hd0).ops.getD m2 0)] (.int .i64 ((hds.getD m hd0).ops.getD m2 0)) (by kernel_rfl) 1 (Gx.cells_ext hc3 (by decide) ((Gx.Ext.refl w).trans x18)) (by kernel_rfl) (by kernel_rfl) ?_)
      refine Gx.pure [2] [] [(10, .int .i64 ((hds.getD m hd0).ops.getD m2 0))] rfl (by kernel_rfl) ?_
      refine Gx.ops_end ?_
      refine Gx.reg [0, 1, 2] (by kernel_rfl) ?_
      refine Gx.pure [0, 1] [2] [(108, .int .i64 ((hds.getD m hd0).ops.getD m2 0)), (107, .pointer (some ⟨k3, 0, none⟩))] rfl (by kernel_rfl) ?_
      refine Gx.cons (Gx.op_call rfl (by kernel_rfl) (by kernel_rfl) (fun R hR => number_p k2 k3 pj ((hds.getD m hd0).ops.getD m2 0) 1 _ R ⟨_, b31, hoj, hB⟩ (by omega) (by omega) (by first | exact .inl rfl | exact .inr rfl) (by unfold I64 at *; omega) (fun w28 p12 hp12 x19 hw8 hz11 => hR _ _ ?_)))
      have zw28 := x19.size
      obtain ⟨v10, b33, ow15, _⟩ := hw8
      have tb33 := b33.lt
      refine Gx.ops_nil ?_
      refine Gx.block_normal ?_
      refine Gx.then_normal ?_
      refine Gx.reg [0, 1] (by kernel_rfl) ?_
      refine Gx.pure_eq [0] [1] [(110, .int .i64 (IntKind.i64.wrap (((m2 : Nat) : Int) + (1 : Int))))] [(110, .int .i64 ((m2 + 1 : Nat) : Int))] rfl (by kernel_rfl) (Gx.eqI (Gx.i64n (by omega) (by omega))) ?_
      refine Gx.pure [1] [] [(103, .int .i64 ((m2 + 1 : Nat) : Int))] rfl (by kernel_rfl) ?_
      refine Gx.ops_nil ?_
      refine Gx.then_normal ?_
      rw [Gx.forget [(1, .pointer (some ⟨k1, 0, none⟩)), (4, .pointer (some ⟨k3, 0, none⟩)), (85, .slice A2 hds.length c2), (86, .int .i64 ((hds.length : Nat) : Int)), (87, .int .i64 ((m : Nat) : Int)), (101, .slice (HB m) ((hds.getD m hd0).ops.length) (HC m)), (102, .int .i64 (((hds.getD m hd0).ops.length : Nat) : Int)), (103, .int .i64 (((m2 + 1) : Nat) : Int))] (by kernel_rfl)]
      exact hK4 _ _ _ _ (by omega) ⟨(m2 + 1), v10, p12, rfl, rfl, (((Gx.Ext.refl w).trans x18).wx x19 (by omega)), (x19.has b30 (by omega) (by decide)), b33, (x19.has b32 (by omega) (by decide)), (by omega), ow15, (by rw [hp12, hlj, upTo_succ (fun o => [numC o 1]) (hds.getD m hd0).ops 0 (by omega)]; simp [List.append_assoc]), (by omega)⟩
    refine wp_exit ?_
    refine Gx.then_exit ?_
    refine Gx.then_exit ?_
    refine Gx.block_exit ?_
    refine Gx.block_normal ?_
    refine Gx.then_normal ?_
    have p_c104 := h_c104; try simp [-List.getD_eq_getElem?_getD] at p_c104
    rw [upTo_all (fun o => [numC o 1]) (hds.getD m hd0).ops (by omega)] at hlj
    refine Gx.reg [0, 1] (by kernel_rfl) ?_
    refine Gx.pure_eq [0] [1] [(111, .int .i64 (IntKind.i64.wrap (((m : Nat) : Int) + (1 : Int))))] [(111, .int .i64 ((m + 1 : Nat) : Int))] rfl (by kernel_rfl) (Gx.eqI (Gx.i64n (by omega) (by omega))) ?_
    refine Gx.pure [1] [] [(87, .int .i64 ((m + 1 : Nat) : Int))] rfl (by kernel_rfl) ?_
    refine Gx.ops_nil ?_
    refine Gx.then_normal ?_
    rw [Gx.forget [(1, .pointer (some ⟨k1, 0, none⟩)), (4, .pointer (some ⟨k3, 0, none⟩)), (85, .slice A2 hds.length c2), (86, .int .i64 ((hds.length : Nat) : Int)), (87, .int .i64 (((m + 1) : Nat) : Int))] (by kernel_rfl)]
    exact hK3 _ _ _ _ (by omega) ⟨(m + 1), vj, pj, rfl, rfl, ((Gx.Ext.refl w).trans x18), b30, b31, (by omega), hoj, (by rw [hlj, hp11, hp10, hlh, upTo_succ hdC hds hd0 (by omega)]; simp [hdC]), (by omega)⟩
  refine wp_exit ?_
  refine Gx.then_exit ?_
  refine Gx.then_exit ?_
  refine Gx.block_exit ?_
  refine Gx.then_normal ?_
  have p_c88 := h_c88; try simp [-List.getD_eq_getElem?_getD] at p_c88
  rw [upTo_all hdC hds (by omega)] at hlh
  refine Gx.seq_reg [0, 1, 2, 3, 4] (by kernel_rfl) ?_
  refine Gx.pure [0, 1] [2, 3, 4] [(113, .pointer (some ⟨k1, 3, none⟩)), (112, .pointer (some ⟨k3, 0, none⟩))] rfl (by kernel_rfl) ?_
  refine Gx.cons (Gx.op_load rfl (by kernel_rfl) rfl 3 (.slice A3 funs.length c3) (by kernel_rfl) b24 (by kernel_rfl) ?_)
  refine Gx.pure [3] [4] [(115, .int .i64 ((funs.length : Nat) : Int))] rfl (by kernel_rfl) ?_
  refine Gx.cons (Gx.op_call rfl (by kernel_rfl) (by kernel_rfl) (fun R hR => number_p k2 k3 ph ((funs.length : Nat) : Int) 2 _ R ⟨_, b25, hoh, hB⟩ (by omega) (by omega) (by first | exact .inl rfl | exact .inr rfl) (by unfold I64 at *; omega) (fun w29 p13 hp13 x20 hw9 hz12 => hR _ _ ?_)))
  have zw29 := x20.size
  obtain ⟨v11, b34, ow16, _⟩ := hw9
  have tb34 := b34.lt
  refine Gx.ops_end ?_
  refine wp_seq ?_
  refine Gx.seq_reg [0, 1, 2, 3] (by kernel_rfl) ?_
  refine Gx.pure [0] [1, 2, 3] [(117, .pointer (some ⟨k1, 3, none⟩))] rfl (by kernel_rfl) ?_
  refine Gx.cons (Gx.op_load rfl (by kernel_rfl) rfl 3 (.slice A3 funs.length c3) (by kernel_rfl) (x20.has b24 (by omega) (by decide)) (by kernel_rfl) ?_)
  refine Gx.pure [2, 3] [] [(120, .int .i64 0), (119, .int .i64 ((funs.length : Nat) : Int))] rfl (by kernel_rfl) ?_
  refine Gx.ops_end ?_
  refine wp_block ?_
  refine Gx.loop (n' := 166) (d' := []) (fun mz l' w' => ∃ (n : Nat) (vf : Value) (pf : List Ch), l' = [(4, .pointer (some ⟨k3, 0, none⟩)), (118, .slice A3 funs.length c3), (119, .int .i64 ((funs.length : Nat) : Int)), (120, .int .i64 ((n : Nat) : Int))] ∧ mz = funs.length - n ∧ Gx.Ext w w' ∧ Gx.Has w' k1 (.cells #[.string shape, .slice A1 ops.length c1, .slice A2 hds.length c2, .slice A3 funs.length c3] 26) ∧ Gx.Has w' k3 (.cells #[vf, .bool (bd pf)] 34) ∧ (n ≤ funs.length) ∧ (Gx.ownsM w' k2 5 vf (cat pf).size (Lib.strCells (cat pf))) ∧ (pf = p13 ++ upTo fnC funs n) ∧ ((cat pf).size ≤ (cat p13).size + n * 10000000)) _ _ [(4, .pointer (some ⟨k3, 0, none⟩)), (118, .slice A3 funs.length c3), (119, .int .i64 ((funs.length : Nat) : Int)), (120, .int .i64 ((0 : Nat) : Int))] (Gx.forget [(4, .pointer (some ⟨k3, 0, none⟩)), (118, .slice A3 funs.length c3), (119, .int .i64 ((funs.length : Nat) : Int)), (120, .int .i64 ((0 : Nat) : Int))] (by kernel_rfl)) ⟨0, v11, p13, rfl, rfl, (((Gx.Ext.refl w).trans x14).wx x20 (by omega)), (x20.has b24 (by omega) (by decide)), b34, (Nat.zero_le _), ow16, (by simp [upTo_zero]), (by omega)⟩ (fun bb5 m4 ll5 w30 hI5 K5 hK5 => ?_)
  obtain ⟨n, vf, pf, rfl, rfl, x21, b35, b36, hkf, hof, hlf, hzf⟩ := hI5
  have zw30 := x21.size
  have tb35 := b35.lt
  have tb36 := b36.lt
  have zfi' := zfi n
  have jf' := jf n
  refine Gx.seq_run [(121, .bool (decide (((n : Nat) : Int) < ((funs.length : Nat) : Int))))] (by kernel_rfl) ?_
  refine wp_seq ?_
  refine Gx.cond (decide (((n : Nat) : Int) < ((funs.length : Nat) : Int))) (by kernel_rfl) (fun h_c121 => ?_) (fun h_c121 => ?_)
  · skip
    refine wp_skip ?_
    refine Gx.then_normal ?_
    refine wp_seq ?_
    refine wp_block ?_
    refine Gx.seq_reg [0, 1, 2, 3] (by kernel_rfl) ?_
    have p_c121 := h_c121; try simp [-List.getD_eq_getElem?_getD] at p_c121
    obtain ⟨a4, ha4, hc4⟩ := R3 n (by omega)
    refine Gx.cons (Gx.op_indexAddrO rfl (by kernel_rfl) rfl 44 3 (by kernel_rfl) (by kernel_rfl) a4 ha4 funs.length c3 (by kernel_rfl) .i64 n (by kernel_rfl) (by omega) ?_)
    refine Gx.cons (Gx.op_loadO rfl (by kernel_rfl) rfl [.int .i64 ((funs.getD n fun0).free), .int .i64 ((funs.getD n fun0).slots), .slice (FB n) ((funs.getD n fun0).ins.length) (FC n)] (.agg #[.int .i64 ((funs.getD n fun0).free), .int .i64 ((funs.getD n fun0).slots), .slice (FB n) ((funs.getD n fun0).ins.length) (FC n)]) (by kernel_rfl) 3 (Gx.cells_ext hc4 (by decide) ((Gx.Ext.refl w).trans x21)) (by kernel_rfl) (by kernel_rfl) ?_)
    refine Gx.cons (Gx.op_new (.cells #[.int .i64 0, .int .i64 0, .slice none 0 0] 44) rfl (by kernel_rfl) (by kernel_rfl) (fun k6 w31 l6 x22 b37 => ?_))
    have zw31 := x22.size
    have tb37 := b37.lt
    refine Gx.cons (Gx.op_store rfl (by kernel_rfl) rfl 0 (.agg #[.int .i64 ((funs.getD n fun0).free), .int .i64 ((funs.getD n fun0).slots), .slice (FB n) ((funs.getD n fun0).ins.length) (FC n)]) (by kernel_rfl) (by kernel_rfl) b37 (by kernel_rfl) (by kernel_rfl) (by kernel_rfl) #[.int .i64 ((funs.getD n fun0).free), .int .i64 ((funs.getD n fun0).slots), .slice (FB n) ((funs.getD n fun0).ins.length) (FC n)] (by kernel_rfl) (fun w32 u8 b38 => ?_))
    have zw32 := u8.size
    refine Gx.ops_end ?_
    refine Gx.seq_reg [0, 1, 2, 3] (by kernel_rfl) ?_
    refine Gx.pure [0, 1] [2, 3] [(125, .pointer (some ⟨k6, 0, none⟩)), (124, .pointer (some ⟨k3, 0, none⟩))] rfl (by kernel_rfl) ?_
    refine Gx.cons (Gx.op_load rfl (by kernel_rfl) rfl 0 (.int .i64 ((funs.getD n fun0).free)) (by kernel_rfl) b38 (by kernel_rfl) ?_)
    refine Gx.cons (Gx.op_call rfl (by kernel_rfl) (by kernel_rfl) (fun R hR => number_p k2 k3 pf ((funs.getD n fun0).free) 2 _ R ⟨_, ((b36.ext x22).upd1 u8 (by omega)), (Gx.own_upd1M (Gx.own_extM hof x22) u8 (Gx.own_neM (Gx.own_extM hof x22) b37 (by decide))), hB⟩ (by omega) (by omega) (by first | exact .inl rfl | exact .inr rfl) (by unfold I64 at *; omega) (fun w33 p14 hp14 x23 hw10 hz13 => hR _ _ ?_)))
    have zw33 := x23.size
    obtain ⟨v12, b39, ow17, _⟩ := hw10
    have tb39 := b39.lt
    refine Gx.ops_end ?_
    refine Gx.seq_reg [0, 1, 2, 3] (by kernel_rfl) ?_
    refine Gx.pure [0, 1] [2, 3] [(129, .pointer (some ⟨k6, 1, none⟩)), (128, .pointer (some ⟨k3, 0, none⟩))] rfl (by kernel_rfl) ?_
    refine Gx.cons (Gx.op_load rfl (by kernel_rfl) rfl 1 (.int .i64 ((funs.getD n fun0).slots)) (by kernel_rfl) (x23.has b38 (by omega) (by decide)) (by kernel_rfl) ?_)
    refine Gx.cons (Gx.op_call rfl (by kernel_rfl) (by kernel_rfl) (fun R hR => number_p k2 k3 p14 ((funs.getD n fun0).slots) 2 _ R ⟨_, b39, ow17, hB⟩ (by omega) (by omega) (by first | exact .inl rfl | exact .inr rfl) (by unfold I64 at *; omega) (fun w34 p15 hp15 x24 hw11 hz14 => hR _ _ ?_)))
    have zw34 := x24.size
    obtain ⟨v13, b40, ow18, _⟩ := hw11
    have tb40 := b40.lt
    refine Gx.ops_end ?_
    refine Gx.seq_reg [0, 1, 2, 3, 4] (by kernel_rfl) ?_
    refine Gx.pure [0, 1] [2, 3, 4] [(133, .pointer (some ⟨k6, 2, none⟩)), (132, .pointer (some ⟨k3, 0, none⟩))] rfl (by kernel_rfl) ?_
    refine Gx.cons (Gx.op_load rfl (by kernel_rfl) rfl 2 (.slice (FB n) ((funs.getD n fun0).ins.length) (FC n)) (by kernel_rfl) (x24.has (x23.has b38 (by omega) (by decide)) (by omega) (by decide)) (by kernel_rfl) ?_)
    refine Gx.pure [3] [4] [(135, .int .i64 (((funs.getD n fun0).ins.length : Nat) : Int))] rfl (by kernel_rfl) ?_
    refine Gx.cons (Gx.op_call rfl (by kernel_rfl) (by kernel_rfl) (fun R hR => number_p k2 k3 p15 (((funs.getD n fun0).ins.length : Nat) : Int) 2 _ R ⟨_, b40, ow18, hB⟩ (by omega) (by omega) (by first | exact .inl rfl | exact .inr rfl) (by unfold I64 at *; omega) (fun w35 p16 hp16 x25 hw12 hz15 => hR _ _ ?_)))
    have zw35 := x25.size
    obtain ⟨v14, b41, ow19, _⟩ := hw12
    have tb41 := b41.lt
    refine Gx.ops_end ?_
    refine Gx.seq_reg [0, 1, 2, 3] (by kernel_rfl) ?_
    refine Gx.pure [0] [1, 2, 3] [(137, .pointer (some ⟨k6, 2, none⟩))] rfl (by kernel_rfl) ?_
    refine Gx.cons (Gx.op_load rfl (by kernel_rfl) rfl 2 (.slice (FB n) ((funs.getD n fun0).ins.length) (FC n)) (by kernel_rfl) (x25.has (x24.has (x23.has b38 (by omega) (by decide)) (by omega) (by decide)) (by omega) (by decide)) (by kernel_rfl) ?_)
    refine Gx.pure [2, 3] [] [(140, .int .i64 0), (139, .int .i64 (((funs.getD n fun0).ins.length : Nat) : Int))] rfl (by kernel_rfl) ?_
    refine Gx.ops_end ?_
    refine wp_block ?_
    refine Gx.loop (n' := 166) (d' := []) (fun mz l' w' => ∃ (n2 : Nat) (vi : Value) (pi : List Ch), l' = [(4, .pointer (some ⟨k3, 0, none⟩)), (118, .slice A3 funs.length c3), (119, .int .i64 ((funs.length : Nat) : Int)), (120, .int .i64 ((n : Nat) : Int)), (138, .slice (FB n) ((funs.getD n fun0).ins.length) (FC n)), (139, .int .i64 (((funs.getD n fun0).ins.length : Nat) : Int)), (140, .int .i64 ((n2 : Nat) : Int))] ∧ mz = (funs.getD n fun0).ins.length - n2 ∧ Gx.Ext w w' ∧ Gx.Has w' k1 (.cells #[.string shape, .slice A1 ops.length c1, .slice A2 hds.length c2, .slice A3 funs.length c3] 26) ∧ Gx.Has w' k3 (.cells #[vi, .bool (bd pi)] 34) ∧ Gx.Has w' k6 (.cells #[.int .i64 ((funs.getD n fun0).free), .int .i64 ((funs.getD n fun0).slots), .slice (FB n) ((funs.getD n fun0).ins.length) (FC n)] 44) ∧ (n2 ≤ (funs.getD n fun0).ins.length) ∧ (Gx.ownsM w' k2 5 vi (cat pi).size (Lib.strCells (cat pi))) ∧ (pi = p16 ++ upTo insC (funs.getD n fun0).ins n2) ∧ ((cat pi).size ≤ (cat p16).size + n2 * 9)) _ _ [(4, .pointer (some ⟨k3, 0, none⟩)), (118, .slice A3 funs.length c3), (119, .int .i64 ((funs.length : Nat) : Int)), (120, .int .i64 ((n : Nat) : Int)), (138, .slice (FB n) ((funs.getD n fun0).ins.length) (FC n)), (139, .int .i64 (((funs.getD n fun0).ins.length : Nat) : Int)), (140, .int .i64 ((0 : Nat) : Int))] (Gx.forget [(4, .pointer (some ⟨k3, 0, none⟩)), (118, .slice A3 funs.length c3), (119, .int .i64 ((funs.length : Nat) : Int)), (120, .int .i64 ((n : Nat) : Int)), (138, .slice (FB n) ((funs.getD n fun0).ins.length) (FC n)), (139, .int .i64 (((funs.getD n fun0).ins.length : Nat) : Int)), (140, .int .i64 ((0 : Nat) : Int))] (by kernel_rfl)) ⟨0, v14, p16, rfl, rfl, (((((((Gx.Ext.refl w).trans x21).trans x22).upd1 u8 (by omega)).wx x23 (by omega)).wx x24 (by omega)).wx x25 (by omega)), (x25.has (x24.has (x23.has ((b35.ext x22).upd1 u8 (by omega)) (by omega) (by decide)) (by omega) (by decide)) (by omega) (by decide)), b41, (x25.has (x24.has (x23.has b38 (by omega) (by decide)) (by omega) (by decide)) (by omega) (by decide)), (Nat.zero_le _), ow19, (by simp [upTo_zero]), (by omega)⟩ (fun bb6 m5 ll6 w36 hI6 K6 hK6 => ?_)
    obtain ⟨n2, vi, pi, rfl, rfl, x26, b42, b43, b44, hki, hoi, hli, hzi⟩ := hI6
    have zw36 := x26.size
    have tb42 := b42.lt
    have tb43 := b43.lt
    have tb44 := b44.lt
    refine Gx.seq_run [(141, .bool (decide (((n2 : Nat) : Int) < (((funs.getD n fun0).ins.length : Nat) : Int))))] (by kernel_rfl) ?_
    refine wp_seq ?_
    refine Gx.cond (decide (((n2 : Nat) : Int) < (((funs.getD n fun0).ins.length : Nat) : Int))) (by kernel_rfl) (fun h_c141 => ?_) (fun h_c141 => ?_)
    · skip
      refine wp_skip ?_
      refine Gx.then_normal ?_
      refine wp_seq ?_
      refine wp_block ?_
      refine Gx.seq_reg [0, 1, 2, 3] (by kernel_rfl) ?_
      have p_c141 := h_c141; try simp [-List.getD_eq_getElem?_getD] at p_c141
      obtain ⟨a5, ha5, hc5⟩ := (R3' n (by omega)) n2 (by omega)
      refine Gx.cons (Gx.op_indexAddrO rfl (by kernel_rfl) rfl 46 4 (by kernel_rfl) (by kernel_rfl) a5 ha5 ((funs.getD n fun0).ins.length) (FC n) (by kernel_rfl) .i64 n2 (by kernel_rfl) (by omega) ?_)
      refine Gx.cons (Gx.op_loadO rfl (by kernel_rfl) rfl [.int .i64 (((funs.getD n fun0).ins.getD n2 ins0).op), .int .i64 (((funs.getD n fun0).ins.getD n2 ins0).a), .int .i64 (((funs.getD n fun0).ins.getD n2 ins0).b), .int .i64 (((funs.getD n fun0).ins.getD n2 ins0).n)] (.agg #[.int .i64 (((funs.getD n fun0).ins.getD n2 ins0).op), .int .i64 (((funs.getD n fun0).ins.getD n2 ins0).a), .int .i64 (((funs.getD n fun0).ins.getD n2 ins0).b), .int .i64 (((funs.getD n fun0).ins.getD n2 ins0).n)]) (by kernel_rfl) 4 (Gx.cells_ext hc5 (by decide) ((Gx.Ext.refl w).trans x26)) (by kernel_rfl) (by kernel_rfl) ?_)
      refine Gx.cons (Gx.op_new (.cells #[.int .i64 0, .int .i64 0, .int .i64 0, .int .i64 0] 46) rfl (by kernel_rfl) (by kernel_rfl) (fun k7 w37 l7 x27 b45 => ?_))
      have zw37 := x27.size
      have tb45 := b45.lt
      refine Gx.cons (Gx.op_store rfl (by kernel_rfl) rfl 0 (.agg #[.int .i64 (((funs.getD n fun0).ins.getD n2 ins0).op), .int .i64 (((funs.getD n fun0).ins.getD n2 ins0).a), .int .i64 (((funs.getD n fun0).ins.getD n2 ins0).b), .int .i64 (((funs.getD n fun0).ins.getD n2 ins0).n)]) (by kernel_rfl) (by kernel_rfl) b45 (by kernel_rfl) (by kernel_rfl) (by kernel_rfl) #[.int .i64 (((funs.getD n fun0).ins.getD n2 ins0).op), .int .i64 (((funs.getD n fun0).ins.getD n2 ins0).a), .int .i64 (((funs.getD n fun0).ins.getD n2 ins0).b), .int .i64 (((funs.getD n fun0).ins.getD n2 ins0).n)] (by kernel_rfl) (fun w38 u9 b46 => ?_))
      have zw38 := u9.size
      refine Gx.ops_end ?_
      refine Gx.reg [0, 1, 2] (by kernel_rfl) ?_
      refine Gx.pure [0] [1, 2] [(144, .pointer (some ⟨k3, 0, none⟩))] rfl (by kernel_rfl) ?_
      refine Gx.cons (Gx.op_load rfl (by kernel_rfl) rfl 0 (.agg #[.int .i64 (((funs.getD n fun0).ins.getD n2 ins0).op), .int .i64 (((funs.getD n fun0).ins.getD n2 ins0).a), .int .i64 (((funs.getD n fun0).ins.getD n2 ins0).b), .int .i64 (((funs.getD n fun0).ins.getD n2 ins0).n)]) (by kernel_rfl) b46 (by kernel_rfl) ?_)
      refine Gx.cons (Gx.op_call rfl (by kernel_rfl) (by kernel_rfl) (fun R hR => ins_p k2 k3 pi ((funs.getD n fun0).ins.getD n2 ins0) _ R ⟨_, ((b43.ext x27).upd1 u9 (by omega)), (Gx.own_upd1M (Gx.own_extM hoi x27) u9 (Gx.own_neM (Gx.own_extM hoi x27) b45 (by decide))), hB⟩ (by omega) (by omega) (hix _ _) (fun w39 p17 hp17 x28 hw13 hz16 => hR _ _ ?_)))
      have zw39 := x28.size
      obtain ⟨v15, b47, ow20, _⟩ := hw13
      have tb47 := b47.lt
      refine Gx.ops_nil ?_
      refine Gx.block_normal ?_
      refine Gx.then_normal ?_
      refine Gx.reg [0, 1] (by kernel_rfl) ?_
      refine Gx.pure_eq [0] [1] [(147, .int .i64 (IntKind.i64.wrap (((n2 : Nat) : Int) + (1 : Int))))] [(147, .int .i64 ((n2 + 1 : Nat) : Int))] rfl (by kernel_rfl) (Gx.eqI (Gx.i64n (by omega) (by omega))) ?_
      refine Gx.pure [1] [] [(140, .int .i64 ((n2 + 1 : Nat) : Int))] rfl (by kernel_rfl) ?_
      refine Gx.ops_nil ?_
      refine Gx.then_normal ?_
      rw [Gx.forget [(4, .pointer (some ⟨k3, 0, none⟩)), (118, .slice A3 funs.length c3), (119, .int .i64 ((funs.length : Nat) : Int)), (120, .int .i64 ((n : Nat) : Int)), (138, .slice (FB n) ((funs.getD n fun0).ins.length) (FC n)), (139, .int .i64 (((funs.getD n fun0).ins.length : Nat) : Int)), (140, .int .i64 (((n2 + 1) : Nat) : Int))] (by kernel_rfl)]
      exact hK6 _ _ _ _ (by omega) ⟨(n2 + 1), v15, p17, rfl, rfl, (((((Gx.Ext.refl w).trans x26).trans x27).upd1 u9 (by omega)).wx x28 (by omega)), (x28.has ((b42.ext x27).upd1 u9 (by omega)) (by omega) (by decide)), b47, (x28.has ((b44.ext x27).upd1 u9 (by omega)) (by omega) (by decide)), (by omega), ow20, (by rw [hp17, hli, upTo_succ insC (funs.getD n fun0).ins ins0 (by omega)]; simp [List.append_assoc]), (by omega)⟩
    refine wp_exit ?_
    refine Gx.then_exit ?_
    refine Gx.then_exit ?_
    refine Gx.block_exit ?_
    refine Gx.block_normal ?_
    refine Gx.then_normal ?_
    have p_c141 := h_c141; try simp [-List.getD_eq_getElem?_getD] at p_c141
    rw [upTo_all insC (funs.getD n fun0).ins (by omega)] at hli
    refine Gx.reg [0, 1] (by kernel_rfl) ?_
    refine Gx.pure_eq [0] [1] [(148, .int .i64 (IntKind.i64.wrap (((n : Nat) : Int) + (1 : Int))))] [(148, .int .i64 ((n + 1 : Nat) : Int))] rfl (by kernel_rfl) (Gx.eqI (Gx.i64n (by omega) (by omega))) ?_
    refine Gx.pure [1] [] [(120, .int .i64 ((n + 1 : Nat) : Int))] rfl (by kernel_rfl) ?_
    refine Gx.ops_nil ?_
    refine Gx.then_normal ?_
    rw [Gx.forget [(4, .pointer (some ⟨k3, 0, none⟩)), (118, .slice A3 funs.length c3), (119, .int .i64 ((funs.length : Nat) : Int)), (120, .int .i64 (((n + 1) : Nat) : Int))] (by kernel_rfl)]
    exact hK5 _ _ _ _ (by omega) ⟨(n + 1), vi, pi, rfl, rfl, ((Gx.Ext.refl w).trans x26), b42, b43, (by omega), hoi, (by rw [hli, hp16, hp15, hp14, hlf, upTo_succ fnC funs fun0 (by omega)]; simp [fnC]), (by omega)⟩
  refine wp_exit ?_
  refine Gx.then_exit ?_
  refine Gx.then_exit ?_
  refine Gx.block_exit ?_
  refine Gx.then_normal ?_
  refine wp_seq ?_
  refine wp_block ?_
  have p_c121 := h_c121; try simp [-List.getD_eq_getElem?_getD] at p_c121
  rw [upTo_all fnC funs (by omega)] at hlf
  refine Gx.seq_reg [0, 1, 2, 3, 4] (by kernel_rfl) ?_
  refine Gx.pure [0, 1, 2] [3, 4] [(152, .pointer (some ⟨k3, 1, none⟩)), (151, .pointer (some ⟨k3, 0, none⟩)), (150, .pointer (some ⟨k3, 0, none⟩))] rfl (by kernel_rfl) ?_
  refine Gx.cons (Gx.op_load rfl (by kernel_rfl) rfl 1 (.bool (bd pf)) (by kernel_rfl) b36 (by kernel_rfl) ?_)
  refine Gx.pure [4] [] [(149, .bool (bd pf))] rfl (by kernel_rfl) ?_
  refine Gx.ops_end ?_
  refine Gx.cond (bd pf) (by kernel_rfl) (fun h_c149 => ?_) (fun h_c149 => ?_)
  · skip
    refine Gx.seq_run [(3, .int .i64 14), (2, .string (⟨#[]⟩ : ByteArray))] (by kernel_rfl) ?_
    refine wp_ret ?_
    refine Gx.block_ret ?_
    refine Gx.then_ret ?_
    refine Gx.ret (Gx.res2 (v := .string (⟨#[]⟩ : ByteArray)) (u := .int .i64 14) rfl (by kernel_rfl) (by kernel_rfl)) ?_
    have p_c149 := h_c149; try simp [-List.getD_eq_getElem?_getD] at p_c149
    have hC : pf = chunks shape ops hds funs := by rw [hlf, hp13, hlh, hp9, hlo, hp4, hp3, hp2, hp1]; simp [chunks, chC, chB, chA]
    obtain ⟨e1, e2⟩ := res_bad h_c149
    rw [hC] at e1 e2
    exact Gx.ret_as (v' := .tuple #[.string (resS (chunks shape ops hds funs)), .int .i64 (resK (chunks shape ops hds funs))]) (by rw [e1, e2]; all_goals rfl) (hK _ ((Gx.Ext.refl w).trans x21))
  refine Gx.seq_reg [0, 1, 2, 3, 4, 5, 6] (by kernel_rfl) ?_
  refine Gx.pure [0, 1, 2] [3, 4, 5, 6] [(157, .pointer (some ⟨k3, 0, none⟩)), (156, .pointer (some ⟨k3, 0, none⟩)), (155, .pointer (some ⟨k3, 0, none⟩))] rfl (by kernel_rfl) ?_
  refine Gx.cons (Gx.op_load rfl (by kernel_rfl) rfl 0 (vf) (by kernel_rfl) b36 (by kernel_rfl) ?_)
  refine Gx.cons (Gx.op_lenM 5 rfl (by kernel_rfl) rfl (by kernel_rfl) (by kernel_rfl) hof ?_)
  refine Gx.pure [5, 6] [] [(154, .bool (decide ((((cat pf).size : Nat) : Int) > (4000000 : Int)))), (160, .bool (decide ((((cat pf).size : Nat) : Int) > (4000000 : Int))))] rfl (by kernel_rfl) ?_
  refine Gx.ops_end ?_
  refine Gx.cond (decide ((((cat pf).size : Nat) : Int) > (4000000 : Int))) (by kernel_rfl) (fun h_c154 => ?_) (fun h_c154 => ?_)
  · skip
    refine Gx.seq_run [(3, .int .i64 1), (2, .string (⟨#[]⟩ : ByteArray))] (by kernel_rfl) ?_
    refine wp_ret ?_
    refine Gx.block_ret ?_
    refine Gx.then_ret ?_
    refine Gx.ret (Gx.res2 (v := .string (⟨#[]⟩ : ByteArray)) (u := .int .i64 1) rfl (by kernel_rfl) (by kernel_rfl)) ?_
    have p_c149 := h_c149; try simp [-List.getD_eq_getElem?_getD] at p_c149
    have p_c154 := h_c154; try simp [-List.getD_eq_getElem?_getD] at p_c154
    have hC : pf = chunks shape ops hds funs := by rw [hlf, hp13, hlh, hp9, hlo, hp4, hp3, hp2, hp1]; simp [chunks, chC, chB, chA]
    obtain ⟨e1, e2⟩ := res_long h_c149 (by have := h_c154; simp at this; omega)
    rw [hC] at e1 e2
    exact Gx.ret_as (v' := .tuple #[.string (resS (chunks shape ops hds funs)), .int .i64 (resK (chunks shape ops hds funs))]) (by rw [e1, e2]; all_goals rfl) (hK _ ((Gx.Ext.refl w).trans x21))
  refine wp_skip ?_
  refine Gx.block_normal ?_
  refine Gx.then_normal ?_
  refine Gx.seq_reg [0, 1, 2, 3, 4, 5, 6] (by kernel_rfl) ?_
  refine Gx.pure [0, 1, 2] [3, 4, 5, 6] [(163, .pointer (some ⟨k3, 0, none⟩)), (162, .pointer (some ⟨k3, 0, none⟩)), (161, .pointer (some ⟨k3, 0, none⟩))] rfl (by kernel_rfl) ?_
  refine Gx.cons (Gx.op_load rfl (by kernel_rfl) rfl 0 (vf) (by kernel_rfl) b36 (by kernel_rfl) ?_)
  refine Gx.cons (Gx.op_strM rfl (by kernel_rfl) rfl 5 (by kernel_rfl) (by kernel_rfl) (by kernel_rfl) (cat pf) (by kernel_rfl) hof ?_)
  refine Gx.pure [5, 6] [] [(3, .int .i64 0), (2, .string (cat pf))] rfl (by kernel_rfl) ?_
  refine Gx.ops_end ?_
  refine wp_ret ?_
  refine Gx.ret (Gx.res2 (v := .string (cat pf)) (u := .int .i64 0) rfl (by kernel_rfl) (by kernel_rfl)) ?_
  have p_c149 := h_c149; try simp [-List.getD_eq_getElem?_getD] at p_c149
  have p_c154 := h_c154; try simp [-List.getD_eq_getElem?_getD] at p_c154
  have hC : pf = chunks shape ops hds funs := by rw [hlf, hp13, hlh, hp9, hlo, hp4, hp3, hp2, hp1]; simp [chunks, chC, chB, chA]
  obtain ⟨e1, e2⟩ := res_ok h_c149 (by have := h_c154; simp at this; omega)
  rw [hC] at e1 e2 ⊢
  exact Gx.ret_as (v' := .tuple #[.string (resS (chunks shape ops hds funs)), .int .i64 (resK (chunks shape ops hds funs))]) (by rw [e1, e2]; all_goals rfl) (hK _ ((Gx.Ext.refl w).trans x21))

end Go.Proofs.Ytccjnoefjehmhaa
