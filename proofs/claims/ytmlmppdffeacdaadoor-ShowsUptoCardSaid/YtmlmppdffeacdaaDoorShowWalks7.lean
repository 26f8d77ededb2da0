/- The walks of the functions that show types, written by a program of ours (wip/gx/gx.py, wip/shows/showgen.py). -/
import Derived.Test.YtmlmppdffeacdaaDoorRows
import Derived.Test.YtmlmppdffeacdaaDoorGw
import Derived.Test.YtmlmppdffeacdaaDoorShowPlain
import Derived.Test.YtmlmppdffeacdaaDoorBuild
import Derived.Test.YtmlmppdffeacdaaDoorShowWalks1
import Derived.Test.YtmlmppdffeacdaaDoorShowWalks2
import Derived.Test.YtmlmppdffeacdaaDoorShowWalks3
import Derived.Test.YtmlmppdffeacdaaDoorShowWalks4
import Derived.Test.YtmlmppdffeacdaaDoorShowWalks5
import Derived.Test.YtmlmppdffeacdaaDoorShowWalks6
namespace Go.Proofs.YtmlmppdffeacdaaDoor
open Go.RowKit Go.Show
attribute [local irreducible] Go.wpOps Go.Code.wp Go.wpOp Go.wpAnyH Go.Calls

theorem pshow {w0 : World} {t : TyP} {v : Value} (h : TyIn w0 t v) (hw : Wf t) (htab : Lib.TabBelow Tryd.prog w0.heap.size w0 "internal/strconv.uint64pow10" .u64 Lib.pow10Tab) :
    ∀ (B b : Nat) (s : ByteArray) (least : Int) (w : World) (K : Ending → World → Prop), Bd w B b s → B ≤ w.heap.size → Gx.Ext w0 w → w0.heap.size ≤ B → least ≤ 2 → (s.size + (inP least t).size ≤ 1099511627776) → (∀ w' s', s' = s ++ inP least t → Gx.Wx 5 B b w w' → Bd w' B b s' → K (.returned (.tuple #[])) w') → Calls Tryd.prog 8 #[.pointer (some ⟨b, 0, none⟩), v, .int .i64 least] w K := by
  induction h with
  | @mk k n row ops args A1 A2 c1 c2 cs hk hn hr hc1 hl hz ho ha hV ih =>
    intro B b s least w K hbd hBw hE h0 hle hsz hK
    cases hw with
    | mk har h0n hrw hsub =>
      have ihS := fun i hi => ih i hi (hsub i hi)
      have hB : B ≤ b := by obtain ⟨_, _, _, _, hB, _⟩ := hbd; exact hB
      rcases arity_range k with ⟨h1, rfl | rfl | rfl | rfl⟩ | ⟨h1, rfl⟩ | ⟨h1, rfl | rfl⟩ | h1
      · have e : args.length = 0 := by omega
        rw [e] at ha ⊢; exact pshow_0 w0 B b s n row ops args A1 A2 c1 c2 cs least w K hbd hBw hB hE h0 hsz e hn hr hc1 hl.1 hz ho ha htab (h0n rfl) hle hK
      · have e : args.length = 0 := by omega
        rw [e] at ha ⊢; exact pshow_1 w0 B b s n row ops args A1 A2 c1 c2 cs least w K hbd hBw hB hE h0 hsz e hn hr hc1 hl.1 hz ho ha htab hle hK
      · have e : args.length = 0 := by omega
        rw [e] at ha ⊢; exact pshow_2 w0 B b s n row ops args A1 A2 c1 c2 cs least w K hbd hBw hB hE h0 hsz e hn hr hc1 hl.1 hz ho ha htab hle hK
      · have e : args.length = 0 := by omega
        rw [e] at ha ⊢; exact pshow_3 w0 B b s n row ops args A1 A2 c1 c2 cs least w K hbd hBw hB hE h0 hsz e hn hr hc1 hl.1 hz ho ha htab hle hK
      · have e : args.length = 1 := by omega
        rw [e] at ha ⊢; exact pshow_4 w0 B b s n row ops args A1 A2 c1 c2 cs least w K hbd hBw hB hE h0 hsz e hn hr hc1 hl.1 hz ho ha htab hle ihS hK
      · have e : args.length = 2 := by omega
        rw [e] at ha ⊢; exact pshow_5 w0 B b s n row ops args A1 A2 c1 c2 cs least w K hbd hBw hB hE h0 hsz e hn hr hc1 hl.1 hz ho ha htab hle ihS hK
      · have e : args.length = 2 := by omega
        rw [e] at ha ⊢; exact pshow_6 w0 B b s n row ops args A1 A2 c1 c2 cs least w K hbd hBw hB hE h0 hsz e hn hr hc1 hl.1 hz ho ha htab hle ihS hK
      · omega


theorem bd_lt {w : World} {B b : Nat} {s : ByteArray} (h : Bd w B b s) : B ≤ w.heap.size := by
  obtain ⟨_, _, hb, _, hB, _⟩ := h
  have := hb.lt
  omega
theorem tab_ext {w w' : World} (htab : Lib.TabBelow Tryd.prog w.heap.size w "internal/strconv.uint64pow10" .u64 Lib.pow10Tab) (x : Gx.Ext w w') : Lib.TabBelow Tryd.prog w'.heap.size w' "internal/strconv.uint64pow10" .u64 Lib.pow10Tab :=
  Lib.tabBelow_of_tabIs (htab _ (Gx.Ext.below x))

set_option maxHeartbeats 400000 in
set_option maxRecDepth 10000 in
theorem pShow_c (k n row : Int) (ops : List ByteArray) (args : List TyP) (A1 A2 : Option Addr) (c1 c2 : Nat) (w : World) (K : Ending → World → Prop) (hT : TyIn w (.mk k n row ops args) (.agg #[.int .i64 k, .int .i64 n, .int .i64 row, .slice A1 ops.length c1, .slice A2 args.length c2])) (hw : Wf (.mk k n row ops args)) (hsz : (showP (.mk k n row ops args)).size ≤ 1099511627776) (htab : Lib.TabBelow Tryd.prog w.heap.size w "internal/strconv.uint64pow10" .u64 Lib.pow10Tab) (hK : ∀ w', Gx.Ext w w' → K (.returned (.string (showP (.mk k n row ops args)))) w') :
    Calls Tryd.prog 5 #[.agg #[.int .i64 k, .int .i64 n, .int .i64 row, .slice A1 ops.length c1, .slice A2 args.length c2]] w K := by
  refine Gx.enter 7 Tryd.func5 rfl rfl (Nat.le_of_ble_eq_true rfl) ?_
  refine Gx.seq_reg [0, 1] (by kernel_rfl) ?_
  refine Gx.cons (Gx.op_new (.cells #[.int .i64 k, .int .i64 n, .int .i64 row, .slice A1 ops.length c1, .slice A2 args.length c2] 25) rfl (by kernel_rfl) (by kernel_rfl) (fun k1 w1 l1 x1 b1 => ?_))
  have zw1 := x1.size
  have tb1 := b1.lt
  refine Gx.pure [1] [] [(2, .string (⟨#[]⟩ : ByteArray))] rfl (by kernel_rfl) ?_
  refine Gx.ops_end ?_
  refine Gx.seq_reg [0] (by kernel_rfl) ?_
  refine Gx.cons (Gx.op_new (.cells #[.pointer none, .slice none 0 0] 33) rfl (by kernel_rfl) (by kernel_rfl) (fun k2 w2 l2 x2 b2 => ?_))
  have zw2 := x2.size
  have tb2 := b2.lt
  refine Gx.ops_end ?_
  refine Gx.seq_reg [0, 1] (by kernel_rfl) ?_
  refine Gx.cons (Gx.op_load rfl (by kernel_rfl) rfl 0 (.agg #[.int .i64 k, .int .i64 n, .int .i64 row, .slice A1 ops.length c1, .slice A2 args.length c2]) (by kernel_rfl) (b1.ext x2) (by kernel_rfl) ?_)
  refine Gx.cons (Gx.op_call rfl (by kernel_rfl) (by kernel_rfl) (fun R hR => pshow hT hw htab k2 k2 e0 0 _ R (new_builder b2) (by omega) (((Gx.Ext.refl w).trans x1).trans x2) (by omega) (by decide) (by rw [in_zero]; show 0 + _ ≤ _; omega) (fun w3 s1 hs1 x3 hbd1 => hR _ _ ?_)))
  have zw3 := x3.size
  refine Gx.ops_end ?_
  refine Gx.seq_reg [0, 1] (by kernel_rfl) ?_
  refine Gx.cons (Gx.op_call rfl (by kernel_rfl) (by kernel_rfl) (fun R hR => string_c k2 k2 s1 _ R hbd1 (bd_lt (hbd1)) (fun w4 x4 => hR _ _ ?_)))
  have zw4 := x4.size
  refine Gx.pure [1] [] [(2, .string s1)] rfl (by kernel_rfl) ?_
  refine Gx.ops_end ?_
  refine wp_ret ?_
  refine Gx.ret (v := .string s1) (Gx.res1 rfl (by kernel_rfl)) ?_
  exact Gx.ret_as (v' := .string (showP (.mk k n row ops args))) (by rw [hs1, in_zero, e0_app]) (hK _ (((((Gx.Ext.refl w).trans x1).trans x2).wx x3 (by omega)).wx x4 (by omega)))


theorem Show_p {w : World} {t : TyP} {v : Value} (hT : TyIn w t v) (hw : Wf t) (hsz : (showP t).size ≤ 1099511627776) (htab : Lib.TabBelow Tryd.prog w.heap.size w "internal/strconv.uint64pow10" .u64 Lib.pow10Tab) (K : Ending → World → Prop) (hK : ∀ w', Gx.Ext w w' → K (.returned (.string (showP t))) w') : Calls Tryd.prog 5 #[v] w K := by
  have hT' := hT
  cases hT with
  | mk cs hk hn hr hc1 hl hz ho ha hV => exact pShow_c _ _ _ _ _ _ _ _ _ w K hT' hw hsz htab hK

set_option maxHeartbeats 400000 in
set_option maxRecDepth 10000 in
theorem Shows_c (k n row : Int) (ops : List ByteArray) (args : List TyP) (A1 A2 : Option Addr) (c1 c2 : Nat) (w : World) (K : Ending → World → Prop) (hT : TyIn w (.mk k n row ops args) (.agg #[.int .i64 k, .int .i64 n, .int .i64 row, .slice A1 ops.length c1, .slice A2 args.length c2])) (hsz : (showP (.mk k n row ops args)).size ≤ 1099511627776) (htab : Lib.TabBelow Tryd.prog w.heap.size w "internal/strconv.uint64pow10" .u64 Lib.pow10Tab) (hK : ∀ w', Gx.Ext w w' → K (.returned (.bool true)) w') :
    Calls Tryd.prog 3 #[.agg #[.int .i64 k, .int .i64 n, .int .i64 row, .slice A1 ops.length c1, .slice A2 args.length c2]] w K := by
  refine Gx.enter 16 Tryd.func3 rfl rfl (Nat.le_of_ble_eq_true rfl) ?_
  refine Gx.seq_reg [0, 1] (by kernel_rfl) ?_
  refine Gx.cons (Gx.op_new (.cells #[.int .i64 k, .int .i64 n, .int .i64 row, .slice A1 ops.length c1, .slice A2 args.length c2] 25) rfl (by kernel_rfl) (by kernel_rfl) (fun k1 w1 l1 x1 b1 => ?_))
  have zw1 := x1.size
  have tb1 := b1.lt
  refine Gx.pure [1] [] [(2, .bool false)] rfl (by kernel_rfl) ?_
  refine Gx.ops_end ?_
  refine Gx.seq_reg [0, 1, 2] (by kernel_rfl) ?_
  refine Gx.cons (Gx.op_load rfl (by kernel_rfl) rfl 0 (.agg #[.int .i64 k, .int .i64 n, .int .i64 row, .slice A1 ops.length c1, .slice A2 args.length c2]) (by kernel_rfl) b1 (by kernel_rfl) ?_)
  refine Gx.cons (Gx.op_call rfl (by kernel_rfl) (by kernel_rfl) (fun R hR => Proper_c k n row ops args A1 A2 c1 c2 _ R (hT.ext ((Gx.Ext.refl w).trans x1)) (fun w2 x2 pb1 hpb1 => hR _ _ ?_)))
  have zw2 := x2.size
  refine Gx.pure [2] [] [(3, .bool pb1)] rfl (by kernel_rfl) ?_
  refine Gx.ops_end ?_
  refine wp_seq ?_
  refine Gx.seq_run [(7, .bool (!pb1)), (6, .bool pb1)] (by kernel_rfl) ?_
  refine Gx.cond (!pb1) (by kernel_rfl) (fun h_c7 => ?_) (fun h_c7 => ?_)
  · skip
    refine Gx.reg [0, 1, 2, 3] (by kernel_rfl) ?_
    refine Gx.pure [0] [1, 2, 3] [(8, .agg #[.int .i64 1, .int .i64 0, .int .i64 0, .slice none 0 0, .slice none 0 0])] rfl (by kernel_rfl) ?_
    refine Gx.cons (Gx.op_row (.cells #[.int .i64 1, .int .i64 0, .int .i64 0, .slice none 0 0, .slice none 0 0] 25) 1 1 rfl (by kernel_rfl) (by kernel_rfl) (fun k2 w3 l2 x3 b2 => ?_))
    have zw3 := x3.size
    have tb2 := b2.lt
    refine Gx.pure [2] [3] [(10, .agg #[.int .i64 4, .int .i64 0, .int .i64 0, .slice none 0 0, .slice (some ⟨k2, 0, none⟩) 1 1])] rfl (by kernel_rfl) ?_
    refine Gx.cons (Gx.op_store rfl (by kernel_rfl) rfl 0 (.agg #[.int .i64 4, .int .i64 0, .int .i64 0, .slice none 0 0, .slice (some ⟨k2, 0, none⟩) 1 1]) (by kernel_rfl) (by kernel_rfl) ((b1.ext x2).ext x3) (by kernel_rfl) (by kernel_rfl) (by kernel_rfl) #[.int .i64 4, .int .i64 0, .int .i64 0, .slice none 0 0, .slice (some ⟨k2, 0, none⟩) 1 1] (by kernel_rfl) (fun w4 u1 b3 => ?_))
    have zw4 := u1.size
    refine Gx.ops_nil ?_
    refine Gx.then_normal ?_
    refine wp_seq ?_
    refine Gx.draw (S := fun w' => Gx.Has w' k1 (.cells #[.int .i64 4, .int .i64 0, .int .i64 0, .slice none 0 0, .slice (some ⟨k2, 0, none⟩) 1 1] 25)) (by kernel_rfl) (fun w5 x4 => ?_)
    have zw5 := x4.size
    refine Gx.any_take 0 (.agg #[.int .i64 4, .int .i64 0, .int .i64 0, .slice none 0 0, .slice (some ⟨k2, 0, none⟩) 1 1]) rfl (by kernel_rfl) (by kernel_rfl) (by kernel_rfl) (fun _ _ _ h => h) (b3.ext x4) (by kernel_rfl) (fun _ hs => Gx.run_load rfl 0 (.agg #[.int .i64 4, .int .i64 0, .int .i64 0, .slice none 0 0, .slice (some ⟨k2, 0, none⟩) 1 1]) (by kernel_rfl) hs (by kernel_rfl)) ?_
    refine Gx.any_take 2 (.agg #[.int .i64 4, .int .i64 0, .int .i64 0, .slice none 0 0, .slice (some ⟨k2, 0, none⟩) 1 1]) rfl (by kernel_rfl) (by kernel_rfl) (by kernel_rfl) (fun _ _ _ h => h) (b3.ext x4) (by kernel_rfl) (fun _ hs => Gx.run_load rfl 0 (.agg #[.int .i64 4, .int .i64 0, .int .i64 0, .slice none 0 0, .slice (some ⟨k2, 0, none⟩) 1 1]) (by kernel_rfl) hs (by kernel_rfl)) ?_
    have p_c7 := h_c7; try simp [-List.getD_eq_getElem?_getD] at p_c7
    refine Gx.any_one 1 (by kernel_rfl) (Gx.op_call rfl (by kernel_rfl) (by kernel_rfl) (fun R hR => Show_p (list_int ((b2.upd1 u1 (by omega)).ext x4)) list_wf list_size (tab_ext htab ((((((Gx.Ext.refl w).trans x1).trans x2).trans x3).upd1 u1 (by omega)).trans x4)) R (fun w6 x5 => hR _ _ ⟨((b3.ext x4).ext x5), ?_⟩)))
    have zw6 := x5.size
    refine Gx.any_one 3 (by kernel_rfl) (Gx.op_call rfl (by kernel_rfl) (by kernel_rfl) (fun R hR => (show_in (list_int (((b2.upd1 u1 (by omega)).ext x4).ext x5)) list_size).1 _ R (Gx.Ext.refl _) (fun w7 x6 => hR _ _ ⟨(((b3.ext x4).ext x5).ext x6), ?_⟩)))
    have zw7 := x6.size
    refine Gx.any_take 4 (.bool ((showP (.mk 4 0 0 [] [.mk 1 0 0 [] []])).toList == (showP (.mk 4 0 0 [] [.mk 1 0 0 [] []])).toList)) rfl (by kernel_rfl) (by kernel_rfl) (by kernel_rfl) (fun _ _ _ h => h) (((b3.ext x4).ext x5).ext x6) (by kernel_rfl) (fun _ _ => (by kernel_rfl)) ?_
    refine Gx.any_take 5 (.bool ((showP (.mk 4 0 0 [] [.mk 1 0 0 [] []])).toList == (showP (.mk 4 0 0 [] [.mk 1 0 0 [] []])).toList)) rfl (by kernel_rfl) (by kernel_rfl) (by kernel_rfl) (fun _ _ _ h => h) (((b3.ext x4).ext x5).ext x6) (by kernel_rfl) (fun _ _ => (by kernel_rfl)) ?_
    refine Gx.any_done (by kernel_rfl) ?_
    refine Gx.then_normal ?_
    refine wp_ret ?_
    refine Gx.ret (v := .bool ((showP (.mk 4 0 0 [] [.mk 1 0 0 [] []])).toList == (showP (.mk 4 0 0 [] [.mk 1 0 0 [] []])).toList)) (Gx.res1 rfl (by kernel_rfl)) ?_
    exact Gx.ret_as (v' := .bool true) (by simp) (hK _ ((((((((Gx.Ext.refl w).trans x1).trans x2).trans x3).upd1 u1 (by omega)).trans x4).trans x5).trans x6))
  refine wp_skip ?_
  refine Gx.then_normal ?_
  refine wp_seq ?_
  refine Gx.draw (S := fun w' => Gx.Has w' k1 (.cells #[.int .i64 k, .int .i64 n, .int .i64 row, .slice A1 ops.length c1, .slice A2 args.length c2] 25)) (by kernel_rfl) (fun w8 x7 => ?_)
  have zw8 := x7.size
  refine Gx.any_take 0 (.agg #[.int .i64 k, .int .i64 n, .int .i64 row, .slice A1 ops.length c1, .slice A2 args.length c2]) rfl (by kernel_rfl) (by kernel_rfl) (by kernel_rfl) (fun _ _ _ h => h) ((b1.ext x2).ext x7) (by kernel_rfl) (fun _ hs => Gx.run_load rfl 0 (.agg #[.int .i64 k, .int .i64 n, .int .i64 row, .slice A1 ops.length c1, .slice A2 args.length c2]) (by kernel_rfl) hs (by kernel_rfl)) ?_
  refine Gx.any_take 2 (.agg #[.int .i64 k, .int .i64 n, .int .i64 row, .slice A1 ops.length c1, .slice A2 args.length c2]) rfl (by kernel_rfl) (by kernel_rfl) (by kernel_rfl) (fun _ _ _ h => h) ((b1.ext x2).ext x7) (by kernel_rfl) (fun _ hs => Gx.run_load rfl 0 (.agg #[.int .i64 k, .int .i64 n, .int .i64 row, .slice A1 ops.length c1, .slice A2 args.length c2]) (by kernel_rfl) hs (by kernel_rfl)) ?_
  refine Gx.any_one 1 (by kernel_rfl) (Gx.op_call rfl (by kernel_rfl) (by kernel_rfl) (fun R hR => Show_p (hT.ext ((((Gx.Ext.refl w).trans x1).trans x2).trans x7)) (hpb1 (by simpa using h_c7)) hsz (tab_ext htab ((((Gx.Ext.refl w).trans x1).trans x2).trans x7)) R (fun w9 x8 => hR _ _ ⟨(((b1.ext x2).ext x7).ext x8), ?_⟩)))
  have zw9 := x8.size
  refine Gx.any_one 3 (by kernel_rfl) (Gx.op_call rfl (by kernel_rfl) (by kernel_rfl) (fun R hR => (show_in (hT.ext (((((Gx.Ext.refl w).trans x1).trans x2).trans x7).trans x8)) hsz).1 _ R (Gx.Ext.refl _) (fun w10 x9 => hR _ _ ⟨((((b1.ext x2).ext x7).ext x8).ext x9), ?_⟩)))
  have zw10 := x9.size
  refine Gx.any_take 4 (.bool ((showP (.mk k n row ops args)).toList == (showP (.mk k n row ops args)).toList)) rfl (by kernel_rfl) (by kernel_rfl) (by kernel_rfl) (fun _ _ _ h => h) ((((b1.ext x2).ext x7).ext x8).ext x9) (by kernel_rfl) (fun _ _ => (by kernel_rfl)) ?_
  refine Gx.any_take 5 (.bool ((showP (.mk k n row ops args)).toList == (showP (.mk k n row ops args)).toList)) rfl (by kernel_rfl) (by kernel_rfl) (by kernel_rfl) (fun _ _ _ h => h) ((((b1.ext x2).ext x7).ext x8).ext x9) (by kernel_rfl) (fun _ _ => (by kernel_rfl)) ?_
  refine Gx.any_done (by kernel_rfl) ?_
  refine Gx.then_normal ?_
  refine wp_ret ?_
  refine Gx.ret (v := .bool ((showP (.mk k n row ops args)).toList == (showP (.mk k n row ops args)).toList)) (Gx.res1 rfl (by kernel_rfl)) ?_
  have p_c7 := h_c7; try simp [-List.getD_eq_getElem?_getD] at p_c7
  exact Gx.ret_as (v' := .bool true) (by simp) (hK _ ((((((Gx.Ext.refl w).trans x1).trans x2).trans x7).trans x8).trans x9))

end Go.Proofs.YtmlmppdffeacdaaDoor
