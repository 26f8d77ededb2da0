/- The walks, written by a program of ours (wip/gx/gx.py, syngen.py). -/
import Derived.Test.YtinilkomfggjiaaRows
import Derived.Test.YtinilkomfggjiaaGs
import Derived.Test.YtinilkomfggjiaaSynPlain
import Derived.Test.YtinilkomfggjiaaLexWalks2
set_option linter.unusedVariables false
set_option linter.unusedSimpArgs false
namespace Go.Proofs.Ytinilkomfggjiaa
open Go.RowKit Go.Lex Go.Syn
attribute [local irreducible] Go.wpOps Go.Code.wp Go.wpOp Go.wpAnyH Go.Calls
namespace Doc
abbrev rdO (S : ByteArray) (q : Rs) : Obj := .cells #[.string S, Z.n q.k, Z.n q.a, .string q.t, Z.n q.n, Z.n q.e, Z.n q.fk, Z.n q.fa, Z.n q.x, Z.n q.y] 41
set_option maxHeartbeats 400000 in
set_option maxRecDepth 10000 in
theorem ok_c (b : Nat) (S : ByteArray) (q : Rs) (w : World) (K : Ending → World → Prop) (hb : Gx.Has w b (rdO S q)) (hK : K (.returned (.bool (okB q))) w) :
    Calls Try.prog 13 #[Z.P b 0] w K := by
  refine Gx.enter 9 Try.func13 rfl rfl (Nat.le_of_ble_eq_true rfl) ?_
  have tbb := hb.lt
  refine Z.s [(2, .bool false)] ?_
  refine Z.r [0, 1, 2, 3, 4, 5, 6] ?_
  refine Z.p [0, 1, 2, 3] [4, 5, 6] [(6, Z.P b 6), (5, Z.P b 6), (4, Z.P b 0), (3, Z.P b 0)] ?_
  refine Z.L 6 (Z.n q.fk) hb ?_
  refine Z.p [5, 6] [] [(2, .bool (((q.fk : Nat) : Int) == (0 : Int))), (8, .bool (((q.fk : Nat) : Int) == (0 : Int)))] ?_
  refine Z.e (wp_ret (Z.v (.bool (((q.fk : Nat) : Int) == (0 : Int))) ?_))
  exact Gx.ret_as (v' := .bool (okB q)) (by rfl) hK
set_option maxHeartbeats 400000 in
set_option maxRecDepth 10000 in
theorem is_c (b : Nat) (S : ByteArray) (q : Rs) (s : ByteArray) (w : World) (K : Ending → World → Prop) (hb : Gx.Has w b (rdO S q)) (hK : K (.returned (.bool (isB q s))) w) :
    Calls Try.prog 25 #[Z.P b 0, .string s] w K := by
  refine Gx.enter 32 Try.func25 rfl rfl (Nat.le_of_ble_eq_true rfl) ?_
  have tbb := hb.lt
  refine Z.s [(4, .bool false)] ?_
  refine Z.r [0, 1, 2, 3, 4, 5, 6, 7, 8, 9, 10, 11, 12, 13, 14, 15, 16, 17, 18, 19, 20, 21, 22, 23, 24, 25, 26, 27] ?_
  refine Z.p [0] [1, 2, 3, 4, 5, 6, 7, 8, 9, 10, 11, 12, 13, 14, 15, 16, 17, 18, 19, 20, 21, 22, 23, 24, 25, 26, 27] [(5, Z.P b 0)] ?_
  refine Z.k (fun R hR => ok_c b S q _ R hb (hR _ _ ?_))
  refine Z.p [2] [3, 4, 5, 6, 7, 8, 9, 10, 11, 12, 13, 14, 15, 16, 17, 18, 19, 20, 21, 22, 23, 24, 25, 26, 27] [(7, .bool (okB q))] ?_
  refine Gx.split (okB q) (fun h_g7 => ?_) (fun h_g7 => ?_)
  · rw [h_g7]
    refine Z.p [3, 4, 5, 6] [7, 8, 9, 10, 11, 12, 13, 14, 15, 16, 17, 18, 19, 20, 21, 22, 23, 24, 25, 26, 27] [(11, Z.P b 1), (10, Z.P b 1), (9, Z.P b 0), (8, Z.P b 0)] ?_
    refine Z.L 1 (Z.n q.k) hb ?_
    refine Z.p [8, 9] [10, 11, 12, 13, 14, 15, 16, 17, 18, 19, 20, 21, 22, 23, 24, 25, 26, 27] [(14, .bool (((q.k : Nat) : Int) == (3 : Int))), (13, .bool (((q.k : Nat) : Int) == (3 : Int)))] ?_
    refine Gx.split (((q.k : Nat) : Int) == (3 : Int)) (fun h_g14 => ?_) (fun h_g14 => ?_)
    · rw [h_g14]
      refine Z.p [10, 11, 12, 13, 14, 15, 16, 17, 18, 19, 20, 21, 22] [23, 24, 25, 26, 27] [(27, Z.P b 3), (26, Z.P b 1), (25, Z.P b 0), (24, Z.P b 0), (23, .bool true), (22, .bool true), (21, .bool true), (20, undef), (19, undef), (18, undef), (17, undef), (16, undef), (15, undef)] ?_
      refine Z.L 3 (.string q.t) hb ?_
      refine Z.p [24, 25, 26, 27] [] [(4, .bool (q.t.toList == s.toList)), (31, .bool (q.t.toList == s.toList)), (30, .bool (q.t.toList == s.toList)), (29, .string s)] ?_
      refine Z.e (wp_ret (Z.v (.bool (q.t.toList == s.toList)) ?_))
      have p_g14 := Gx.k1 h_g14
      exact Gx.ret_as (v' := .bool (isB q s)) (by simp only [isB, h_g7, h_g14, Bool.true_and, Bool.false_and, Bool.true_or, Bool.false_or, Bool.or_true, Bool.or_false, Bool.and_true, Bool.and_false]) hK
    rw [h_g14]
    refine Z.p [10, 11, 12, 13] [14, 15, 16, 17, 18, 19, 20, 21, 22, 23, 24, 25, 26, 27] [(18, Z.P b 1), (17, Z.P b 1), (16, Z.P b 0), (15, Z.P b 0)] ?_
    refine Z.L 1 (Z.n q.k) hb ?_
    refine Z.p [15, 16, 17, 18] [19, 20, 21, 22, 23, 24, 25, 26, 27] [(23, .bool (((q.k : Nat) : Int) == (4 : Int))), (22, .bool (((q.k : Nat) : Int) == (4 : Int))), (21, .bool (((q.k : Nat) : Int) == (4 : Int))), (20, .bool (((q.k : Nat) : Int) == (4 : Int)))] ?_
    refine Gx.split (((q.k : Nat) : Int) == (4 : Int)) (fun h_g23 => ?_) (fun h_g23 => ?_)
    · rw [h_g23]
      refine Z.p [19, 20, 21, 22] [23, 24, 25, 26, 27] [(27, Z.P b 3), (26, Z.P b 1), (25, Z.P b 0), (24, Z.P b 0)] ?_
      refine Z.L 3 (.string q.t) hb ?_
      refine Z.p [24, 25, 26, 27] [] [(4, .bool (q.t.toList == s.toList)), (31, .bool (q.t.toList == s.toList)), (30, .bool (q.t.toList == s.toList)), (29, .string s)] ?_
      refine Z.e (wp_ret (Z.v (.bool (q.t.toList == s.toList)) ?_))
      have p_g14 := Gx.k0 h_g14
      have p_g23 := Gx.k1 h_g23
      exact Gx.ret_as (v' := .bool (isB q s)) (by simp only [isB, h_g7, h_g14, h_g23, Bool.true_and, Bool.false_and, Bool.true_or, Bool.false_or, Bool.or_true, Bool.or_false, Bool.and_true, Bool.and_false]) hK
    rw [h_g23]
    refine Z.p [19, 20, 21, 22, 23, 24, 25, 26, 27] [] [(4, .bool false), (31, .bool false), (30, undef), (29, undef), (28, undef), (27, undef), (26, undef), (25, undef), (24, undef)] ?_
    refine Z.e (wp_ret (Z.v (.bool false) ?_))
    have p_g14 := Gx.k0 h_g14
    have p_g23 := Gx.k0 h_g23
    exact Gx.ret_as (v' := .bool (isB q s)) (by simp only [isB, h_g7, h_g14, h_g23, Bool.true_and, Bool.false_and, Bool.true_or, Bool.false_or, Bool.or_true, Bool.or_false, Bool.and_true, Bool.and_false]) hK
  rw [h_g7]
  refine Z.p [3, 4, 5, 6, 7, 8, 9, 10, 11, 12, 13, 14, 15, 16, 17, 18, 19, 20, 21, 22, 23, 24, 25, 26, 27] [] [(4, .bool false), (31, .bool false), (30, undef), (29, undef), (28, undef), (27, undef), (26, undef), (25, undef), (24, undef), (23, .bool false), (22, .bool false), (21, undef), (20, undef), (19, undef), (18, undef), (17, undef), (16, undef), (15, undef), (14, undef), (13, undef), (12, undef), (11, undef), (10, undef), (9, undef), (8, undef)] ?_
  refine Z.e (wp_ret (Z.v (.bool false) ?_))
  exact Gx.ret_as (v' := .bool (isB q s)) (by simp only [isB, h_g7, Bool.true_and, Bool.false_and, Bool.true_or, Bool.false_or, Bool.or_true, Bool.or_false, Bool.and_true, Bool.and_false]) hK
set_option maxHeartbeats 400000 in
set_option maxRecDepth 10000 in
theorem isName_c (b : Nat) (S : ByteArray) (q : Rs) (w : World) (K : Ending → World → Prop) (hb : Gx.Has w b (rdO S q)) (hK : K (.returned (.bool (isNameB q))) w) :
    Calls Try.prog 48 #[Z.P b 0] w K := by
  refine Gx.enter 13 Try.func48 rfl rfl (Nat.le_of_ble_eq_true rfl) ?_
  have tbb := hb.lt
  refine Z.s [(2, .bool false)] ?_
  refine Z.r [0, 1, 2, 3, 4, 5, 6, 7, 8, 9, 10] ?_
  refine Z.p [0] [1, 2, 3, 4, 5, 6, 7, 8, 9, 10] [(3, Z.P b 0)] ?_
  refine Z.k (fun R hR => ok_c b S q _ R hb (hR _ _ ?_))
  refine Z.p [2] [3, 4, 5, 6, 7, 8, 9, 10] [(5, .bool (okB q))] ?_
  refine Gx.split (okB q) (fun h_g5 => ?_) (fun h_g5 => ?_)
  · rw [h_g5]
    refine Z.p [3, 4, 5, 6] [7, 8, 9, 10] [(9, Z.P b 1), (8, Z.P b 1), (7, Z.P b 0), (6, Z.P b 0)] ?_
    refine Z.L 1 (Z.n q.k) hb ?_
    refine Z.p [8, 9, 10] [] [(2, .bool (((q.k : Nat) : Int) == (2 : Int))), (12, .bool (((q.k : Nat) : Int) == (2 : Int))), (11, .bool (((q.k : Nat) : Int) == (2 : Int)))] ?_
    refine Z.e (wp_ret (Z.v (.bool (((q.k : Nat) : Int) == (2 : Int))) ?_))
    exact Gx.ret_as (v' := .bool (isNameB q)) (by simp only [isNameB, h_g5, Bool.true_and, Bool.false_and, Bool.true_or, Bool.false_or, Bool.or_true, Bool.or_false, Bool.and_true, Bool.and_false]) hK
  rw [h_g5]
  refine Z.p [3, 4, 5, 6, 7, 8, 9, 10] [] [(2, .bool false), (12, .bool false), (11, undef), (10, undef), (9, undef), (8, undef), (7, undef), (6, undef)] ?_
  refine Z.e (wp_ret (Z.v (.bool false) ?_))
  exact Gx.ret_as (v' := .bool (isNameB q)) (by simp only [isNameB, h_g5, Bool.true_and, Bool.false_and, Bool.true_or, Bool.false_or, Bool.or_true, Bool.or_false, Bool.and_true, Bool.and_false]) hK
set_option maxHeartbeats 1000000 in
set_option maxRecDepth 10000 in
theorem begins_c (b : Nat) (S : ByteArray) (q : Rs) (w : World) (K : Ending → World → Prop) (hb : Gx.Has w b (rdO S q)) (hK : K (.returned (.bool (begB q))) w) :
    Calls Try.prog 79 #[Z.P b 0] w K := by
  refine Gx.enter 41 Try.func79 rfl rfl (Nat.le_of_ble_eq_true rfl) ?_
  have tbb := hb.lt
  refine Z.s [(2, .bool false)] ?_
  refine Z.r [0, 1, 2, 3, 4, 5, 6, 7, 8, 9, 10, 11, 12, 13, 14, 15, 16, 17, 18, 19, 20, 21, 22, 23, 24, 25, 26, 27, 28, 29, 30, 31, 32, 33, 34, 35, 36, 37, 38] ?_
  refine Z.p [0] [1, 2, 3, 4, 5, 6, 7, 8, 9, 10, 11, 12, 13, 14, 15, 16, 17, 18, 19, 20, 21, 22, 23, 24, 25, 26, 27, 28, 29, 30, 31, 32, 33, 34, 35, 36, 37, 38] [(3, Z.P b 0)] ?_
  refine Z.k (fun R hR => ok_c b S q _ R hb (hR _ _ ?_))
  refine Z.p [2] [3, 4, 5, 6, 7, 8, 9, 10, 11, 12, 13, 14, 15, 16, 17, 18, 19, 20, 21, 22, 23, 24, 25, 26, 27, 28, 29, 30, 31, 32, 33, 34, 35, 36, 37, 38] [(5, .bool (okB q))] ?_
  refine Gx.split (okB q) (fun h_g5 => ?_) (fun h_g5 => ?_)
  · rw [h_g5]
    refine Z.p [3, 4, 5, 6] [7, 8, 9, 10, 11, 12, 13, 14, 15, 16, 17, 18, 19, 20, 21, 22, 23, 24, 25, 26, 27, 28, 29, 30, 31, 32, 33, 34, 35, 36, 37, 38] [(9, Z.P b 1), (8, Z.P b 1), (7, Z.P b 0), (6, Z.P b 0)] ?_
    refine Z.L 1 (Z.n q.k) hb ?_
    refine Z.p [8, 9] [10, 11, 12, 13, 14, 15, 16, 17, 18, 19, 20, 21, 22, 23, 24, 25, 26, 27, 28, 29, 30, 31, 32, 33, 34, 35, 36, 37, 38] [(12, .bool (((q.k : Nat) : Int) == (2 : Int))), (11, .bool (((q.k : Nat) : Int) == (2 : Int)))] ?_
    refine Gx.split (((q.k : Nat) : Int) == (2 : Int)) (fun h_g12 => ?_) (fun h_g12 => ?_)
    · rw [h_g12]
      refine Z.p [10, 11, 12, 13, 14, 15, 16, 17, 18, 19, 20, 21, 22, 23, 24, 25, 26, 27, 28, 29, 30, 31, 32, 33, 34, 35, 36, 37, 38] [] [(2, .bool true), (40, .bool true), (39, .bool true), (38, undef), (37, undef), (36, .bool true), (35, .bool true), (34, undef), (33, undef), (32, .bool true), (31, .bool true), (30, undef), (29, undef), (28, .bool true), (27, .bool true), (26, undef), (25, undef), (24, .bool true), (23, .bool true), (22, undef), (21, undef), (20, .bool true), (19, .bool true), (18, undef), (17, undef), (16, undef), (15, undef), (14, undef), (13, undef)] ?_
      refine Z.e (wp_ret (Z.v (.bool true) ?_))
      have p_g12 := Gx.k1 h_g12
      exact Gx.ret_as (v' := .bool (begB q)) (by simp only [begB, h_g5, h_g12, Bool.true_and, Bool.false_and, Bool.true_or, Bool.false_or, Bool.or_true, Bool.or_false, Bool.and_true, Bool.and_false]) hK
    rw [h_g12]
    refine Z.p [10, 11, 12, 13] [14, 15, 16, 17, 18, 19, 20, 21, 22, 23, 24, 25, 26, 27, 28, 29, 30, 31, 32, 33, 34, 35, 36, 37, 38] [(16, Z.P b 1), (15, Z.P b 1), (14, Z.P b 0), (13, Z.P b 0)] ?_
    refine Z.L 1 (Z.n q.k) hb ?_
    refine Z.p [15, 16, 17] [18, 19, 20, 21, 22, 23, 24, 25, 26, 27, 28, 29, 30, 31, 32, 33, 34, 35, 36, 37, 38] [(20, .bool (((q.k : Nat) : Int) == (1 : Int))), (19, .bool (((q.k : Nat) : Int) == (1 : Int))), (18, .bool (((q.k : Nat) : Int) == (1 : Int)))] ?_
    refine Gx.split (((q.k : Nat) : Int) == (1 : Int)) (fun h_g20 => ?_) (fun h_g20 => ?_)
    · rw [h_g20]
      refine Z.p [18, 19, 20, 21, 22, 23, 24, 25, 26, 27, 28, 29, 30, 31, 32, 33, 34, 35, 36, 37, 38] [] [(2, .bool true), (40, .bool true), (39, .bool true), (38, undef), (37, undef), (36, .bool true), (35, .bool true), (34, undef), (33, undef), (32, .bool true), (31, .bool true), (30, undef), (29, undef), (28, .bool true), (27, .bool true), (26, undef), (25, undef), (24, .bool true), (23, .bool true), (22, undef), (21, undef)] ?_
      refine Z.e (wp_ret (Z.v (.bool true) ?_))
      have p_g12 := Gx.k0 h_g12
      have p_g20 := Gx.k1 h_g20
      exact Gx.ret_as (v' := .bool (begB q)) (by simp only [begB, h_g5, h_g12, h_g20, Bool.true_and, Bool.false_and, Bool.true_or, Bool.false_or, Bool.or_true, Bool.or_false, Bool.and_true, Bool.and_false]) hK
    rw [h_g20]
    refine Z.p [18] [19, 20, 21, 22, 23, 24, 25, 26, 27, 28, 29, 30, 31, 32, 33, 34, 35, 36, 37, 38] [(21, Z.P b 0)] ?_
    refine Z.k (fun R hR => is_c b S q (Z.B [126]) _ R hb (hR _ _ ?_))
    refine Z.p [20, 21] [22, 23, 24, 25, 26, 27, 28, 29, 30, 31, 32, 33, 34, 35, 36, 37, 38] [(24, .bool (isB q (Z.B [126]))), (23, .bool (isB q (Z.B [126])))] ?_
    refine Gx.split (isB q (Z.B [126])) (fun h_g24 => ?_) (fun h_g24 => ?_)
    · rw [h_g24]
      refine Z.p [22, 23, 24, 25, 26, 27, 28, 29, 30, 31, 32, 33, 34, 35, 36, 37, 38] [] [(2, .bool true), (40, .bool true), (39, .bool true), (38, undef), (37, undef), (36, .bool true), (35, .bool true), (34, undef), (33, undef), (32, .bool true), (31, .bool true), (30, undef), (29, undef), (28, .bool true), (27, .bool true), (26, undef), (25, undef)] ?_
      refine Z.e (wp_ret (Z.v (.bool true) ?_))
      have p_g12 := Gx.k0 h_g12
      have p_g20 := Gx.k0 h_g20
      exact Gx.ret_as (v' := .bool (begB q)) (by simp only [begB, h_g5, h_g12, h_g20, h_g24, Bool.true_and, Bool.false_and, Bool.true_or, Bool.false_or, Bool.or_true, Bool.or_false, Bool.and_true, Bool.and_false]) hK
    rw [h_g24]
    refine Z.p [22] [23, 24, 25, 26, 27, 28, 29, 30, 31, 32, 33, 34, 35, 36, 37, 38] [(25, Z.P b 0)] ?_
    refine Z.k (fun R hR => is_c b S q (Z.B [116, 114, 117, 101]) _ R hb (hR _ _ ?_))
    refine Z.p [24, 25] [26, 27, 28, 29, 30, 31, 32, 33, 34, 35, 36, 37, 38] [(28, .bool (isB q (Z.B [116, 114, 117, 101]))), (27, .bool (isB q (Z.B [116, 114, 117, 101])))] ?_
    refine Gx.split (isB q (Z.B [116, 114, 117, 101])) (fun h_g28 => ?_) (fun h_g28 => ?_)
    · rw [h_g28]
      refine Z.p [26, 27, 28, 29, 30, 31, 32, 33, 34, 35, 36, 37, 38] [] [(2, .bool true), (40, .bool true), (39, .bool true), (38, undef), (37, undef), (36, .bool true), (35, .bool true), (34, undef), (33, undef), (32, .bool true), (31, .bool true), (30, undef), (29, undef)] ?_
      refine Z.e (wp_ret (Z.v (.bool true) ?_))
      have p_g12 := Gx.k0 h_g12
      have p_g20 := Gx.k0 h_g20
      exact Gx.ret_as (v' := .bool (begB q)) (by simp only [begB, h_g5, h_g12, h_g20, h_g24, h_g28, Bool.true_and, Bool.false_and, Bool.true_or, Bool.false_or, Bool.or_true, Bool.or_false, Bool.and_true, Bool.and_false]) hK
    rw [h_g28]
    refine Z.p [26] [27, 28, 29, 30, 31, 32, 33, 34, 35, 36, 37, 38] [(29, Z.P b 0)] ?_
    refine Z.k (fun R hR => is_c b S q (Z.B [102, 97, 108, 115, 101]) _ R hb (hR _ _ ?_))
    refine Z.p [28, 29] [30, 31, 32, 33, 34, 35, 36, 37, 38] [(32, .bool (isB q (Z.B [102, 97, 108, 115, 101]))), (31, .bool (isB q (Z.B [102, 97, 108, 115, 101])))] ?_
    refine Gx.split (isB q (Z.B [102, 97, 108, 115, 101])) (fun h_g32 => ?_) (fun h_g32 => ?_)
    · rw [h_g32]
      refine Z.p [30, 31, 32, 33, 34, 35, 36, 37, 38] [] [(2, .bool true), (40, .bool true), (39, .bool true), (38, undef), (37, undef), (36, .bool true), (35, .bool true), (34, undef), (33, undef)] ?_
      refine Z.e (wp_ret (Z.v (.bool true) ?_))
      have p_g12 := Gx.k0 h_g12
      have p_g20 := Gx.k0 h_g20
      exact Gx.ret_as (v' := .bool (begB q)) (by simp only [begB, h_g5, h_g12, h_g20, h_g24, h_g28, h_g32, Bool.true_and, Bool.false_and, Bool.true_or, Bool.false_or, Bool.or_true, Bool.or_false, Bool.and_true, Bool.and_false]) hK
    rw [h_g32]
    refine Z.p [30] [31, 32, 33, 34, 35, 36, 37, 38] [(33, Z.P b 0)] ?_
    refine Z.k (fun R hR => is_c b S q (Z.B [40]) _ R hb (hR _ _ ?_))
    refine Z.p [32, 33] [34, 35, 36, 37, 38] [(36, .bool (isB q (Z.B [40]))), (35, .bool (isB q (Z.B [40])))] ?_
    refine Gx.split (isB q (Z.B [40])) (fun h_g36 => ?_) (fun h_g36 => ?_)
    · rw [h_g36]
      refine Z.p [34, 35, 36, 37, 38] [] [(2, .bool true), (40, .bool true), (39, .bool true), (38, undef), (37, undef)] ?_
      refine Z.e (wp_ret (Z.v (.bool true) ?_))
      have p_g12 := Gx.k0 h_g12
      have p_g20 := Gx.k0 h_g20
      exact Gx.ret_as (v' := .bool (begB q)) (by simp only [begB, h_g5, h_g12, h_g20, h_g24, h_g28, h_g32, h_g36, Bool.true_and, Bool.false_and, Bool.true_or, Bool.false_or, Bool.or_true, Bool.or_false, Bool.and_true, Bool.and_false]) hK
    rw [h_g36]
    refine Z.p [34] [35, 36, 37, 38] [(37, Z.P b 0)] ?_
    refine Z.k (fun R hR => is_c b S q (Z.B [91]) _ R hb (hR _ _ ?_))
    refine Z.p [36, 37, 38] [] [(2, .bool (isB q (Z.B [91]))), (40, .bool (isB q (Z.B [91]))), (39, .bool (isB q (Z.B [91])))] ?_
    refine Z.e (wp_ret (Z.v (.bool (isB q (Z.B [91]))) ?_))
    have p_g12 := Gx.k0 h_g12
    have p_g20 := Gx.k0 h_g20
    exact Gx.ret_as (v' := .bool (begB q)) (by simp only [begB, h_g5, h_g12, h_g20, h_g24, h_g28, h_g32, h_g36, Bool.true_and, Bool.false_and, Bool.true_or, Bool.false_or, Bool.or_true, Bool.or_false, Bool.and_true, Bool.and_false]) hK
  rw [h_g5]
  refine Z.p [3, 4, 5, 6, 7, 8, 9, 10, 11, 12, 13, 14, 15, 16, 17, 18, 19, 20, 21, 22, 23, 24, 25, 26, 27, 28, 29, 30, 31, 32, 33, 34, 35, 36, 37, 38] [] [(2, .bool false), (40, .bool false), (39, undef), (38, undef), (37, undef), (36, undef), (35, undef), (34, undef), (33, undef), (32, undef), (31, undef), (30, undef), (29, undef), (28, undef), (27, undef), (26, undef), (25, undef), (24, undef), (23, undef), (22, undef), (21, undef), (20, undef), (19, undef), (18, undef), (17, undef), (16, undef), (15, undef), (14, undef), (13, undef), (12, undef), (11, undef), (10, undef), (9, undef), (8, undef), (7, undef), (6, undef)] ?_
  refine Z.e (wp_ret (Z.v (.bool false) ?_))
  exact Gx.ret_as (v' := .bool (begB q)) (by simp only [begB, h_g5, Bool.true_and, Bool.false_and, Bool.true_or, Bool.false_or, Bool.or_true, Bool.or_false, Bool.and_true, Bool.and_false]) hK
set_option maxHeartbeats 400000 in
set_option maxRecDepth 10000 in
theorem next0_c (b : Nat) (S : ByteArray) (q : Rs) (w : World) (K : Ending → World → Prop) (hb : Gx.Has w b (rdO S q)) (hz : S.size ≤ 3000) (he : q.e ≤ S.size) (hK : ∀ w' q', nextR S q = q' → Gx.G w w' (some b) → Gx.Has w' b (rdO S q') → K (.returned (.tuple #[])) w') :
    Calls Try.prog 11 #[Z.P b 0] w K := by
  refine Gx.enter 36 Try.func11 rfl rfl (Nat.le_of_ble_eq_true rfl) ?_
  have tbb := hb.lt
  refine wp_seq (Z.r [0, 1, 2, 3, 4, 5] ?_)
  refine Z.p [0, 1, 2, 3] [4, 5] [(8, Z.P b 6), (7, Z.P b 6), (6, Z.P b 0), (5, Z.P b 0)] ?_
  refine Z.L 6 (Z.n q.fk) hb ?_
  refine Z.p [5] [] [(10, .bool (((q.fk : Nat) : Int) != (0 : Int)))] ?_
  refine Z.e (Z.c (((q.fk : Nat) : Int) != (0 : Int)) (fun h_c10 => ?_) (fun h_c10 => ?_))
  · skip
    refine wp_ret (Gx.then_ret (Gx.ret (Gx.res0 rfl) ?_))
    have n_c10 : (((q.fk : Nat) : Int) == (0 : Int)) = false := by simpa using h_c10
    have p_c10 := h_c10; try simp at p_c10
    exact hK _ q (by unfold nextR; rw [if_neg (by simp only [okB]; simpa using h_c10)]) (gb_refl w b) hb
  refine wp_skip (Z.x (wp_seq (Z.D (fun w' => Gx.Has w' b (.cells #[.string S, Z.n q.k, Z.n q.a, .string q.t, Z.n q.n, Z.n q.e, Z.n q.fk, Z.n q.fa, Z.n q.x, Z.n q.y] 41)) (fun w1 x1 zw1 => ?_))))
  refine Z.h (hb.ext x1) (fun hS1 => ?_)
  refine Z.t 0 (Z.P b 0) hS1 ?_
  refine Z.t 1 (Z.P b 0) hS1 ?_
  refine Z.t 2 (Z.P b 0) hS1 ?_
  refine Z.tl 3 0 (.string S) (fun _ hs => hs) hS1 ?_
  refine Z.t 4 (Z.P b 0) hS1 ?_
  refine Z.t 5 (Z.P b 0) hS1 ?_
  refine Z.t 6 (Z.P b 5) hS1 ?_
  refine Z.tl 7 5 (Z.n q.e) (fun _ hs => hs) hS1 ?_
  refine Gx.any_three 8 13 14 (by kernel_rfl) ?_ ?_ ?_
  · skip
    refine Gx.op_call rfl (by kernel_rfl) (by kernel_rfl) (fun R hR => rNext_c S q.e _ R hz he (fun w2 x2  => hR _ _ ⟨((hb.ext x1).ext x2), ?_⟩))
    have zw2 := x2.size
    refine Z.h ((hb.ext x1).ext x2) (fun hS2 => ?_)
    refine Z.t 9 (.tuple #[.agg #[.int .i64 (((next S q.e).kind : Nat) : Int), .int .i64 (((next S q.e).at_ : Nat) : Int), .string ((next S q.e).text), .int .i64 (((next S q.e).n : Nat) : Int)], .int .i64 (((next S q.e).nx : Nat) : Int), .agg #[.int .i64 (((next S q.e).fk : Nat) : Int), .int .i64 (((next S q.e).fa : Nat) : Int)]]) hS2 ?_
    refine Z.t 10 (.agg #[.int .i64 (((next S q.e).kind : Nat) : Int), .int .i64 (((next S q.e).at_ : Nat) : Int), .string ((next S q.e).text), .int .i64 (((next S q.e).n : Nat) : Int)]) hS2 ?_
    refine Z.t 11 (.int .i64 (((next S q.e).nx : Nat) : Int)) hS2 ?_
    refine Z.t 12 (.agg #[.int .i64 (((next S q.e).fk : Nat) : Int), .int .i64 (((next S q.e).fa : Nat) : Int)]) hS2 ?_
    refine Gx.any_two 13 14 (by kernel_rfl) ?_ ?_
    · skip
      refine Gx.op_new (.cells #[.int .i64 0, .int .i64 0, .string Z.E, .int .i64 0] 34) rfl (by kernel_rfl) (by kernel_rfl) (fun k1 w3 l1 x3 b1 => ⟨(((hb.ext x1).ext x2).ext x3), ?_⟩)
      have zw3 := x3.size
      have tb1 := b1.lt
      refine Z.oN 14 (.cells #[.int .i64 0, .int .i64 0] 27) (fun k2 w4 l2 x4 b2 => ⟨((((hb.ext x1).ext x2).ext x3).ext x4), ?_⟩)
      have zw4 := x4.size
      have tb2 := b2.lt
      have n_c10 : (((q.fk : Nat) : Int) == (0 : Int)) = true := by simpa using h_c10
      have p_c10 := h_c10; try simp at p_c10
      refine Z.oSa 15 #[.int .i64 (((next S q.e).kind : Nat) : Int), .int .i64 (((next S q.e).at_ : Nat) : Int), .string ((next S q.e).text), .int .i64 (((next S q.e).n : Nat) : Int)] (b1.ext x4) (fun w5 u1 b3 => ⟨(((((hb.ext x1).ext x2).ext x3).ext x4).upd1 u1), ?_⟩)
      have zw5 := u1.size
      refine Z.h (((((hb.ext x1).ext x2).ext x3).ext x4).upd1 u1) (fun hS3 => ?_)
      refine Z.t 16 (.int .i64 (((next S q.e).nx : Nat) : Int)) hS3 ?_
      refine Z.oSa 17 #[.int .i64 (((next S q.e).fk : Nat) : Int), .int .i64 (((next S q.e).fa : Nat) : Int)] (b2.upd1 u1) (fun w6 u2 b4 => ⟨((((((hb.ext x1).ext x2).ext x3).ext x4).upd1 u1).upd1 u2), ?_⟩)
      have zw6 := u2.size
      refine Z.q ?_
      refine Z.x (Z.r [0, 1, 2, 3, 4] ?_)
      refine Z.p [0] [1, 2, 3, 4] [(24, Z.P b 0)] ?_
      refine Z.L 0 (.agg #[.int .i64 (((next S q.e).kind : Nat) : Int), .int .i64 (((next S q.e).at_ : Nat) : Int), .string ((next S q.e).text), .int .i64 (((next S q.e).n : Nat) : Int)]) (b3.upd1 u2) ?_
      refine Z.p [2, 3] [4] [(27, Z.P b 1), (26, Z.P b 0)] ?_
      refine Z.S 1 (.agg #[.int .i64 (((next S q.e).kind : Nat) : Int), .int .i64 (((next S q.e).at_ : Nat) : Int), .string ((next S q.e).text), .int .i64 (((next S q.e).n : Nat) : Int)]) ((((((hb.ext x1).ext x2).ext x3).ext x4).upd1 u1).upd1 u2) #[.string S, .int .i64 (((next S q.e).kind : Nat) : Int), .int .i64 (((next S q.e).at_ : Nat) : Int), .string ((next S q.e).text), .int .i64 (((next S q.e).n : Nat) : Int), Z.n q.e, Z.n q.fk, Z.n q.fa, Z.n q.x, Z.n q.y] (fun w7 u3 b5 zw7 => ?_)
      refine Z.e (Z.r [0, 1, 2, 3, 4] ?_)
      refine Z.p [0, 1, 2, 3] [4] [(31, Z.P b 5), (30, Z.P b 0), (29, .int .i64 (((next S q.e).nx : Nat) : Int)), (28, Z.P b 0)] ?_
      refine Z.S 5 (.int .i64 (((next S q.e).nx : Nat) : Int)) b5 #[.string S, .int .i64 (((next S q.e).kind : Nat) : Int), .int .i64 (((next S q.e).at_ : Nat) : Int), .string ((next S q.e).text), .int .i64 (((next S q.e).n : Nat) : Int), .int .i64 (((next S q.e).nx : Nat) : Int), Z.n q.fk, Z.n q.fa, Z.n q.x, Z.n q.y] (fun w8 u4 b6 zw8 => ?_)
      refine Z.e (Z.g [0, 1, 2, 3, 4] ?_)
      refine Z.p [0] [1, 2, 3, 4] [(32, Z.P b 0)] ?_
      refine Z.L 0 (.agg #[.int .i64 (((next S q.e).fk : Nat) : Int), .int .i64 (((next S q.e).fa : Nat) : Int)]) ((b4.upd1 u3).upd1 u4) ?_
      refine Z.p [2, 3] [4] [(35, Z.P b 6), (34, Z.P b 0)] ?_
      refine Z.S 6 (.agg #[.int .i64 (((next S q.e).fk : Nat) : Int), .int .i64 (((next S q.e).fa : Nat) : Int)]) b6 #[.string S, .int .i64 (((next S q.e).kind : Nat) : Int), .int .i64 (((next S q.e).at_ : Nat) : Int), .string ((next S q.e).text), .int .i64 (((next S q.e).n : Nat) : Int), .int .i64 (((next S q.e).nx : Nat) : Int), .int .i64 (((next S q.e).fk : Nat) : Int), .int .i64 (((next S q.e).fa : Nat) : Int), Z.n q.x, Z.n q.y] (fun w9 u5 b7 zw9 => ?_)
      refine Gx.ops_nil (Gx.ret_n (Gx.res0 rfl) ?_)
      exact hK _ (⟨((next S q.e).kind), ((next S q.e).at_), ((next S q.e).text), ((next S q.e).n), ((next S q.e).nx), ((next S q.e).fk), ((next S q.e).fa), q.x, q.y⟩ : Rs) (by unfold nextR; rw [if_pos (by simp only [okB]; simpa using h_c10)]) (gb_upd (gb_upd (gb_upd (gb_new (gb_new (gb_ext (gb_ext (gb_ext (gb_ext (gb_refl w b) x1) x2) x3) x4) u1) u2) u3) u4) u5) b7
    refine Gx.op_new (.cells #[.int .i64 0, .int .i64 0] 27) rfl (by kernel_rfl) (by kernel_rfl) (fun k3 w10 l3 x5 b8 => ⟨(((hb.ext x1).ext x2).ext x5), ?_⟩)
    have zw10 := x5.size
    have tb8 := b8.lt
    refine Z.oN 13 (.cells #[.int .i64 0, .int .i64 0, .string Z.E, .int .i64 0] 34) (fun k4 w11 l4 x6 b9 => ⟨((((hb.ext x1).ext x2).ext x5).ext x6), ?_⟩)
    have zw11 := x6.size
    have tb9 := b9.lt
    have n_c10 : (((q.fk : Nat) : Int) == (0 : Int)) = true := by simpa using h_c10
    have p_c10 := h_c10; try simp at p_c10
    refine Z.oSa 15 #[.int .i64 (((next S q.e).kind : Nat) : Int), .int .i64 (((next S q.e).at_ : Nat) : Int), .string ((next S q.e).text), .int .i64 (((next S q.e).n : Nat) : Int)] b9 (fun w12 u6 b10 => ⟨(((((hb.ext x1).ext x2).ext x5).ext x6).upd1 u6), ?_⟩)
    have zw12 := u6.size
    refine Z.h (((((hb.ext x1).ext x2).ext x5).ext x6).upd1 u6) (fun hS4 => ?_)
    refine Z.t 16 (.int .i64 (((next S q.e).nx : Nat) : Int)) hS4 ?_
    refine Z.oSa 17 #[.int .i64 (((next S q.e).fk : Nat) : Int), .int .i64 (((next S q.e).fa : Nat) : Int)] ((b8.ext x6).upd1 u6) (fun w13 u7 b11 => ⟨((((((hb.ext x1).ext x2).ext x5).ext x6).upd1 u6).upd1 u7), ?_⟩)
    have zw13 := u7.size
    refine Z.q ?_
    refine Z.x (Z.r [0, 1, 2, 3, 4] ?_)
    refine Z.p [0] [1, 2, 3, 4] [(24, Z.P b 0)] ?_
    refine Z.L 0 (.agg #[.int .i64 (((next S q.e).kind : Nat) : Int), .int .i64 (((next S q.e).at_ : Nat) : Int), .string ((next S q.e).text), .int .i64 (((next S q.e).n : Nat) : Int)]) (b10.upd1 u7) ?_
    refine Z.p [2, 3] [4] [(27, Z.P b 1), (26, Z.P b 0)] ?_
    refine Z.S 1 (.agg #[.int .i64 (((next S q.e).kind : Nat) : Int), .int .i64 (((next S q.e).at_ : Nat) : Int), .string ((next S q.e).text), .int .i64 (((next S q.e).n : Nat) : Int)]) ((((((hb.ext x1).ext x2).ext x5).ext x6).upd1 u6).upd1 u7) #[.string S, .int .i64 (((next S q.e).kind : Nat) : Int), .int .i64 (((next S q.e).at_ : Nat) : Int), .string ((next S q.e).text), .int .i64 (((next S q.e).n : Nat) : Int), Z.n q.e, Z.n q.fk, Z.n q.fa, Z.n q.x, Z.n q.y] (fun w14 u8 b12 zw14 => ?_)
    refine Z.e (Z.r [0, 1, 2, 3, 4] ?_)
    refine Z.p [0, 1, 2, 3] [4] [(31, Z.P b 5), (30, Z.P b 0), (29, .int .i64 (((next S q.e).nx : Nat) : Int)), (28, Z.P b 0)] ?_
    refine Z.S 5 (.int .i64 (((next S q.e).nx : Nat) : Int)) b12 #[.string S, .int .i64 (((next S q.e).kind : Nat) : Int), .int .i64 (((next S q.e).at_ : Nat) : Int), .string ((next S q.e).text), .int .i64 (((next S q.e).n : Nat) : Int), .int .i64 (((next S q.e).nx : Nat) : Int), Z.n q.fk, Z.n q.fa, Z.n q.x, Z.n q.y] (fun w15 u9 b13 zw15 => ?_)
    refine Z.e (Z.g [0, 1, 2, 3, 4] ?_)
    refine Z.p [0] [1, 2, 3, 4] [(32, Z.P b 0)] ?_
    refine Z.L 0 (.agg #[.int .i64 (((next S q.e).fk : Nat) : Int), .int .i64 (((next S q.e).fa : Nat) : Int)]) ((b11.upd1 u8).upd1 u9) ?_
    refine Z.p [2, 3] [4] [(35, Z.P b 6), (34, Z.P b 0)] ?_
    refine Z.S 6 (.agg #[.int .i64 (((next S q.e).fk : Nat) : Int), .int .i64 (((next S q.e).fa : Nat) : Int)]) b13 #[.string S, .int .i64 (((next S q.e).kind : Nat) : Int), .int .i64 (((next S q.e).at_ : Nat) : Int), .string ((next S q.e).text), .int .i64 (((next S q.e).n : Nat) : Int), .int .i64 (((next S q.e).nx : Nat) : Int), .int .i64 (((next S q.e).fk : Nat) : Int), .int .i64 (((next S q.e).fa : Nat) : Int), Z.n q.x, Z.n q.y] (fun w16 u10 b14 zw16 => ?_)
    refine Gx.ops_nil (Gx.ret_n (Gx.res0 rfl) ?_)
    exact hK _ (⟨((next S q.e).kind), ((next S q.e).at_), ((next S q.e).text), ((next S q.e).n), ((next S q.e).nx), ((next S q.e).fk), ((next S q.e).fa), q.x, q.y⟩ : Rs) (by unfold nextR; rw [if_pos (by simp only [okB]; simpa using h_c10)]) (gb_upd (gb_upd (gb_upd (gb_new (gb_new (gb_ext (gb_ext (gb_ext (gb_ext (gb_refl w b) x1) x2) x5) x6) u6) u7) u8) u9) u10) b14
  · skip
    refine Gx.op_new (.cells #[.int .i64 0, .int .i64 0, .string Z.E, .int .i64 0] 34) rfl (by kernel_rfl) (by kernel_rfl) (fun k5 w17 l5 x7 b15 => ⟨((hb.ext x1).ext x7), ?_⟩)
    have zw17 := x7.size
    have tb15 := b15.lt
    refine Gx.any_two 8 14 (by kernel_rfl) ?_ ?_
    · skip
      refine Gx.op_call rfl (by kernel_rfl) (by kernel_rfl) (fun R hR => rNext_c S q.e _ R hz he (fun w18 x8  => hR _ _ ⟨(((hb.ext x1).ext x7).ext x8), ?_⟩))
      have zw18 := x8.size
      refine Z.h (((hb.ext x1).ext x7).ext x8) (fun hS5 => ?_)
      refine Z.t 9 (.tuple #[.agg #[.int .i64 (((next S q.e).kind : Nat) : Int), .int .i64 (((next S q.e).at_ : Nat) : Int), .string ((next S q.e).text), .int .i64 (((next S q.e).n : Nat) : Int)], .int .i64 (((next S q.e).nx : Nat) : Int), .agg #[.int .i64 (((next S q.e).fk : Nat) : Int), .int .i64 (((next S q.e).fa : Nat) : Int)]]) hS5 ?_
      refine Z.t 10 (.agg #[.int .i64 (((next S q.e).kind : Nat) : Int), .int .i64 (((next S q.e).at_ : Nat) : Int), .string ((next S q.e).text), .int .i64 (((next S q.e).n : Nat) : Int)]) hS5 ?_
      refine Z.t 11 (.int .i64 (((next S q.e).nx : Nat) : Int)) hS5 ?_
      refine Z.t 12 (.agg #[.int .i64 (((next S q.e).fk : Nat) : Int), .int .i64 (((next S q.e).fa : Nat) : Int)]) hS5 ?_
      refine Z.oN 14 (.cells #[.int .i64 0, .int .i64 0] 27) (fun k6 w19 l6 x9 b16 => ⟨((((hb.ext x1).ext x7).ext x8).ext x9), ?_⟩)
      have zw19 := x9.size
      have tb16 := b16.lt
      have n_c10 : (((q.fk : Nat) : Int) == (0 : Int)) = true := by simpa using h_c10
      have p_c10 := h_c10; try simp at p_c10
      refine Z.oSa 15 #[.int .i64 (((next S q.e).kind : Nat) : Int), .int .i64 (((next S q.e).at_ : Nat) : Int), .string ((next S q.e).text), .int .i64 (((next S q.e).n : Nat) : Int)] ((b15.ext x8).ext x9) (fun w20 u11 b17 => ⟨(((((hb.ext x1).ext x7).ext x8).ext x9).upd1 u11), ?_⟩)
      have zw20 := u11.size
      refine Z.h (((((hb.ext x1).ext x7).ext x8).ext x9).upd1 u11) (fun hS6 => ?_)
      refine Z.t 16 (.int .i64 (((next S q.e).nx : Nat) : Int)) hS6 ?_
      refine Z.oSa 17 #[.int .i64 (((next S q.e).fk : Nat) : Int), .int .i64 (((next S q.e).fa : Nat) : Int)] (b16.upd1 u11) (fun w21 u12 b18 => ⟨((((((hb.ext x1).ext x7).ext x8).ext x9).upd1 u11).upd1 u12), ?_⟩)
      have zw21 := u12.size
      refine Z.q ?_
      refine Z.x (Z.r [0, 1, 2, 3, 4] ?_)
      refine Z.p [0] [1, 2, 3, 4] [(24, Z.P b 0)] ?_
      refine Z.L 0 (.agg #[.int .i64 (((next S q.e).kind : Nat) : Int), .int .i64 (((next S q.e).at_ : Nat) : Int), .string ((next S q.e).text), .int .i64 (((next S q.e).n : Nat) : Int)]) (b17.upd1 u12) ?_
      refine Z.p [2, 3] [4] [(27, Z.P b 1), (26, Z.P b 0)] ?_
      refine Z.S 1 (.agg #[.int .i64 (((next S q.e).kind : Nat) : Int), .int .i64 (((next S q.e).at_ : Nat) : Int), .string ((next S q.e).text), .int .i64 (((next S q.e).n : Nat) : Int)]) ((((((hb.ext x1).ext x7).ext x8).ext x9).upd1 u11).upd1 u12) #[.string S, .int .i64 (((next S q.e).kind : Nat) : Int), .int .i64 (((next S q.e).at_ : Nat) : Int), .string ((next S q.e).text), .int .i64 (((next S q.e).n : Nat) : Int), Z.n q.e, Z.n q.fk, Z.n q.fa, Z.n q.x, Z.n q.y] (fun w22 u13 b19 zw22 => ?_)
      refine Z.e (Z.r [0, 1, 2, 3, 4] ?_)
      refine Z.p [0, 1, 2, 3] [4] [(31, Z.P b 5), (30, Z.P b 0), (29, .int .i64 (((next S q.e).nx : Nat) : Int)), (28, Z.P b 0)] ?_
      refine Z.S 5 (.int .i64 (((next S q.e).nx : Nat) : Int)) b19 #[.string S, .int .i64 (((next S q.e).kind : Nat) : Int), .int .i64 (((next S q.e).at_ : Nat) : Int), .string ((next S q.e).text), .int .i64 (((next S q.e).n : Nat) : Int), .int .i64 (((next S q.e).nx : Nat) : Int), Z.n q.fk, Z.n q.fa, Z.n q.x, Z.n q.y] (fun w23 u14 b20 zw23 => ?_)
      refine Z.e (Z.g [0, 1, 2, 3, 4] ?_)
      refine Z.p [0] [1, 2, 3, 4] [(32, Z.P b 0)] ?_
      refine Z.L 0 (.agg #[.int .i64 (((next S q.e).fk : Nat) : Int), .int .i64 (((next S q.e).fa : Nat) : Int)]) ((b18.upd1 u13).upd1 u14) ?_
      refine Z.p [2, 3] [4] [(35, Z.P b 6), (34, Z.P b 0)] ?_
      refine Z.S 6 (.agg #[.int .i64 (((next S q.e).fk : Nat) : Int), .int .i64 (((next S q.e).fa : Nat) : Int)]) b20 #[.string S, .int .i64 (((next S q.e).kind : Nat) : Int), .int .i64 (((next S q.e).at_ : Nat) : Int), .string ((next S q.e).text), .int .i64 (((next S q.e).n : Nat) : Int), .int .i64 (((next S q.e).nx : Nat) : Int), .int .i64 (((next S q.e).fk : Nat) : Int), .int .i64 (((next S q.e).fa : Nat) : Int), Z.n q.x, Z.n q.y] (fun w24 u15 b21 zw24 => ?_)
      refine Gx.ops_nil (Gx.ret_n (Gx.res0 rfl) ?_)
      exact hK _ (⟨((next S q.e).kind), ((next S q.e).at_), ((next S q.e).text), ((next S q.e).n), ((next S q.e).nx), ((next S q.e).fk), ((next S q.e).fa), q.x, q.y⟩ : Rs) (by unfold nextR; rw [if_pos (by simp only [okB]; simpa using h_c10)]) (gb_upd (gb_upd (gb_upd (gb_new (gb_new (gb_ext (gb_ext (gb_ext (gb_ext (gb_refl w b) x1) x7) x8) x9) u11) u12) u13) u14) u15) b21
    refine Gx.op_new (.cells #[.int .i64 0, .int .i64 0] 27) rfl (by kernel_rfl) (by kernel_rfl) (fun k7 w25 l7 x10 b22 => ⟨(((hb.ext x1).ext x7).ext x10), ?_⟩)
    have zw25 := x10.size
    have tb22 := b22.lt
    refine Z.o 8 (fun R hR => rNext_c S q.e _ R hz he (fun w26 x11  => hR _ _ ⟨((((hb.ext x1).ext x7).ext x10).ext x11), fun hS7 => ?_⟩))
    have zw26 := x11.size
    refine Z.t 9 (.tuple #[.agg #[.int .i64 (((next S q.e).kind : Nat) : Int), .int .i64 (((next S q.e).at_ : Nat) : Int), .string ((next S q.e).text), .int .i64 (((next S q.e).n : Nat) : Int)], .int .i64 (((next S q.e).nx : Nat) : Int), .agg #[.int .i64 (((next S q.e).fk : Nat) : Int), .int .i64 (((next S q.e).fa : Nat) : Int)]]) hS7 ?_
    refine Z.t 10 (.agg #[.int .i64 (((next S q.e).kind : Nat) : Int), .int .i64 (((next S q.e).at_ : Nat) : Int), .string ((next S q.e).text), .int .i64 (((next S q.e).n : Nat) : Int)]) hS7 ?_
    refine Z.t 11 (.int .i64 (((next S q.e).nx : Nat) : Int)) hS7 ?_
    refine Z.t 12 (.agg #[.int .i64 (((next S q.e).fk : Nat) : Int), .int .i64 (((next S q.e).fa : Nat) : Int)]) hS7 ?_
    have n_c10 : (((q.fk : Nat) : Int) == (0 : Int)) = true := by simpa using h_c10
    have p_c10 := h_c10; try simp at p_c10
    refine Z.oSa 15 #[.int .i64 (((next S q.e).kind : Nat) : Int), .int .i64 (((next S q.e).at_ : Nat) : Int), .string ((next S q.e).text), .int .i64 (((next S q.e).n : Nat) : Int)] ((b15.ext x10).ext x11) (fun w27 u16 b23 => ⟨(((((hb.ext x1).ext x7).ext x10).ext x11).upd1 u16), ?_⟩)
    have zw27 := u16.size
    refine Z.h (((((hb.ext x1).ext x7).ext x10).ext x11).upd1 u16) (fun hS8 => ?_)
    refine Z.t 16 (.int .i64 (((next S q.e).nx : Nat) : Int)) hS8 ?_
    refine Z.oSa 17 #[.int .i64 (((next S q.e).fk : Nat) : Int), .int .i64 (((next S q.e).fa : Nat) : Int)] ((b22.ext x11).upd1 u16) (fun w28 u17 b24 => ⟨((((((hb.ext x1).ext x7).ext x10).ext x11).upd1 u16).upd1 u17), ?_⟩)
    have zw28 := u17.size
    refine Z.q ?_
    refine Z.x (Z.r [0, 1, 2, 3, 4] ?_)
    refine Z.p [0] [1, 2, 3, 4] [(24, Z.P b 0)] ?_
    refine Z.L 0 (.agg #[.int .i64 (((next S q.e).kind : Nat) : Int), .int .i64 (((next S q.e).at_ : Nat) : Int), .string ((next S q.e).text), .int .i64 (((next S q.e).n : Nat) : Int)]) (b23.upd1 u17) ?_
    refine Z.p [2, 3] [4] [(27, Z.P b 1), (26, Z.P b 0)] ?_
    refine Z.S 1 (.agg #[.int .i64 (((next S q.e).kind : Nat) : Int), .int .i64 (((next S q.e).at_ : Nat) : Int), .string ((next S q.e).text), .int .i64 (((next S q.e).n : Nat) : Int)]) ((((((hb.ext x1).ext x7).ext x10).ext x11).upd1 u16).upd1 u17) #[.string S, .int .i64 (((next S q.e).kind : Nat) : Int), .int .i64 (((next S q.e).at_ : Nat) : Int), .string ((next S q.e).text), .int .i64 (((next S q.e).n : Nat) : Int), Z.n q.e, Z.n q.fk, Z.n q.fa, Z.n q.x, Z.n q.y] (fun w29 u18 b25 zw29 => ?_)
    refine Z.e (Z.r [0, 1, 2, 3, 4] ?_)
    refine Z.p [0, 1, 2, 3] [4] [(31, Z.P b 5), (30, Z.P b 0), (29, .int .i64 (((next S q.e).nx : Nat) : Int)), (28, Z.P b 0)] ?_
    refine Z.S 5 (.int .i64 (((next S q.e).nx : Nat) : Int)) b25 #[.string S, .int .i64 (((next S q.e).kind : Nat) : Int), .int .i64 (((next S q.e).at_ : Nat) : Int), .string ((next S q.e).text), .int .i64 (((next S q.e).n : Nat) : Int), .int .i64 (((next S q.e).nx : Nat) : Int), Z.n q.fk, Z.n q.fa, Z.n q.x, Z.n q.y] (fun w30 u19 b26 zw30 => ?_)
    refine Z.e (Z.g [0, 1, 2, 3, 4] ?_)
    refine Z.p [0] [1, 2, 3, 4] [(32, Z.P b 0)] ?_
    refine Z.L 0 (.agg #[.int .i64 (((next S q.e).fk : Nat) : Int), .int .i64 (((next S q.e).fa : Nat) : Int)]) ((b24.upd1 u18).upd1 u19) ?_
    refine Z.p [2, 3] [4] [(35, Z.P b 6), (34, Z.P b 0)] ?_
    refine Z.S 6 (.agg #[.int .i64 (((next S q.e).fk : Nat) : Int), .int .i64 (((next S q.e).fa : Nat) : Int)]) b26 #[.string S, .int .i64 (((next S q.e).kind : Nat) : Int), .int .i64 (((next S q.e).at_ : Nat) : Int), .string ((next S q.e).text), .int .i64 (((next S q.e).n : Nat) : Int), .int .i64 (((next S q.e).nx : Nat) : Int), .int .i64 (((next S q.e).fk : Nat) : Int), .int .i64 (((next S q.e).fa : Nat) : Int), Z.n q.x, Z.n q.y] (fun w31 u20 b27 zw31 => ?_)
    refine Gx.ops_nil (Gx.ret_n (Gx.res0 rfl) ?_)
    exact hK _ (⟨((next S q.e).kind), ((next S q.e).at_), ((next S q.e).text), ((next S q.e).n), ((next S q.e).nx), ((next S q.e).fk), ((next S q.e).fa), q.x, q.y⟩ : Rs) (by unfold nextR; rw [if_pos (by simp only [okB]; simpa using h_c10)]) (gb_upd (gb_upd (gb_upd (gb_new (gb_new (gb_ext (gb_ext (gb_ext (gb_ext (gb_refl w b) x1) x7) x10) x11) u16) u17) u18) u19) u20) b27
  refine Gx.op_new (.cells #[.int .i64 0, .int .i64 0] 27) rfl (by kernel_rfl) (by kernel_rfl) (fun k8 w32 l8 x12 b28 => ⟨((hb.ext x1).ext x12), ?_⟩)
  have zw32 := x12.size
  have tb28 := b28.lt
  refine Gx.any_two 8 13 (by kernel_rfl) ?_ ?_
  · skip
    refine Gx.op_call rfl (by kernel_rfl) (by kernel_rfl) (fun R hR => rNext_c S q.e _ R hz he (fun w33 x13  => hR _ _ ⟨(((hb.ext x1).ext x12).ext x13), ?_⟩))
    have zw33 := x13.size
    refine Z.h (((hb.ext x1).ext x12).ext x13) (fun hS9 => ?_)
    refine Z.t 9 (.tuple #[.agg #[.int .i64 (((next S q.e).kind : Nat) : Int), .int .i64 (((next S q.e).at_ : Nat) : Int), .string ((next S q.e).text), .int .i64 (((next S q.e).n : Nat) : Int)], .int .i64 (((next S q.e).nx : Nat) : Int), .agg #[.int .i64 (((next S q.e).fk : Nat) : Int), .int .i64 (((next S q.e).fa : Nat) : Int)]]) hS9 ?_
    refine Z.t 10 (.agg #[.int .i64 (((next S q.e).kind : Nat) : Int), .int .i64 (((next S q.e).at_ : Nat) : Int), .string ((next S q.e).text), .int .i64 (((next S q.e).n : Nat) : Int)]) hS9 ?_
    refine Z.t 11 (.int .i64 (((next S q.e).nx : Nat) : Int)) hS9 ?_
    refine Z.t 12 (.agg #[.int .i64 (((next S q.e).fk : Nat) : Int), .int .i64 (((next S q.e).fa : Nat) : Int)]) hS9 ?_
    refine Z.oN 13 (.cells #[.int .i64 0, .int .i64 0, .string Z.E, .int .i64 0] 34) (fun k9 w34 l9 x14 b29 => ⟨((((hb.ext x1).ext x12).ext x13).ext x14), ?_⟩)
    have zw34 := x14.size
    have tb29 := b29.lt
    have n_c10 : (((q.fk : Nat) : Int) == (0 : Int)) = true := by simpa using h_c10
    have p_c10 := h_c10; try simp at p_c10
    refine Z.oSa 15 #[.int .i64 (((next S q.e).kind : Nat) : Int), .int .i64 (((next S q.e).at_ : Nat) : Int), .string ((next S q.e).text), .int .i64 (((next S q.e).n : Nat) : Int)] b29 (fun w35 u21 b30 => ⟨(((((hb.ext x1).ext x12).ext x13).ext x14).upd1 u21), ?_⟩)
    have zw35 := u21.size
    refine Z.h (((((hb.ext x1).ext x12).ext x13).ext x14).upd1 u21) (fun hS10 => ?_)
    refine Z.t 16 (.int .i64 (((next S q.e).nx : Nat) : Int)) hS10 ?_
    refine Z.oSa 17 #[.int .i64 (((next S q.e).fk : Nat) : Int), .int .i64 (((next S q.e).fa : Nat) : Int)] (((b28.ext x13).ext x14).upd1 u21) (fun w36 u22 b31 => ⟨((((((hb.ext x1).ext x12).ext x13).ext x14).upd1 u21).upd1 u22), ?_⟩)
    have zw36 := u22.size
    refine Z.q ?_
    refine Z.x (Z.r [0, 1, 2, 3, 4] ?_)
    refine Z.p [0] [1, 2, 3, 4] [(24, Z.P b 0)] ?_
    refine Z.L 0 (.agg #[.int .i64 (((next S q.e).kind : Nat) : Int), .int .i64 (((next S q.e).at_ : Nat) : Int), .string ((next S q.e).text), .int .i64 (((next S q.e).n : Nat) : Int)]) (b30.upd1 u22) ?_
    refine Z.p [2, 3] [4] [(27, Z.P b 1), (26, Z.P b 0)] ?_
    refine Z.S 1 (.agg #[.int .i64 (((next S q.e).kind : Nat) : Int), .int .i64 (((next S q.e).at_ : Nat) : Int), .string ((next S q.e).text), .int .i64 (((next S q.e).n : Nat) : Int)]) ((((((hb.ext x1).ext x12).ext x13).ext x14).upd1 u21).upd1 u22) #[.string S, .int .i64 (((next S q.e).kind : Nat) : Int), .int .i64 (((next S q.e).at_ : Nat) : Int), .string ((next S q.e).text), .int .i64 (((next S q.e).n : Nat) : Int), Z.n q.e, Z.n q.fk, Z.n q.fa, Z.n q.x, Z.n q.y] (fun w37 u23 b32 zw37 => ?_)
    refine Z.e (Z.r [0, 1, 2, 3, 4] ?_)
    refine Z.p [0, 1, 2, 3] [4] [(31, Z.P b 5), (30, Z.P b 0), (29, .int .i64 (((next S q.e).nx : Nat) : Int)), (28, Z.P b 0)] ?_
    refine Z.S 5 (.int .i64 (((next S q.e).nx : Nat) : Int)) b32 #[.string S, .int .i64 (((next S q.e).kind : Nat) : Int), .int .i64 (((next S q.e).at_ : Nat) : Int), .string ((next S q.e).text), .int .i64 (((next S q.e).n : Nat) : Int), .int .i64 (((next S q.e).nx : Nat) : Int), Z.n q.fk, Z.n q.fa, Z.n q.x, Z.n q.y] (fun w38 u24 b33 zw38 => ?_)
    refine Z.e (Z.g [0, 1, 2, 3, 4] ?_)
    refine Z.p [0] [1, 2, 3, 4] [(32, Z.P b 0)] ?_
    refine Z.L 0 (.agg #[.int .i64 (((next S q.e).fk : Nat) : Int), .int .i64 (((next S q.e).fa : Nat) : Int)]) ((b31.upd1 u23).upd1 u24) ?_
    refine Z.p [2, 3] [4] [(35, Z.P b 6), (34, Z.P b 0)] ?_
    refine Z.S 6 (.agg #[.int .i64 (((next S q.e).fk : Nat) : Int), .int .i64 (((next S q.e).fa : Nat) : Int)]) b33 #[.string S, .int .i64 (((next S q.e).kind : Nat) : Int), .int .i64 (((next S q.e).at_ : Nat) : Int), .string ((next S q.e).text), .int .i64 (((next S q.e).n : Nat) : Int), .int .i64 (((next S q.e).nx : Nat) : Int), .int .i64 (((next S q.e).fk : Nat) : Int), .int .i64 (((next S q.e).fa : Nat) : Int), Z.n q.x, Z.n q.y] (fun w39 u25 b34 zw39 => ?_)
    refine Gx.ops_nil (Gx.ret_n (Gx.res0 rfl) ?_)
    exact hK _ (⟨((next S q.e).kind), ((next S q.e).at_), ((next S q.e).text), ((next S q.e).n), ((next S q.e).nx), ((next S q.e).fk), ((next S q.e).fa), q.x, q.y⟩ : Rs) (by unfold nextR; rw [if_pos (by simp only [okB]; simpa using h_c10)]) (gb_upd (gb_upd (gb_upd (gb_new (gb_new (gb_ext (gb_ext (gb_ext (gb_ext (gb_refl w b) x1) x12) x13) x14) u21) u22) u23) u24) u25) b34
  refine Gx.op_new (.cells #[.int .i64 0, .int .i64 0, .string Z.E, .int .i64 0] 34) rfl (by kernel_rfl) (by kernel_rfl) (fun k10 w40 l10 x15 b35 => ⟨(((hb.ext x1).ext x12).ext x15), ?_⟩)
  have zw40 := x15.size
  have tb35 := b35.lt
  refine Z.o 8 (fun R hR => rNext_c S q.e _ R hz he (fun w41 x16  => hR _ _ ⟨((((hb.ext x1).ext x12).ext x15).ext x16), fun hS11 => ?_⟩))
  have zw41 := x16.size
  refine Z.t 9 (.tuple #[.agg #[.int .i64 (((next S q.e).kind : Nat) : Int), .int .i64 (((next S q.e).at_ : Nat) : Int), .string ((next S q.e).text), .int .i64 (((next S q.e).n : Nat) : Int)], .int .i64 (((next S q.e).nx : Nat) : Int), .agg #[.int .i64 (((next S q.e).fk : Nat) : Int), .int .i64 (((next S q.e).fa : Nat) : Int)]]) hS11 ?_
  refine Z.t 10 (.agg #[.int .i64 (((next S q.e).kind : Nat) : Int), .int .i64 (((next S q.e).at_ : Nat) : Int), .string ((next S q.e).text), .int .i64 (((next S q.e).n : Nat) : Int)]) hS11 ?_
  refine Z.t 11 (.int .i64 (((next S q.e).nx : Nat) : Int)) hS11 ?_
  refine Z.t 12 (.agg #[.int .i64 (((next S q.e).fk : Nat) : Int), .int .i64 (((next S q.e).fa : Nat) : Int)]) hS11 ?_
  have n_c10 : (((q.fk : Nat) : Int) == (0 : Int)) = true := by simpa using h_c10
  have p_c10 := h_c10; try simp at p_c10
  refine Z.oSa 15 #[.int .i64 (((next S q.e).kind : Nat) : Int), .int .i64 (((next S q.e).at_ : Nat) : Int), .string ((next S q.e).text), .int .i64 (((next S q.e).n : Nat) : Int)] (b35.ext x16) (fun w42 u26 b36 => ⟨(((((hb.ext x1).ext x12).ext x15).ext x16).upd1 u26), ?_⟩)
  have zw42 := u26.size
  refine Z.h (((((hb.ext x1).ext x12).ext x15).ext x16).upd1 u26) (fun hS12 => ?_)
  refine Z.t 16 (.int .i64 (((next S q.e).nx : Nat) : Int)) hS12 ?_
  refine Z.oSa 17 #[.int .i64 (((next S q.e).fk : Nat) : Int), .int .i64 (((next S q.e).fa : Nat) : Int)] (((b28.ext x15).ext x16).upd1 u26) (fun w43 u27 b37 => ⟨((((((hb.ext x1).ext x12).ext x15).ext x16).upd1 u26).upd1 u27), ?_⟩)
  have zw43 := u27.size
  refine Z.q ?_
  refine Z.x (Z.r [0, 1, 2, 3, 4] ?_)
  refine Z.p [0] [1, 2, 3, 4] [(24, Z.P b 0)] ?_
  refine Z.L 0 (.agg #[.int .i64 (((next S q.e).kind : Nat) : Int), .int .i64 (((next S q.e).at_ : Nat) : Int), .string ((next S q.e).text), .int .i64 (((next S q.e).n : Nat) : Int)]) (b36.upd1 u27) ?_
  refine Z.p [2, 3] [4] [(27, Z.P b 1), (26, Z.P b 0)] ?_
  refine Z.S 1 (.agg #[.int .i64 (((next S q.e).kind : Nat) : Int), .int .i64 (((next S q.e).at_ : Nat) : Int), .string ((next S q.e).text), .int .i64 (((next S q.e).n : Nat) : Int)]) ((((((hb.ext x1).ext x12).ext x15).ext x16).upd1 u26).upd1 u27) #[.string S, .int .i64 (((next S q.e).kind : Nat) : Int), .int .i64 (((next S q.e).at_ : Nat) : Int), .string ((next S q.e).text), .int .i64 (((next S q.e).n : Nat) : Int), Z.n q.e, Z.n q.fk, Z.n q.fa, Z.n q.x, Z.n q.y] (fun w44 u28 b38 zw44 => ?_)
  refine Z.e (Z.r [0, 1, 2, 3, 4] ?_)
  refine Z.p [0, 1, 2, 3] [4] [(31, Z.P b 5), (30, Z.P b 0), (29, .int .i64 (((next S q.e).nx : Nat) : Int)), (28, Z.P b 0)] ?_
  refine Z.S 5 (.int .i64 (((next S q.e).nx : Nat) : Int)) b38 #[.string S, .int .i64 (((next S q.e).kind : Nat) : Int), .int .i64 (((next S q.e).at_ : Nat) : Int), .string ((next S q.e).text), .int .i64 (((next S q.e).n : Nat) : Int), .int .i64 (((next S q.e).nx : Nat) : Int), Z.n q.fk, Z.n q.fa, Z.n q.x, Z.n q.y] (fun w45 u29 b39 zw45 => ?_)
  refine Z.e (Z.g [0, 1, 2, 3, 4] ?_)
  refine Z.p [0] [1, 2, 3, 4] [(32, Z.P b 0)] ?_
  refine Z.L 0 (.agg #[.int .i64 (((next S q.e).fk : Nat) : Int), .int .i64 (((next S q.e).fa : Nat) : Int)]) ((b37.upd1 u28).upd1 u29) ?_
  refine Z.p [2, 3] [4] [(35, Z.P b 6), (34, Z.P b 0)] ?_
  refine Z.S 6 (.agg #[.int .i64 (((next S q.e).fk : Nat) : Int), .int .i64 (((next S q.e).fa : Nat) : Int)]) b39 #[.string S, .int .i64 (((next S q.e).kind : Nat) : Int), .int .i64 (((next S q.e).at_ : Nat) : Int), .string ((next S q.e).text), .int .i64 (((next S q.e).n : Nat) : Int), .int .i64 (((next S q.e).nx : Nat) : Int), .int .i64 (((next S q.e).fk : Nat) : Int), .int .i64 (((next S q.e).fa : Nat) : Int), Z.n q.x, Z.n q.y] (fun w46 u30 b40 zw46 => ?_)
  refine Gx.ops_nil (Gx.ret_n (Gx.res0 rfl) ?_)
  exact hK _ (⟨((next S q.e).kind), ((next S q.e).at_), ((next S q.e).text), ((next S q.e).n), ((next S q.e).nx), ((next S q.e).fk), ((next S q.e).fa), q.x, q.y⟩ : Rs) (by unfold nextR; rw [if_pos (by simp only [okB]; simpa using h_c10)]) (gb_upd (gb_upd (gb_upd (gb_new (gb_new (gb_ext (gb_ext (gb_ext (gb_ext (gb_refl w b) x1) x12) x15) x16) u26) u27) u28) u29) u30) b40
theorem next_c (b : Nat) (S : ByteArray) (q : Rs) (w : World) (K : Ending → World → Prop) (hb : Gx.Has w b (rdO S q)) (hok : Ok S q) (hK : ∀ w' q', nextR S q = q' → Gx.G w w' (some b) → Gx.Has w' b (rdO S q') → K (.returned (.tuple #[])) w') : Calls Try.prog 11 #[Z.P b 0] w K := next0_c b S q w K hb hok.size hok.e hK
set_option maxHeartbeats 400000 in
set_option maxRecDepth 10000 in
theorem no_c (b : Nat) (S : ByteArray) (q : Rs) (w : World) (K : Ending → World → Prop) (hb : Gx.Has w b (rdO S q)) (hok : Ok S q) (hK : ∀ w' q', noR q = q' → Gx.G w w' (some b) → Gx.Has w' b (rdO S q') → K (.returned (.tuple #[])) w') :
    Calls Try.prog 14 #[Z.P b 0] w K := by
  refine Gx.enter 13 Try.func14 rfl rfl (Nat.le_of_ble_eq_true rfl) ?_
  have tbb := hb.lt
  refine Z.r [0, 1] ?_
  refine Z.p [0] [1] [(2, Z.P b 0)] ?_
  refine Z.k (fun R hR => ok_c b S q _ R hb (hR _ _ ?_))
  refine Z.e (Z.c (okB q) (fun h_c3 => ?_) (fun h_c3 => ?_))
  · skip
    refine Z.g [0, 1, 2, 3, 4, 5, 6, 7, 8, 9] ?_
    refine Z.p [0, 1, 2, 3, 4] [5, 6, 7, 8, 9] [(8, Z.P b 2), (7, Z.P b 1), (6, Z.P b 0), (5, Z.P b 0), (4, Z.P b 0)] ?_
    refine Z.L 2 (Z.n q.a) hb ?_
    refine Z.p [6, 7, 8] [9] [(12, Z.P b 6), (11, Z.P b 0), (10, .agg #[.int .i64 4, Z.n q.a])] ?_
    refine Z.S 6 (.agg #[.int .i64 4, Z.n q.a]) hb #[.string S, Z.n q.k, Z.n q.a, .string q.t, Z.n q.n, Z.n q.e, .int .i64 4, Z.n q.a, Z.n q.x, Z.n q.y] (fun w1 u1 b1 zw1 => ?_)
    refine Gx.ops_nil (Gx.ret_n (Gx.res0 rfl) ?_)
    exact hK _ (⟨q.k, q.a, q.t, q.n, q.e, 4, q.a, q.x, q.y⟩ : Rs) (by unfold noR; simp only [h_c3, if_true, if_false, Bool.false_eq_true, reduceIte]) (gb_upd (gb_refl w b) u1) b1
  refine wp_skip (Gx.ret_n (Gx.res0 rfl) ?_)
  exact hK _ q (by unfold noR; simp only [h_c3, if_true, if_false, Bool.false_eq_true, reduceIte]) (gb_refl w b) hb
set_option maxHeartbeats 400000 in
set_option maxRecDepth 10000 in
theorem has_c (b : Nat) (S : ByteArray) (q : Rs) (s : ByteArray) (w : World) (K : Ending → World → Prop) (hb : Gx.Has w b (rdO S q)) (hok : Ok S q) (hK : ∀ w' q', hasR S q s = q' → Gx.G w w' (some b) → Gx.Has w' b (rdO S q') → K (.returned (.bool (isB q s))) w') :
    Calls Try.prog 30 #[Z.P b 0, .string s] w K := by
  refine Gx.enter 10 Try.func30 rfl rfl (Nat.le_of_ble_eq_true rfl) ?_
  have tbb := hb.lt
  refine Z.s [(4, .bool false)] ?_
  refine wp_seq (Z.r [0, 1, 2] ?_)
  refine Z.p [0, 1] [2] [(6, .string s), (5, Z.P b 0)] ?_
  refine Z.k (fun R hR => is_c b S q s _ R hb (hR _ _ ?_))
  refine Z.e (Z.c (isB q s) (fun h_c7 => ?_) (fun h_c7 => ?_))
  · skip
    refine Z.r [0, 1] ?_
    refine Z.p [0] [1] [(8, Z.P b 0)] ?_
    refine Z.k (fun R hR => next_c b S q _ R hb hok (fun w1 q1 e1 x1 b1 => hR _ _ ?_))
    have zw1 := x1.size
    have tb1 := b1.lt
    have tr1 : Tr S q q1 := by rw [← e1]; exact next_tr hok
    have lt1 : M S q1 < M S q := by have := is_lt hok h_c7; rw [e1] at this; exact this
    have ok1 := tr1.ok; have m1 := tr1.m; have tr1x := tr1.x; have tr1y := tr1.y
    refine Z.e (Z.s [(4, .bool true)] ?_)
    refine wp_ret (Gx.then_ret (Z.v (.bool true) ?_))
    rw [h_c7] at hK
    exact hK _ q1 (by simp only [hasR, e1, h_c7, Z.ifs, reduceIte]) (gb_upd (gb_refl w b) x1) b1
  refine wp_skip (Z.x (Z.s [(4, .bool false)] ?_))
  refine wp_ret (Z.v (.bool false) ?_)
  rw [h_c7] at hK
  exact hK _ q (by simp only [hasR, h_c7, Z.ifs, reduceIte]) (gb_refl w b) hb
set_option maxHeartbeats 400000 in
set_option maxRecDepth 10000 in
theorem must_c (b : Nat) (S : ByteArray) (q : Rs) (s : ByteArray) (w : World) (K : Ending → World → Prop) (hb : Gx.Has w b (rdO S q)) (hok : Ok S q) (hK : ∀ w' q', mustR S q s = q' → Gx.G w w' (some b) → Gx.Has w' b (rdO S q') → K (.returned (.tuple #[])) w') :
    Calls Try.prog 27 #[Z.P b 0, .string s] w K := by
  refine Gx.enter 10 Try.func27 rfl rfl (Nat.le_of_ble_eq_true rfl) ?_
  have tbb := hb.lt
  refine Z.r [0, 1, 2, 3] ?_
  refine Z.p [0, 1] [2, 3] [(5, .string s), (4, Z.P b 0)] ?_
  refine Z.k (fun R hR => has_c b S q s _ R hb hok (fun w1 q1 e1 x1 b1 => hR _ _ ?_))
  have zw1 := x1.size
  have tb1 := b1.lt
  obtain ⟨ok1, m1, tr1x, tr1y⟩ : Tr S q q1 := e1 ▸ has_tr hok
  refine Z.p [3] [] [(7, .bool (!(isB q s)))] ?_
  refine Z.e (Z.c (!(isB q s)) (fun h_c7 => ?_) (fun h_c7 => ?_))
  · skip
    refine Z.g [0, 1] ?_
    refine Z.p [0] [1] [(8, Z.P b 0)] ?_
    refine Z.k (fun R hR => no_c b S q1 _ R b1 ok1 (fun w2 q2 e2 x2 b2 => hR _ _ ?_))
    have zw2 := x2.size
    have tb2 := b2.lt
    obtain ⟨ok2, m2, tr2x, tr2y⟩ : Tr S q1 q2 := e2 ▸ no_tr ok1
    refine Gx.ops_nil (Gx.ret_n (Gx.res0 rfl) ?_)
    have n_c7 : isB q s = false := by simpa using h_c7
    exact hK _ q2 (by have hh := e1; have hn := n_c7; simp only [hasR, mustR, hn, if_true, if_false, Bool.false_eq_true, reduceIte] at hh ⊢; first | exact hh | (subst hh; assumption)) (gb_upd (gb_upd (gb_refl w b) x1) x2) b2
  refine wp_skip (Gx.ret_n (Gx.res0 rfl) ?_)
  have n_c7 : isB q s = true := by simpa using h_c7
  have lt1 := (by have := has_lt hok n_c7; rw [e1] at this; exact this : M S q1 < M S q)
  exact hK _ q1 (by have hh := e1; have hn := n_c7; simp only [hasR, mustR, hn, if_true, if_false, Bool.false_eq_true, reduceIte] at hh ⊢; first | exact hh | (subst hh; assumption)) (gb_upd (gb_refl w b) x1) b1
set_option maxHeartbeats 400000 in
set_option maxRecDepth 10000 in
theorem name_c (b : Nat) (S : ByteArray) (q : Rs) (w : World) (K : Ending → World → Prop) (hb : Gx.Has w b (rdO S q)) (hok : Ok S q) (hK : ∀ w' x a q', nameR S q = ((x, a), q') → Gx.G w w' (some b) → Gx.Has w' b (rdO S q') → K (.returned (.tuple #[.string x, Z.n a])) w') :
    Calls Try.prog 26 #[Z.P b 0] w K := by
  refine Gx.enter 25 Try.func26 rfl rfl (Nat.le_of_ble_eq_true rfl) ?_
  have tbb := hb.lt
  refine Z.s [(3, .int .i64 0), (2, .string Z.E)] ?_
  refine Z.r [0, 1, 2, 3, 4, 5] ?_
  refine Z.p [0, 1, 2] [3, 4, 5] [(7, Z.P b 1), (6, Z.P b 0), (5, Z.P b 0)] ?_
  refine Z.L 1 (.agg #[Z.n q.k, Z.n q.a, .string q.t, Z.n q.n]) hb ?_
  refine Z.N (.cells #[.int .i64 0, .int .i64 0, .string Z.E, .int .i64 0] 34) (fun k1 w1 l1 x1 b1 zw1 tb1 => ?_)
  refine Z.Sa #[Z.n q.k, Z.n q.a, .string q.t, Z.n q.n] b1 (fun w2 u1 b2 zw2 => ?_)
  refine Z.e (wp_seq (Z.r [0, 1, 2, 3, 4, 5, 6, 7] ?_))
  refine Z.p [0] [1, 2, 3, 4, 5, 6, 7] [(9, Z.P b 0)] ?_
  refine Z.k (fun R hR => ok_c b S q _ R ((hb.ext x1).upd1 u1) (hR _ _ ?_))
  refine Z.p [2, 3] [4, 5, 6, 7] [(12, .bool (!(okB q))), (11, .bool (!(okB q)))] ?_
  refine Gx.split (!(okB q)) (fun h_g12 => ?_) (fun h_g12 => ?_)
  · rw [h_g12]
    refine Z.p [4, 5, 6, 7] [] [(16, .bool true), (15, undef), (14, undef), (13, undef)] ?_
    refine Z.e (Z.ct ?_)
    refine Z.r [0, 1] ?_
    refine Z.p [0] [1] [(17, Z.P b 0)] ?_
    have n_g12 : okB q = false := by simpa using h_g12
    refine Z.k (fun R hR => no_c b S q _ R ((hb.ext x1).upd1 u1) hok (fun w3 q1 e1 x2 b3 => hR _ _ ?_))
    have zw3 := x2.size
    have tb3 := b3.lt
    obtain ⟨ok1, m1, tr1x, tr1y⟩ : Tr S q q1 := e1 ▸ no_tr hok
    refine Z.e (Z.s [(3, .int .i64 0), (2, .string Z.E)] ?_)
    refine wp_ret (Gx.then_ret (Gx.ret (Gx.res2 (v := .string Z.E) (u := .int .i64 0) rfl (by kernel_rfl) (by kernel_rfl)) ?_))
    exact hK _ Z.E 0 q1 (by simp only [nameR, isNameB, e1, h_g12, n_g12, Z.ifs, reduceIte, Bool.true_and, Bool.false_and]) (gb_upd (gb_new (gb_ext (gb_refl w b) x1) u1) x2) b3
  rw [h_g12]
  refine Z.p [4] [5, 6, 7] [(13, Z.P k1 0)] ?_
  refine Z.L 0 (Z.n q.k) b2 ?_
  refine Z.p [6, 7] [] [(16, .bool (((q.k : Nat) : Int) != (2 : Int))), (15, .bool (((q.k : Nat) : Int) != (2 : Int)))] ?_
  refine Z.e (Z.c (((q.k : Nat) : Int) != (2 : Int)) (fun h_c16 => ?_) (fun h_c16 => ?_))
  · skip
    refine Z.r [0, 1] ?_
    refine Z.p [0] [1] [(17, Z.P b 0)] ?_
    have n_g12 : okB q = true := by simpa using h_g12
    have n_c16 : (((q.k : Nat) : Int) == (2 : Int)) = false := by simpa using h_c16
    have p_c16 := h_c16; try simp at p_c16
    refine Z.k (fun R hR => no_c b S q _ R ((hb.ext x1).upd1 u1) hok (fun w4 q2 e2 x3 b4 => hR _ _ ?_))
    have zw4 := x3.size
    have tb4 := b4.lt
    obtain ⟨ok2, m2, tr2x, tr2y⟩ : Tr S q q2 := e2 ▸ no_tr hok
    refine Z.e (Z.s [(3, .int .i64 0), (2, .string Z.E)] ?_)
    refine wp_ret (Gx.then_ret (Gx.ret (Gx.res2 (v := .string Z.E) (u := .int .i64 0) rfl (by kernel_rfl) (by kernel_rfl)) ?_))
    exact hK _ Z.E 0 q2 (by simp only [nameR, isNameB, e2, h_g12, h_c16, n_g12, n_c16, Z.ifs, reduceIte, Bool.true_and, Bool.false_and]) (gb_upd (gb_new (gb_ext (gb_refl w b) x1) u1) x3) b4
  refine wp_skip (Z.x (Z.r [0, 1] ?_))
  refine Z.p [0] [1] [(19, Z.P b 0)] ?_
  have n_g12 : okB q = true := by simpa using h_g12
  have n_c16 : (((q.k : Nat) : Int) == (2 : Int)) = true := by simpa using h_c16
  have p_c16 := h_c16; try simp at p_c16
  refine Z.k (fun R hR => next_c b S q _ R ((hb.ext x1).upd1 u1) hok (fun w5 q3 e3 x4 b5 => hR _ _ ?_))
  have zw5 := x4.size
  have tb5 := b5.lt
  obtain ⟨ok3, m3, tr3x, tr3y⟩ : Tr S q q3 := e3 ▸ next_tr hok
  refine Z.e (wp_seq (Z.D (fun w' => Gx.Has w' k1 (.cells #[Z.n q.k, Z.n q.a, .string q.t, Z.n q.n] 34)) (fun w6 x5 zw6 => ?_)))
  refine Z.h ((b2.upd1 x4).ext x5) (fun hS1 => ?_)
  refine Z.t 0 (Z.P k1 2) hS1 ?_
  refine Z.tl 1 2 (.string q.t) (fun _ hs => hs) hS1 ?_
  refine Z.t 2 (Z.P k1 1) hS1 ?_
  refine Z.tl 3 1 (Z.n q.a) (fun _ hs => hs) hS1 ?_
  refine Z.t 4 (.string q.t) hS1 ?_
  refine Z.t 5 (Z.n q.a) hS1 ?_
  refine Z.q ?_
  refine Z.x (wp_ret (Gx.ret (Gx.res2 (v := .string q.t) (u := Z.n q.a) rfl (by kernel_rfl) (by kernel_rfl)) ?_))
  exact hK _ q.t q.a q3 (by simp only [nameR, isNameB, e3, h_g12, h_c16, n_g12, n_c16, Z.ifs, reduceIte, Bool.true_and, Bool.false_and]) (gb_ext (gb_upd (gb_new (gb_ext (gb_refl w b) x1) u1) x4) x5) (b5.ext x5)
set_option maxHeartbeats 400000 in
set_option maxRecDepth 10000 in
theorem Node_c (k : Int) (a : Int) (A : Option Addr) (n c : Nat) (w : World) (K : Ending → World → Prop)  (hK : ∀ w', Gx.Ext w w' → K (.returned (.agg #[.int .i64 k, .int .i64 a, .string Z.E, .int .i64 0, .slice A n c])) w') :
    Calls Try.prog 24 #[.int .i64 k, .int .i64 a, .slice A n c] w K := by
  refine Gx.enter 11 Try.func24 rfl rfl (Nat.le_of_ble_eq_true rfl) ?_
  refine Z.r [0] ?_
  refine Z.N (.cells #[.int .i64 0, .int .i64 0, .string Z.E, .int .i64 0, .slice none 0 0] 24) (fun k1 w1 l1 x1 b1 zw1 tb1 => ?_)
  refine Z.e (Z.r [0, 1, 2, 3, 4] ?_)
  refine Z.p [0, 1, 2, 3] [4] [(10, .agg #[.int .i64 k, .int .i64 a, .string Z.E, .int .i64 0, .slice A n c]), (9, .slice A n c), (8, .int .i64 a), (7, .int .i64 k)] ?_
  refine Z.Sa #[.int .i64 k, .int .i64 a, .string Z.E, .int .i64 0, .slice A n c] b1 (fun w2 u1 b2 zw2 => ?_)
  refine Z.e (wp_ret (Gx.ret (Gx.res_c (u := .agg #[.int .i64 k, .int .i64 a, .string Z.E, .int .i64 0, .slice A n c]) rfl (by kernel_rfl) b2 (by kernel_rfl)) ?_))
  exact hK _ (((Gx.Ext.refl w).trans x1).upd1 u1)
set_option maxHeartbeats 400000 in
set_option maxRecDepth 10000 in
theorem named_c (k : Int) (a : Int) (x : ByteArray) (A : Option Addr) (n c : Nat) (w : World) (K : Ending → World → Prop)  (hK : ∀ w', Gx.Ext w w' → K (.returned (.agg #[.int .i64 k, .int .i64 a, .string x, .int .i64 0, .slice A n c])) w') :
    Calls Try.prog 29 #[.int .i64 k, .int .i64 a, .string x, .slice A n c] w K := by
  refine Gx.enter 14 Try.func29 rfl rfl (Nat.le_of_ble_eq_true rfl) ?_
  refine Z.r [0] ?_
  refine Z.N (.cells #[.int .i64 0, .int .i64 0, .string Z.E, .int .i64 0, .slice none 0 0] 24) (fun k1 w1 l1 x1 b1 zw1 tb1 => ?_)
  refine Z.e (Z.r [0, 1, 2, 3, 4, 5] ?_)
  refine Z.p [0, 1, 2, 3, 4] [5] [(13, .agg #[.int .i64 k, .int .i64 a, .string x, .int .i64 0, .slice A n c]), (12, .slice A n c), (11, .string x), (10, .int .i64 a), (9, .int .i64 k)] ?_
  refine Z.Sa #[.int .i64 k, .int .i64 a, .string x, .int .i64 0, .slice A n c] b1 (fun w2 u1 b2 zw2 => ?_)
  refine Z.e (wp_ret (Gx.ret (Gx.res_c (u := .agg #[.int .i64 k, .int .i64 a, .string x, .int .i64 0, .slice A n c]) rfl (by kernel_rfl) b2 (by kernel_rfl)) ?_))
  exact hK _ (((Gx.Ext.refl w).trans x1).upd1 u1)
set_option maxHeartbeats 400000 in
set_option maxRecDepth 10000 in
theorem two_c (x : ByteArray) (gk1 ga1 : Int) (gn1 : ByteArray) (gm1 : Int) (gA1 : Option Addr) (gl1 gc1 : Nat) (gk2 ga2 : Int) (gn2 : ByteArray) (gm2 : Int) (gA2 : Option Addr) (gl2 gc2 : Nat) (w : World) (K : Ending → World → Prop)  (hK : ∀ w' kb, Gx.Ext w w' → w.heap.size ≤ kb → Gx.Has w' kb (.cells #[.int .i64 gk1, .int .i64 ga1, .string gn1, .int .i64 gm1, .slice gA1 gl1 gc1, .int .i64 gk2, .int .i64 ga2, .string gn2, .int .i64 gm2, .slice gA2 gl2 gc2] 24) → K (.returned (.agg #[.int .i64 18, .int .i64 ga1, .string x, .int .i64 0, .slice (some ⟨kb, 0, none⟩) 2 2])) w') :
    Calls Try.prog 71 #[.string x, .agg #[.int .i64 gk1, .int .i64 ga1, .string gn1, .int .i64 gm1, .slice gA1 gl1 gc1], .agg #[.int .i64 gk2, .int .i64 ga2, .string gn2, .int .i64 gm2, .slice gA2 gl2 gc2]] w K := by
  refine Gx.enter 14 Try.func71 rfl rfl (Nat.le_of_ble_eq_true rfl) ?_
  refine Z.r [0, 1, 2] ?_
  refine Z.N (.cells #[.int .i64 gk1, .int .i64 ga1, .string gn1, .int .i64 gm1, .slice gA1 gl1 gc1] 24) (fun k1 w1 l1 x1 b1 zw1 tb1 => ?_)
  refine Z.N (.cells #[.int .i64 gk2, .int .i64 ga2, .string gn2, .int .i64 gm2, .slice gA2 gl2 gc2] 24) (fun k2 w2 l2 x2 b2 zw2 tb2 => ?_)
  refine Z.N (.cells #[.int .i64 0, .int .i64 0, .string Z.E, .int .i64 0, .slice none 0 0] 24) (fun k3 w3 l3 x3 b3 zw3 tb3 => ?_)
  refine Z.e (Z.r [0, 1, 2, 3, 4, 5, 6, 7] ?_)
  refine Z.p [0] [1, 2, 3, 4, 5, 6, 7] [(7, Z.P k1 1)] ?_
  refine Z.L 1 (.int .i64 ga1) ((b1.ext x2).ext x3) ?_
  refine Z.p [2] [3, 4, 5, 6, 7] [(9, .string x)] ?_
  refine Z.L 0 (.agg #[.int .i64 gk1, .int .i64 ga1, .string gn1, .int .i64 gm1, .slice gA1 gl1 gc1]) ((b1.ext x2).ext x3) ?_
  refine Z.L 0 (.agg #[.int .i64 gk2, .int .i64 ga2, .string gn2, .int .i64 gm2, .slice gA2 gl2 gc2]) (b2.ext x3) ?_
  refine Z.R (.cells #[.int .i64 gk1, .int .i64 ga1, .string gn1, .int .i64 gm1, .slice gA1 gl1 gc1, .int .i64 gk2, .int .i64 ga2, .string gn2, .int .i64 gm2, .slice gA2 gl2 gc2] 24) 2 2 (fun k4 w4 l4 x4 b4 zw4 tb4 => ?_)
  refine Z.k (fun R hR => named_c (18 : Int) ga1 x (some (⟨k4, 0, none⟩ : Addr)) 2 2 _ R (fun w5 x5 => hR _ _ ?_))
  have zw5 := x5.size
  refine Z.Sa #[.int .i64 18, .int .i64 ga1, .string x, .int .i64 0, .slice (some ⟨k4, 0, none⟩) 2 2] ((b3.ext x4).ext x5) (fun w6 u1 b5 zw6 => ?_)
  refine Z.e (wp_ret (Gx.ret (Gx.res_c (u := .agg #[.int .i64 18, .int .i64 ga1, .string x, .int .i64 0, .slice (some ⟨k4, 0, none⟩) 2 2]) rfl (by kernel_rfl) b5 (by kernel_rfl)) ?_))
  exact hK _ k4 (((((((Gx.Ext.refl w).trans x1).trans x2).trans x3).trans x4).trans x5).upd1 u1) (by omega) ((b4.ext x5).upd1 u1)
end Doc
end Go.Proofs.Ytinilkomfggjiaa
