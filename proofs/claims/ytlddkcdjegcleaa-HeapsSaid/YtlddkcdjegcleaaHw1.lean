/- A part of the proof (YtlddkcdjegcleaaHw1), printed by a program of ours. -/
import Derived.Test.YtlddkcdjegcleaaProg
import Derived.Test.YtlddkcdjegcleaaHq
set_option linter.unusedVariables false
set_option linter.unusedSimpArgs false
namespace Go.Proofs.Ytlddkcdjegcleaa
open Go.RowKit Go.Sx Go.Hp
attribute [local irreducible] Go.wpOps Go.Code.wp Go.wpOp Go.wpAnyH Go.Calls Go.Sx.Goal Go.Code.wpIn
set_option maxRecDepth 20000
theorem Len_c (hb g N u gm nw : Nat) (C : Nat → Cl) (a L : Nat) (w : World) (K : Ending → World → Prop) (H0 : Sp w [.blk hb (.cells #[.slice (some ⟨g, 0, none⟩) N N, .int .i64 ((u : Nat) : Int), .slice (some ⟨gm, 0, none⟩) nw nw] 56), .own 43 2 (some ⟨g, 0, none⟩) N N (cls N C)]) (ha : a < N) (hv : shrI .i64 (C a).n 19 = (L : Int)) (hK : K (.returned (.int .i64 ((L : Nat) : Int))) w) :
    Calls Try.prog 21 #[.pointer (some ⟨hb, 0, none⟩), .int .i64 ((a : Nat) : Int)] w K := by
  obtain ⟨L0, hL0, H⟩ : ∃ L0, L0 = [.blk hb (.cells #[.slice (some ⟨g, 0, none⟩) N N, .int .i64 ((u : Nat) : Int), .slice (some ⟨gm, 0, none⟩) nw nw] 56), .own 43 2 (some ⟨g, 0, none⟩) N N (cls N C)] ∧ Hs w L0 w [.blk hb (.cells #[.slice (some ⟨g, 0, none⟩) N N, .int .i64 ((u : Nat) : Int), .slice (some ⟨gm, 0, none⟩) nw nw] 56), .own 43 2 (some ⟨g, 0, none⟩) N N (cls N C)] := ⟨_, rfl, Hs.refl H0⟩
  refine Sx.en (vs := [.pointer (some ⟨hb, 0, none⟩), .int .i64 ((a : Nat) : Int)]) 14 Try.func21 ?_
  refine Sx.l 10 0 H ?_
  refine Sx.ir 1 g a 2 N N (by omega) ?_
  refine Sx.lr 1 1 43 2 3 g N N (a * 2 + 1) (cls N C) H (.int .i64 ((C a).n)) (ld_n (C := C) (by omega)) ?_
  refine Sx.v 0 (.int .i64 (shrI .i64 ((C a).n) 19)) (.int .i64 (shrI .i64 ((C a).n) 19)) (rfl) ?_
  exact Sx.rt 4 [] H (.int .i64 (shrI .i64 ((C a).n) 19)) (Gx.ret_as (v' := .int .i64 ((L : Nat) : Int)) (congrArg (Value.int .i64) hv.symm) hK)
theorem Kind_c (hb g N u gm nw : Nat) (C : Nat → Cl) (a : Nat) (v : Int) (w : World) (K : Ending → World → Prop) (H0 : Sp w [.blk hb (.cells #[.slice (some ⟨g, 0, none⟩) N N, .int .i64 ((u : Nat) : Int), .slice (some ⟨gm, 0, none⟩) nw nw] 56), .own 43 2 (some ⟨g, 0, none⟩) N N (cls N C)]) (ha : a < N) (hv : andI .i64 (C a).n 7 = v) (hK : K (.returned (.int .i64 v)) w) :
    Calls Try.prog 27 #[.pointer (some ⟨hb, 0, none⟩), .int .i64 ((a : Nat) : Int)] w K := by
  obtain ⟨L0, hL0, H⟩ : ∃ L0, L0 = [.blk hb (.cells #[.slice (some ⟨g, 0, none⟩) N N, .int .i64 ((u : Nat) : Int), .slice (some ⟨gm, 0, none⟩) nw nw] 56), .own 43 2 (some ⟨g, 0, none⟩) N N (cls N C)] ∧ Hs w L0 w [.blk hb (.cells #[.slice (some ⟨g, 0, none⟩) N N, .int .i64 ((u : Nat) : Int), .slice (some ⟨gm, 0, none⟩) nw nw] 56), .own 43 2 (some ⟨g, 0, none⟩) N N (cls N C)] := ⟨_, rfl, Hs.refl H0⟩
  refine Sx.en (vs := [.pointer (some ⟨hb, 0, none⟩), .int .i64 ((a : Nat) : Int)]) 14 Try.func27 ?_
  refine Sx.l 10 0 H ?_
  refine Sx.ir 1 g a 2 N N (by omega) ?_
  refine Sx.lr 1 1 43 2 3 g N N (a * 2 + 1) (cls N C) H (.int .i64 ((C a).n)) (ld_n (C := C) (by omega)) ?_
  refine Sx.v 0 (.int .i64 (andI .i64 ((C a).n) (7 : Int))) (.int .i64 (andI .i64 ((C a).n) (7 : Int))) (rfl) ?_
  exact Sx.rt 4 [] H (.int .i64 (andI .i64 ((C a).n) (7 : Int))) (Gx.ret_as (v' := .int .i64 v) (congrArg (Value.int .i64) hv.symm) hK)
theorem Tag_c (hb g N u gm nw : Nat) (C : Nat → Cl) (a : Nat) (v : Int) (w : World) (K : Ending → World → Prop) (H0 : Sp w [.blk hb (.cells #[.slice (some ⟨g, 0, none⟩) N N, .int .i64 ((u : Nat) : Int), .slice (some ⟨gm, 0, none⟩) nw nw] 56), .own 43 2 (some ⟨g, 0, none⟩) N N (cls N C)]) (ha : a < N) (hv : andI .i64 (shrI .i64 (C a).n 3) 65535 = v) (hK : K (.returned (.int .i64 v)) w) :
    Calls Try.prog 28 #[.pointer (some ⟨hb, 0, none⟩), .int .i64 ((a : Nat) : Int)] w K := by
  obtain ⟨L0, hL0, H⟩ : ∃ L0, L0 = [.blk hb (.cells #[.slice (some ⟨g, 0, none⟩) N N, .int .i64 ((u : Nat) : Int), .slice (some ⟨gm, 0, none⟩) nw nw] 56), .own 43 2 (some ⟨g, 0, none⟩) N N (cls N C)] ∧ Hs w L0 w [.blk hb (.cells #[.slice (some ⟨g, 0, none⟩) N N, .int .i64 ((u : Nat) : Int), .slice (some ⟨gm, 0, none⟩) nw nw] 56), .own 43 2 (some ⟨g, 0, none⟩) N N (cls N C)] := ⟨_, rfl, Hs.refl H0⟩
  refine Sx.en (vs := [.pointer (some ⟨hb, 0, none⟩), .int .i64 ((a : Nat) : Int)]) 15 Try.func28 ?_
  refine Sx.l 10 0 H ?_
  refine Sx.ir 1 g a 2 N N (by omega) ?_
  refine Sx.lr 1 1 43 2 3 g N N (a * 2 + 1) (cls N C) H (.int .i64 ((C a).n)) (ld_n (C := C) (by omega)) ?_
  refine Sx.v 0 (.int .i64 (shrI .i64 ((C a).n) 3)) (.int .i64 (shrI .i64 ((C a).n) 3)) (rfl) ?_
  refine Sx.v 0 (.int .i64 (andI .i64 (shrI .i64 ((C a).n) 3) (65535 : Int))) (.int .i64 (andI .i64 (shrI .i64 ((C a).n) 3) (65535 : Int))) (rfl) ?_
  exact Sx.rt 4 [] H (.int .i64 (andI .i64 (shrI .i64 ((C a).n) 3) (65535 : Int))) (Gx.ret_as (v' := .int .i64 v) (congrArg (Value.int .i64) hv.symm) hK)
theorem Used_c (hb g N u gm nw : Nat) (w : World) (K : Ending → World → Prop) (H0 : Sp w [.blk hb (.cells #[.slice (some ⟨g, 0, none⟩) N N, .int .i64 ((u : Nat) : Int), .slice (some ⟨gm, 0, none⟩) nw nw] 56)]) (hK : K (.returned (.int .i64 ((u : Nat) : Int))) w) :
    Calls Try.prog 26 #[.pointer (some ⟨hb, 0, none⟩)] w K := by
  obtain ⟨L0, hL0, H⟩ : ∃ L0, L0 = [.blk hb (.cells #[.slice (some ⟨g, 0, none⟩) N N, .int .i64 ((u : Nat) : Int), .slice (some ⟨gm, 0, none⟩) nw nw] 56)] ∧ Hs w L0 w [.blk hb (.cells #[.slice (some ⟨g, 0, none⟩) N N, .int .i64 ((u : Nat) : Int), .slice (some ⟨gm, 0, none⟩) nw nw] 56)] := ⟨_, rfl, Hs.refl H0⟩
  refine Sx.en (vs := [.pointer (some ⟨hb, 0, none⟩)]) 7 Try.func26 ?_
  refine Sx.l 10 0 H ?_
  exact Sx.rt 4 [] H (.int .i64 ((u : Nat) : Int)) hK
theorem marked_c (hb g N u gm nw : Nat) (W : Nat → Int) (a : Nat) (v : Bool) (w : World) (K : Ending → World → Prop) (H0 : Sp w [.blk hb (.cells #[.slice (some ⟨g, 0, none⟩) N N, .int .i64 ((u : Nat) : Int), .slice (some ⟨gm, 0, none⟩) nw nw] 56), .own 72 1 (some ⟨gm, 0, none⟩) nw nw (wds .u64 nw W)]) (ha : a < 64 * nw) (hv : markB W a = v) (hz : a < 1000000000000) (hK : K (.returned (.bool v)) w) :
    Calls Try.prog 23 #[.pointer (some ⟨hb, 0, none⟩), .int .i64 ((a : Nat) : Int)] w K := by
  obtain ⟨L0, hL0, H⟩ : ∃ L0, L0 = [.blk hb (.cells #[.slice (some ⟨g, 0, none⟩) N N, .int .i64 ((u : Nat) : Int), .slice (some ⟨gm, 0, none⟩) nw nw] 56), .own 72 1 (some ⟨gm, 0, none⟩) nw nw (wds .u64 nw W)] ∧ Hs w L0 w [.blk hb (.cells #[.slice (some ⟨g, 0, none⟩) N N, .int .i64 ((u : Nat) : Int), .slice (some ⟨gm, 0, none⟩) nw nw] 56), .own 72 1 (some ⟨gm, 0, none⟩) nw nw (wds .u64 nw W)] := ⟨_, rfl, Hs.refl H0⟩
  refine Sx.en (vs := [.pointer (some ⟨hb, 0, none⟩), .int .i64 ((a : Nat) : Int)]) 18 Try.func23 ?_
  refine Sx.l 10 0 H ?_
  refine Sx.v 1 (.int .i64 (IntKind.i64.wrap (Int.tdiv ((a : Nat) : Int) (64 : Int)))) (.int .i64 ((a / 64 : Nat) : Int)) (congrArg (Value.int .i64) (by rw [IntWalk.i64_quo _ _ (by omega)]; omega)) ?_
  refine Sx.ir 0 gm (a / 64) 1 nw nw (by omega) ?_
  refine Sx.lr 0 1 72 1 72 gm nw nw ((a / 64) * 1) (wds .u64 nw W) H (.int .u64 (W (a / 64))) (ld_w (W := W) (by omega)) ?_
  refine Sx.v 1 (.int .i64 (Int.tmod ((a : Nat) : Int) (64 : Int))) (.int .i64 ((a % 64 : Nat) : Int)) (congrArg (Value.int .i64) (by rw [IntWalk.rem_in _ _ (by omega)]; omega)) ?_
  refine Sx.v 0 (.int .u64 (shrI .u64 (W (a / 64)) (a % 64))) (.int .u64 (shrI .u64 (W (a / 64)) (a % 64))) (rfl) ?_
  refine Sx.v 0 (.int .u64 (andI .u64 (shrI .u64 (W (a / 64)) (a % 64)) (1 : Int))) (.int .u64 (andI .u64 (shrI .u64 (W (a / 64)) (a % 64)) (1 : Int))) (rfl) ?_
  exact Sx.rt 5 [] H (.bool ((andI .u64 (shrI .u64 (W (a / 64)) (a % 64)) (1 : Int)) == (1 : Int))) (Gx.ret_as (v' := .bool v) (congrArg Value.bool hv.symm) hK)
theorem Get_c (hb g N u gm nw : Nat) (C : Nat → Cl) (a i : Nat) (w : World) (K : Ending → World → Prop) (H0 : Sp w [.blk hb (.cells #[.slice (some ⟨g, 0, none⟩) N N, .int .i64 ((u : Nat) : Int), .slice (some ⟨gm, 0, none⟩) nw nw] 56), .own 43 2 (some ⟨g, 0, none⟩) N N (cls N C)]) (ha : a + 1 + i < N) (hN : N < 1000000000000) (hK : ∀ w', Hs w [.blk hb (.cells #[.slice (some ⟨g, 0, none⟩) N N, .int .i64 ((u : Nat) : Int), .slice (some ⟨gm, 0, none⟩) nw nw] 56), .own 43 2 (some ⟨g, 0, none⟩) N N (cls N C)] w' [.blk hb (.cells #[.slice (some ⟨g, 0, none⟩) N N, .int .i64 ((u : Nat) : Int), .slice (some ⟨gm, 0, none⟩) nw nw] 56), .own 43 2 (some ⟨g, 0, none⟩) N N (cls N C)] → K (.returned (.agg #[.bool (C (a + 1 + i)).p, .int .i64 (C (a + 1 + i)).n])) w') :
    Calls Try.prog 12 #[.pointer (some ⟨hb, 0, none⟩), .int .i64 ((a : Nat) : Int), .int .i64 ((i : Nat) : Int)] w K := by
  obtain ⟨L0, hL0, H⟩ : ∃ L0, L0 = [.blk hb (.cells #[.slice (some ⟨g, 0, none⟩) N N, .int .i64 ((u : Nat) : Int), .slice (some ⟨gm, 0, none⟩) nw nw] 56), .own 43 2 (some ⟨g, 0, none⟩) N N (cls N C)] ∧ Hs w L0 w [.blk hb (.cells #[.slice (some ⟨g, 0, none⟩) N N, .int .i64 ((u : Nat) : Int), .slice (some ⟨gm, 0, none⟩) nw nw] 56), .own 43 2 (some ⟨g, 0, none⟩) N N (cls N C)] := ⟨_, rfl, Hs.refl H0⟩
  refine Sx.en (vs := [.pointer (some ⟨hb, 0, none⟩), .int .i64 ((a : Nat) : Int), .int .i64 ((i : Nat) : Int)]) 17 Try.func12 ?_
  refine Sx.nw 2 H fun k1 w1 H1 => ?_
  refine Sx.l 7 0 H1 ?_
  refine Sx.v 1 (.int .i64 (IntKind.i64.wrap (((a : Nat) : Int) + (1 : Int)))) (.int .i64 ((a + 1 : Nat) : Int)) (congrArg (Value.int .i64) (Gx.i64n (by omega) (by omega))) ?_
  refine Sx.v 1 (.int .i64 (IntKind.i64.wrap (((a + 1 : Nat) : Int) + ((i : Nat) : Int)))) (.int .i64 (((a + 1) + i : Nat) : Int)) (congrArg (Value.int .i64) (Gx.i64n (by omega) (by omega))) ?_
  refine Sx.ir 0 g ((a + 1) + i) 2 N N (by omega) ?_
  refine Sx.lr 0 1 43 2 43 g N N (((a + 1) + i) * 2) (cls N C) H1 (.agg #[.bool ((C ((a + 1) + i)).p), .int .i64 ((C ((a + 1) + i)).n)]) (ld_cell (C := C) (by omega)) ?_
  refine Sx.s 0 2 H1 fun w2 H2 => ?_
  exact Sx.rt 3 [2] H2 (.agg #[.bool ((C ((a + 1) + i)).p), .int .i64 ((C ((a + 1) + i)).n)]) (Gx.ret_as (v' := .agg #[.bool (C (a + 1 + i)).p, .int .i64 (C (a + 1 + i)).n]) (by rfl) (hK _ (pe H2 hL0 [0, 0])))
theorem Set_c (hb g N u gm nw : Nat) (C : Nat → Cl) (a i : Nat) (p : Bool) (v : Int) (w : World) (K : Ending → World → Prop) (H0 : Sp w [.blk hb (.cells #[.slice (some ⟨g, 0, none⟩) N N, .int .i64 ((u : Nat) : Int), .slice (some ⟨gm, 0, none⟩) nw nw] 56), .own 43 2 (some ⟨g, 0, none⟩) N N (cls N C)]) (ha : a + 1 + i < N) (hN : N < 1000000000000) (hK : ∀ w', Hs w [.blk hb (.cells #[.slice (some ⟨g, 0, none⟩) N N, .int .i64 ((u : Nat) : Int), .slice (some ⟨gm, 0, none⟩) nw nw] 56), .own 43 2 (some ⟨g, 0, none⟩) N N (cls N C)] w' [.blk hb (.cells #[.slice (some ⟨g, 0, none⟩) N N, .int .i64 ((u : Nat) : Int), .slice (some ⟨gm, 0, none⟩) nw nw] 56), .own 43 2 (some ⟨g, 0, none⟩) N N (cls N (upd C (a + 1 + i) ⟨p, v⟩))] → K (.returned (.tuple #[])) w') :
    Calls Try.prog 11 #[.pointer (some ⟨hb, 0, none⟩), .int .i64 ((a : Nat) : Int), .int .i64 ((i : Nat) : Int), .agg #[.bool p, .int .i64 v]] w K := by
  obtain ⟨L0, hL0, H⟩ : ∃ L0, L0 = [.blk hb (.cells #[.slice (some ⟨g, 0, none⟩) N N, .int .i64 ((u : Nat) : Int), .slice (some ⟨gm, 0, none⟩) nw nw] 56), .own 43 2 (some ⟨g, 0, none⟩) N N (cls N C)] ∧ Hs w L0 w [.blk hb (.cells #[.slice (some ⟨g, 0, none⟩) N N, .int .i64 ((u : Nat) : Int), .slice (some ⟨gm, 0, none⟩) nw nw] 56), .own 43 2 (some ⟨g, 0, none⟩) N N (cls N C)] := ⟨_, rfl, Hs.refl H0⟩
  refine Sx.en (vs := [.pointer (some ⟨hb, 0, none⟩), .int .i64 ((a : Nat) : Int), .int .i64 ((i : Nat) : Int), .agg #[.bool p, .int .i64 v]]) 18 Try.func11 ?_
  refine Sx.nw 2 H fun k1 w1 H1 => ?_
  refine Sx.dr 2 H1 [0, 2] [] (LJ := [.blk hb (.cells #[.slice (some ⟨g, 0, none⟩) N N, .int .i64 ((u : Nat) : Int), .slice (some ⟨gm, 0, none⟩) nw nw] 56), .blk k1 (.cells #[.bool p, .int .i64 v] 43)]) (by kernel_rfl) fun w2 H2 => ?_
  refine Sx.tk [(0, none), (1, none), (2, none), (3, some (0, [])), (4, none)] (fun _ => (H2.sub [0, 1] (by kernel_rfl))) ?_
  refine Sx.tva 5 [] (.int .i64 (IntKind.i64.wrap (((a : Nat) : Int) + (1 : Int)))) (.int .i64 ((a + 1 : Nat) : Int)) (congrArg (Value.int .i64) (Gx.i64n (by omega) (by omega))) (fun _ => (H2.sub [0, 1] (by kernel_rfl))) ?_
  refine Sx.tk [(6, none)] (fun _ => (H2.sub [0, 1] (by kernel_rfl))) ?_
  refine Sx.tva 7 [] (.int .i64 (IntKind.i64.wrap (((a + 1 : Nat) : Int) + ((i : Nat) : Int)))) (.int .i64 (((a + 1) + i : Nat) : Int)) (congrArg (Value.int .i64) (Gx.i64n (by omega) (by omega))) (fun _ => (H2.sub [0, 1] (by kernel_rfl))) ?_
  refine Sx.tk [(8, some (1, []))] (fun _ => (H2.sub [0, 1] (by kernel_rfl))) ?_
  refine Sx.tvg 9 [] g ((a + 1) + i) 2 N N (by omega) (fun _ => (H2.sub [0, 1] (by kernel_rfl))) ?_
  refine Sx.nmx ?_
  intro zx1
  refine Sx.on 10 ?_
  refine Sx.sra 0 1 43 2 43 g N N (((a + 1) + i) * 2) (cls N C) [.bool p, .int .i64 v] H2 (by simp; omega) (cls_put C (by omega) ⟨p, v⟩) fun w3 H3 => ?_
  refine Sx.bk (x := zx1) 10 (fun _ => (H3.sub [0, 1] (by kernel_rfl))) ?_
  refine Sx.dn ?_
  exact Sx.rt 0 [] H3 _ (hK _ (pe H3 hL0 [0, 0]))
theorem head_c (kd tg n : Int) (v : Int) (w : World) (K : Ending → World → Prop) (H0 : Sp w []) (hv : orI .i64 (orI .i64 (shlI .i64 n 19) (shlI .i64 tg 3)) kd = v) (hK : ∀ w', Hs w [] w' [] → K (.returned (.agg #[.bool false, .int .i64 v])) w') :
    Calls Try.prog 16 #[.int .i64 kd, .int .i64 tg, .int .i64 n] w K := by
  obtain ⟨L0, hL0, H⟩ : ∃ L0, L0 = [] ∧ Hs w L0 w [] := ⟨_, rfl, Hs.refl H0⟩
  refine Sx.en (vs := [.int .i64 kd, .int .i64 tg, .int .i64 n]) 15 Try.func16 ?_
  refine Sx.nw 2 H fun k1 w1 H1 => ?_
  refine Sx.v 5 (.int .i64 (shlI .i64 n 19)) (.int .i64 (shlI .i64 n 19)) (rfl) ?_
  refine Sx.v 1 (.int .i64 (shlI .i64 tg 3)) (.int .i64 (shlI .i64 tg 3)) (rfl) ?_
  refine Sx.v 0 (.int .i64 (orI .i64 (shlI .i64 n 19) (shlI .i64 tg 3))) (.int .i64 (orI .i64 (shlI .i64 n 19) (shlI .i64 tg 3))) (rfl) ?_
  refine Sx.v 1 (.int .i64 (orI .i64 (orI .i64 (shlI .i64 n 19) (shlI .i64 tg 3)) kd)) (.int .i64 (orI .i64 (orI .i64 (shlI .i64 n 19) (shlI .i64 tg 3)) kd)) (rfl) ?_
  refine Sx.s 1 0 H1 fun w2 H2 => ?_
  exact Sx.rt 3 [0] H2 (.agg #[.bool false, .int .i64 (orI .i64 (orI .i64 (shlI .i64 n 19) (shlI .i64 tg 3)) kd)]) (Gx.ret_as (v' := .agg #[.bool false, .int .i64 v]) (by rw [← hv]) (hK _ (pe H2 hL0 [])))
end Go.Proofs.Ytlddkcdjegcleaa
