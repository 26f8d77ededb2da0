/- A part of the proof (YtlddkcdjegcleaaHw11), printed by a program of ours. -/
import Derived.Test.YtlddkcdjegcleaaProg
import Derived.Test.YtlddkcdjegcleaaHq
import Derived.Test.YtlddkcdjegcleaaHi
import Derived.Test.YtlddkcdjegcleaaHw1
import Derived.Test.YtlddkcdjegcleaaHw2
import Derived.Test.YtlddkcdjegcleaaHw3
import Derived.Test.YtlddkcdjegcleaaHw4
import Derived.Test.YtlddkcdjegcleaaHw5
import Derived.Test.YtlddkcdjegcleaaHw6
import Derived.Test.YtlddkcdjegcleaaHw7
import Derived.Test.YtlddkcdjegcleaaHw8
import Derived.Test.YtlddkcdjegcleaaHw9
import Derived.Test.YtlddkcdjegcleaaHw10
set_option linter.unusedVariables false
set_option linter.unusedSimpArgs false
namespace Go.Proofs.Ytlddkcdjegcleaa
open Go.RowKit Go.Sx Go.Hp
attribute [local irreducible] Go.wpOps Go.Code.wp Go.wpOp Go.wpAnyH Go.Calls Go.Sx.Goal Go.Code.wpIn
set_option maxRecDepth 20000
theorem cellEq (p : Bool) (v : Int) (w : World) : (Op.equalIn 10000 43 (.agg #[.bool p, .int .i64 v]) (.agg #[.bool p, .int .i64 v])).run Try.prog w = .ok true w := by
  rw [run_equalIn_struct w 9999 43 _ _ (by kernel_rfl) (by kernel_rfl), show (Try.prog.fieldsOf 43).toList = [Field.mk "Ptr" 4 0 false "" "" 0, Field.mk "N" 3 1 false "" "" 8] from by kernel_rfl]
  have e : ∀ p, (Op.eqFields 9999 #[.bool p, .int .i64 v] #[.bool p, .int .i64 v] [Field.mk "Ptr" 4 0 false "" "" 0, Field.mk "N" 3 1 false "" "" 8]).run Try.prog w = (if (!(v == v)) = true then (pure false : Sem Bool) else pure true).run Try.prog w := fun p => by cases p <;> kernel_rfl
  rw [e]; simp
set_option maxHeartbeats 4000000 in
theorem alike_c (hb g N gm nw : Nat) (C : Nat → Cl) (gh : Nat) (A : Option Addr) (c : Nat) (G : Nat → Nat) (M : List Th) (gr gb n : Nat) (Rt : Nat → Cl) (w : World) (K : Ending → World → Prop) (H0 : Sp w [.blk hb (.cells #[.slice (some ⟨g, 0, none⟩) N N, .int .i64 ((tots M : Nat) : Int), .slice (some ⟨gm, 0, none⟩) nw nw] 56), .own 43 2 (some ⟨g, 0, none⟩) N N (cls N C), .blk gh (.cells #[.int .i64 ((N : Nat) : Int), .slice A M.length c] 30), .own 46 4 A c M.length (ths M.length (adr M) (thM M) G), rwsI M.length G (lnM M) (fld M), .own 43 2 (some ⟨gr, 0, none⟩) n n (cls n Rt), .own 43 2 (some ⟨gb, 0, none⟩) n n (cls n Rt)]) (hg : Gd N n M C Rt) (hN6 : N ≤ 1000000) (hn : n < 1000000) (hK : ∀ w', Hs w [.blk hb (.cells #[.slice (some ⟨g, 0, none⟩) N N, .int .i64 ((tots M : Nat) : Int), .slice (some ⟨gm, 0, none⟩) nw nw] 56), .own 43 2 (some ⟨g, 0, none⟩) N N (cls N C), .blk gh (.cells #[.int .i64 ((N : Nat) : Int), .slice A M.length c] 30), .own 46 4 A c M.length (ths M.length (adr M) (thM M) G), rwsI M.length G (lnM M) (fld M), .own 43 2 (some ⟨gr, 0, none⟩) n n (cls n Rt), .own 43 2 (some ⟨gb, 0, none⟩) n n (cls n Rt)] w' [.blk hb (.cells #[.slice (some ⟨g, 0, none⟩) N N, .int .i64 ((tots M : Nat) : Int), .slice (some ⟨gm, 0, none⟩) nw nw] 56), .own 43 2 (some ⟨g, 0, none⟩) N N (cls N C), .blk gh (.cells #[.int .i64 ((N : Nat) : Int), .slice A M.length c] 30), .own 46 4 A c M.length (ths M.length (adr M) (thM M) G), rwsI M.length G (lnM M) (fld M), .own 43 2 (some ⟨gr, 0, none⟩) n n (cls n Rt), .own 43 2 (some ⟨gb, 0, none⟩) n n (cls n Rt)] → K (.returned (.bool true)) w') :
    Calls Try.prog 15 #[.pointer (some ⟨hb, 0, none⟩), .pointer (some ⟨gh, 0, none⟩), .slice (some ⟨gr, 0, none⟩) n n, .slice (some ⟨gb, 0, none⟩) n n] w K := by
  obtain ⟨L0, hL0, H⟩ : ∃ L0, L0 = [.blk hb (.cells #[.slice (some ⟨g, 0, none⟩) N N, .int .i64 ((tots M : Nat) : Int), .slice (some ⟨gm, 0, none⟩) nw nw] 56), .own 43 2 (some ⟨g, 0, none⟩) N N (cls N C), .blk gh (.cells #[.int .i64 ((N : Nat) : Int), .slice A M.length c] 30), .own 46 4 A c M.length (ths M.length (adr M) (thM M) G), rwsI M.length G (lnM M) (fld M), .own 43 2 (some ⟨gr, 0, none⟩) n n (cls n Rt), .own 43 2 (some ⟨gb, 0, none⟩) n n (cls n Rt)] ∧ Hs w L0 w [.blk hb (.cells #[.slice (some ⟨g, 0, none⟩) N N, .int .i64 ((tots M : Nat) : Int), .slice (some ⟨gm, 0, none⟩) nw nw] 56), .own 43 2 (some ⟨g, 0, none⟩) N N (cls N C), .blk gh (.cells #[.int .i64 ((N : Nat) : Int), .slice A M.length c] 30), .own 46 4 A c M.length (ths M.length (adr M) (thM M) G), rwsI M.length G (lnM M) (fld M), .own 43 2 (some ⟨gr, 0, none⟩) n n (cls n Rt), .own 43 2 (some ⟨gb, 0, none⟩) n n (cls n Rt)] := ⟨_, rfl, Hs.refl H0⟩
  refine Sx.en (vs := [.pointer (some ⟨hb, 0, none⟩), .pointer (some ⟨gh, 0, none⟩), .slice (some ⟨gr, 0, none⟩) n n, .slice (some ⟨gb, 0, none⟩) n n]) 100 Try.func15 ?_
  have hml := len_le M; have hle := hg.le; have hm6 : tots M ≤ 1000000 := Nat.le_trans hg.le hN6; have hwf := hg.wf
  have H1 := H.pick (a := [.blk hb (.cells #[.slice (some ⟨g, 0, none⟩) N N, .int .i64 ((tots M : Nat) : Int), .slice (some ⟨gm, 0, none⟩) nw nw] 56), .own 43 2 (some ⟨g, 0, none⟩) N N (cls N C), .blk gh (.cells #[.int .i64 ((N : Nat) : Int), .slice A M.length c] 30), .own 46 4 A c M.length (ths M.length (adr M) (thM M) G), rwsI M.length G (lnM M) (fld M), .own 43 2 (some ⟨gr, 0, none⟩) n n (cls n Rt), .own 43 2 (some ⟨gb, 0, none⟩) n n (cls n Rt)]) [0, 0, 0, 0, 0, 0, 0] (by kernel_rfl)
  refine Sx.lp 12 (fun z l' w' => ∃ (i : Nat), l' = [(0, .pointer (some ⟨hb, 0, none⟩)), (1, .pointer (some ⟨gh, 0, none⟩)), (2, .slice (some ⟨gr, 0, none⟩) n n), (3, .slice (some ⟨gb, 0, none⟩) n n), (9, .int .i64 ((i : Nat) : Int))] ∧ z = n - i ∧ Hs w L0 w' [.blk hb (.cells #[.slice (some ⟨g, 0, none⟩) N N, .int .i64 ((tots M : Nat) : Int), .slice (some ⟨gm, 0, none⟩) nw nw] 56), .own 43 2 (some ⟨g, 0, none⟩) N N (cls N C), .blk gh (.cells #[.int .i64 ((N : Nat) : Int), .slice A M.length c] 30), .own 46 4 A c M.length (ths M.length (adr M) (thM M) G), rwsI M.length G (lnM M) (fld M), .own 43 2 (some ⟨gr, 0, none⟩) n n (cls n Rt), .own 43 2 (some ⟨gb, 0, none⟩) n n (cls n Rt)] ∧ (i ≤ n)) _ [(0, .pointer (some ⟨hb, 0, none⟩)), (1, .pointer (some ⟨gh, 0, none⟩)), (2, .slice (some ⟨gr, 0, none⟩) n n), (3, .slice (some ⟨gb, 0, none⟩) n n), (9, .int .i64 ((0 : Nat) : Int))] ⟨0, rfl, rfl, H1, (Nat.zero_le _)⟩ (fun b1 z1 l1 w1 hI1 K1 hK1 => ?_)
  obtain ⟨i, rfl, rfl, H2, hi⟩ := hI1
  refine Sx.br 9 (decide (((i : Nat) : Int) < ((n : Nat) : Int))) (fun h_c17 => ?_) (fun h_c17 => ?_)
  · skip
    refine Sx.dr 5 H2 [5, 6] [] (LJ := [.own 43 2 (some ⟨gr, 0, none⟩) n n (cls n Rt), .own 43 2 (some ⟨gb, 0, none⟩) n n (cls n Rt)]) (by kernel_rfl) fun w2 H3 => ?_
    have p_c17 := of_decide_eq_true h_c17
    refine Sx.tk [(0, none), (1, none)] (fun _ => (H3.sub [5, 5] (by kernel_rfl))) ?_
    refine Sx.tvg 2 [] gr i 2 n n (by omega) (fun _ => (H3.sub [5, 5] (by kernel_rfl))) ?_
    refine Sx.tvl 3 [] 0 43 2 43 gr n n (i * 2) (cls n Rt) (.agg #[.bool ((Rt i).p), .int .i64 ((Rt i).n)]) (ld_cell (C := Rt) (by omega)) (fun _ => (H3.sub [5, 5] (by kernel_rfl))) ?_
    refine Sx.tk [(4, none), (5, none)] (fun _ => (H3.sub [5, 5] (by kernel_rfl))) ?_
    refine Sx.tvg 6 [] gb i 2 n n (by omega) (fun _ => (H3.sub [5, 5] (by kernel_rfl))) ?_
    refine Sx.tvl 7 [] 1 43 2 43 gb n n (i * 2) (cls n Rt) (.agg #[.bool ((Rt i).p), .int .i64 ((Rt i).n)]) (ld_cell (C := Rt) (by omega)) (fun _ => (H3.sub [5, 5] (by kernel_rfl))) ?_
    refine Sx.tvn 8 [] 43 #[.bool ((Rt i).p), .int .i64 ((Rt i).n)] (cellEq _ _) (by kernel_rfl) (fun _ => (H3.sub [5, 5] (by kernel_rfl))) ?_
    refine Sx.dn ?_
    refine Sx.nz 1 (.code (Sx.cat [1, 0, 1, 0, 0, 1, 0, 0, 1] (Sx.bodyOf Try.f15))) [.blk 1, .code (Sx.cat [1, 0, 1, 0, 0, 1, 1] (Sx.bodyOf Try.f15)), .to K1, .blk 0, .code (Sx.cat [1, 1] (Sx.bodyOf Try.f15))] [(0, .pointer (some ⟨hb, 0, none⟩)), (1, .pointer (some ⟨gh, 0, none⟩)), (2, .slice (some ⟨gr, 0, none⟩) n n), (3, .slice (some ⟨gb, 0, none⟩) n n), (9, .int .i64 ((i : Nat) : Int)), (28, .bool false)] fun b2 => ?_
    refine Sx.v 6 (.int .i64 (IntKind.i64.wrap (((i : Nat) : Int) + (1 : Int)))) (.int .i64 ((i + 1 : Nat) : Int)) (congrArg (Value.int .i64) (Gx.i64n (by omega) (by omega))) ?_
    have H4 := H3.pick (a := [.blk hb (.cells #[.slice (some ⟨g, 0, none⟩) N N, .int .i64 ((tots M : Nat) : Int), .slice (some ⟨gm, 0, none⟩) nw nw] 56), .own 43 2 (some ⟨g, 0, none⟩) N N (cls N C), .blk gh (.cells #[.int .i64 ((N : Nat) : Int), .slice A M.length c] 30), .own 46 4 A c M.length (ths M.length (adr M) (thM M) G), rwsI M.length G (lnM M) (fld M), .own 43 2 (some ⟨gr, 0, none⟩) n n (cls n Rt), .own 43 2 (some ⟨gb, 0, none⟩) n n (cls n Rt)]) [0, 0, 0, 0, 0, 0, 0] (by kernel_rfl)
    exact Sx.to 2 [(0, .pointer (some ⟨hb, 0, none⟩)), (1, .pointer (some ⟨gh, 0, none⟩)), (2, .slice (some ⟨gr, 0, none⟩) n n), (3, .slice (some ⟨gb, 0, none⟩) n n), (9, .int .i64 ((i + 1 : Nat) : Int))] (hK1 _ _ _ _ (by omega) ⟨i + 1, rfl, rfl, H4, (by omega)⟩)
  refine Sx.nz 5 (.code (Sx.cat [1, 1] (Sx.bodyOf Try.f15))) [] [(0, .pointer (some ⟨hb, 0, none⟩)), (1, .pointer (some ⟨gh, 0, none⟩)), (3, .slice (some ⟨gb, 0, none⟩) n n)] fun b3 => ?_
  have p_c17 := of_decide_eq_false h_c17
  refine Sx.c 4 [0] H2 (fun Hp R hR => Used_c hb g N (tots M) gm nw w1 R Hp  (hR _ _ _ (.refl Hp) fun _ => ?_))
  refine Sx.c 1 [2, 2] H2 (fun Hp R hR => dUsed_c gh A c N G M w1 R Hp hm6 (fun w3 G1 => hR _ _ _ G1 fun H5 => ?_))
  refine Sx.v 0 (.bool (((tots M : Nat) : Int) != ((tots M : Nat) : Int))) (.bool false) (by simp) ?_
  refine Sx.c 9 [6] H5 (fun Hp R hR => places_c gb n Rt w3 R Hp (by omega) (fun A1 c1 w4 G2 => hR _ _ _ G2 fun H6 => ?_))
  refine Sx.c 0 [2, 2, 4, 1, 0] H6 (fun Hp R hR => reached_c gh A c N G M A1 c1 gb n Rt w4 R Hp hm6 hwf hn (fun gi1 w5 G3 => hR _ _ _ G3 fun H7 => ?_))
  have H8 := H7.pick (a := [.blk gh (.cells #[.int .i64 ((N : Nat) : Int), .slice A M.length c] 30), .own 46 4 A c M.length (ths M.length (adr M) (thM M) G), rwsI M.length G (lnM M) (fld M), .own 59 1 A1 c1 n (pls gb n), .own 43 2 (some ⟨gb, 0, none⟩) n n (cls n Rt), .own 4 1 (some ⟨gi1, 0, none⟩) M.length M.length (bls M.length (rb M (rts Rt n))), .blk hb (.cells #[.slice (some ⟨g, 0, none⟩) N N, .int .i64 ((tots M : Nat) : Int), .slice (some ⟨gm, 0, none⟩) nw nw] 56), .own 43 2 (some ⟨g, 0, none⟩) N N (cls N C), .own 43 2 (some ⟨gr, 0, none⟩) n n (cls n Rt)]) [0, 0, 0, 0, 0, 0, 0, 0, 0] (by kernel_rfl)
  refine Sx.lp 10 (fun z l' w' => ∃ (i : Nat), l' = [(0, .pointer (some ⟨hb, 0, none⟩)), (1, .pointer (some ⟨gh, 0, none⟩)), (10, .slice (some ⟨gi1, 0, none⟩) M.length M.length), (11, .int .i64 ((i : Nat) : Int))] ∧ z = M.length - i ∧ Hs w L0 w' [.blk gh (.cells #[.int .i64 ((N : Nat) : Int), .slice A M.length c] 30), .own 46 4 A c M.length (ths M.length (adr M) (thM M) G), rwsI M.length G (lnM M) (fld M), .own 59 1 A1 c1 n (pls gb n), .own 43 2 (some ⟨gb, 0, none⟩) n n (cls n Rt), .own 4 1 (some ⟨gi1, 0, none⟩) M.length M.length (bls M.length (rb M (rts Rt n))), .blk hb (.cells #[.slice (some ⟨g, 0, none⟩) N N, .int .i64 ((tots M : Nat) : Int), .slice (some ⟨gm, 0, none⟩) nw nw] 56), .own 43 2 (some ⟨g, 0, none⟩) N N (cls N C), .own 43 2 (some ⟨gr, 0, none⟩) n n (cls n Rt)] ∧ (i ≤ M.length)) _ [(0, .pointer (some ⟨hb, 0, none⟩)), (1, .pointer (some ⟨gh, 0, none⟩)), (10, .slice (some ⟨gi1, 0, none⟩) M.length M.length), (11, .int .i64 ((0 : Nat) : Int))] ⟨0, rfl, rfl, H8, (Nat.zero_le _)⟩ (fun b4 z2 l2 w6 hI2 K2 hK2 => ?_)
  obtain ⟨i, rfl, rfl, H9, hi⟩ := hI2
  refine Sx.br 9 (decide (((i : Nat) : Int) < ((M.length : Nat) : Int))) (fun h_c41 => ?_) (fun h_c41 => ?_)
  · skip
    have p_c41 := of_decide_eq_true h_c41
    have hil : i < M.length := by omega
    have hat := adr_tots hil; have hht := hg.hd _ (thM_mem hil); have hln := hht.ln; have hlnM : lnM M i = (thM M i).l.length := rfl
    obtain ⟨ga1, hga1⟩ := H9.row 1 (A := A) (e := 46) (sz := 4) (cap := c) (n := M.length) (xs := (ths M.length (adr M) (thM M) G)) (by kernel_rfl) (by omega)
    subst hga1
    refine Sx.l 9 0 H9 ?_
    refine Sx.ir 1 ga1 i 4 M.length c (by omega) ?_
    refine Sx.lr 0 1 46 4 46 ga1 c M.length (i * 4) (ths M.length (adr M) (thM M) G) H9 (.agg #[.int .i64 ((adr M i : Nat) : Int), .int .i64 ((thM M i).kd), .int .i64 ((thM M i).tg), .slice (some ⟨(G i), 0, none⟩) ((thM M i).l.length) ((thM M i).l.length)]) (ld_t (m := M.length) (i := i) (a := (adr M)) (T := (thM M)) (G := G) (by omega)) ?_
    refine Sx.nw 0 H9 fun k1 w7 H10 => ?_
    refine Sx.s 0 9 H10 fun w8 H11 => ?_
    refine Sx.nz 2 (.code (Sx.cat [1, 1, 1, 1, 0, 1, 0, 0, 1, 0, 0, 1] (Sx.bodyOf Try.f15))) [.blk 3, .code (Sx.cat [1, 1, 1, 1, 0, 1, 0, 0, 1, 1] (Sx.bodyOf Try.f15)), .to K2, .blk 2, .code (Sx.cat [1, 1, 1, 1, 1] (Sx.bodyOf Try.f15))] [(0, .pointer (some ⟨hb, 0, none⟩)), (1, .pointer (some ⟨gh, 0, none⟩)), (10, .slice (some ⟨gi1, 0, none⟩) M.length M.length), (11, .int .i64 ((i : Nat) : Int)), (12, .pointer (some ⟨k1, 0, none⟩))] fun b5 => ?_
    refine Sx.ir 5 gi1 i 1 M.length M.length (by omega) ?_
    refine Sx.lr 0 5 4 1 4 gi1 M.length M.length (i * 1) (bls M.length (rb M (rts Rt n))) H11 (.bool (rb M (rts Rt n) i)) (ld_b (I := (rb M (rts Rt n))) (by omega)) ?_
    refine Sx.br 3 (!(rb M (rts Rt n) i)) (fun h_c55 => ?_) (fun h_c55 => ?_)
    · skip
      have p_c55 := h_c55; try simp [-List.getD_eq_getElem?_getD] at p_c55
      refine Sx.v 6 (.int .i64 (IntKind.i64.wrap (((i : Nat) : Int) + (1 : Int)))) (.int .i64 ((i + 1 : Nat) : Int)) (congrArg (Value.int .i64) (Gx.i64n (by omega) (by omega))) ?_
      have H12 := H11.pick (a := [.blk gh (.cells #[.int .i64 ((N : Nat) : Int), .slice (some ⟨ga1, 0, none⟩) M.length c] 30), .own 46 4 (some ⟨ga1, 0, none⟩) c M.length (ths M.length (adr M) (thM M) G), rwsI M.length G (lnM M) (fld M), .own 59 1 A1 c1 n (pls gb n), .own 43 2 (some ⟨gb, 0, none⟩) n n (cls n Rt), .own 4 1 (some ⟨gi1, 0, none⟩) M.length M.length (bls M.length (rb M (rts Rt n))), .blk hb (.cells #[.slice (some ⟨g, 0, none⟩) N N, .int .i64 ((tots M : Nat) : Int), .slice (some ⟨gm, 0, none⟩) nw nw] 56), .own 43 2 (some ⟨g, 0, none⟩) N N (cls N C), .own 43 2 (some ⟨gr, 0, none⟩) n n (cls n Rt)]) [0, 0, 0, 0, 0, 0, 0, 0, 0] (by kernel_rfl)
      exact Sx.to 2 [(0, .pointer (some ⟨hb, 0, none⟩)), (1, .pointer (some ⟨gh, 0, none⟩)), (10, .slice (some ⟨gi1, 0, none⟩) M.length M.length), (11, .int .i64 ((i + 1 : Nat) : Int))] (hK2 _ _ _ _ (by omega) ⟨i + 1, rfl, rfl, H12, (by omega)⟩)
    refine Sx.dr 4 H11 [9] [] (LJ := [.blk k1 (.cells #[.int .i64 ((adr M i : Nat) : Int), .int .i64 ((thM M i).kd), .int .i64 ((thM M i).tg), .slice (some ⟨(G i), 0, none⟩) ((thM M i).l.length) ((thM M i).l.length)] 46)]) (by kernel_rfl) fun w9 H13 => ?_
    refine Sx.tk [(0, none), (1, none), (2, some (0, [])), (4, none), (5, some (0, []))] (fun _ => (H13.sub [9] (by kernel_rfl))) ?_
    refine Sx.nmx ?_
    intro zx1
    refine Sx.on 3 ?_
    have p_c55 := h_c55; try simp [-List.getD_eq_getElem?_getD] at p_c55
    refine Sx.c 0 [6, 6] H13 (fun Hp R hR => Kind_c hb g N (tots M) gm nw C (adr M i) ((thM M i).kd) w9 R Hp (by omega) (by rw [hg.lays.hd _ _ (thM_get hil)]; exact hd_kind hht) (hR _ _ _ (.refl Hp) fun _ => ?_))
    refine Sx.bk (x := zx1) 3 (fun _ => (H13.sub [9] (by kernel_rfl))) ?_
    refine Sx.tva 6 [] (.bool ((thM M i).kd != (thM M i).kd)) (.bool false) (by simp) (fun _ => (H13.sub [9] (by kernel_rfl))) ?_
    refine Sx.tk [(7, none), (8, none), (9, none), (10, some (0, [])), (12, none), (13, some (0, []))] (fun _ => (H13.sub [9] (by kernel_rfl))) ?_
    refine Sx.nmx ?_
    intro zx2
    refine Sx.on 11 ?_
    refine Sx.c 0 [6, 6] H13 (fun Hp R hR => Tag_c hb g N (tots M) gm nw C (adr M i) ((thM M i).tg) w9 R Hp (by omega) (by rw [hg.lays.hd _ _ (thM_get hil)]; exact hd_tag hht) (hR _ _ _ (.refl Hp) fun _ => ?_))
    refine Sx.bk (x := zx2) 11 (fun _ => (H13.sub [9] (by kernel_rfl))) ?_
    refine Sx.tva 14 [] (.bool ((thM M i).tg != (thM M i).tg)) (.bool false) (by simp) (fun _ => (H13.sub [9] (by kernel_rfl))) ?_
    refine Sx.tk [(15, none), (16, none), (17, none), (18, none), (19, some (0, [])), (21, none), (22, some (0, [])), (23, none)] (fun _ => (H13.sub [9] (by kernel_rfl))) ?_
    refine Sx.nmx ?_
    intro zx3
    refine Sx.on 20 ?_
    refine Sx.c 0 [6, 6] H13 (fun Hp R hR => Len_c hb g N (tots M) gm nw C (adr M i) ((thM M i).l.length) w9 R Hp (by omega) (by rw [hg.lays.hd _ _ (thM_get hil)]; exact hd_len hht) (hR _ _ _ (.refl Hp) fun _ => ?_))
    refine Sx.bk (x := zx3) 20 (fun _ => (H13.sub [9] (by kernel_rfl))) ?_
    refine Sx.tva 24 [] (.bool ((((thM M i).l.length : Nat) : Int) != (((thM M i).l.length : Nat) : Int))) (.bool false) (by simp) (fun _ => (H13.sub [9] (by kernel_rfl))) ?_
    refine Sx.tk [(25, none)] (fun _ => (H13.sub [9] (by kernel_rfl))) ?_
    refine Sx.dn ?_
    refine Sx.nz 1 (.code (Sx.cat [1, 1, 1, 1, 0, 1, 0, 0, 1, 0, 0, 1, 1, 0, 1] (Sx.bodyOf Try.f15))) [.code (Sx.cat [1, 1, 1, 1, 0, 1, 0, 0, 1, 0, 0, 1, 1, 1] (Sx.bodyOf Try.f15)), .blk 3, .code (Sx.cat [1, 1, 1, 1, 0, 1, 0, 0, 1, 1] (Sx.bodyOf Try.f15)), .to K2, .blk 2, .code (Sx.cat [1, 1, 1, 1, 1] (Sx.bodyOf Try.f15))] [(0, .pointer (some ⟨hb, 0, none⟩)), (1, .pointer (some ⟨gh, 0, none⟩)), (10, .slice (some ⟨gi1, 0, none⟩) M.length M.length), (11, .int .i64 ((i : Nat) : Int)), (12, .pointer (some ⟨k1, 0, none⟩)), (81, .bool false)] fun b6 => ?_
    have H14 := H13.pick (a := [.blk gh (.cells #[.int .i64 ((N : Nat) : Int), .slice (some ⟨ga1, 0, none⟩) M.length c] 30), .own 46 4 (some ⟨ga1, 0, none⟩) c M.length (ths M.length (adr M) (thM M) G), rwsI M.length G (lnM M) (fld M), .own 59 1 A1 c1 n (pls gb n), .own 43 2 (some ⟨gb, 0, none⟩) n n (cls n Rt), .own 4 1 (some ⟨gi1, 0, none⟩) M.length M.length (bls M.length (rb M (rts Rt n))), .blk hb (.cells #[.slice (some ⟨g, 0, none⟩) N N, .int .i64 ((tots M : Nat) : Int), .slice (some ⟨gm, 0, none⟩) nw nw] 56), .own 43 2 (some ⟨g, 0, none⟩) N N (cls N C), .own 43 2 (some ⟨gr, 0, none⟩) n n (cls n Rt), .blk k1 (.cells #[.int .i64 ((adr M i : Nat) : Int), .int .i64 ((thM M i).kd), .int .i64 ((thM M i).tg), .slice (some ⟨(G i), 0, none⟩) ((thM M i).l.length) ((thM M i).l.length)] 46)]) [0, 0, 0, 0, 0, 0, 0, 0, 0, 0] (by kernel_rfl)
    refine Sx.lp 9 (fun z l' w' => ∃ (j : Nat), l' = [(0, .pointer (some ⟨hb, 0, none⟩)), (1, .pointer (some ⟨gh, 0, none⟩)), (10, .slice (some ⟨gi1, 0, none⟩) M.length M.length), (11, .int .i64 ((i : Nat) : Int)), (12, .pointer (some ⟨k1, 0, none⟩)), (13, .int .i64 ((j : Nat) : Int))] ∧ z = (thM M i).l.length - j ∧ Hs w L0 w' [.blk gh (.cells #[.int .i64 ((N : Nat) : Int), .slice (some ⟨ga1, 0, none⟩) M.length c] 30), .own 46 4 (some ⟨ga1, 0, none⟩) c M.length (ths M.length (adr M) (thM M) G), rwsI M.length G (lnM M) (fld M), .own 59 1 A1 c1 n (pls gb n), .own 43 2 (some ⟨gb, 0, none⟩) n n (cls n Rt), .own 4 1 (some ⟨gi1, 0, none⟩) M.length M.length (bls M.length (rb M (rts Rt n))), .blk hb (.cells #[.slice (some ⟨g, 0, none⟩) N N, .int .i64 ((tots M : Nat) : Int), .slice (some ⟨gm, 0, none⟩) nw nw] 56), .own 43 2 (some ⟨g, 0, none⟩) N N (cls N C), .own 43 2 (some ⟨gr, 0, none⟩) n n (cls n Rt), .blk k1 (.cells #[.int .i64 ((adr M i : Nat) : Int), .int .i64 ((thM M i).kd), .int .i64 ((thM M i).tg), .slice (some ⟨(G i), 0, none⟩) ((thM M i).l.length) ((thM M i).l.length)] 46)] ∧ (j ≤ (thM M i).l.length)) _ [(0, .pointer (some ⟨hb, 0, none⟩)), (1, .pointer (some ⟨gh, 0, none⟩)), (10, .slice (some ⟨gi1, 0, none⟩) M.length M.length), (11, .int .i64 ((i : Nat) : Int)), (12, .pointer (some ⟨k1, 0, none⟩)), (13, .int .i64 ((0 : Nat) : Int))] ⟨0, rfl, rfl, H14, (Nat.zero_le _)⟩ (fun b7 z3 l3 w10 hI3 K3 hK3 => ?_)
    obtain ⟨j, rfl, rfl, H15, hj⟩ := hI3
    refine Sx.l 5 9 H15 ?_
    refine Sx.br 4 (decide (((j : Nat) : Int) < (((thM M i).l.length : Nat) : Int))) (fun h_c86 => ?_) (fun h_c86 => ?_)
    · skip
      have p_c86 := of_decide_eq_true h_c86
      have hjl : j < (thM M i).l.length := by omega
      have hfl : C (adr M i + 1 + j) = fld M i j := hg.lays.fl _ _ _ _ (thM_get hil) (fld_get hjl)
      refine Sx.dr 5 H15 [9, 2] [] (LJ := [.blk k1 (.cells #[.int .i64 ((adr M i : Nat) : Int), .int .i64 ((thM M i).kd), .int .i64 ((thM M i).tg), .slice (some ⟨(G i), 0, none⟩) ((thM M i).l.length) ((thM M i).l.length)] 46), rwsI M.length G (lnM M) (fld M)]) (by kernel_rfl) fun w11 H16 => ?_
      refine Sx.tk [(0, none), (1, none), (2, some (0, [])), (3, none), (5, none), (6, some (0, [])), (7, none)] (fun _ => (H16.sub [9, 2] (by kernel_rfl))) ?_
      refine Sx.tvg 8 [] (G i) j 2 ((thM M i).l.length) ((thM M i).l.length) (by omega) (fun _ => (H16.sub [9, 2] (by kernel_rfl))) ?_
      refine Sx.tvo (c := 2) (t := 43) 9 [] [.bool ((C (adr M i + 1 + j)).p), .int .i64 ((C (adr M i + 1 + j)).n)] (.agg #[.bool ((C (adr M i + 1 + j)).p), .int .i64 ((C (adr M i + 1 + j)).n)]) (fun w' hs => (by have h := (rw_ld (m := M.length) (G := G) (ln := (lnM M)) (F := (fld M)) (i := i) (j := j) (hs.all _ (List.mem_of_getElem? (i := 1) (by kernel_rfl))) (by omega) (by omega)); rw [← hfl] at h; exact h)) (fun _ => (H16.sub [9, 2] (by kernel_rfl))) ?_
      refine Sx.nmx ?_
      intro zx4
      refine Sx.on 4 ?_
      refine Sx.c 0 [6, 6] H16 (fun Hp R hR => Get_c hb g N (tots M) gm nw C (adr M i) j w11 R Hp (by omega) (by omega) (fun w12 G4 => hR _ _ _ G4 fun H17 => ?_))
      refine Sx.bk (x := zx4) 4 (fun _ => (H17.sub [9, 4] (by kernel_rfl))) ?_
      refine Sx.tvn 10 [] 43 #[.bool ((C ((adr M i) + 1 + j)).p), .int .i64 ((C ((adr M i) + 1 + j)).n)] (cellEq _ _) (by kernel_rfl) (fun _ => (H17.sub [9, 4] (by kernel_rfl))) ?_
      refine Sx.dn ?_
      refine Sx.nz 1 (.code (Sx.cat [1, 1, 1, 1, 0, 1, 0, 0, 1, 0, 0, 1, 1, 1, 1, 0, 0, 1, 0, 0, 1] (Sx.bodyOf Try.f15))) [.blk 5, .code (Sx.cat [1, 1, 1, 1, 0, 1, 0, 0, 1, 0, 0, 1, 1, 1, 1, 0, 0, 1, 1] (Sx.bodyOf Try.f15)), .to K3, .blk 4, .blk 3, .code (Sx.cat [1, 1, 1, 1, 0, 1, 0, 0, 1, 1] (Sx.bodyOf Try.f15)), .to K2, .blk 2, .code (Sx.cat [1, 1, 1, 1, 1] (Sx.bodyOf Try.f15))] [(0, .pointer (some ⟨hb, 0, none⟩)), (1, .pointer (some ⟨gh, 0, none⟩)), (10, .slice (some ⟨gi1, 0, none⟩) M.length M.length), (11, .int .i64 ((i : Nat) : Int)), (12, .pointer (some ⟨k1, 0, none⟩)), (13, .int .i64 ((j : Nat) : Int)), (99, .bool false)] fun b8 => ?_
      refine Sx.v 6 (.int .i64 (IntKind.i64.wrap (((j : Nat) : Int) + (1 : Int)))) (.int .i64 ((j + 1 : Nat) : Int)) (congrArg (Value.int .i64) (Gx.i64n (by omega) (by omega))) ?_
      have H18 := H17.pick (a := [.blk gh (.cells #[.int .i64 ((N : Nat) : Int), .slice (some ⟨ga1, 0, none⟩) M.length c] 30), .own 46 4 (some ⟨ga1, 0, none⟩) c M.length (ths M.length (adr M) (thM M) G), rwsI M.length G (lnM M) (fld M), .own 59 1 A1 c1 n (pls gb n), .own 43 2 (some ⟨gb, 0, none⟩) n n (cls n Rt), .own 4 1 (some ⟨gi1, 0, none⟩) M.length M.length (bls M.length (rb M (rts Rt n))), .blk hb (.cells #[.slice (some ⟨g, 0, none⟩) N N, .int .i64 ((tots M : Nat) : Int), .slice (some ⟨gm, 0, none⟩) nw nw] 56), .own 43 2 (some ⟨g, 0, none⟩) N N (cls N C), .own 43 2 (some ⟨gr, 0, none⟩) n n (cls n Rt), .blk k1 (.cells #[.int .i64 ((adr M i : Nat) : Int), .int .i64 ((thM M i).kd), .int .i64 ((thM M i).tg), .slice (some ⟨(G i), 0, none⟩) ((thM M i).l.length) ((thM M i).l.length)] 46)]) [2, 2, 2, 2, 2, 2, 0, 0, 0, 0] (by kernel_rfl)
      exact Sx.to 2 [(0, .pointer (some ⟨hb, 0, none⟩)), (1, .pointer (some ⟨gh, 0, none⟩)), (10, .slice (some ⟨gi1, 0, none⟩) M.length M.length), (11, .int .i64 ((i : Nat) : Int)), (12, .pointer (some ⟨k1, 0, none⟩)), (13, .int .i64 ((j + 1 : Nat) : Int))] (hK3 _ _ _ _ (by omega) ⟨j + 1, rfl, rfl, H18, (by omega)⟩)
    refine Sx.nz 6 (.code (Sx.cat [1, 1, 1, 1, 0, 1, 0, 0, 1, 1] (Sx.bodyOf Try.f15))) [.to K2, .blk 2, .code (Sx.cat [1, 1, 1, 1, 1] (Sx.bodyOf Try.f15))] [(0, .pointer (some ⟨hb, 0, none⟩)), (1, .pointer (some ⟨gh, 0, none⟩)), (10, .slice (some ⟨gi1, 0, none⟩) M.length M.length), (11, .int .i64 ((i : Nat) : Int))] fun b9 => ?_
    have p_c86 := of_decide_eq_false h_c86
    refine Sx.v 2 (.int .i64 (IntKind.i64.wrap (((i : Nat) : Int) + (1 : Int)))) (.int .i64 ((i + 1 : Nat) : Int)) (congrArg (Value.int .i64) (Gx.i64n (by omega) (by omega))) ?_
    have H19 := H15.pick (a := [.blk gh (.cells #[.int .i64 ((N : Nat) : Int), .slice (some ⟨ga1, 0, none⟩) M.length c] 30), .own 46 4 (some ⟨ga1, 0, none⟩) c M.length (ths M.length (adr M) (thM M) G), rwsI M.length G (lnM M) (fld M), .own 59 1 A1 c1 n (pls gb n), .own 43 2 (some ⟨gb, 0, none⟩) n n (cls n Rt), .own 4 1 (some ⟨gi1, 0, none⟩) M.length M.length (bls M.length (rb M (rts Rt n))), .blk hb (.cells #[.slice (some ⟨g, 0, none⟩) N N, .int .i64 ((tots M : Nat) : Int), .slice (some ⟨gm, 0, none⟩) nw nw] 56), .own 43 2 (some ⟨g, 0, none⟩) N N (cls N C), .own 43 2 (some ⟨gr, 0, none⟩) n n (cls n Rt)]) [0, 0, 0, 0, 0, 0, 0, 0, 0] (by kernel_rfl)
    exact Sx.to 2 [(0, .pointer (some ⟨hb, 0, none⟩)), (1, .pointer (some ⟨gh, 0, none⟩)), (10, .slice (some ⟨gi1, 0, none⟩) M.length M.length), (11, .int .i64 ((i + 1 : Nat) : Int))] (hK2 _ _ _ _ (by omega) ⟨i + 1, rfl, rfl, H19, (by omega)⟩)
  refine Sx.nz 5 (.code (Sx.cat [1, 1, 1, 1, 1] (Sx.bodyOf Try.f15))) [] [] fun b10 => ?_
  have p_c41 := of_decide_eq_false h_c41
  exact Sx.rt 6 [] H9 (.bool true) (hK _ (pe H9 hL0 [6, 6, 0, 0, 0, 3, 1]))
end Go.Proofs.Ytlddkcdjegcleaa
