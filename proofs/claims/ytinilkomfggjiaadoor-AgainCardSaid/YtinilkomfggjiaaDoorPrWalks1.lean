/- The walks, written by a program of ours (wip/gx/gx.py, printgen.py). -/
import Derived.Test.YtinilkomfggjiaaDoorRows
import Derived.Test.YtinilkomfggjiaaDoorGs
import Derived.Test.YtinilkomfggjiaaDoorSynBuild
import Derived.Test.YtinilkomfggjiaaDoorZs
set_option linter.unusedVariables false
set_option linter.unusedSimpArgs false
set_option maxHeartbeats 4000000
set_option maxRecDepth 20000
namespace Go.Proofs.YtinilkomfggjiaaDoor
open Go.RowKit Go.Lex Go.Syn
open Go.Show (digB e0 dig_small dig_step app_e0 app_assoc)
attribute [local irreducible] Go.wpOps Go.Code.wp Go.wpOp Go.wpAnyH Go.Calls Go.Syn.J
theorem copyCheck_0 (B b : Nat) (s : ByteArray) (w : World) (K : Ending → World → Prop) (v : Value) (hwb : Gx.Has w b (.cells #[.pointer none, v] 47)) (hown : w.ownsRow B 5 1 v s.size (Lib.strCells s)) (hB : B ≤ b) (hBw : B ≤ w.heap.size) (hK : ∀ w', Gx.Wx 5 B b w w' → Bd w' B b s → K (.returned (.tuple #[])) w') :
    Calls Tryd.prog 95 #[Z.P b 0] w K := by
  refine Z.en 20 Tryd.func95 ?_
  have tbb := hwb.lt
  refine Z.r [0, 1, 2, 3, 4] ?_
  refine Z.p [0, 1, 2] [3, 4] [(4, Z.P b 0), (3, Z.P b 0), (2, Z.P b 0)] ?_
  refine Z.L 0 (.pointer none) hwb ?_
  refine Z.p [4] [] [(6, .bool true)] ?_
  refine Z.e (Z.ct ?_)
  refine Z.g [0, 1, 2, 3, 4, 5, 6, 7] ?_
  refine Z.p [0, 1] [2, 3, 4, 5, 6, 7] [(8, Z.P b 0), (7, Z.P b 0)] ?_
  refine Gx.cons (Gx.op_val rfl (by kernel_rfl) (run_conv1 rfl (by kernel_rfl) hwb (by kernel_rfl)) ?_)
  refine Gx.cons (Gx.op_val rfl (by kernel_rfl) (run_noEsc (v := Z.P b 0) rfl (by kernel_rfl)) ?_)
  refine Gx.cons (Gx.op_val rfl (by kernel_rfl) (run_conv2 rfl (by kernel_rfl) hwb (by kernel_rfl)) ?_)
  refine Z.p [5, 6] [7] [(13, Z.P b 0), (12, Z.P b 0)] ?_
  refine Z.S 0 (Z.P b 0) hwb #[Z.P b 0, v] (fun w1 u1 b1 zw1 => ?_)
  refine Gx.ops_nil (Gx.ret_n (Gx.res0 rfl) ?_)
  exact hK _ ((Gx.Wx.refl (e := 5) (wb := b) w hBw).upd u1 hB) ⟨_, _, b1, (Gx.own_upd1 hown u1 (Gx.own_ne hown hwb (by decide))), hB, .inr rfl⟩
theorem copyCheck_1 (B b : Nat) (s : ByteArray) (w : World) (K : Ending → World → Prop) (v : Value) (hwb : Gx.Has w b (.cells #[Z.P b 0, v] 47)) (hown : w.ownsRow B 5 1 v s.size (Lib.strCells s)) (hB : B ≤ b) (hBw : B ≤ w.heap.size) (hK : ∀ w', Gx.Wx 5 B b w w' → Bd w' B b s → K (.returned (.tuple #[])) w') :
    Calls Tryd.prog 95 #[Z.P b 0] w K := by
  refine Z.en 20 Tryd.func95 ?_
  have tbb := hwb.lt
  refine Z.r [0, 1, 2, 3, 4] ?_
  refine Z.p [0, 1, 2] [3, 4] [(4, Z.P b 0), (3, Z.P b 0), (2, Z.P b 0)] ?_
  refine Z.L 0 (Z.P b 0) hwb ?_
  refine Z.p [4] [] [(6, .bool false)] ?_
  refine Z.e (Z.cf ?_)
  refine Z.r [0, 1, 2, 3, 4, 5] ?_
  refine Z.p [0, 1, 2] [3, 4, 5] [(16, Z.P b 0), (15, Z.P b 0), (14, Z.P b 0)] ?_
  refine Z.L 0 (Z.P b 0) hwb ?_
  refine Z.p [4] [5] [(18, Z.P b 0)] ?_
  refine Gx.cons (Gx.op_val rfl (by kernel_rfl) (run_neqSelf (a := ⟨b, 0, none⟩) rfl (by kernel_rfl) (by kernel_rfl)) ?_)
  refine Z.e (Z.cf ?_)
  refine wp_skip (Gx.ret_n (Gx.res0 rfl) ?_)
  exact hK _ (Gx.Wx.refl (e := 5) (wb := b) w hBw) ⟨_, _, hwb, hown, hB, .inr rfl⟩
theorem copyCheck_c (B b : Nat) (s : ByteArray) (w : World) (K : Ending → World → Prop) (h : Bd w B b s) (hBw : B ≤ w.heap.size) (hK : ∀ w', Gx.Wx 5 B b w w' → Bd w' B b s → K (.returned (.tuple #[])) w') : Calls Tryd.prog 95 #[Z.P b 0] w K := by
  obtain ⟨p, v, hb, ho, hB, rfl | rfl⟩ := h
  · exact copyCheck_0 B b s w K v hb ho hB hBw hK
  · exact copyCheck_1 B b s w K v hb ho hB hBw hK
theorem WriteByte_c (B b : Nat) (s : ByteArray) (c : Nat) (w : World) (K : Ending → World → Prop) (h : Bd w B b s) (hBw : B ≤ w.heap.size) (hc : c < 256) (hz : s.size ≤ 140737488355000) (hK : ∀ w' s', s' = s ++ ⟨#[UInt8.ofNat c]⟩ → Gx.Wx 5 B b w w' → Bd w' B b s' → K (.returned (.nilIface)) w') :
    Calls Tryd.prog 85 #[Z.P b 0, .int .u8 ((c : Nat) : Int)] w K := by
  refine Z.en 17 Tryd.func85 ?_
  obtain ⟨p, v, hwb, hown, hB, hp⟩ := h
  have tbb := hwb.lt
  refine Z.s [(4, .nilIface)] ?_
  refine Z.r [0, 1] ?_
  refine Z.p [0] [1] [(5, Z.P b 0)] ?_
  refine Z.k (fun R hR => copyCheck_c B b s _ R ⟨_, _, hwb, hown, hB, hp⟩ (by omega) (fun w1 x1 hbd1 => hR _ _ ?_))
  have zw1 := x1.size
  obtain ⟨p1, v1, b1, ow1, _, hp1⟩ := hbd1
  have tb1 := b1.lt
  refine Z.e (Z.r [0, 1, 2, 3, 4, 5, 6, 7, 8, 9, 10] ?_)
  refine Z.p [0, 1, 2, 3] [4, 5, 6, 7, 8, 9, 10] [(10, Z.P b 1), (9, Z.P b 0), (8, Z.P b 0), (7, Z.P b 0)] ?_
  refine Z.L 1 (v1) b1 ?_
  refine Z.p [5] [6, 7, 8, 9, 10] [(12, .int .u8 ((c : Nat) : Int))] ?_
  refine Z.R (.cells #[.int .u8 ((c : Nat) : Int)] 5) 1 1 (fun k1 w2 l1 x2 b2 zw2 tb2 => ?_)
  refine Gx.cons (Gx.op_append rfl (by kernel_rfl) rfl 5 1 1 (by kernel_rfl) (by kernel_rfl) (by kernel_rfl) (B) (by kernel_rfl) (Gx.own_ext ow1 x2) 0 1 1 (by kernel_rfl) b2 [.int .u8 ((c : Nat) : Int)] (by kernel_rfl) (by kernel_rfl) (by kernel_rfl) (by unfold maxLen; omega) (by omega) (by omega) (fun v2 w3 ow2 g1 nl1 => ?_))
  have zw3 := g1.size
  refine Z.p [8, 9] [10] [(16, Z.P b 1), (15, Z.P b 0)] ?_
  have y1 := (b1.ext x2).upd g1 (fun e => Gx.own_ne (Gx.own_ext ow1 x2) (b1.ext x2) (by decide) _ e.symm rfl)
  refine Gx.cons (Gx.op_storeO rfl (by kernel_rfl) rfl 1 (v2) (by kernel_rfl) (by kernel_rfl) y1 (by kernel_rfl) (Gx.own_cells' ow2) (by kernel_rfl) #[p1, v2] (by kernel_rfl) (fun w4 u1 b3 => ?_))
  have zw4 := u1.size
  refine Z.e (Z.s [(4, .nilIface)] ?_)
  refine wp_ret (Z.v (.nilIface) ?_)
  exact hK _ _ rfl (((((Gx.Wx.refl (e := 5) (wb := b) w hBw).trans x1).ext x2).app g1 (Gx.own_ext ow1 x2)).upd u1 hB) ⟨_, _, b3, (own_byte (Gx.own_upd1 ow2 u1 (Gx.own_ne ow2 y1 (by decide))) hc), hB, hp1⟩
theorem WriteString_c (B b : Nat) (s : ByteArray) (x : ByteArray) (w : World) (K : Ending → World → Prop) (h : Bd w B b s) (hBw : B ≤ w.heap.size) (hz : s.size + x.size ≤ 140737488355000) (hK : ∀ w' s', s' = s ++ x → Gx.Wx 5 B b w w' → Bd w' B b s' → K (.returned (.tuple #[Z.n x.size, .nilIface])) w') :
    Calls Tryd.prog 86 #[Z.P b 0, .string x] w K := by
  refine Z.en 19 Tryd.func86 ?_
  obtain ⟨p, v, hwb, hown, hB, hp⟩ := h
  have tbb := hwb.lt
  refine Z.s [(5, .nilIface), (4, .int .i64 0)] ?_
  refine Z.r [0, 1] ?_
  refine Z.p [0] [1] [(6, Z.P b 0)] ?_
  refine Z.k (fun R hR => copyCheck_c B b s _ R ⟨_, _, hwb, hown, hB, hp⟩ (by omega) (fun w1 x1 hbd1 => hR _ _ ?_))
  have zw1 := x1.size
  obtain ⟨p1, v1, b1, ow1, _, hp1⟩ := hbd1
  have tb1 := b1.lt
  refine Z.e (Z.r [0, 1, 2, 3, 4, 5, 6, 7, 8, 9] ?_)
  refine Z.p [0, 1, 2, 3] [4, 5, 6, 7, 8, 9] [(11, Z.P b 1), (10, Z.P b 0), (9, Z.P b 0), (8, Z.P b 0)] ?_
  refine Z.L 1 (v1) b1 ?_
  refine Z.p [5] [6, 7, 8, 9] [(13, .string x)] ?_
  refine Gx.cons (Gx.op_append_str rfl (by kernel_rfl) rfl 5 (by kernel_rfl) (by kernel_rfl) (by kernel_rfl) (B) (by kernel_rfl) ow1 x (by kernel_rfl) (by first | omega | (simp only [ByteArray.size_append]; omega)) (by omega) (fun v2 w2 ow2 g1 => ?_))
  have zw2 := g1.size
  refine Z.p [7, 8] [9] [(16, Z.P b 1), (15, Z.P b 0)] ?_
  have y1 := b1.upd g1 (fun e => Gx.own_ne ow1 b1 (by decide) _ e.symm rfl)
  refine Gx.cons (Gx.op_storeO rfl (by kernel_rfl) rfl 1 (v2) (by kernel_rfl) (by kernel_rfl) y1 (by kernel_rfl) (Gx.own_cells' ow2) (by kernel_rfl) #[p1, v2] (by kernel_rfl) (fun w3 u1 b2 => ?_))
  have zw3 := u1.size
  refine Z.e (Z.s [(5, .nilIface), (4, Z.n x.size), (18, Z.n x.size), (17, .string x)] ?_)
  refine wp_ret (Gx.ret (Gx.res2 (v := Z.n x.size) (u := .nilIface) rfl (by kernel_rfl) (by kernel_rfl)) ?_)
  exact hK _ _ rfl ((((Gx.Wx.refl (e := 5) (wb := b) w hBw).trans x1).app g1 ow1).upd u1 hB) ⟨_, _, b2, (own_str (Gx.own_upd1 ow2 u1 (Gx.own_ne ow2 y1 (by decide)))), hB, hp1⟩
theorem Len_c (B b : Nat) (s : ByteArray) (w : World) (K : Ending → World → Prop) (h : Bd w B b s) (hK : K (.returned (Z.n s.size)) w) :
    Calls Tryd.prog 84 #[Z.P b 0] w K := by
  refine Z.en 8 Tryd.func84 ?_
  obtain ⟨p, v, hwb, hown, hB, hp⟩ := h
  have tbb := hwb.lt
  refine Z.s [(2, .int .i64 0)] ?_
  refine Z.r [0, 1, 2, 3, 4, 5] ?_
  refine Z.p [0, 1, 2] [3, 4, 5] [(5, Z.P b 1), (4, Z.P b 0), (3, Z.P b 0)] ?_
  refine Z.L 1 (v) hwb ?_
  refine Gx.cons (Gx.op_lenM 5 rfl (by kernel_rfl) rfl (by kernel_rfl) (by kernel_rfl) (Gx.ownsM_of hown) ?_)
  refine Z.p [5] [] [(2, Z.n s.size)] ?_
  refine Z.e (wp_ret (Z.v (Z.n s.size) ?_))
  exact hK
theorem string_c (B b : Nat) (s : ByteArray) (w : World) (K : Ending → World → Prop) (h : Bd w B b s) (hBw : B ≤ w.heap.size) (h0 : 0 < s.size) (hz : s.size ≤ 140737488355000) (hK : ∀ w', Gx.Wx 5 B b w w' → K (.returned (.string s)) w') :
    Calls Tryd.prog 17 #[Z.P b 0] w K := by
  refine Z.en 14 Tryd.func17 ?_
  obtain ⟨p, v, hwb, hown, hB, hp⟩ := h
  have tbb := hwb.lt
  obtain ⟨g, cap, cur, rfl, hbg, hg, hnc, _⟩ := Gx.own_open hown h0
  have hown2 := hown
  refine Z.s [(2, .string Z.E)] ?_
  refine wp_seq (Z.D (fun w' => Gx.Has w' b (.cells #[p, .slice (some ⟨g, 0, none⟩) s.size cap] 47)) (fun w1 x1 zw1 => ?_))
  refine Z.h (hwb.ext x1) (fun hS1 => ?_)
  refine Z.t 0 (Z.P b 0) hS1 ?_
  refine Z.t 1 (Z.P b 0) hS1 ?_
  refine Z.t 2 (Z.P b 1) hS1 ?_
  refine Z.tl 3 1 (.slice (some ⟨g, 0, none⟩) s.size cap) (fun _ hs => hs) hS1 ?_
  refine Gx.any_take 4 (Z.P g 0) rfl (by kernel_rfl) (by kernel_rfl) (by kernel_rfl) (fun _ _ _ h => h) (hwb.ext x1) (by kernel_rfl) (fun _ _ => Gx.run_usd (m := s.size) (c := cap) rfl (by kernel_rfl) (by omega)) ?_
  refine Z.h (hwb.ext x1) (fun hS2 => ?_)
  refine Z.t 5 (Z.P b 0) hS2 ?_
  refine Z.t 6 (Z.P b 0) hS2 ?_
  refine Z.t 7 (Z.P b 1) hS2 ?_
  refine Z.tl 8 1 (.slice (some ⟨g, 0, none⟩) s.size cap) (fun _ hs => hs) hS2 ?_
  refine Z.t 9 (Z.n s.size) hS2 ?_
  refine Gx.any_one 10 (by kernel_rfl) (Gx.op_ustr rfl (by kernel_rfl) rfl 5 (by kernel_rfl) (by kernel_rfl) (by kernel_rfl) s (by kernel_rfl) h0 (Gx.own_ext hown x1) (by omega) (fun w2 g1 => ⟨((hwb.ext x1).upd g1 (fun e => Gx.own_ne (Gx.own_ext hown x1) (hwb.ext x1) (by decide) _ e.symm rfl)), ?_⟩))
  have zw2 := g1.size
  refine Z.h ((hwb.ext x1).upd g1 (fun e => Gx.own_ne (Gx.own_ext hown x1) (hwb.ext x1) (by decide) _ e.symm rfl)) (fun hS3 => ?_)
  refine Z.t 11 (.string s) hS3 ?_
  refine Z.q ?_
  refine Z.x (wp_ret (Z.v (.string s) ?_))
  exact hK _ (((Gx.Wx.refl (e := 5) (wb := b) w hBw).ext x1).app g1 (Gx.own_ext hown x1))
theorem loadB_psV (ps : List ByteArray) (i : Nat) (h : i < ps.length) : Gx.loadB Tryd.prog 9 (psV ps) (0 + i * 1) = some (.string (ps.getD i Z.E)) := by
  have hu : Tryd.prog.underlying 9 = some .string := Tryd.underlying9
  simp only [Gx.loadB, hu, Nat.zero_add, Nat.mul_one]
  exact psV_at ps i h
theorem put_c (B b : Nat) (s : ByteArray) (ps : List ByteArray) (kb cap : Nat) (w : World) (K : Ending → World → Prop) (h : Bd w B b s) (hBw : B ≤ w.heap.size) (hkb : Gx.Has w kb (.cells (psV ps) 9)) (hne : kb ≠ b) (hps : ps.length ≤ 1000) (hz : (putJ s ps).size ≤ 140737488350000) (hK : ∀ w' s', s' = putJ s ps → Gx.Wx 5 B b w w' → Bd w' B b s' → K (.returned (.tuple #[])) w') :
    Calls Tryd.prog 61 #[Z.P b 0, .slice (some ⟨kb, 0, none⟩) ps.length cap] w K := by
  refine Z.en 27 Tryd.func61 ?_
  have tbb : b < w.heap.size := by obtain ⟨_, _, hq, _⟩ := h; exact hq.lt
  have hB : B ≤ b := by obtain ⟨_, _, _, _, hq, _⟩ := h; exact hq
  have tkb := hkb.lt
  refine Z.s [(8, .int .i64 0), (7, Z.n ps.length), (6, .slice (some ⟨kb, 0, none⟩) ps.length cap)] ?_
  refine wp_block (Gx.loop (n' := 27) (d' := []) (fun mz l' w' => ∃ (i : Nat) (si : ByteArray), l' = [(0, Z.P b 0), (6, .slice (some ⟨kb, 0, none⟩) ps.length cap), (7, Z.n ps.length), (8, Z.n i)] ∧ mz = ps.length - i ∧ Gx.Wx 5 B b w w' ∧ Gx.Has w' kb (.cells (psV ps) 9) ∧ (i ≤ ps.length) ∧ (si = putJ s (ps.take i)) ∧ (Bd w' B b si)) _ _ [(0, Z.P b 0), (6, .slice (some ⟨kb, 0, none⟩) ps.length cap), (7, Z.n ps.length), (8, Z.n 0)] (Gx.forget [(0, Z.P b 0), (6, .slice (some ⟨kb, 0, none⟩) ps.length cap), (7, Z.n ps.length), (8, Z.n 0)] (by kernel_rfl)) ⟨0, s, rfl, rfl, (Gx.Wx.refl (e := 5) (wb := b) w hBw), hkb, (Nat.zero_le _), rfl, h⟩ (fun bb1 m1 ll1 w1 hI1 K1 hK1 => ?_))
  obtain ⟨i, si, rfl, rfl, x1, b1, hi, hs0, hbd⟩ := hI1
  have zw1 := x1.size
  have tb1 := b1.lt
  have g1 := putJ_le s ps i; rw [← hs0] at g1
  refine Z.s [(9, .bool (decide (((i : Nat) : Int) < ((ps.length : Nat) : Int))))] ?_
  refine wp_seq (Z.c (decide (((i : Nat) : Int) < ((ps.length : Nat) : Int))) (fun h_c9 => ?_) (fun h_c9 => ?_))
  · skip
    have p_c9 := of_decide_eq_true h_c9
    refine wp_skip (Z.x (wp_seq (wp_block ?_)))
    have g2 := putJ_le s ps (i + 1); rw [putJ_succ s ps i (by omega), ← hs0] at g2; have g3 := J_ge si (ps.getD i Z.E)
    refine Z.r [0, 1, 2] ?_
    refine Gx.cons (Gx.op_indexAddr (bk := kb) rfl (by kernel_rfl) rfl 9 1 (by kernel_rfl) (by kernel_rfl) 0 ps.length cap (by kernel_rfl) .i64 i (by kernel_rfl) (by omega) ?_)
    refine Gx.cons (Gx.op_load rfl (by kernel_rfl) rfl (0 + i * 1) (.string (ps.getD i Z.E)) (by kernel_rfl) b1 (loadB_psV ps i (by omega)) ?_)
    refine Z.p [2] [] [(5, .string (ps.getD i Z.E))] ?_
    refine Z.e (wp_seq (Z.r [0, 1, 2, 3, 4] ?_))
    refine Z.p [0, 1, 2] [3, 4] [(14, Z.P b 0), (13, Z.P b 0), (12, Z.P b 0)] ?_
    refine Z.k (fun R hR => Len_c B b si _ R hbd (hR _ _ ?_))
    refine Z.p [4] [] [(16, .bool (decide (((si.size : Nat) : Int) > (0 : Int))))] ?_
    refine Z.e (Z.c (decide (((si.size : Nat) : Int) > (0 : Int))) (fun h_c16 => ?_) (fun h_c16 => ?_))
    · skip
      have p_c16 := of_decide_eq_true h_c16
      refine Z.g [0, 1, 2, 3] ?_
      refine Z.p [0, 1, 2] [3] [(19, Z.P b 0), (18, Z.P b 0), (17, Z.P b 0)] ?_
      refine Z.k (fun R hR => WriteByte_c B b si 32 _ R hbd (by omega) (by omega) (by omega) (fun w2 s1 hs1 x2 hbd1 => hR _ _ ?_))
      have zw2 := x2.size
      have zhs1 := congrArg ByteArray.size hs1; (try simp only [zap, zli, List.length] at zhs1)
      refine Gx.ops_nil (Z.x (Z.g [0, 1, 2, 3, 4] ?_))
      refine Z.p [0, 1, 2, 3] [4] [(24, .string (ps.getD i Z.E)), (23, Z.P b 0), (22, Z.P b 0), (21, Z.P b 0)] ?_
      refine Z.k (fun R hR => WriteString_c B b s1 (ps.getD i Z.E) _ R hbd1 (by omega) (by omega) (fun w3 s2 hs2 x3 hbd2 => hR _ _ ?_))
      have zw3 := x3.size
      have zhs2 := congrArg ByteArray.size hs2; (try simp only [zap, zli, List.length] at zhs2)
      refine Gx.ops_nil (Gx.block_normal (Z.x (Z.g [0, 1] ?_)))
      refine Gx.pure_eq [0] [1] [(26, .int .i64 (IntKind.i64.wrap (((i : Nat) : Int) + (1 : Int))))] [(26, .int .i64 ((i + 1 : Nat) : Int))] rfl (by kernel_rfl) (Gx.eqI (Gx.i64n (by omega) (by omega))) ?_
      refine Z.p [1] [] [(8, .int .i64 ((i + 1 : Nat) : Int))] ?_
      refine Gx.ops_nil (Z.x ?_)
      rw [Gx.forget [(0, Z.P b 0), (6, .slice (some ⟨kb, 0, none⟩) ps.length cap), (7, Z.n ps.length), (8, .int .i64 (((i + 1) : Nat) : Int))] (by kernel_rfl)]
      exact hK1 _ _ _ _ (by omega) ⟨(i + 1), s2, rfl, rfl, ((((Gx.Wx.refl (e := 5) (wb := b) w hBw).trans x1).trans x2).trans x3), (x3.has (x2.has b1) (by omega) (by decide)), (by omega), (by rw [putJ_succ s ps i (by omega), ← hs0, J, if_pos (by have q := of_decide_eq_true h_c16; omega), hs2, hs1]; try rfl), hbd2⟩
    have p_c16 := of_decide_eq_false h_c16
    refine wp_skip (Z.x (Z.g [0, 1, 2, 3, 4] ?_))
    refine Z.p [0, 1, 2, 3] [4] [(24, .string (ps.getD i Z.E)), (23, Z.P b 0), (22, Z.P b 0), (21, Z.P b 0)] ?_
    refine Z.k (fun R hR => WriteString_c B b si (ps.getD i Z.E) _ R hbd (by omega) (by omega) (fun w4 s3 hs3 x4 hbd3 => hR _ _ ?_))
    have zw4 := x4.size
    have zhs3 := congrArg ByteArray.size hs3; (try simp only [zap, zli, List.length] at zhs3)
    refine Gx.ops_nil (Gx.block_normal (Z.x (Z.g [0, 1] ?_)))
    refine Gx.pure_eq [0] [1] [(26, .int .i64 (IntKind.i64.wrap (((i : Nat) : Int) + (1 : Int))))] [(26, .int .i64 ((i + 1 : Nat) : Int))] rfl (by kernel_rfl) (Gx.eqI (Gx.i64n (by omega) (by omega))) ?_
    refine Z.p [1] [] [(8, .int .i64 ((i + 1 : Nat) : Int))] ?_
    refine Gx.ops_nil (Z.x ?_)
    rw [Gx.forget [(0, Z.P b 0), (6, .slice (some ⟨kb, 0, none⟩) ps.length cap), (7, Z.n ps.length), (8, .int .i64 (((i + 1) : Nat) : Int))] (by kernel_rfl)]
    exact hK1 _ _ _ _ (by omega) ⟨(i + 1), s3, rfl, rfl, (((Gx.Wx.refl (e := 5) (wb := b) w hBw).trans x1).trans x4), (x4.has b1), (by omega), (by rw [putJ_succ s ps i (by omega), ← hs0, J, if_neg (by have q := of_decide_eq_false h_c16; omega), hs3]; try rfl), hbd3⟩
  have p_c9 := of_decide_eq_false h_c9
  refine wp_exit (Gx.then_exit (Gx.then_exit (Gx.block_exit (Gx.ret_n (Gx.res0 rfl) ?_))))
  obtain rfl : i = ps.length := by omega
  rw [List.take_length] at hs0
  exact hK _ _ hs0 ((Gx.Wx.refl (e := 5) (wb := b) w hBw).trans x1) hbd
end Go.Proofs.YtinilkomfggjiaaDoor
