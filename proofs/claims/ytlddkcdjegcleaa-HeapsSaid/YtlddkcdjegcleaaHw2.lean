/- A part of the proof (YtlddkcdjegcleaaHw2), printed by a program of ours. -/
import Derived.Test.YtlddkcdjegcleaaProg
import Derived.Test.YtlddkcdjegcleaaHq
import Derived.Test.YtlddkcdjegcleaaHw1
set_option linter.unusedVariables false
set_option linter.unusedSimpArgs false
namespace Go.Proofs.Ytlddkcdjegcleaa
open Go.RowKit Go.Sx Go.Hp
attribute [local irreducible] Go.wpOps Go.Code.wp Go.wpOp Go.wpAnyH Go.Calls Go.Sx.Goal Go.Code.wpIn
set_option maxRecDepth 20000
theorem meet_c (p : Bool) (v : Int) (hxb tb hb g N u gm nw : Nat) (W : Nat → Int) (B : Nat → Bool) (A : Option Addr) (c : Nat) (td : List Nat) (w : World) (K : Ending → World → Prop) (H0 : Sp w [.blk hxb (.cells #[.pointer (some ⟨hb, 0, none⟩)] 23), .blk hb (.cells #[.slice (some ⟨g, 0, none⟩) N N, .int .i64 ((u : Nat) : Int), .slice (some ⟨gm, 0, none⟩) nw nw] 56), .own 72 1 (some ⟨gm, 0, none⟩) nw nw (wds .u64 nw W), .blk tb (.cells #[.slice A td.length c] 71), .own 3 1 A c td.length (nts td)]) (hW : Words W B) (hv : p = true → ∃ a : Nat, v = (a : Int) ∧ a < 64 * nw) (hl : td.length < 1000000000000) (hz : 64 * nw < 1000000000000) (hK : ∀ (W' : Nat → Int) (A' : Option Addr) (c' n' : Nat) w', Hs w [.blk hxb (.cells #[.pointer (some ⟨hb, 0, none⟩)] 23), .blk hb (.cells #[.slice (some ⟨g, 0, none⟩) N N, .int .i64 ((u : Nat) : Int), .slice (some ⟨gm, 0, none⟩) nw nw] 56), .own 72 1 (some ⟨gm, 0, none⟩) nw nw (wds .u64 nw W), .blk tb (.cells #[.slice A td.length c] 71), .own 3 1 A c td.length (nts td)] w' [.blk hxb (.cells #[.pointer (some ⟨hb, 0, none⟩)] 23), .blk hb (.cells #[.slice (some ⟨g, 0, none⟩) N N, .int .i64 ((u : Nat) : Int), .slice (some ⟨gm, 0, none⟩) nw nw] 56), .own 72 1 (some ⟨gm, 0, none⟩) nw nw (wds .u64 nw W'), .blk tb (.cells #[.slice A' n' c'] 71), .own 3 1 A' c' n' (nts (meetT B td ⟨p, v⟩))] → (Words W' (meetB B ⟨p, v⟩)) → (n' = (meetT B td ⟨p, v⟩).length) → K (.returned (.tuple #[])) w') :
    Calls Try.prog 29 #[.agg #[.bool p, .int .i64 v], .pointer (some ⟨hxb, 0, none⟩), .pointer (some ⟨tb, 0, none⟩)] w K := by
  obtain ⟨L0, hL0, H⟩ : ∃ L0, L0 = [.blk hxb (.cells #[.pointer (some ⟨hb, 0, none⟩)] 23), .blk hb (.cells #[.slice (some ⟨g, 0, none⟩) N N, .int .i64 ((u : Nat) : Int), .slice (some ⟨gm, 0, none⟩) nw nw] 56), .own 72 1 (some ⟨gm, 0, none⟩) nw nw (wds .u64 nw W), .blk tb (.cells #[.slice A td.length c] 71), .own 3 1 A c td.length (nts td)] ∧ Hs w L0 w [.blk hxb (.cells #[.pointer (some ⟨hb, 0, none⟩)] 23), .blk hb (.cells #[.slice (some ⟨g, 0, none⟩) N N, .int .i64 ((u : Nat) : Int), .slice (some ⟨gm, 0, none⟩) nw nw] 56), .own 72 1 (some ⟨gm, 0, none⟩) nw nw (wds .u64 nw W), .blk tb (.cells #[.slice A td.length c] 71), .own 3 1 A c td.length (nts td)] := ⟨_, rfl, Hs.refl H0⟩
  refine Sx.en (vs := [.agg #[.bool p, .int .i64 v], .pointer (some ⟨hxb, 0, none⟩), .pointer (some ⟨tb, 0, none⟩)]) 33 Try.func29 ?_
  cases p
  · skip
    refine Sx.nw 2 H fun k1 w1 H1 => ?_
    refine Sx.l 5 5 H1 ?_
    have e := meet_no B td (p := false) (v := v) (.inl rfl)
    refine Sx.rt 11 [] H1 _ (hK W A c td.length _ ?_ (by rw [e.1]; exact hW) ?_)
    · rw [e.2]; exact pe H1 hL0 [0, 0, 0, 0, 0]
    · rw [e.2]; try simp
  obtain ⟨a, rfl, ha⟩ := hv rfl
  refine Sx.nw 2 H fun k2 w2 H2 => ?_
  refine Sx.l 5 5 H2 ?_
  refine Sx.l 1 0 H2 ?_
  refine Sx.l 1 5 H2 ?_
  refine Sx.c 0 [1, 1] H2 (fun Hp R hR => marked_c hb g N u gm nw W a (B a) w2 R Hp ha (markB_eq hW a) (by omega) (hR _ _ _ (.refl Hp) fun _ => ?_))
  refine Sx.br 4 (!(B a)) (fun h_c12 => ?_) (fun h_c12 => ?_)
  · skip
    refine Sx.dr 1 H2 [0, 1, 5, 2] [15] (LJ := [.blk hxb (.cells #[.pointer (some ⟨hb, 0, none⟩)] 23), .blk hb (.cells #[.slice (some ⟨g, 0, none⟩) N N, .int .i64 ((u : Nat) : Int), .slice (some ⟨gm, 0, none⟩) nw nw] 56), .blk k2 (.cells #[.bool true, .int .i64 ((a : Nat) : Int)] 43), .own 72 1 (some ⟨gm, 0, none⟩) nw nw (wds .u64 nw W)]) (by kernel_rfl) fun w3 H3 => ?_
    have p_c12 := h_c12; try simp [-List.getD_eq_getElem?_getD] at p_c12
    refine Sx.tk [(0, some (0, [1, 2, 3, 7, 8, 13, 14, 15])), (1, none), (2, none), (3, some (1, [7, 8, 13, 14, 15])), (4, none), (5, some (2, [6, 7, 8, 13, 14, 15]))] (fun _ => (H3.sub [0, 0, 3, 0] (by kernel_rfl))) ?_
    refine Sx.tva 6 [7, 8, 13, 14, 15] (.int .i64 (IntKind.i64.wrap (Int.tdiv ((a : Nat) : Int) (64 : Int)))) (.int .i64 ((a / 64 : Nat) : Int)) (congrArg (Value.int .i64) (by rw [IntWalk.i64_quo _ _ (by omega)]; omega)) (fun _ => (H3.sub [0, 0, 3, 0] (by kernel_rfl))) ?_
    refine Sx.tvg 7 [8, 13, 14, 15] gm (a / 64) 1 nw nw (by omega) (fun _ => (H3.sub [0, 0, 3, 0] (by kernel_rfl))) ?_
    refine Sx.tvl 8 [13, 14, 15] 3 72 1 72 gm nw nw ((a / 64) * 1) (wds .u64 nw W) (.int .u64 (W (a / 64))) (ld_w (W := W) (by omega)) (fun _ => (H3.sub [0, 0, 3, 0] (by kernel_rfl))) ?_
    refine Sx.tk [(9, none), (10, some (2, [11, 12, 13, 14, 15]))] (fun _ => (H3.sub [0, 0, 3, 0] (by kernel_rfl))) ?_
    refine Sx.tva 11 [12, 13, 14, 15] (.int .i64 (Int.tmod ((a : Nat) : Int) (64 : Int))) (.int .i64 ((a % 64 : Nat) : Int)) (congrArg (Value.int .i64) (by rw [IntWalk.rem_in _ _ (by omega)]; omega)) (fun _ => (H3.sub [0, 0, 3, 0] (by kernel_rfl))) ?_
    refine Sx.tva 12 [13, 14, 15] (.int .u64 (shlI .u64 (1 : Int) (a % 64))) (.int .u64 (shlI .u64 (1 : Int) (a % 64))) (rfl) (fun _ => (H3.sub [0, 0, 3, 0] (by kernel_rfl))) ?_
    refine Sx.tva 13 [14, 15] (.int .u64 (orI .u64 (W (a / 64)) (shlI .u64 (1 : Int) (a % 64)))) (.int .u64 (orI .u64 (W (a / 64)) (shlI .u64 (1 : Int) (a % 64)))) (rfl) (fun _ => (H3.sub [0, 0, 3, 0] (by kernel_rfl))) ?_
    refine Sx.tvg 14 [15] gm (a / 64) 1 nw nw (by omega) (fun _ => (H3.sub [0, 0, 3, 0] (by kernel_rfl))) ?_
    refine Sx.nmx ?_
    intro zx1
    refine Sx.on 15 ?_
    refine Sx.sr 0 2 72 1 72 gm nw nw ((a / 64) * 1) (wds .u64 nw W) H3 (.int .u64 (orI .u64 (W (a / 64)) (shlI .u64 (1 : Int) (a % 64)))) (by rw [wds_len]; omega) ((congrArg (fun k => (wds .u64 nw W).set k _) (Nat.mul_one _)).trans (wds_set .u64 W _)) fun w4 H4 => ?_
    refine Sx.bk (x := zx1) 15 (fun h => Sx.nope h (by kernel_rfl)) ?_
    refine Sx.dn ?_
    refine Sx.l 2 3 H4 ?_
    refine Sx.l 1 5 H4 ?_
    refine Sx.nw 0 H4 fun k3 w5 H5 => ?_
    refine Sx.ap 0 4 6 8 1 0 3 1 71 1 k3 A c td.length (nts td) [.int .i64 ((a : Nat) : Int)] H5 (by omega) (by omega) (nts_app _ _) fun A1 cap1 w6 H6 => ?_
    refine Sx.s 0 3 H6 fun w7 H7 => ?_
    have e := meet_yes B td (a := a) (by simpa using h_c12)
    refine Sx.rt 1 [] H7 _ (hK (orW W a) A1 cap1 (td.length + 1) _ ?_ (by rw [e.1]; exact words_set hW a) ?_)
    · rw [e.2]; exact pe H7 hL0 [0, 0, 0, 0, 0]
    · rw [e.2]; try simp
  have p_c12 := h_c12; try simp [-List.getD_eq_getElem?_getD] at p_c12
  have e := meet_no B td (p := true) (v := ((a : Nat) : Int)) (.inr (by simpa using h_c12))
  refine Sx.rt 1 [] H2 _ (hK W A c td.length _ ?_ (by rw [e.1]; exact hW) ?_)
  · rw [e.2]; exact pe H2 hL0 [0, 0, 0, 0, 0]
  · rw [e.2]; try simp
theorem ranged_c (A : Option Addr) (n c : Nat) (w : World) (K : Ending → World → Prop) (H0 : Sp w []) (hK : ∀ (xb : Nat) w', Hs w [] w' [.blk xb (.cells #[.slice A n c] 31)] → K (.returned (.func (.func 17) #[] #[.pointer (some ⟨xb, 0, none⟩)])) w') :
    Calls Try.prog 7 #[.slice A n c] w K := by
  obtain ⟨L0, hL0, H⟩ : ∃ L0, L0 = [] ∧ Hs w L0 w [] := ⟨_, rfl, Hs.refl H0⟩
  refine Sx.en (vs := [.slice A n c]) 4 Try.func7 ?_
  refine Sx.nw 2 H fun k1 w1 H1 => ?_
  exact Sx.rt 10 [] H1 _ (hK k1 _ (pe H1 hL0 [0]))
theorem rng_c (l xb gr n : Nat) (acc : (Nat → Prop) → Nat → Sx.Item) (S : Nat → Prop) (w : World) (K : Ending → World → Prop) (H0 : Sp w [acc S 0, .blk xb (.cells #[.slice (some ⟨gr, 0, none⟩) n n] 31)]) (hn : n < 1000000000) (hy : Sx.Yv Try.prog l acc n (fun k => [.pointer (some ⟨gr, k * 2, none⟩)])) (hK : ∀ (S' : Nat → Prop) w', Hs w [acc S 0, .blk xb (.cells #[.slice (some ⟨gr, 0, none⟩) n n] 31)] w' [acc S' n, .blk xb (.cells #[.slice (some ⟨gr, 0, none⟩) n n] 31)] → K (.returned (.tuple #[])) w') :
    Calls Try.prog 17 #[.func (.yield l) #[] #[], .pointer (some ⟨xb, 0, none⟩)] w K := by
  obtain ⟨L0, hL0, H⟩ : ∃ L0, L0 = [acc S 0, .blk xb (.cells #[.slice (some ⟨gr, 0, none⟩) n n] 31)] ∧ Hs w L0 w [acc S 0, .blk xb (.cells #[.slice (some ⟨gr, 0, none⟩) n n] 31)] := ⟨_, rfl, Hs.refl H0⟩
  refine Sx.en (vs := [.func (.yield l) #[] #[], .pointer (some ⟨xb, 0, none⟩)]) 16 Try.func17 ?_
  have H1 := H.pick (a := [acc S 0, .blk xb (.cells #[.slice (some ⟨gr, 0, none⟩) n n] 31)]) [0, 0] (by kernel_rfl)
  refine Sx.lp 6 (fun z l' w' => ∃ (i : Nat) (S1 : Nat → Prop), l' = [(0, .func (.yield l) #[] #[]), (1, .pointer (some ⟨xb, 0, none⟩)), (3, .int .i64 ((i : Nat) : Int))] ∧ z = n - i ∧ Hs w L0 w' [acc S1 i, .blk xb (.cells #[.slice (some ⟨gr, 0, none⟩) n n] 31)] ∧ (i ≤ n)) _ [(0, .func (.yield l) #[] #[]), (1, .pointer (some ⟨xb, 0, none⟩)), (3, .int .i64 ((0 : Nat) : Int))] ⟨0, S, rfl, rfl, H1, (Nat.zero_le _)⟩ (fun b1 z1 l1 w1 hI1 K1 hK1 => ?_)
  obtain ⟨i, S1, rfl, rfl, H2, hi⟩ := hI1
  refine Sx.l 4 1 H2 ?_
  refine Sx.br 4 (decide (((i : Nat) : Int) < ((n : Nat) : Int))) (fun h_c7 => ?_) (fun h_c7 => ?_)
  · skip
    refine Sx.l 7 1 H2 ?_
    have p_c7 := of_decide_eq_true h_c7
    refine Sx.ir 1 gr i 2 n n (by omega) ?_
    refine Sx.y 0 [0] H2 (l := l) (args := [.pointer (some (⟨gr, i * 2, none⟩))]) (fun Hp R hR => hy i S1 w1 R (by omega) Hp (fun S1 w2 G1 => hR _ _ _ G1 fun H3 => ?_))
    refine Sx.v 9 (.int .i64 (IntKind.i64.wrap (((i : Nat) : Int) + (1 : Int)))) (.int .i64 ((i + 1 : Nat) : Int)) (congrArg (Value.int .i64) (Gx.i64n (by omega) (by omega))) ?_
    have H4 := H3.pick (a := [acc S1 (i + 1), .blk xb (.cells #[.slice (some ⟨gr, 0, none⟩) n n] 31)]) [0, 0] (by kernel_rfl)
    exact Sx.to 2 [(0, .func (.yield l) #[] #[]), (1, .pointer (some ⟨xb, 0, none⟩)), (3, .int .i64 ((i + 1 : Nat) : Int))] (hK1 _ _ _ _ (by omega) ⟨i + 1, S1, rfl, rfl, H4, (by omega)⟩)
  have p_c7 := of_decide_eq_false h_c7
  obtain rfl : i = n := by omega
  exact Sx.rt 4 [] H2 _ (hK S1 _ (pe H2 hL0 [0, 0]))
theorem mod_c (n : Int) (m : Nat) (w : World) (K : Ending → World → Prop) (H0 : Sp w []) (hm : 0 < m) (hm2 : m < 1000000000000) (hK : K (.returned (.int .i64 (n % (m : Int)))) w) :
    Calls Try.prog 5 #[.int .i64 n, .int .i64 ((m : Nat) : Int)] w K := by
  obtain ⟨L0, hL0, H⟩ : ∃ L0, L0 = [] ∧ Hs w L0 w [] := ⟨_, rfl, Hs.refl H0⟩
  refine Sx.en (vs := [.int .i64 n, .int .i64 ((m : Nat) : Int)]) 14 Try.func5 ?_
  obtain ⟨k, rfl⟩ : ∃ k, m = k + 1 := ⟨m - 1, by omega⟩
  refine Sx.v 9 (.int .i64 (Int.tmod n ((k + 1 : Nat) : Int))) (.int .i64 (Int.tmod n ((k + 1 : Nat) : Int))) (congrArg (Value.int .i64) (rfl)) ?_
  refine Sx.br 10 (decide ((Int.tmod n ((k + 1 : Nat) : Int)) < (0 : Int))) (fun h_c9 => ?_) (fun h_c9 => ?_)
  · skip
    have p_c9 := of_decide_eq_true h_c9
    refine Sx.v 3 (.int .i64 (IntKind.i64.wrap ((Int.tmod n ((k + 1 : Nat) : Int)) + ((k + 1 : Nat) : Int)))) (.int .i64 (Int.tmod n ((k + 1 : Nat) : Int) + ((k + 1 : Nat) : Int))) (congrArg (Value.int .i64) (by have := tmod_lt n (k + 1) hm; exact IntWalk.i64_in _ (by omega))) ?_
    exact Sx.rt 10 [] H (.int .i64 (Int.tmod n ((k + 1 : Nat) : Int) + ((k + 1 : Nat) : Int))) (Gx.ret_as (v' := .int .i64 (n % ((k + 1 : Nat) : Int))) (by rw [mod_neg n (k + 1) hm (by simpa using h_c9)]) hK)
  have p_c9 := of_decide_eq_false h_c9
  exact Sx.rt 9 [] H (.int .i64 (Int.tmod n ((k + 1 : Nat) : Int))) (Gx.ret_as (v' := .int .i64 (n % ((k + 1 : Nat) : Int))) (by rw [mod_pos n (k + 1) hm (by simpa using h_c9)]) hK)
theorem places_c (gr n : Nat) (R : Nat → Cl) (w : World) (K : Ending → World → Prop) (H0 : Sp w [.own 43 2 (some ⟨gr, 0, none⟩) n n (cls n R)]) (hn : n < 1000000000) (hK : ∀ (A' : Option Addr) (c' : Nat) w', Hs w [.own 43 2 (some ⟨gr, 0, none⟩) n n (cls n R)] w' [.own 43 2 (some ⟨gr, 0, none⟩) n n (cls n R), .own 59 1 A' c' n (pls gr n)] → K (.returned (.slice A' n c')) w') :
    Calls Try.prog 9 #[.slice (some ⟨gr, 0, none⟩) n n] w K := by
  obtain ⟨L0, hL0, H⟩ : ∃ L0, L0 = [.own 43 2 (some ⟨gr, 0, none⟩) n n (cls n R)] ∧ Hs w L0 w [.own 43 2 (some ⟨gr, 0, none⟩) n n (cls n R)] := ⟨_, rfl, Hs.refl H0⟩
  refine Sx.en (vs := [.slice (some ⟨gr, 0, none⟩) n n]) 18 Try.func9 ?_
  have H1 := H.add (Gx.Ext.refl _) (it := .own 59 1 none 0 0 []) (World.ownsRow_nil _ _ _ _) (fun _ h => by cases h)
  have H3 := H1.pick (a := [.own 43 2 (some ⟨gr, 0, none⟩) n n (cls n R), .own 59 1 none 0 0 (pls gr 0)]) [0, 0] (by kernel_rfl)
  refine Sx.lp 17 (fun z l' w' => ∃ (i : Nat) (A1 : Option Addr) (c1 : Nat), l' = [(0, .slice (some ⟨gr, 0, none⟩) n n), (3, .slice A1 i c1), (4, .int .i64 ((i : Nat) : Int))] ∧ z = n - i ∧ Hs w L0 w' [.own 43 2 (some ⟨gr, 0, none⟩) n n (cls n R), .own 59 1 A1 c1 i (pls gr i)] ∧ (i ≤ n)) _ [(0, .slice (some ⟨gr, 0, none⟩) n n), (3, .slice none 0 0), (4, .int .i64 ((0 : Nat) : Int))] ⟨0, none, 0, rfl, rfl, H3, (Nat.zero_le _)⟩ (fun b1 z1 l1 w1 hI1 K1 hK1 => ?_)
  obtain ⟨i, A1, c1, rfl, rfl, H4, hi⟩ := hI1
  refine Sx.br 9 (decide (((i : Nat) : Int) < ((n : Nat) : Int))) (fun h_c8 => ?_) (fun h_c8 => ?_)
  · skip
    have p_c8 := of_decide_eq_true h_c8
    refine Sx.ir 8 gr i 2 n n (by omega) ?_
    refine Sx.nw 0 H4 fun k1 w2 H5 => ?_
    refine Sx.ap 0 1 2 8 1 0 59 1 40 1 k1 A1 c1 i (pls gr i) [.pointer (some (⟨gr, i * 2, none⟩))] H5 (by omega) (by omega) (pls_snoc _ _) fun A1 cap1 w3 H6 => ?_
    refine Sx.v 6 (.int .i64 (IntKind.i64.wrap (((i : Nat) : Int) + (1 : Int)))) (.int .i64 ((i + 1 : Nat) : Int)) (congrArg (Value.int .i64) (Gx.i64n (by omega) (by omega))) ?_
    have H7 := H6.pick (a := [.own 43 2 (some ⟨gr, 0, none⟩) n n (cls n R), .own 59 1 A1 cap1 (i + 1) (pls gr (i + 1))]) [0, 0] (by kernel_rfl)
    exact Sx.to 2 [(0, .slice (some ⟨gr, 0, none⟩) n n), (3, .slice A1 (i + 1) cap1), (4, .int .i64 ((i + 1 : Nat) : Int))] (hK1 _ _ _ _ (by omega) ⟨i + 1, A1, cap1, rfl, rfl, H7, (by omega)⟩)
  have p_c8 := of_decide_eq_false h_c8
  obtain rfl : i = n := by omega
  exact Sx.rt 12 [] H4 _ (hK A1 c1 _ (pe H4 hL0 [0, 0]))
end Go.Proofs.Ytlddkcdjegcleaa
