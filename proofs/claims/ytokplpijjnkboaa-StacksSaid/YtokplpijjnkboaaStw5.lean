/- A part of the proof (YtokplpijjnkboaaStw5), printed by a program of ours. -/
import Derived.Test.YtokplpijjnkboaaProg
import Derived.Test.YtokplpijjnkboaaStk
import Derived.Test.YtokplpijjnkboaaStc
import Derived.Test.YtokplpijjnkboaaStd
import Derived.Test.YtokplpijjnkboaaStl
import Derived.Test.YtokplpijjnkboaaStw1
import Derived.Test.YtokplpijjnkboaaStw2
import Derived.Test.YtokplpijjnkboaaStw3
import Derived.Test.YtokplpijjnkboaaStw4
set_option linter.unusedVariables false
set_option linter.unusedSimpArgs false
namespace Go.Proofs.Ytokplpijjnkboaa
open Go.RowKit Go.Sx Go.Stk
attribute [local irreducible] Go.wpOps Go.Code.wp Go.wpOp Go.wpAnyH Go.Calls Go.Sx.Goal
set_option maxRecDepth 20000
theorem dNew_c  (w : World) (K : Ending → World → Prop) (H0 : Sp w []) (hK : ∀ (b : Nat) (A : Option Addr) (S : Nat → Prop) w', Hs w [] w' [.blk b (.cells #[.slice A 1 1] 49), srI S A 1 [⟨⟨false, 0, []⟩, none, 0⟩]] → K (.returned (.pointer (some ⟨b, 0, none⟩))) w') :
    Calls Try.prog 5 #[] w K := by
  obtain ⟨L0, hL0, H⟩ : ∃ L0, L0 = [] ∧ Hs w L0 w [] := ⟨_, rfl, Hs.refl H0⟩
  refine Sx.en (vs := []) 5 Try.func5 ?_
  refine Sx.nw 8 H fun k1 w1 H1 => ?_
  refine Sx.nw 1 H1 fun k2 w2 H2 => ?_
  have H3 := Hs.toOwn (k := k1) (e := 69) (cs := #[.bool false, .int .i64 0, .slice none 0 0]) H2 0 3 1 (by kernel_rfl) (by rfl) (by omega)
  have H4 := H3.add (Gx.Ext.refl _) (it := .own 3 1 none 0 0 []) (World.ownsRow_nil _ _ _ _) (fun _ h => by cases h)
  have H5 := rw_nil H4
  refine sr_join H5 [0, 1, 1] (fpA []) (some ⟨k1, 0, none⟩) 1 1 [] false 0 [] none 0 0 rfl rfl (by kernel_rfl) (fun S1 H6 => ?_)
  exact Sx.rt 4 [] H6 _ (hK k2 (some ⟨k1, 0, none⟩) S1 _ (H6.pe hL0 [1, 0]))
theorem last_c (b k cap g : Nat) (xs : List Value) (w : World) (K : Ending → World → Prop) (H0 : Sp w [.blk b (.cells #[.slice (some ⟨g, 0, none⟩) (k + 1) cap] 49), .own 69 3 (some ⟨g, 0, none⟩) cap (k + 1) xs]) (hk : k < 100000000000) (hK : ∀ w', Hs w [.blk b (.cells #[.slice (some ⟨g, 0, none⟩) (k + 1) cap] 49), .own 69 3 (some ⟨g, 0, none⟩) cap (k + 1) xs] w' [.blk b (.cells #[.slice (some ⟨g, 0, none⟩) (k + 1) cap] 49), .own 69 3 (some ⟨g, 0, none⟩) cap (k + 1) xs] → K (.returned (.pointer (some ⟨g, k * 3, none⟩))) w') :
    Calls Try.prog 30 #[.pointer (some ⟨b, 0, none⟩)] w K := by
  obtain ⟨L0, hL0, H⟩ : ∃ L0, L0 = [.blk b (.cells #[.slice (some ⟨g, 0, none⟩) (k + 1) cap] 49), .own 69 3 (some ⟨g, 0, none⟩) cap (k + 1) xs] ∧ Hs w L0 w [.blk b (.cells #[.slice (some ⟨g, 0, none⟩) (k + 1) cap] 49), .own 69 3 (some ⟨g, 0, none⟩) cap (k + 1) xs] := ⟨_, rfl, Hs.refl H0⟩
  refine Sx.en (vs := [.pointer (some ⟨b, 0, none⟩)]) 14 Try.func30 ?_
  refine Sx.dr 6 H [0] [] (LJ := [.blk b (.cells #[.slice (some ⟨g, 0, none⟩) (k + 1) cap] 49)]) (by kernel_rfl) fun w1 H1 => ?_
  refine Sx.tk [(0, none), (1, none), (2, none), (3, some (0, [])), (4, none), (5, none), (6, none), (7, some (0, [])), (8, none)] (fun _ => (H1.sub [0] (by kernel_rfl))) ?_
  refine Sx.tva 9 [] (.int .i64 (IntKind.i64.wrap (((k + 1 : Nat) : Int) - (1 : Int)))) (.int .i64 ((k : Nat) : Int)) (congrArg (Value.int .i64) (Gx.i64n (by omega) (by omega))) (fun _ => (H1.sub [0] (by kernel_rfl))) ?_
  refine Sx.tvg 10 [] g k 3 (k + 1) cap (by omega) (fun _ => (H1.sub [0] (by kernel_rfl))) ?_
  refine Sx.tk [(11, none)] (fun _ => (H1.sub [0] (by kernel_rfl))) ?_
  refine Sx.dn ?_
  exact Sx.rt 2 [] H1 _ (hK _ (H1.pe hL0 [0, 0]))
theorem dPush_c (b n cap : Nat) (A : Option Addr) (hm : List HS) (S : Nat → Prop) (f : Int) (w : World) (K : Ending → World → Prop) (H0 : Sp w [.blk b (.cells #[.slice A n cap] 49), srI S A cap hm]) (hn : n = hm.length) (hne : hm ≠ []) (hb : tot (segsOf hm) + hm.length < 100000000000) (hK : ∀ (n' cap' : Nat) (A' : Option Addr) (hm' : List HS) (S' : Nat → Prop) w', Hs w [.blk b (.cells #[.slice A n cap] 49), srI S A cap hm] w' [.blk b (.cells #[.slice A' n' cap'] 49), srI S' A' cap' hm'] → (n' = hm'.length) → (segsOf hm' = pushM (segsOf hm) f) → K (.returned (.tuple #[])) w') :
    Calls Try.prog 8 #[.pointer (some ⟨b, 0, none⟩), .int .i64 f] w K := by
  obtain ⟨L0, hL0, H⟩ : ∃ L0, L0 = [.blk b (.cells #[.slice A n cap] 49), srI S A cap hm] ∧ Hs w L0 w [.blk b (.cells #[.slice A n cap] 49), srI S A cap hm] := ⟨_, rfl, Hs.refl H0⟩
  refine Sx.en (vs := [.pointer (some ⟨b, 0, none⟩), .int .i64 f]) 17 Try.func8 ?_
  obtain ⟨h1, ⟨⟨hs, tg, fs⟩, B, c⟩, rfl⟩ := snoc_of hne
  obtain rfl : n = h1.length + 1 := by simpa using hn
  simp only [segsOf_app, tot_app, List.length_append, List.length_singleton] at hb
  have hb2 : tot (segsOf [HS.mk (Seg.mk hs tg fs) B c]) = fs.length := by simp [segsOf, tot]
  refine sr_last H 1 S A cap h1 hs tg fs B c fs.length (by simp) (by kernel_rfl) (fun g1 S1 hA H1 => ?_)
  subst hA
  refine Sx.c 3 [3, 0] H1 (fun Hp R hR => last_c b h1.length cap g1 (recs h1 ++ rec3 hs tg B fs.length c) w R Hp (by omega) (fun w1 G1 => hR _ _ _ G1 fun H2 => ?_))
  refine Sx.lr 8 1 69 3 39 g1 cap (h1.length + 1) (h1.length * 3 + 2) (recs h1 ++ rec3 hs tg B fs.length c) H2 (.slice B fs.length c) (last_ld (off := 2) (r := rec3 hs tg B fs.length c) rfl) ?_
  refine Sx.nw 1 H2 fun k1 w2 H3 => ?_
  refine Sx.ap 0 2 4 8 1 0 3 1 39 1 k1 B c fs.length (ints fs) [.int .i64 f] H3 (by omega) (by omega) (ints_app _ _) fun A1 cap1 w3 H4 => ?_
  refine Sx.sr 2 1 69 3 39 g1 cap (h1.length + 1) (h1.length * 3 + 2) (recs h1 ++ rec3 hs tg B fs.length c) H4 (.slice A1 (fs.length + 1) cap1) (last_lt _ _ 2 (by simp)) (last_set _ _ 2 _) fun w4 H5 => ?_
  refine sr_join H5 [1, 1, 1] S1 (some ⟨g1, 0, none⟩) cap (h1.length + 1) h1 hs tg (fs ++ [f]) A1 cap1 (fs.length + 1) rfl (by simp) (by kernel_rfl) (fun S2 H6 => ?_)
  exact Sx.rt 1 [] H6 _ (hK (h1.length + 1) cap (some ⟨g1, 0, none⟩) (h1 ++ [HS.mk (Seg.mk hs tg (fs ++ [f])) A1 cap1]) S2 _ (H6.pe hL0 [1, 0]) (by simp) (by simp [segsOf, pushM, setM, lastG]))
theorem dTop_c (b n cap : Nat) (A : Option Addr) (hm : List HS) (S : Nat → Prop) (w : World) (K : Ending → World → Prop) (H0 : Sp w [.blk b (.cells #[.slice A n cap] 49), srI S A cap hm]) (hn : n = hm.length) (hne : hm ≠ []) (hb : tot (segsOf hm) + hm.length < 100000000000) (hK : ∀ (n' cap' : Nat) (A' : Option Addr) (hm' : List HS) (S' : Nat → Prop) w', Hs w [.blk b (.cells #[.slice A n cap] 49), srI S A cap hm] w' [.blk b (.cells #[.slice A' n' cap'] 49), srI S' A' cap' hm'] → (n' = hm'.length) → (segsOf hm' = segsOf hm) → K (.returned (.tuple #[.int .i64 (topM (segsOf hm)).1, .bool (topM (segsOf hm)).2])) w') :
    Calls Try.prog 12 #[.pointer (some ⟨b, 0, none⟩)] w K := by
  obtain ⟨L0, hL0, H⟩ : ∃ L0, L0 = [.blk b (.cells #[.slice A n cap] 49), srI S A cap hm] ∧ Hs w L0 w [.blk b (.cells #[.slice A n cap] 49), srI S A cap hm] := ⟨_, rfl, Hs.refl H0⟩
  refine Sx.en (vs := [.pointer (some ⟨b, 0, none⟩)]) 25 Try.func12 ?_
  obtain ⟨h1, ⟨⟨hs, tg, fs⟩, B, c⟩, rfl⟩ := snoc_of hne
  obtain rfl : n = h1.length + 1 := by simpa using hn
  simp only [segsOf_app, tot_app, List.length_append, List.length_singleton] at hb
  have hb2 : tot (segsOf [HS.mk (Seg.mk hs tg fs) B c]) = fs.length := by simp [segsOf, tot]
  rcases snoc_or fs with rfl | ⟨l1, f, rfl⟩
  · skip
    simp only [List.length_append, List.length_singleton, List.length_nil] at hb2
    refine sr_last H 1 S A cap h1 hs tg ([]) B c 0 (by simp) (by kernel_rfl) (fun g1 S1 hA H1 => ?_)
    subst hA
    refine Sx.c 9 [3, 0] H1 (fun Hp R hR => last_c b h1.length cap g1 (recs h1 ++ rec3 hs tg B 0 c) w R Hp (by omega) (fun w1 G1 => hR _ _ _ G1 fun H2 => ?_))
    refine Sx.lr 9 1 69 3 39 g1 cap (h1.length + 1) (h1.length * 3 + 2) (recs h1 ++ rec3 hs tg B 0 c) H2 (.slice B 0 c) (last_ld (off := 2) (r := rec3 hs tg B 0 c) rfl) ?_
    refine sr_join H2 [1, 1, 1] S1 (some ⟨g1, 0, none⟩) cap (h1.length + 1) h1 hs tg ([]) B c 0 rfl (by simp) (by kernel_rfl) (fun S2 H3 => ?_)
    exact Sx.rt 13 [] H3 (.tuple #[.int .i64 0, .bool false]) (Gx.ret_as (v' := .tuple #[.int .i64 (topM (segsOf (h1 ++ [HS.mk (Seg.mk hs tg []) B c]))).1, .bool (topM (segsOf (h1 ++ [HS.mk (Seg.mk hs tg []) B c]))).2]) (by simp [segsOf, topM, lastG]) (hK (h1.length + 1) cap (some ⟨g1, 0, none⟩) (h1 ++ [HS.mk (Seg.mk hs tg ([])) B c]) S2 _ (H3.pe hL0 [1, 0]) (by simp) (by simp [segsOf, topM, lastG])))
  simp only [List.length_append, List.length_singleton, List.length_nil] at hb2
  refine sr_last H 1 S A cap h1 hs tg (l1 ++ [f]) B c (l1.length + 1) (by simp) (by kernel_rfl) (fun g2 S3 hA H4 => ?_)
  subst hA
  refine Sx.c 9 [3, 0] H4 (fun Hp R hR => last_c b h1.length cap g2 (recs h1 ++ rec3 hs tg B (l1.length + 1) c) w R Hp (by omega) (fun w2 G2 => hR _ _ _ G2 fun H5 => ?_))
  refine Sx.lr 9 1 69 3 39 g2 cap (h1.length + 1) (h1.length * 3 + 2) (recs h1 ++ rec3 hs tg B (l1.length + 1) c) H5 (.slice B (l1.length + 1) c) (last_ld (off := 2) (r := rec3 hs tg B (l1.length + 1) c) rfl) ?_
  obtain ⟨g3, hB⟩ := H5.row 2 (A := B) (e := 3) (sz := 1) (cap := c) (n := (l1.length + 1)) (xs := (ints (l1 ++ [f]))) (by kernel_rfl) (by omega)
  subst hB
  refine Sx.dr 8 H5 [1, 2] [] (LJ := [.own 69 3 (some ⟨g2, 0, none⟩) cap (h1.length + 1) (recs h1 ++ rec3 hs tg (some ⟨g3, 0, none⟩) (l1.length + 1) c), .own 3 1 (some ⟨g3, 0, none⟩) c (l1.length + 1) (ints (l1 ++ [f]))]) (by kernel_rfl) fun w3 H6 => ?_
  refine Sx.tk [(0, none), (1, none), (2, none)] (fun _ => (H6.sub [1, 1] (by kernel_rfl))) ?_
  refine Sx.tvl 3 [] 0 69 3 39 g2 cap (h1.length + 1) (h1.length * 3 + 2) (recs h1 ++ rec3 hs tg (some ⟨g3, 0, none⟩) (l1.length + 1) c) (.slice (some ⟨g3, 0, none⟩) (l1.length + 1) c) (last_ld (off := 2) (r := rec3 hs tg (some ⟨g3, 0, none⟩) (l1.length + 1) c) rfl) (fun _ => (H6.sub [1, 1] (by kernel_rfl))) ?_
  refine Sx.tk [(4, none), (5, none), (6, none)] (fun _ => (H6.sub [1, 1] (by kernel_rfl))) ?_
  refine Sx.tvl 7 [] 0 69 3 39 g2 cap (h1.length + 1) (h1.length * 3 + 2) (recs h1 ++ rec3 hs tg (some ⟨g3, 0, none⟩) (l1.length + 1) c) (.slice (some ⟨g3, 0, none⟩) (l1.length + 1) c) (last_ld (off := 2) (r := rec3 hs tg (some ⟨g3, 0, none⟩) (l1.length + 1) c) rfl) (fun _ => (H6.sub [1, 1] (by kernel_rfl))) ?_
  refine Sx.tk [(8, none)] (fun _ => (H6.sub [1, 1] (by kernel_rfl))) ?_
  refine Sx.tva 9 [] (.int .i64 (IntKind.i64.wrap (((l1.length + 1 : Nat) : Int) - (1 : Int)))) (.int .i64 ((l1.length : Nat) : Int)) (congrArg (Value.int .i64) (Gx.i64n (by omega) (by omega))) (fun _ => (H6.sub [1, 1] (by kernel_rfl))) ?_
  refine Sx.tvg 10 [] g3 l1.length 1 (l1.length + 1) c (by omega) (fun _ => (H6.sub [1, 1] (by kernel_rfl))) ?_
  refine Sx.tvl 11 [] 1 3 1 3 g3 c (l1.length + 1) (l1.length * 1) (ints (l1 ++ [f])) (.int .i64 f) ints_last (fun _ => (H6.sub [1, 1] (by kernel_rfl))) ?_
  refine Sx.tk [(12, none), (13, none)] (fun _ => (H6.sub [1, 1] (by kernel_rfl))) ?_
  refine Sx.dn ?_
  refine sr_join H6 [1, 1, 1] S3 (some ⟨g2, 0, none⟩) cap (h1.length + 1) h1 hs tg (l1 ++ [f]) (some ⟨g3, 0, none⟩) c (l1.length + 1) rfl (by simp) (by kernel_rfl) (fun S4 H7 => ?_)
  exact Sx.rt 2 [] H7 (.tuple #[.int .i64 f, .bool true]) (Gx.ret_as (v' := .tuple #[.int .i64 (topM (segsOf (h1 ++ [HS.mk (Seg.mk hs tg (l1 ++ [f])) (some ⟨g3, 0, none⟩) c]))).1, .bool (topM (segsOf (h1 ++ [HS.mk (Seg.mk hs tg (l1 ++ [f])) (some ⟨g3, 0, none⟩) c]))).2]) (by simp [segsOf, topM, lastG]) (hK (h1.length + 1) cap (some ⟨g2, 0, none⟩) (h1 ++ [HS.mk (Seg.mk hs tg (l1 ++ [f])) (some ⟨g3, 0, none⟩) c]) S4 _ (H7.pe hL0 [1, 0]) (by simp) (by simp [segsOf, topM, lastG])))
theorem dPop_c (b n cap : Nat) (A : Option Addr) (hm : List HS) (S : Nat → Prop) (w : World) (K : Ending → World → Prop) (H0 : Sp w [.blk b (.cells #[.slice A n cap] 49), srI S A cap hm]) (hn : n = hm.length) (hne : hm ≠ []) (hb : tot (segsOf hm) + hm.length < 100000000000) (hK : ∀ (n' cap' : Nat) (A' : Option Addr) (hm' : List HS) (S' : Nat → Prop) w', Hs w [.blk b (.cells #[.slice A n cap] 49), srI S A cap hm] w' [.blk b (.cells #[.slice A' n' cap'] 49), srI S' A' cap' hm'] → (n' = hm'.length) → (segsOf hm' = popM (segsOf hm)) → K (.returned (.tuple #[.int .i64 (topM (segsOf hm)).1, .bool (topM (segsOf hm)).2])) w') :
    Calls Try.prog 10 #[.pointer (some ⟨b, 0, none⟩)] w K := by
  obtain ⟨L0, hL0, H⟩ : ∃ L0, L0 = [.blk b (.cells #[.slice A n cap] 49), srI S A cap hm] ∧ Hs w L0 w [.blk b (.cells #[.slice A n cap] 49), srI S A cap hm] := ⟨_, rfl, Hs.refl H0⟩
  refine Sx.en (vs := [.pointer (some ⟨b, 0, none⟩)]) 31 Try.func10 ?_
  refine Sx.c 9 [0, 0] H (fun Hp R hR => dTop_c b n cap A hm S w R Hp hn hne hb (fun n1 cap1 A1 hm1 S1 w1 G1 hf1 hf2 => hR _ _ _ G1 fun H1 => ?_))
  refine Sx.br 13 ((topM (segsOf hm)).2) (fun h_c12 => ?_) (fun h_c12 => ?_)
  · skip
    have hne2 : hm1 ≠ [] := fun e => hne (by rw [e] at hf2; exact List.eq_nil_of_length_eq_zero (by have := congrArg List.length hf2; simpa [segsOf] using this.symm))
    rw [← hf2] at hK hb h_c12
    have hlen : hm.length = hm1.length := by have := congrArg List.length hf2; simpa [segsOf] using this.symm
    rw [hlen] at hb
    obtain ⟨h1, ⟨⟨hs, tg, fs⟩, B, c⟩, rfl⟩ := snoc_of hne2
    obtain rfl : n1 = h1.length + 1 := by simpa using hf1
    obtain ⟨l1, f, rfl⟩ : ∃ l1 f, fs = l1 ++ [f] := snoc_of (fun e => by subst e; simp [topM, lastG, segsOf] at h_c12)
    simp only [segsOf_app, tot_app, List.length_append, List.length_singleton] at hb
    have hb2 : tot (segsOf [HS.mk (Seg.mk hs tg (l1 ++ [f])) B c]) = l1.length + 1 := by simp [segsOf, tot]
    have p_c12 := h_c12; try simp [-List.getD_eq_getElem?_getD] at p_c12
    refine sr_last H1 1 S1 A1 cap1 h1 hs tg (l1 ++ [f]) B c (l1.length + 1) (by simp) (by kernel_rfl) (fun g1 S2 hA H2 => ?_)
    subst hA
    refine Sx.c 3 [3, 0] H2 (fun Hp R hR => last_c b h1.length cap1 g1 (recs h1 ++ rec3 hs tg B (l1.length + 1) c) w1 R Hp (by omega) (fun w2 G2 => hR _ _ _ G2 fun H3 => ?_))
    refine Sx.dr 3 H3 [1] [14] (LJ := [.own 69 3 (some ⟨g1, 0, none⟩) cap1 (h1.length + 1) (recs h1 ++ rec3 hs tg B (l1.length + 1) c)]) (by kernel_rfl) fun w3 H4 => ?_
    refine Sx.tk [(0, none), (1, none), (2, none), (3, none)] (fun _ => (H4.sub [1] (by kernel_rfl))) ?_
    refine Sx.tvl 4 [11, 12, 13, 14] 0 69 3 39 g1 cap1 (h1.length + 1) (h1.length * 3 + 2) (recs h1 ++ rec3 hs tg B (l1.length + 1) c) (.slice B (l1.length + 1) c) (last_ld (off := 2) (r := rec3 hs tg B (l1.length + 1) c) rfl) (fun _ => (H4.sub [1] (by kernel_rfl))) ?_
    refine Sx.tk [(5, none), (6, none), (7, none)] (fun _ => (H4.sub [1] (by kernel_rfl))) ?_
    refine Sx.tvl 8 [9, 10, 11, 12, 13, 14] 0 69 3 39 g1 cap1 (h1.length + 1) (h1.length * 3 + 2) (recs h1 ++ rec3 hs tg B (l1.length + 1) c) (.slice B (l1.length + 1) c) (last_ld (off := 2) (r := rec3 hs tg B (l1.length + 1) c) rfl) (fun _ => (H4.sub [1] (by kernel_rfl))) ?_
    refine Sx.tk [(9, none)] (fun _ => (H4.sub [1] (by kernel_rfl))) ?_
    refine Sx.tva 10 [11, 12, 13, 14] (.int .i64 (IntKind.i64.wrap (((l1.length + 1 : Nat) : Int) - (1 : Int)))) (.int .i64 ((l1.length : Nat) : Int)) (congrArg (Value.int .i64) (Gx.i64n (by omega) (by omega))) (fun _ => (H4.sub [1] (by kernel_rfl))) ?_
    refine Sx.nmx ?_
    intro zx1
    refine Sx.on 11 ?_
    refine Sx.slp 0 2 l1.length H4 (e := 3) (sz := 1) (cap := c) (len := (l1.length + 1)) (A := B) (xs := (ints (l1 ++ [f]))) (by kernel_rfl) (by omega) (ints_take _ _) fun H5 => ?_
    refine Sx.bk (x := zx1) 11 (fun _ => (H5.sub [1] (by kernel_rfl))) ?_
    refine Sx.tk [(12, none), (13, none)] (fun _ => (H5.sub [1] (by kernel_rfl))) ?_
    refine Sx.nmx ?_
    intro zx2
    refine Sx.on 14 ?_
    refine Sx.sr 0 1 69 3 39 g1 cap1 (h1.length + 1) (h1.length * 3 + 2) (recs h1 ++ rec3 hs tg B (l1.length + 1) c) H5 (.slice B l1.length c) (last_lt _ _ 2 (by simp)) (last_set _ _ 2 _) fun w4 H6 => ?_
    refine Sx.bk (x := zx2) 14 (fun h => Sx.nope h (by kernel_rfl)) ?_
    refine Sx.dn ?_
    refine sr_join H6 [1, 1, 1] S2 (some ⟨g1, 0, none⟩) cap1 (h1.length + 1) h1 hs tg l1 B c l1.length rfl (by simp) (by kernel_rfl) (fun S3 H7 => ?_)
    exact Sx.rt 10 [] H7 (.tuple #[.int .i64 ((topM (segsOf hm)).1), .bool ((topM (segsOf hm)).2)]) (Gx.ret_as (v' := .tuple #[.int .i64 (topM (segsOf (h1 ++ [HS.mk (Seg.mk hs tg (l1 ++ [f])) B c]))).1, .bool (topM (segsOf (h1 ++ [HS.mk (Seg.mk hs tg (l1 ++ [f])) B c]))).2]) (by rw [← hf2]) (hK (h1.length + 1) cap1 (some ⟨g1, 0, none⟩) (h1 ++ [HS.mk (Seg.mk hs tg l1) B c]) S3 _ (H7.pe hL0 [1, 0]) (by simp) (by simp [segsOf, popM, topM, setM, lastG])))
  have p_c12 := h_c12; try simp [-List.getD_eq_getElem?_getD] at p_c12
  exact Sx.rt 11 [] H1 _ (hK n1 cap1 A1 hm1 S1 _ (H1.pe hL0 [0, 0]) hf1 (by rw [hf2, pop_no (m := segsOf hm) (fun e => hne (List.map_eq_nil_iff.1 e)) h_c12]))
theorem dOpen_c (b n cap : Nat) (A : Option Addr) (hm : List HS) (S : Nat → Prop) (f : Int) (w : World) (K : Ending → World → Prop) (H0 : Sp w [.blk b (.cells #[.slice A n cap] 49), srI S A cap hm]) (hn : n = hm.length) (hb : tot (segsOf hm) + hm.length < 100000000000) (hK : ∀ (n' cap' : Nat) (A' : Option Addr) (hm' : List HS) (S' : Nat → Prop) w', Hs w [.blk b (.cells #[.slice A n cap] 49), srI S A cap hm] w' [.blk b (.cells #[.slice A' n' cap'] 49), srI S' A' cap' hm'] → (n' = hm'.length) → (segsOf hm' = openM (segsOf hm) f) → K (.returned (.tuple #[])) w') :
    Calls Try.prog 14 #[.pointer (some ⟨b, 0, none⟩), .int .i64 f] w K := by
  obtain ⟨L0, hL0, H⟩ : ∃ L0, L0 = [.blk b (.cells #[.slice A n cap] 49), srI S A cap hm] ∧ Hs w L0 w [.blk b (.cells #[.slice A n cap] 49), srI S A cap hm] := ⟨_, rfl, Hs.refl H0⟩
  refine Sx.en (vs := [.pointer (some ⟨b, 0, none⟩), .int .i64 f]) 15 Try.func14 ?_
  obtain rfl := hn
  refine sr_opn H 1 S A cap hm (by kernel_rfl) (fun S1 H1 => ?_)
  refine Sx.l 5 2 H1 ?_
  refine Sx.nw 2 H1 fun k1 w1 H2 => ?_
  refine Sx.ap 0 0 3 40 1 0 69 3 47 1 k1 A cap hm.length (recs hm) [.bool true, .int .i64 f, .slice none 0 0] H2 (by omega) (by omega) rfl fun A1 cap1 w2 H3 => ?_
  refine Sx.s 2 2 H3 fun w3 H4 => ?_
  have H5 := H4.add (Gx.Ext.refl _) (it := .own 3 1 none 0 0 []) (World.ownsRow_nil _ _ _ _) (fun _ h => by cases h)
  refine sr_join H5 [0, 3, 0] S1 A1 cap1 (hm.length + 1) hm true f ([]) none 0 0 rfl (by simp) (by kernel_rfl) (fun S2 H6 => ?_)
  exact Sx.rt 1 [] H6 _ (hK (hm.length + 1) cap1 A1 (hm ++ [HS.mk (Seg.mk true f ([])) none 0]) S2 _ (H6.pe hL0 [1, 0]) (by simp) (by simp [segsOf, openM]))
theorem dClose_c (b n cap : Nat) (A : Option Addr) (hm : List HS) (S : Nat → Prop) (w : World) (K : Ending → World → Prop) (H0 : Sp w [.blk b (.cells #[.slice A n cap] 49), srI S A cap hm]) (hn : n = hm.length) (hne : hm ≠ []) (hb : tot (segsOf hm) + hm.length < 100000000000) (hK : ∀ (n' cap' : Nat) (A' : Option Addr) (hm' : List HS) (S' : Nat → Prop) w', Hs w [.blk b (.cells #[.slice A n cap] 49), srI S A cap hm] w' [.blk b (.cells #[.slice A' n' cap'] 49), srI S' A' cap' hm'] → (n' = hm'.length) → (segsOf hm' = (closeM (segsOf hm)).1) → K (.returned (.tuple #[.int .i64 (closeM (segsOf hm)).2.1, .bool (closeM (segsOf hm)).2.2.1, .bool (closeM (segsOf hm)).2.2.2])) w') :
    Calls Try.prog 16 #[.pointer (some ⟨b, 0, none⟩)] w K := by
  obtain ⟨L0, hL0, H⟩ : ∃ L0, L0 = [.blk b (.cells #[.slice A n cap] 49), srI S A cap hm] ∧ Hs w L0 w [.blk b (.cells #[.slice A n cap] 49), srI S A cap hm] := ⟨_, rfl, Hs.refl H0⟩
  refine Sx.en (vs := [.pointer (some ⟨b, 0, none⟩)]) 48 Try.func16 ?_
  obtain ⟨h1, ⟨⟨hs, tg, fs⟩, B, c⟩, rfl⟩ := snoc_of hne
  obtain rfl : n = h1.length + 1 := by simpa using hn
  simp only [segsOf_app, tot_app, List.length_append, List.length_singleton] at hb
  have hb2 : tot (segsOf [HS.mk (Seg.mk hs tg fs) B c]) = fs.length := by simp [segsOf, tot]
  refine sr_last H 1 S A cap h1 hs tg fs B c fs.length (by simp) (by kernel_rfl) (fun g1 S1 hA H1 => ?_)
  subst hA
  refine Sx.c 10 [3, 0] H1 (fun Hp R hR => last_c b h1.length cap g1 (recs h1 ++ rec3 hs tg B fs.length c) w R Hp (by omega) (fun w1 G1 => hR _ _ _ G1 fun H2 => ?_))
  refine Sx.cut 4 (fun l' w' => l' = [(0, .pointer (some ⟨b, 0, none⟩)), (5, .pointer (some (⟨g1, h1.length * 3, none⟩))), (23, .bool ((((h1.length + 1 : Nat) : Int) == (1 : Int)) || (decide (((fs.length : Nat) : Int) > (0 : Int)))))] ∧ w1 = w') (fun K1 hK1 => ?_) (fun b1 l1 w2 hI1 => ?_)
  · skip
    refine Sx.l 4 0 H2 ?_
    refine Sx.sp 3 16 (((h1.length + 1 : Nat) : Int) == (1 : Int)) (fun h_g16 => ?_) (fun h_g16 => ?_)
    · skip
      exact Sx.to 8 [(0, .pointer (some ⟨b, 0, none⟩)), (5, .pointer (some (⟨g1, h1.length * 3, none⟩))), (23, .bool ((((h1.length + 1 : Nat) : Int) == (1 : Int)) || (decide (((fs.length : Nat) : Int) > (0 : Int)))))] (hK1 _ _ _ ⟨rfl, rfl⟩) (h2 := (by rw [h_g16]; try kernel_rfl))
    refine Sx.lr 3 1 69 3 39 g1 cap (h1.length + 1) (h1.length * 3 + 2) (recs h1 ++ rec3 hs tg B fs.length c) H2 (.slice B fs.length c) (last_ld (off := 2) (r := rec3 hs tg B fs.length c) rfl) ?_
    exact Sx.to 4 [(0, .pointer (some ⟨b, 0, none⟩)), (5, .pointer (some (⟨g1, h1.length * 3, none⟩))), (23, .bool ((((h1.length + 1 : Nat) : Int) == (1 : Int)) || (decide (((fs.length : Nat) : Int) > (0 : Int)))))] (hK1 _ _ _ ⟨rfl, rfl⟩) (h2 := (by rw [h_g16]; try kernel_rfl))
  obtain ⟨rfl, rfl⟩ := hI1
  refine Sx.br 0 ((((h1.length + 1 : Nat) : Int) == (1 : Int)) || (decide (((fs.length : Nat) : Int) > (0 : Int)))) (fun h_c23 => ?_) (fun h_c23 => ?_)
  · skip
    have p_c23 := h_c23; try simp [-List.getD_eq_getElem?_getD] at p_c23
    have e := close_no h1 hs tg fs B c (by simp only [Bool.or_eq_true, beq_iff_eq, decide_eq_true_eq] at h_c23; omega)
    refine sr_join H2 [1, 1, 1] S1 (some ⟨g1, 0, none⟩) cap (h1.length + 1) h1 hs tg fs B c fs.length rfl (by simp) (by kernel_rfl) (fun S2 H3 => ?_)
    exact Sx.rt 9 [] H3 (.tuple #[.int .i64 0, .bool false, .bool false]) (Gx.ret_as (v' := .tuple #[.int .i64 (closeM (segsOf (h1 ++ [HS.mk (Seg.mk hs tg fs) B c]))).2.1, .bool (closeM (segsOf (h1 ++ [HS.mk (Seg.mk hs tg fs) B c]))).2.2.1, .bool (closeM (segsOf (h1 ++ [HS.mk (Seg.mk hs tg fs) B c]))).2.2.2]) (by rw [e]) (hK (h1.length + 1) cap (some ⟨g1, 0, none⟩) (h1 ++ [HS.mk (Seg.mk hs tg fs) B c]) S2 _ (H3.pe hL0 [1, 0]) (by simp) (by rw [e])))
  refine Sx.lr 7 1 69 3 3 g1 cap (h1.length + 1) (h1.length * 3 + 1) (recs h1 ++ rec3 hs tg B fs.length c) H2 (.int .i64 tg) (last_ld (off := 1) (r := rec3 hs tg B fs.length c) rfl) ?_
  refine Sx.lr 8 1 69 3 4 g1 cap (h1.length + 1) (h1.length * 3) (recs h1 ++ rec3 hs tg B fs.length c) H2 (.bool hs) (last_ld (off := 0) (r := rec3 hs tg B fs.length c) rfl) ?_
  refine Sx.dr 4 H2 [0] [14] (LJ := [.blk b (.cells #[.slice (some ⟨g1, 0, none⟩) (h1.length + 1) cap] 49)]) (by kernel_rfl) fun w3 H4 => ?_
  have p_c23 := h_c23; try simp [-List.getD_eq_getElem?_getD] at p_c23
  refine Sx.tk [(0, none), (1, none), (2, none), (3, none), (4, some (0, [11, 12, 13, 14])), (5, none), (6, none), (7, none), (8, some (0, [9, 10, 11, 12, 13, 14])), (9, none)] (fun _ => (H4.sub [0] (by kernel_rfl))) ?_
  refine Sx.tva 10 [11, 12, 13, 14] (.int .i64 (IntKind.i64.wrap (((h1.length + 1 : Nat) : Int) - (1 : Int)))) (.int .i64 ((h1.length : Nat) : Int)) (congrArg (Value.int .i64) (Gx.i64n (by omega) (by omega))) (fun _ => (H4.sub [0] (by kernel_rfl))) ?_
  refine Sx.nmx ?_
  intro zx1
  refine Sx.on 11 ?_
  refine Sx.slp 0 1 h1.length H4 (e := 69) (sz := 3) (cap := cap) (len := (h1.length + 1)) (A := (some ⟨g1, 0, none⟩)) (xs := (recs h1 ++ rec3 hs tg B fs.length c)) (by kernel_rfl) (by omega) (last_take _ _) fun H5 => ?_
  refine Sx.bk (x := zx1) 11 (fun _ => (H5.sub [0] (by kernel_rfl))) ?_
  refine Sx.tk [(12, none), (13, none)] (fun _ => (H5.sub [0] (by kernel_rfl))) ?_
  refine Sx.nmx ?_
  intro zx2
  refine Sx.on 14 ?_
  refine Sx.s 0 0 H5 fun w4 H6 => ?_
  refine Sx.bk (x := zx2) 14 (fun h => Sx.nope h (by kernel_rfl)) ?_
  refine Sx.dn ?_
  have e := close_yes h1 hs tg fs B c (by simp only [Bool.or_eq_false_iff, beq_eq_false_iff_ne, decide_eq_false_iff_not, ne_eq] at h_c23; omega)
  refine sr_cls H6 [1, 2] S1 (some ⟨g1, 0, none⟩) cap h1.length h1 (recs h1) rfl rfl (by kernel_rfl) (fun S3 H7 => ?_)
  exact Sx.rt 11 [] H7 (.tuple #[.int .i64 tg, .bool hs, .bool true]) (Gx.ret_as (v' := .tuple #[.int .i64 (closeM (segsOf (h1 ++ [HS.mk (Seg.mk hs tg fs) B c]))).2.1, .bool (closeM (segsOf (h1 ++ [HS.mk (Seg.mk hs tg fs) B c]))).2.2.1, .bool (closeM (segsOf (h1 ++ [HS.mk (Seg.mk hs tg fs) B c]))).2.2.2]) (by rw [e]) (hK h1.length cap (some ⟨g1, 0, none⟩) h1 S3 _ (H7.pe hL0 [1, 0]) (by simp) (by rw [e])))
end Go.Proofs.Ytokplpijjnkboaa
