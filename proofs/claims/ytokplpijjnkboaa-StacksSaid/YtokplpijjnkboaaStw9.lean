/- A part of the proof (YtokplpijjnkboaaStw9), printed by a program of ours. -/
import Derived.Test.YtokplpijjnkboaaProg
import Derived.Test.YtokplpijjnkboaaStk
import Derived.Test.YtokplpijjnkboaaStc
import Derived.Test.YtokplpijjnkboaaStd
import Derived.Test.YtokplpijjnkboaaStl
import Derived.Test.YtokplpijjnkboaaSte
import Derived.Test.YtokplpijjnkboaaStf
import Derived.Test.YtokplpijjnkboaaStm
import Derived.Test.YtokplpijjnkboaaStn
import Derived.Test.YtokplpijjnkboaaStw1
import Derived.Test.YtokplpijjnkboaaStw2
import Derived.Test.YtokplpijjnkboaaStw3
import Derived.Test.YtokplpijjnkboaaStw4
import Derived.Test.YtokplpijjnkboaaStw5
import Derived.Test.YtokplpijjnkboaaStw6
import Derived.Test.YtokplpijjnkboaaStw7
import Derived.Test.YtokplpijjnkboaaStw8
set_option linter.unusedVariables false
set_option linter.unusedSimpArgs false
namespace Go.Proofs.Ytokplpijjnkboaa
open Go.RowKit Go.Sx Go.Stk
attribute [local irreducible] Go.wpOps Go.Code.wp Go.wpOp Go.wpAnyH Go.Calls Go.Sx.Goal
set_option maxRecDepth 20000
theorem alike_c (sb : Nat) (p : Option Addr) (Q : Nat → Prop) (b n cap : Nat) (A : Option Addr) (hm : List HS) (S : Nat → Prop) (w : World) (K : Ending → World → Prop) (H0 : Sp w [.blk sb (.cells #[.pointer p] 58), sgI Q p (segsOf hm), .blk b (.cells #[.slice A n cap] 49), srI S A cap hm]) (hn : n = hm.length) (hb : tot (segsOf hm) + hm.length < 1000000000) (hK : ∀ w', Hs w [.blk sb (.cells #[.pointer p] 58), sgI Q p (segsOf hm), .blk b (.cells #[.slice A n cap] 49), srI S A cap hm] w' [.blk sb (.cells #[.pointer p] 58), sgI Q p (segsOf hm), .blk b (.cells #[.slice A n cap] 49), srI S A cap hm] → K (.returned (.bool true)) w') :
    Calls Try.prog 25 #[.pointer (some ⟨sb, 0, none⟩), .pointer (some ⟨b, 0, none⟩)] w K := by
  obtain ⟨L0, hL0, H⟩ : ∃ L0, L0 = [.blk sb (.cells #[.pointer p] 58), sgI Q p (segsOf hm), .blk b (.cells #[.slice A n cap] 49), srI S A cap hm] ∧ Hs w L0 w [.blk sb (.cells #[.pointer p] 58), sgI Q p (segsOf hm), .blk b (.cells #[.slice A n cap] 49), srI S A cap hm] := ⟨_, rfl, Hs.refl H0⟩
  refine Sx.en (vs := [.pointer (some ⟨sb, 0, none⟩), .pointer (some ⟨b, 0, none⟩)]) 56 Try.func25 ?_
  refine Sx.l 10 2 H ?_
  refine Sx.c 0 [3] H (fun Hp R hR => Flat_c (srI S A cap hm) A n cap hm w R Hp sy_sr hn (by omega) (fun Af1 cf1 nf1 Af2 cf2 nf2 w1 G1 hf1 hf2 => hR _ _ _ G1 fun H1 => ?_))
  refine Sx.dr 8 H1 [3, 5] [] (LJ := [.blk sb (.cells #[.pointer p] 58), .blk b (.cells #[.slice A n cap] 49)]) (by kernel_rfl) fun w2 H2 => ?_
  refine Sx.tk [(0, none), (1, none), (2, none), (3, some (0, [])), (5, none), (6, none)] (fun _ => (H2.sub [3, 4] (by kernel_rfl))) ?_
  refine Sx.nmx ?_
  intro zx1
  refine Sx.on 4 ?_
  refine Sx.c 0 [4] H2 (fun Hp R hR => Len_c p (segsOf hm) Q w2 R Hp  (fun w3 G2 => hR _ _ _ G2 fun H3 => ?_))
  refine Sx.bk (x := zx1) 4 (fun _ => (H3.sub [4, 4] (by kernel_rfl))) ?_
  refine Sx.tva 7 [] (.bool (((tot (segsOf hm) : Nat) : Int) == ((nf1 : Nat) : Int))) (.bool true) ((by rw [hf1, allF_len]; simp)) (fun _ => (H3.sub [4, 4] (by kernel_rfl))) ?_
  refine Sx.tk [(8, none), (9, none), (10, none), (11, none), (12, some (0, [])), (14, none), (15, none), (16, none), (17, some (1, [])), (18, none)] (fun _ => (H3.sub [4, 4] (by kernel_rfl))) ?_
  refine Sx.nmx ?_
  intro zx2
  refine Sx.on 13 ?_
  refine Sx.c 0 [0] H3 (fun Hp R hR => Segments_c p (segsOf hm) Q w3 R Hp  (fun w4 G3 => hR _ _ _ G3 fun H4 => ?_))
  refine Sx.bk (x := zx2) 13 (fun _ => (H4.sub [4, 4] (by kernel_rfl))) ?_
  refine Sx.tva 19 [] (.bool ((((segsOf hm).length : Nat) : Int) == ((n : Nat) : Int))) (.bool true) ((by rw [segsOf_len, hn]; simp)) (fun _ => (H4.sub [4, 4] (by kernel_rfl))) ?_
  refine Sx.tk [(20, none), (21, none), (22, none), (23, none), (24, none), (25, some (0, [])), (28, none)] (fun _ => (H4.sub [4, 4] (by kernel_rfl))) ?_
  refine Sx.nmx ?_
  intro zx3
  refine Sx.on 26 ?_
  refine Sx.c 0 [0] H4 (fun Hp R hR => All_c p (segsOf hm) Q w4 R Hp  (fun kb1 w5 G4 => hR _ _ _ G4 fun H5 => ?_))
  refine Sx.bk (x := zx3) 26 (fun _ => (H5.sub [5, 5] (by kernel_rfl))) ?_
  refine Sx.nmx ?_
  intro zx4
  refine Sx.on 27 ?_
  refine Sx.c 0 [0, 0] H5 (fun Hp R hR => listAll_c kb1 p (segsOf hm) Q w5 R Hp (by rw [segsOf_len]; omega) (by rw [allF_len]; omega) (fun Al1 cl1 w6 G5 => hR _ _ _ G5 fun H6 => ?_))
  refine Sx.bk (x := zx4) 27 (fun _ => (H6.sub [6, 6] (by kernel_rfl))) ?_
  refine Sx.nmx ?_
  intro zx5
  refine Sx.on 29 ?_
  refine Sx.c 0 [0, 2] H6 (fun Hp R hR => same_c Al1 Af1 ((allF 0 (segsOf hm)).length) nf1 cl1 cf1 (allF 0 (segsOf hm)) w6 R Hp rfl hf1 (by rw [allF_len]; omega) (fun w7 G6 => hR _ _ _ G6 fun H7 => ?_))
  refine Sx.bk (x := zx5) 29 (fun _ => (H7.sub [6, 6] (by kernel_rfl))) ?_
  refine Sx.tk [(30, none), (31, none), (32, none), (33, none), (34, none), (35, some (0, [])), (38, none)] (fun _ => (H7.sub [6, 6] (by kernel_rfl))) ?_
  refine Sx.nmx ?_
  intro zx6
  refine Sx.on 36 ?_
  refine Sx.c 0 [3] H7 (fun Hp R hR => Tags_c p (segsOf hm) Q w7 R Hp  (fun kb2 w8 G7 => hR _ _ _ G7 fun H8 => ?_))
  refine Sx.bk (x := zx6) 36 (fun _ => (H8.sub [7, 7] (by kernel_rfl))) ?_
  refine Sx.nmx ?_
  intro zx7
  refine Sx.on 37 ?_
  refine Sx.c 0 [0, 0] H8 (fun Hp R hR => listTags_c kb2 p (segsOf hm) Q w8 R Hp (by rw [segsOf_len]; omega) (by have := tagsF_len 0 (segsOf hm); rw [segsOf_len] at this; omega) (fun Al2 cl2 w9 G8 => hR _ _ _ G8 fun H9 => ?_))
  refine Sx.bk (x := zx7) 37 (fun _ => (H9.sub [8, 8] (by kernel_rfl))) ?_
  refine Sx.nmx ?_
  intro zx8
  refine Sx.on 39 ?_
  refine Sx.c 0 [0, 5] H9 (fun Hp R hR => same_c Al2 Af2 ((tagsF 0 (segsOf hm)).length) nf2 cl2 cf2 (tagsF 0 (segsOf hm)) w9 R Hp rfl hf2 (by have := tagsF_len 0 (segsOf hm); rw [segsOf_len] at this; omega) (fun w10 G9 => hR _ _ _ G9 fun H10 => ?_))
  refine Sx.bk (x := zx8) 39 (fun _ => (H10.sub [8, 8] (by kernel_rfl))) ?_
  refine Sx.tk [(40, none), (41, none)] (fun _ => (H10.sub [8, 8] (by kernel_rfl))) ?_
  refine Sx.dn ?_
  exact Sx.rt 2 [] H10 _ (hK _ (H10.pe hL0 [8, 3, 7, 6]))
theorem piece_c (pb : Nat) (Qp : Nat → Prop) (q : Option Addr) (Qq : Nat → Prop) (it : Sx.Item) (A : Option Addr) (n cap : Nat) (hm : List HS) (w : World) (K : Ending → World → Prop) (H0 : Sp w [rbI Qp pb [.pointer q] 78, sgI Qq q (segsOf hm), it]) (hy : Sy it A hm) (hn : n = hm.length) (hb : tot (segsOf hm) + hm.length < 1000000000) (hK : ∀ w', Hs w [rbI Qp pb [.pointer q] 78, sgI Qq q (segsOf hm), it] w' [rbI Qp pb [.pointer q] 78, sgI Qq q (segsOf hm), it] → K (.returned (.bool true)) w') :
    Calls Try.prog 26 #[.pointer (some ⟨pb, 0, none⟩), .slice A n cap] w K := by
  obtain ⟨L0, hL0, H⟩ : ∃ L0, L0 = [rbI Qp pb [.pointer q] 78, sgI Qq q (segsOf hm), it] ∧ Hs w L0 w [rbI Qp pb [.pointer q] 78, sgI Qq q (segsOf hm), it] := ⟨_, rfl, Hs.refl H0⟩
  refine Sx.en (vs := [.pointer (some ⟨pb, 0, none⟩), .slice A n cap]) 38 Try.func26 ?_
  refine Sx.c 8 [2] H (fun Hp R hR => Flat_c it A n cap hm w R Hp hy hn (by omega) (fun Af1 cf1 nf1 Af2 cf2 nf2 w1 G1 hf1 hf2 => hR _ _ _ G1 fun H1 => ?_))
  refine Sx.c 10 [3, 3] H1 (fun Hp R hR => PLen_c pb Qp q (segsOf hm) Qq w1 R Hp  (fun w2 G2 => hR _ _ _ G2 fun H2 => ?_))
  refine Sx.v 2 (.bool (((tot (segsOf hm) : Nat) : Int) == ((nf1 : Nat) : Int))) (.bool true) ((by rw [hf1, allF_len]; simp)) ?_
  refine Sx.c 2 [0, 0] H2 (fun Hp R hR => PSegments_c pb Qp q (segsOf hm) Qq w2 R Hp  (fun w3 G3 => hR _ _ _ G3 fun H3 => ?_))
  refine Sx.v 2 (.bool ((((segsOf hm).length : Nat) : Int) == ((n : Nat) : Int))) (.bool true) ((by rw [segsOf_len, hn]; simp)) ?_
  refine Sx.c 3 [0, 0] H3 (fun Hp R hR => PAll_c pb Qp q (segsOf hm) Qq w3 R Hp  (fun kb1 w4 G4 => hR _ _ _ G4 fun H4 => ?_))
  refine Sx.c 0 [0, 1] H4 (fun Hp R hR => listAll_c kb1 q (segsOf hm) Qq w4 R Hp (by rw [segsOf_len]; omega) (by rw [allF_len]; omega) (fun Al1 cl1 w5 G5 => hR _ _ _ G5 fun H5 => ?_))
  refine Sx.c 1 [0, 3] H5 (fun Hp R hR => same_c Al1 Af1 ((allF 0 (segsOf hm)).length) nf1 cl1 cf1 (allF 0 (segsOf hm)) w5 R Hp rfl hf1 (by rw [allF_len]; omega) (fun w6 G6 => hR _ _ _ G6 fun H6 => ?_))
  refine Sx.c 3 [4, 3] H6 (fun Hp R hR => PTags_c pb Qp q (segsOf hm) Qq w6 R Hp  (fun kb2 w7 G7 => hR _ _ _ G7 fun H7 => ?_))
  refine Sx.c 0 [0, 1] H7 (fun Hp R hR => listTags_c kb2 q (segsOf hm) Qq w7 R Hp (by rw [segsOf_len]; omega) (by have := tagsF_len 0 (segsOf hm); rw [segsOf_len] at this; omega) (fun Al2 cl2 w8 G8 => hR _ _ _ G8 fun H8 => ?_))
  refine Sx.c 1 [0, 6] H8 (fun Hp R hR => same_c Al2 Af2 ((tagsF 0 (segsOf hm)).length) nf2 cl2 cf2 (tagsF 0 (segsOf hm)) w8 R Hp rfl hf2 (by have := tagsF_len 0 (segsOf hm); rw [segsOf_len] at this; omega) (fun w9 G9 => hR _ _ _ G9 fun H9 => ?_))
  exact Sx.rt 5 [] H9 _ (hK _ (H9.pe hL0 [4, 3, 6]))
end Go.Proofs.Ytokplpijjnkboaa
