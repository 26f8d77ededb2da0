/- A part of the proof (YtokplpijjnkboaaStw3), printed by a program of ours. -/
import Derived.Test.YtokplpijjnkboaaProg
import Derived.Test.YtokplpijjnkboaaStk
import Derived.Test.YtokplpijjnkboaaStw1
import Derived.Test.YtokplpijjnkboaaStw2
set_option linter.unusedVariables false
set_option linter.unusedSimpArgs false
namespace Go.Proofs.Ytokplpijjnkboaa
open Go.RowKit Go.Sx Go.Stk
attribute [local irreducible] Go.wpOps Go.Code.wp Go.wpOp Go.wpAnyH Go.Calls Go.Sx.Goal
set_option maxRecDepth 20000
theorem All_c (p : Option Addr) (m : List Seg) (Q : Nat → Prop) (w : World) (K : Ending → World → Prop) (H0 : Sp w [sgI Q p m]) (hK : ∀ (kb : Nat) w', Hs w [sgI Q p m] w' [.blk kb (.cells #[.pointer p] 56), sgI Q p m] → K (.returned (.func (.func 41) #[] #[.pointer (some ⟨kb, 0, none⟩)])) w') :
    Calls Try.prog 35 #[.agg #[.pointer p]] w K := by
  obtain ⟨L0, hL0, H⟩ : ∃ L0, L0 = [sgI Q p m] ∧ Hs w L0 w [sgI Q p m] := ⟨_, rfl, Hs.refl H0⟩
  refine Sx.en (vs := [.agg #[.pointer p]]) 4 Try.func35 ?_
  refine Sx.nw 2 H fun k1 w1 H1 => ?_
  exact Sx.rt 10 [] H1 _ (hK k1 _ (H1.pe hL0 [1, 0]))
theorem Tags_c (p : Option Addr) (m : List Seg) (Q : Nat → Prop) (w : World) (K : Ending → World → Prop) (H0 : Sp w [sgI Q p m]) (hK : ∀ (kb : Nat) w', Hs w [sgI Q p m] w' [.blk kb (.cells #[.pointer p] 56), sgI Q p m] → K (.returned (.func (.func 42) #[] #[.pointer (some ⟨kb, 0, none⟩)])) w') :
    Calls Try.prog 36 #[.agg #[.pointer p]] w K := by
  obtain ⟨L0, hL0, H⟩ : ∃ L0, L0 = [sgI Q p m] ∧ Hs w L0 w [sgI Q p m] := ⟨_, rfl, Hs.refl H0⟩
  refine Sx.en (vs := [.agg #[.pointer p]]) 4 Try.func36 ?_
  refine Sx.nw 2 H fun k1 w1 H1 => ?_
  exact Sx.rt 10 [] H1 _ (hK k1 _ (H1.pe hL0 [1, 0]))
theorem row_c (pb : Nat) (Qp : Nat → Prop) (q : Option Addr) (w : World) (K : Ending → World → Prop) (H0 : Sp w [rbI Qp pb [.pointer q] 78]) (hK : ∀ w', Hs w [rbI Qp pb [.pointer q] 78] w' [rbI Qp pb [.pointer q] 78] → K (.returned (.agg #[.pointer q])) w') :
    Calls Try.prog 43 #[.pointer (some ⟨pb, 0, none⟩)] w K := by
  obtain ⟨L0, hL0, H⟩ : ∃ L0, L0 = [rbI Qp pb [.pointer q] 78] ∧ Hs w L0 w [rbI Qp pb [.pointer q] 78] := ⟨_, rfl, Hs.refl H0⟩
  refine Sx.en (vs := [.pointer (some ⟨pb, 0, none⟩)]) 10 Try.func43 ?_
  refine Sx.nw 2 H fun k1 w1 H1 => ?_
  refine Sx.lo (a := ⟨pb, 0, none⟩) (c := 1) (t := 56) 17 [.pointer q] (.agg #[.pointer q]) (said H1 0 (says_rb (Q := Qp) (cs := [.pointer q]) (e := 78)) (by kernel_rfl) 0 1) ?_
  refine Sx.s 0 1 H1 fun w2 H2 => ?_
  exact Sx.rt 3 [1] H2 _ (hK _ (H2.pe hL0 [0]))
theorem PLen_c (pb : Nat) (Qp : Nat → Prop) (q : Option Addr) (mp : List Seg) (Qq : Nat → Prop) (w : World) (K : Ending → World → Prop) (H0 : Sp w [rbI Qp pb [.pointer q] 78, sgI Qq q mp]) (hK : ∀ w', Hs w [rbI Qp pb [.pointer q] 78, sgI Qq q mp] w' [rbI Qp pb [.pointer q] 78, sgI Qq q mp] → K (.returned (.int .i64 ((tot mp : Nat) : Int))) w') :
    Calls Try.prog 37 #[.pointer (some ⟨pb, 0, none⟩)] w K := by
  obtain ⟨L0, hL0, H⟩ : ∃ L0, L0 = [rbI Qp pb [.pointer q] 78, sgI Qq q mp] ∧ Hs w L0 w [rbI Qp pb [.pointer q] 78, sgI Qq q mp] := ⟨_, rfl, Hs.refl H0⟩
  refine Sx.en (vs := [.pointer (some ⟨pb, 0, none⟩)]) 6 Try.func37 ?_
  refine Sx.c 8 [0] H (fun Hp R hR => row_c pb Qp q w R Hp  (fun w1 G1 => hR _ _ _ G1 fun H1 => ?_))
  refine Sx.c 0 [1] H1 (fun Hp R hR => Len_c q mp Qq w1 R Hp  (fun w2 G2 => hR _ _ _ G2 fun H2 => ?_))
  exact Sx.rt 4 [] H2 _ (hK _ (H2.pe hL0 [1, 0]))
theorem PSegments_c (pb : Nat) (Qp : Nat → Prop) (q : Option Addr) (mp : List Seg) (Qq : Nat → Prop) (w : World) (K : Ending → World → Prop) (H0 : Sp w [rbI Qp pb [.pointer q] 78, sgI Qq q mp]) (hK : ∀ w', Hs w [rbI Qp pb [.pointer q] 78, sgI Qq q mp] w' [rbI Qp pb [.pointer q] 78, sgI Qq q mp] → K (.returned (.int .i64 ((mp.length : Nat) : Int))) w') :
    Calls Try.prog 38 #[.pointer (some ⟨pb, 0, none⟩)] w K := by
  obtain ⟨L0, hL0, H⟩ : ∃ L0, L0 = [rbI Qp pb [.pointer q] 78, sgI Qq q mp] ∧ Hs w L0 w [rbI Qp pb [.pointer q] 78, sgI Qq q mp] := ⟨_, rfl, Hs.refl H0⟩
  refine Sx.en (vs := [.pointer (some ⟨pb, 0, none⟩)]) 6 Try.func38 ?_
  refine Sx.c 8 [0] H (fun Hp R hR => row_c pb Qp q w R Hp  (fun w1 G1 => hR _ _ _ G1 fun H1 => ?_))
  refine Sx.c 0 [1] H1 (fun Hp R hR => Segments_c q mp Qq w1 R Hp  (fun w2 G2 => hR _ _ _ G2 fun H2 => ?_))
  exact Sx.rt 4 [] H2 _ (hK _ (H2.pe hL0 [1, 0]))
theorem PAll_c (pb : Nat) (Qp : Nat → Prop) (q : Option Addr) (mp : List Seg) (Qq : Nat → Prop) (w : World) (K : Ending → World → Prop) (H0 : Sp w [rbI Qp pb [.pointer q] 78, sgI Qq q mp]) (hK : ∀ (kb : Nat) w', Hs w [rbI Qp pb [.pointer q] 78, sgI Qq q mp] w' [.blk kb (.cells #[.pointer q] 56), rbI Qp pb [.pointer q] 78, sgI Qq q mp] → K (.returned (.func (.func 41) #[] #[.pointer (some ⟨kb, 0, none⟩)])) w') :
    Calls Try.prog 39 #[.pointer (some ⟨pb, 0, none⟩)] w K := by
  obtain ⟨L0, hL0, H⟩ : ∃ L0, L0 = [rbI Qp pb [.pointer q] 78, sgI Qq q mp] ∧ Hs w L0 w [rbI Qp pb [.pointer q] 78, sgI Qq q mp] := ⟨_, rfl, Hs.refl H0⟩
  refine Sx.en (vs := [.pointer (some ⟨pb, 0, none⟩)]) 6 Try.func39 ?_
  refine Sx.c 8 [0] H (fun Hp R hR => row_c pb Qp q w R Hp  (fun w1 G1 => hR _ _ _ G1 fun H1 => ?_))
  refine Sx.c 0 [1] H1 (fun Hp R hR => All_c q mp Qq w1 R Hp  (fun kb1 w2 G2 => hR _ _ _ G2 fun H2 => ?_))
  exact Sx.rt 4 [] H2 _ (hK kb1 _ (H2.pe hL0 [0, 1, 0]))
theorem PTags_c (pb : Nat) (Qp : Nat → Prop) (q : Option Addr) (mp : List Seg) (Qq : Nat → Prop) (w : World) (K : Ending → World → Prop) (H0 : Sp w [rbI Qp pb [.pointer q] 78, sgI Qq q mp]) (hK : ∀ (kb : Nat) w', Hs w [rbI Qp pb [.pointer q] 78, sgI Qq q mp] w' [.blk kb (.cells #[.pointer q] 56), rbI Qp pb [.pointer q] 78, sgI Qq q mp] → K (.returned (.func (.func 42) #[] #[.pointer (some ⟨kb, 0, none⟩)])) w') :
    Calls Try.prog 40 #[.pointer (some ⟨pb, 0, none⟩)] w K := by
  obtain ⟨L0, hL0, H⟩ : ∃ L0, L0 = [rbI Qp pb [.pointer q] 78, sgI Qq q mp] ∧ Hs w L0 w [rbI Qp pb [.pointer q] 78, sgI Qq q mp] := ⟨_, rfl, Hs.refl H0⟩
  refine Sx.en (vs := [.pointer (some ⟨pb, 0, none⟩)]) 6 Try.func40 ?_
  refine Sx.c 8 [0] H (fun Hp R hR => row_c pb Qp q w R Hp  (fun w1 G1 => hR _ _ _ G1 fun H1 => ?_))
  refine Sx.c 0 [1] H1 (fun Hp R hR => Tags_c q mp Qq w1 R Hp  (fun kb1 w2 G2 => hR _ _ _ G2 fun H2 => ?_))
  exact Sx.rt 4 [] H2 _ (hK kb1 _ (H2.pe hL0 [0, 1, 0]))
theorem ask_c (f : Int) (ab kb : Nat) (A : Option Addr) (n c : Nat) (l : List Int) (k : Int) (w : World) (K : Ending → World → Prop) (H0 : Sp w [.blk ab (.cells #[.slice A n c] 39), .own 3 1 A c n (ints l), .blk kb (.cells #[.int .i64 k] 3)]) (hn : n < 100000000000) (hK : ∀ (A' : Option Addr) (c' : Nat) w', Hs w [.blk ab (.cells #[.slice A n c] 39), .own 3 1 A c n (ints l), .blk kb (.cells #[.int .i64 k] 3)] w' [.blk ab (.cells #[.slice A' (n + 1) c'] 39), .own 3 1 A' c' (n + 1) (ints (l ++ [f])), .blk kb (.cells #[.int .i64 k] 3)] → K (.returned (.bool (hitB k f))) w') :
    Calls Try.prog 18 #[.int .i64 f, .pointer (some ⟨ab, 0, none⟩), .pointer (some ⟨kb, 0, none⟩)] w K := by
  obtain ⟨L0, hL0, H⟩ : ∃ L0, L0 = [.blk ab (.cells #[.slice A n c] 39), .own 3 1 A c n (ints l), .blk kb (.cells #[.int .i64 k] 3)] ∧ Hs w L0 w [.blk ab (.cells #[.slice A n c] 39), .own 3 1 A c n (ints l), .blk kb (.cells #[.int .i64 k] 3)] := ⟨_, rfl, Hs.refl H0⟩
  refine Sx.en (vs := [.int .i64 f, .pointer (some ⟨ab, 0, none⟩), .pointer (some ⟨kb, 0, none⟩)]) 13 Try.func18 ?_
  refine Sx.l 7 0 H ?_
  refine Sx.nw 1 H fun k1 w1 H1 => ?_
  refine Sx.ap 0 1 3 8 1 0 3 1 39 1 k1 A c n (ints l) [.int .i64 f] H1 (by omega) (by omega) (ints_app _ _) fun A1 cap1 w2 H2 => ?_
  refine Sx.s 0 0 H2 fun w3 H3 => ?_
  refine Sx.v 5 (.int .i64 (Int.tmod f (3 : Int))) (.int .i64 (Int.tmod f (3 : Int))) (congrArg (Value.int .i64) (rfl)) ?_
  refine Sx.l 0 2 H3 ?_
  exact Sx.rt 5 [] H3 _ (hK A1 cap1 _ (H3.pe hL0 [0, 0, 0]))
end Go.Proofs.Ytokplpijjnkboaa
