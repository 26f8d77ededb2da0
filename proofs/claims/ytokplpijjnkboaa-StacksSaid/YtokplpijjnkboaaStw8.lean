/- A part of the proof (YtokplpijjnkboaaStw8), printed by a program of ours. -/
import Derived.Test.YtokplpijjnkboaaProg
import Derived.Test.YtokplpijjnkboaaStk
import Derived.Test.YtokplpijjnkboaaStc
import Derived.Test.YtokplpijjnkboaaStd
import Derived.Test.YtokplpijjnkboaaStl
import Derived.Test.YtokplpijjnkboaaSte
import Derived.Test.YtokplpijjnkboaaStf
import Derived.Test.YtokplpijjnkboaaStm
import Derived.Test.YtokplpijjnkboaaStw1
import Derived.Test.YtokplpijjnkboaaStw2
import Derived.Test.YtokplpijjnkboaaStw3
import Derived.Test.YtokplpijjnkboaaStw4
import Derived.Test.YtokplpijjnkboaaStw5
import Derived.Test.YtokplpijjnkboaaStw6
import Derived.Test.YtokplpijjnkboaaStw7
set_option linter.unusedVariables false
set_option linter.unusedSimpArgs false
namespace Go.Proofs.Ytokplpijjnkboaa
open Go.RowKit Go.Sx Go.Stk
attribute [local irreducible] Go.wpOps Go.Code.wp Go.wpOp Go.wpAnyH Go.Calls Go.Sx.Goal
set_option maxRecDepth 20000
theorem mod_c (n : Int) (m : Nat) (w : World) (K : Ending → World → Prop) (H0 : Sp w []) (hm : 0 < m) (hm2 : m < 1000000000000) (hK : K (.returned (.int .i64 (n % (m : Int)))) w) :
    Calls Try.prog 6 #[.int .i64 n, .int .i64 ((m : Nat) : Int)] w K := by
  obtain ⟨L0, hL0, H⟩ : ∃ L0, L0 = [] ∧ Hs w L0 w [] := ⟨_, rfl, Hs.refl H0⟩
  refine Sx.en (vs := [.int .i64 n, .int .i64 ((m : Nat) : Int)]) 14 Try.func6 ?_
  obtain ⟨k, rfl⟩ : ∃ k, m = k + 1 := ⟨m - 1, by omega⟩
  refine Sx.v 9 (.int .i64 (Int.tmod n ((k + 1 : Nat) : Int))) (.int .i64 (Int.tmod n ((k + 1 : Nat) : Int))) (congrArg (Value.int .i64) (rfl)) ?_
  refine Sx.br 10 (decide ((Int.tmod n ((k + 1 : Nat) : Int)) < (0 : Int))) (fun h_c9 => ?_) (fun h_c9 => ?_)
  · skip
    have p_c9 := of_decide_eq_true h_c9
    refine Sx.v 3 (.int .i64 (IntKind.i64.wrap ((Int.tmod n ((k + 1 : Nat) : Int)) + ((k + 1 : Nat) : Int)))) (.int .i64 (Int.tmod n ((k + 1 : Nat) : Int) + ((k + 1 : Nat) : Int))) (congrArg (Value.int .i64) (by have := tmod_lt n (k + 1) hm; exact IntWalk.i64_in _ (by omega))) ?_
    exact Sx.rt 10 [] H (.int .i64 (Int.tmod n ((k + 1 : Nat) : Int) + ((k + 1 : Nat) : Int))) (Gx.ret_as (v' := .int .i64 (n % ((k + 1 : Nat) : Int))) (by rw [mod_neg n (k + 1) hm (by simpa using h_c9)]) hK)
  have p_c9 := of_decide_eq_false h_c9
  exact Sx.rt 9 [] H (.int .i64 (Int.tmod n ((k + 1 : Nat) : Int))) (Gx.ret_as (v' := .int .i64 (n % ((k + 1 : Nat) : Int))) (by rw [mod_pos n (k + 1) hm (by simpa using h_c9)]) hK)
theorem same_c (A B : Option Addr) (n m c d : Nat) (xs : List (Int × Int)) (w : World) (K : Ending → World → Prop) (H0 : Sp w [.own 52 2 A c n (prs xs), .own 52 2 B d m (prs xs)]) (hn : n = xs.length) (hm : m = xs.length) (hb : xs.length < 1000000000000) (hK : ∀ w', Hs w [.own 52 2 A c n (prs xs), .own 52 2 B d m (prs xs)] w' [.own 52 2 A c n (prs xs), .own 52 2 B d m (prs xs)] → K (.returned (.bool true)) w') :
    Calls Try.prog 33 #[.slice A n c, .slice B m d] w K := by
  obtain ⟨L0, hL0, H⟩ : ∃ L0, L0 = [.own 52 2 A c n (prs xs), .own 52 2 B d m (prs xs)] ∧ Hs w L0 w [.own 52 2 A c n (prs xs), .own 52 2 B d m (prs xs)] := ⟨_, rfl, Hs.refl H0⟩
  refine Sx.en (vs := [.slice A n c, .slice B m d]) 26 Try.func33 ?_
  obtain rfl := hn; obtain rfl := hm
  refine Sx.v 12 (.bool (((xs.length : Nat) : Int) != ((xs.length : Nat) : Int))) (.bool false) ((by simp)) ?_
  have H1 := H.pick (a := [.own 52 2 A c xs.length (prs xs), .own 52 2 B d xs.length (prs xs)]) [0, 0] (by kernel_rfl)
  refine Sx.lp 12 (fun z l' w' => ∃ (i : Nat), l' = [(0, .slice A xs.length c), (1, .slice B xs.length d), (5, .int .i64 ((i : Nat) : Int))] ∧ z = xs.length - i ∧ Hs w L0 w' [.own 52 2 A c xs.length (prs xs), .own 52 2 B d xs.length (prs xs)] ∧ (i ≤ xs.length)) _ [(0, .slice A xs.length c), (1, .slice B xs.length d), (5, .int .i64 ((0 : Nat) : Int))] ⟨0, rfl, rfl, H1, (Nat.zero_le _)⟩ (fun b1 z1 l1 w1 hI1 K1 hK1 => ?_)
  obtain ⟨i, rfl, rfl, H2, hi⟩ := hI1
  refine Sx.br 9 (decide (((i : Nat) : Int) < ((xs.length : Nat) : Int))) (fun h_c14 => ?_) (fun h_c14 => ?_)
  · skip
    have p_c14 := of_decide_eq_true h_c14
    obtain ⟨⟨pa, pc⟩, hp⟩ : ∃ p, xs[i]? = some p := ⟨_, List.getElem?_eq_getElem (by omega)⟩
    obtain ⟨g1, hg1⟩ := H2.row 0 (A := A) (e := 52) (sz := 2) (cap := c) (n := xs.length) (xs := prs xs) (by kernel_rfl) (by omega)
    subst hg1
    obtain ⟨g2, hg2⟩ := H2.row 1 (A := B) (e := 52) (sz := 2) (cap := d) (n := xs.length) (xs := prs xs) (by kernel_rfl) (by omega)
    subst hg2
    refine Sx.dr 5 H2 [0, 1] [] (LJ := [.own 52 2 (some ⟨g1, 0, none⟩) c xs.length (prs xs), .own 52 2 (some ⟨g2, 0, none⟩) d xs.length (prs xs)]) (by kernel_rfl) fun w2 H3 => ?_
    refine Sx.tk [(0, none), (1, none)] (fun _ => (H3.sub [0, 0] (by kernel_rfl))) ?_
    refine Sx.tvg 2 [] g1 i 2 xs.length c (by omega) (fun _ => (H3.sub [0, 0] (by kernel_rfl))) ?_
    refine Sx.tvl 3 [] 0 52 2 52 g1 c xs.length (i * 2) (prs xs) (.agg #[.int .i64 pa, .int .i64 pc]) (prs_ld hp) (fun _ => (H3.sub [0, 0] (by kernel_rfl))) ?_
    refine Sx.tk [(4, none), (5, none)] (fun _ => (H3.sub [0, 0] (by kernel_rfl))) ?_
    refine Sx.tvg 6 [] g2 i 2 xs.length d (by omega) (fun _ => (H3.sub [0, 0] (by kernel_rfl))) ?_
    refine Sx.tvl 7 [] 1 52 2 52 g2 d xs.length (i * 2) (prs xs) (.agg #[.int .i64 pa, .int .i64 pc]) (prs_ld hp) (fun _ => (H3.sub [0, 0] (by kernel_rfl))) ?_
    refine Sx.tvq 8 [] pa pc (fun _ => (H3.sub [0, 0] (by kernel_rfl))) ?_
    refine Sx.dn ?_
    refine Sx.v 7 (.int .i64 (IntKind.i64.wrap (((i : Nat) : Int) + (1 : Int)))) (.int .i64 ((i + 1 : Nat) : Int)) (congrArg (Value.int .i64) (Gx.i64n (by omega) (by omega))) ?_
    have H4 := H3.pick (a := [.own 52 2 (some ⟨g1, 0, none⟩) c xs.length (prs xs), .own 52 2 (some ⟨g2, 0, none⟩) d xs.length (prs xs)]) [0, 0] (by kernel_rfl)
    exact Sx.to 2 [(0, .slice (some ⟨g1, 0, none⟩) xs.length c), (1, .slice (some ⟨g2, 0, none⟩) xs.length d), (5, .int .i64 ((i + 1 : Nat) : Int))] (hK1 _ _ _ _ (by omega) ⟨i + 1, rfl, rfl, H4, (by omega)⟩)
  have p_c14 := of_decide_eq_false h_c14
  exact Sx.rt 11 [] H2 _ (hK _ (H2.pe hL0 [0, 0]))
end Go.Proofs.Ytokplpijjnkboaa
