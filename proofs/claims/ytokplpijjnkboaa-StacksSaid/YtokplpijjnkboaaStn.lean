/- What is listed of a row of segments. -/
import Derived.Test.YtokplpijjnkboaaStw3
import Derived.Test.YtokplpijjnkboaaStl
set_option linter.unusedVariables false
set_option linter.unusedSimpArgs false
namespace Go.Proofs.Ytokplpijjnkboaa
open Go.RowKit Go.Sx Go.Stk Go.Gx
attribute [local irreducible] Go.wpOps Go.Code.wp Go.wpOp Go.wpAnyH Go.Calls Go.Sx.Goal Go.wpOpsIn
theorem call41 (args : Array Value) (w : World) : (callFunc 41 args).run Try.prog w = .ok (.enter 41 args) w := by
  kernel_rfl
theorem call42 (args : Array Value) (w : World) : (callFunc 42 args).run Try.prog w = .ok (.enter 42 args) w := by
  kernel_rfl
theorem listAll_c (kb : Nat) (p : Option Addr) (m : List Seg) (Q : Nat → Prop) (w : World) (K : Ending → World → Prop) (H0 : Sp w [.blk kb (.cells #[.pointer p] 56), sgI Q p m]) (hb : tot m + m.length < 100000000000) (hl : (allF 0 m).length < 10000000000)
    (hK : ∀ (A : Option Addr) (cap : Nat) w', Hs w [.blk kb (.cells #[.pointer p] 56), sgI Q p m] w' [.own 52 2 A cap (allF 0 m).length (prs (allF 0 m)), .blk kb (.cells #[.pointer p] 56), sgI Q p m] → K (.returned (.slice A (allF 0 m).length cap)) w') : Calls Try.prog 34 #[.func (.func 41) #[] #[.pointer (some ⟨kb, 0, none⟩)]] w K :=
  listed_c 41 #[.pointer (some ⟨kb, 0, none⟩)] _ _ (allF 0 m) hl call41 (fun l acc S w K HS hy hK => AllY_c l kb acc S p m Q w K HS hb hy hK) w K H0 hK
theorem listTags_c (kb : Nat) (p : Option Addr) (m : List Seg) (Q : Nat → Prop) (w : World) (K : Ending → World → Prop) (H0 : Sp w [.blk kb (.cells #[.pointer p] 56), sgI Q p m]) (hb : m.length < 100000000000) (hl : (tagsF 0 m).length < 10000000000)
    (hK : ∀ (A : Option Addr) (cap : Nat) w', Hs w [.blk kb (.cells #[.pointer p] 56), sgI Q p m] w' [.own 52 2 A cap (tagsF 0 m).length (prs (tagsF 0 m)), .blk kb (.cells #[.pointer p] 56), sgI Q p m] → K (.returned (.slice A (tagsF 0 m).length cap)) w') : Calls Try.prog 34 #[.func (.func 42) #[] #[.pointer (some ⟨kb, 0, none⟩)]] w K :=
  listed_c 42 #[.pointer (some ⟨kb, 0, none⟩)] _ _ (tagsF 0 m) hl call42 (fun l acc S w K HS hy hK => TagsY_c l kb acc S p m Q w K HS hb hy hK) w K H0 hK
end Go.Proofs.Ytokplpijjnkboaa
