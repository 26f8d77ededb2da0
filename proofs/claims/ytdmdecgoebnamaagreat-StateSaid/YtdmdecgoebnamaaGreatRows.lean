/-
  No cell of these rows narrows 'for every input' (looked for: loops, veiled, ifaces, maps, wideKeys, modest, calm, conditions, laid).
  DERIVED. THE GIVEN ROWS OF THIS SEAT. 7 by the template 'for every input the law returns true; each argument reads behind the call as it read before'; 0 by the template 'total and deterministic' (their statements: YtdmdecgoebnamaaGreatTotals.lean).
  GIVEN WITH THE SEED: the statements are not yours to turn. If you find one false, say at which input.
  Laid BY PROGRAM, IN A SANDBOX (cutbox-rows.mjs): the forced cells as the released guide's own fill.sh prints them over the translation 5fcdbd5ff0b69bd7… (all of the seat's roots in one cut). By AI agents, Wed Nov 11 2026. No macro, syntax, notation, axiom, sorry.
-/
import Derived.Test.YtdmdecgoebnamaaGreatChecked
import GoSem.Claim
import GoSem.ClaimJoined
import GoSem.ClaimMapViews
import Derived.JoinedTies
import Derived.KernelRfl
namespace Go.Proofs.YtdmdecgoebnamaaGreat
/- THE CELL 'sum', in the pinned program and in every row, IS THE sha256 OF THE DUMP (.gsa) THAT YtdmdecgoebnamaaGreatProg.lean LOADS. Nothing in Lean hashes anything: it is a label: what it is worth is what the hold of that sum in a sandbox is worth. -/
noncomputable def Tryz.pinned : Pinned := { name := "ytdmdecgoebnamaagreat", sum := "5fcdbd5ff0b69bd754ca0a50ee37ff26b3ae222fb7669e21a7c2c51b1d7329e9", checked := Tryz.checked }
namespace Rows
def none {H : Type} : Left H := { results := [], args := [] }

/-- 'effectustop.Others': WHATEVER THE INPUT: true; the input reads as it did. -/
def othersSpec : ChangeSpec := { name := "others", fn := fun _ => fun
  | [d] => { results := [.lit (.bool true)], args := [d] }
  | _ => none }
def othersRow : OpenClaim := { program := "ytdmdecgoebnamaagreat", sum := "5fcdbd5ff0b69bd754ca0a50ee37ff26b3ae222fb7669e21a7c2c51b1d7329e9", func := "effectus/effectustop.Others", spec := "others", inPlace := ["internal/abi.NoEscape", "internal/bytealg.MakeNoZero"], recurses := true, apart := false }
def OthersSaid : Prop := othersRow.holds Tryz.pinned (OpenSpec.ofChange othersSpec)

/-- ITS FALSE NEIGHBOUR: 'it returns false'. Refute it at one input. -/
def othersWrong : ChangeSpec := { name := "others", fn := fun _ => fun
  | [d] => { results := [.lit (.bool false)], args := [d] }
  | _ => none }
def OthersWrongFalsely : Prop := othersRow.holds Tryz.pinned (OpenSpec.ofChange othersWrong)

/-- 'effectustop.State': WHATEVER THE INPUT: true; the input reads as it did. -/
def stateSpec : ChangeSpec := { name := "state", fn := fun _ => fun
  | [d1, d2] => { results := [.lit (.bool true)], args := [d1, d2] }
  | _ => none }
def stateRow : OpenClaim := { program := "ytdmdecgoebnamaagreat", sum := "5fcdbd5ff0b69bd754ca0a50ee37ff26b3ae222fb7669e21a7c2c51b1d7329e9", func := "effectus/effectustop.State", spec := "state", inPlace := ["internal/abi.NoEscape", "internal/bytealg.MakeNoZero"], unfollowed := true, recurses := true, apart := false }
def StateSaid : Prop := stateRow.holds Tryz.pinned (OpenSpec.ofChange stateSpec)

/-- ITS FALSE NEIGHBOUR: 'it returns false'. Refute it at one input. -/
def stateWrong : ChangeSpec := { name := "state", fn := fun _ => fun
  | [d1, d2] => { results := [.lit (.bool false)], args := [d1, d2] }
  | _ => none }
def StateWrongFalsely : Prop := stateRow.holds Tryz.pinned (OpenSpec.ofChange stateWrong)

/-- 'effectustop.Laws': WHATEVER THE INPUT: true; the input reads as it did. -/
def lawsSpec : ChangeSpec := { name := "laws", fn := fun _ => fun
  | [d1, d2, d3, d4] => { results := [.lit (.bool true)], args := [d1, d2, d3, d4] }
  | _ => none }
def lawsRow : OpenClaim := { program := "ytdmdecgoebnamaagreat", sum := "5fcdbd5ff0b69bd754ca0a50ee37ff26b3ae222fb7669e21a7c2c51b1d7329e9", func := "effectus/effectustop.Laws", spec := "laws", inPlace := ["internal/abi.NoEscape", "internal/bytealg.MakeNoZero"], unfollowed := true, recurses := true, apart := false }
def LawsSaid : Prop := lawsRow.holds Tryz.pinned (OpenSpec.ofChange lawsSpec)

/-- ITS FALSE NEIGHBOUR: 'it returns false'. Refute it at one input. -/
def lawsWrong : ChangeSpec := { name := "laws", fn := fun _ => fun
  | [d1, d2, d3, d4] => { results := [.lit (.bool false)], args := [d1, d2, d3, d4] }
  | _ => none }
def LawsWrongFalsely : Prop := lawsRow.holds Tryz.pinned (OpenSpec.ofChange lawsWrong)

/-- 'effectustop.Choose': WHATEVER THE INPUT: true; the input reads as it did. -/
def chooseSpec : ChangeSpec := { name := "choose", fn := fun _ => fun
  | [d1, d2] => { results := [.lit (.bool true)], args := [d1, d2] }
  | _ => none }
def chooseRow : OpenClaim := { program := "ytdmdecgoebnamaagreat", sum := "5fcdbd5ff0b69bd754ca0a50ee37ff26b3ae222fb7669e21a7c2c51b1d7329e9", func := "effectus/effectustop.Choose", spec := "choose", inPlace := ["internal/abi.NoEscape", "internal/bytealg.MakeNoZero"], unfollowed := true, recurses := true, apart := false }
def ChooseSaid : Prop := chooseRow.holds Tryz.pinned (OpenSpec.ofChange chooseSpec)

/-- ITS FALSE NEIGHBOUR: 'it returns false'. Refute it at one input. -/
def chooseWrong : ChangeSpec := { name := "choose", fn := fun _ => fun
  | [d1, d2] => { results := [.lit (.bool false)], args := [d1, d2] }
  | _ => none }
def ChooseWrongFalsely : Prop := chooseRow.holds Tryz.pinned (OpenSpec.ofChange chooseWrong)

/-- 'effectustop.Gen': WHATEVER THE INPUT: true; the input reads as it did. -/
def genSpec : ChangeSpec := { name := "gen", fn := fun _ => fun
  | [d1, d2] => { results := [.lit (.bool true)], args := [d1, d2] }
  | _ => none }
def genRow : OpenClaim := { program := "ytdmdecgoebnamaagreat", sum := "5fcdbd5ff0b69bd754ca0a50ee37ff26b3ae222fb7669e21a7c2c51b1d7329e9", func := "effectus/effectustop.Gen", spec := "gen", inPlace := ["internal/abi.NoEscape", "internal/bytealg.MakeNoZero"], unfollowed := true, recurses := true, apart := false }
def GenSaid : Prop := genRow.holds Tryz.pinned (OpenSpec.ofChange genSpec)

/-- ITS FALSE NEIGHBOUR: 'it returns false'. Refute it at one input. -/
def genWrong : ChangeSpec := { name := "gen", fn := fun _ => fun
  | [d1, d2] => { results := [.lit (.bool false)], args := [d1, d2] }
  | _ => none }
def GenWrongFalsely : Prop := genRow.holds Tryz.pinned (OpenSpec.ofChange genWrong)

/-- 'effectustop.Sched': WHATEVER THE INPUT: true; the input reads as it did. -/
def schedSpec : ChangeSpec := { name := "sched", fn := fun _ => fun
  | [d] => { results := [.lit (.bool true)], args := [d] }
  | _ => none }
def schedRow : OpenClaim := { program := "ytdmdecgoebnamaagreat", sum := "5fcdbd5ff0b69bd754ca0a50ee37ff26b3ae222fb7669e21a7c2c51b1d7329e9", func := "effectus/effectustop.Sched", spec := "sched", inPlace := ["internal/abi.NoEscape", "internal/bytealg.MakeNoZero"], unfollowed := true, recurses := true, apart := false }
def SchedSaid : Prop := schedRow.holds Tryz.pinned (OpenSpec.ofChange schedSpec)

/-- ITS FALSE NEIGHBOUR: 'it returns false'. Refute it at one input. -/
def schedWrong : ChangeSpec := { name := "sched", fn := fun _ => fun
  | [d] => { results := [.lit (.bool false)], args := [d] }
  | _ => none }
def SchedWrongFalsely : Prop := schedRow.holds Tryz.pinned (OpenSpec.ofChange schedWrong)

/-- 'effectustop.Catch': WHATEVER THE INPUT: true; the input reads as it did. -/
def catchSpec : ChangeSpec := { name := "catch", fn := fun _ => fun
  | [d1, d2, d3] => { results := [.lit (.bool true)], args := [d1, d2, d3] }
  | _ => none }
def catchRow : OpenClaim := { program := "ytdmdecgoebnamaagreat", sum := "5fcdbd5ff0b69bd754ca0a50ee37ff26b3ae222fb7669e21a7c2c51b1d7329e9", func := "effectus/effectustop.Catch", spec := "catch", inPlace := ["internal/abi.NoEscape", "internal/bytealg.MakeNoZero"], unfollowed := true, recurses := true, apart := false }
def CatchSaid : Prop := catchRow.holds Tryz.pinned (OpenSpec.ofChange catchSpec)

/-- ITS FALSE NEIGHBOUR: 'it returns false'. Refute it at one input. -/
def catchWrong : ChangeSpec := { name := "catch", fn := fun _ => fun
  | [d1, d2, d3] => { results := [.lit (.bool false)], args := [d1, d2, d3] }
  | _ => none }
def CatchWrongFalsely : Prop := catchRow.holds Tryz.pinned (OpenSpec.ofChange catchWrong)

/- THE SECOND FORM. 'bulk': how many values and letters a reading holds, each counted each time it is reached (what is shared counts as often as it is met; a slice's spare places count too). A statement '..UptoSaid' is the law's where the arguments, and the package variables that the reading takes, are together of bulk at most 1048576: NARROWER than '..Said'. Prove '..Said' where nothing that the law and all that it calls make is longer than what came in: it says more and counts as full. Else prove '..UptoSaid'. A law counts once. -/
mutual
def uptoBulk {H : Type} : DataW H → Nat
  | .lit (.string bytes) => bytes.length + 1
  | .lit _ => 1
  | .nil => 1
  | .ptr d => uptoBulk d + 1
  | .slice elems spare => uptoBulkAll elems + uptoBulkAll spare + 1
  | .agg parts => uptoBulkAll parts + 1
  | .iface _ d => uptoBulk d + 1
  | .map entries => uptoBulkEntries entries + 1
  | .held _ => 1
def uptoBulkAll {H : Type} : List (DataW H) → Nat
  | [] => 0
  | d :: r => uptoBulk d + uptoBulkAll r
def uptoBulkEntries {H : Type} : List (Lit × DataW H) → Nat
  | [] => 0
  | x :: r => uptoBulkEntry x + uptoBulkEntries r
def uptoBulkEntry {H : Type} : Lit × DataW H → Nat
  | (.string bytes, d) => bytes.length + uptoBulk d + 1
  | (_, d) => uptoBulk d + 1
 end
def uptoSmall : (H : Type) → List (DataW H) → Bool := fun _ ds => decide (uptoBulkAll ds ≤ 1048576)
def OpenSpec.upto (s : _root_.Go.ChangeSpec) : _root_.Go.OpenSpec := { _root_.Go.OpenSpec.ofChange s with cond := some uptoSmall }

/-- 'effectustop.Others', WHERE WHAT IT READS IS OF BULK AT MOST 1048576: true; the input reads as it did. -/
def othersUptoRow : OpenClaim := { program := "ytdmdecgoebnamaagreat", sum := "5fcdbd5ff0b69bd754ca0a50ee37ff26b3ae222fb7669e21a7c2c51b1d7329e9", func := "effectus/effectustop.Others", spec := "others", inPlace := ["internal/abi.NoEscape", "internal/bytealg.MakeNoZero"], recurses := true, apart := false, narrowed := true }
def OthersUptoSaid : Prop := othersUptoRow.holds Tryz.pinned (OpenSpec.upto othersSpec)

/-- 'effectustop.State', WHERE WHAT IT READS IS OF BULK AT MOST 1048576: true; the input reads as it did. -/
def stateUptoRow : OpenClaim := { program := "ytdmdecgoebnamaagreat", sum := "5fcdbd5ff0b69bd754ca0a50ee37ff26b3ae222fb7669e21a7c2c51b1d7329e9", func := "effectus/effectustop.State", spec := "state", inPlace := ["internal/abi.NoEscape", "internal/bytealg.MakeNoZero"], unfollowed := true, recurses := true, apart := false, narrowed := true }
def StateUptoSaid : Prop := stateUptoRow.holds Tryz.pinned (OpenSpec.upto stateSpec)

/-- 'effectustop.Laws', WHERE WHAT IT READS IS OF BULK AT MOST 1048576: true; the input reads as it did. -/
def lawsUptoRow : OpenClaim := { program := "ytdmdecgoebnamaagreat", sum := "5fcdbd5ff0b69bd754ca0a50ee37ff26b3ae222fb7669e21a7c2c51b1d7329e9", func := "effectus/effectustop.Laws", spec := "laws", inPlace := ["internal/abi.NoEscape", "internal/bytealg.MakeNoZero"], unfollowed := true, recurses := true, apart := false, narrowed := true }
def LawsUptoSaid : Prop := lawsUptoRow.holds Tryz.pinned (OpenSpec.upto lawsSpec)

/-- 'effectustop.Choose', WHERE WHAT IT READS IS OF BULK AT MOST 1048576: true; the input reads as it did. -/
def chooseUptoRow : OpenClaim := { program := "ytdmdecgoebnamaagreat", sum := "5fcdbd5ff0b69bd754ca0a50ee37ff26b3ae222fb7669e21a7c2c51b1d7329e9", func := "effectus/effectustop.Choose", spec := "choose", inPlace := ["internal/abi.NoEscape", "internal/bytealg.MakeNoZero"], unfollowed := true, recurses := true, apart := false, narrowed := true }
def ChooseUptoSaid : Prop := chooseUptoRow.holds Tryz.pinned (OpenSpec.upto chooseSpec)

/-- 'effectustop.Gen', WHERE WHAT IT READS IS OF BULK AT MOST 1048576: true; the input reads as it did. -/
def genUptoRow : OpenClaim := { program := "ytdmdecgoebnamaagreat", sum := "5fcdbd5ff0b69bd754ca0a50ee37ff26b3ae222fb7669e21a7c2c51b1d7329e9", func := "effectus/effectustop.Gen", spec := "gen", inPlace := ["internal/abi.NoEscape", "internal/bytealg.MakeNoZero"], unfollowed := true, recurses := true, apart := false, narrowed := true }
def GenUptoSaid : Prop := genUptoRow.holds Tryz.pinned (OpenSpec.upto genSpec)

/-- 'effectustop.Sched', WHERE WHAT IT READS IS OF BULK AT MOST 1048576: true; the input reads as it did. -/
def schedUptoRow : OpenClaim := { program := "ytdmdecgoebnamaagreat", sum := "5fcdbd5ff0b69bd754ca0a50ee37ff26b3ae222fb7669e21a7c2c51b1d7329e9", func := "effectus/effectustop.Sched", spec := "sched", inPlace := ["internal/abi.NoEscape", "internal/bytealg.MakeNoZero"], unfollowed := true, recurses := true, apart := false, narrowed := true }
def SchedUptoSaid : Prop := schedUptoRow.holds Tryz.pinned (OpenSpec.upto schedSpec)

/-- 'effectustop.Catch', WHERE WHAT IT READS IS OF BULK AT MOST 1048576: true; the input reads as it did. -/
def catchUptoRow : OpenClaim := { program := "ytdmdecgoebnamaagreat", sum := "5fcdbd5ff0b69bd754ca0a50ee37ff26b3ae222fb7669e21a7c2c51b1d7329e9", func := "effectus/effectustop.Catch", spec := "catch", inPlace := ["internal/abi.NoEscape", "internal/bytealg.MakeNoZero"], unfollowed := true, recurses := true, apart := false, narrowed := true }
def CatchUptoSaid : Prop := catchUptoRow.holds Tryz.pinned (OpenSpec.upto catchSpec)

end Rows
end Go.Proofs.YtdmdecgoebnamaaGreat
