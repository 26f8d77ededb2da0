/-
  No cell of these rows narrows 'for every input' (looked for: loops, veiled, ifaces, maps, wideKeys, modest, calm, conditions, laid).
  DERIVED. THE GIVEN ROWS OF THIS SEAT. 2 by the template 'for every input the law returns true; each argument reads behind the call as it read before'; 0 by the template 'total and deterministic' (their statements: YtiimlomgpmgecaaTotals.lean).
  GIVEN WITH THE SEED: the statements are not yours to turn. If you find one false, say at which input.
  Laid BY PROGRAM, IN A SANDBOX (cutbox-rows.mjs): the forced cells as the released guide's own fill.sh prints them over the translation 1ec71737e52f045d… (all of the seat's roots in one cut). By AI agents, Wed Nov 11 2026. No macro, syntax, notation, axiom, sorry.
-/
import Derived.Test.YtiimlomgpmgecaaChecked
import GoSem.Claim
import GoSem.ClaimJoined
import GoSem.ClaimMapViews
import Derived.JoinedTies
import Derived.KernelRfl
namespace Go.Proofs.Ytiimlomgpmgecaa
/- THE CELL 'sum', in the pinned program and in every row, IS THE sha256 OF THE DUMP (.gsa) THAT YtiimlomgpmgecaaProg.lean LOADS. Nothing in Lean hashes anything: it is a label: what it is worth is what the hold of that sum in a sandbox is worth. -/
noncomputable def Try.pinned : Pinned := { name := "ytiimlomgpmgecaa", sum := "1ec71737e52f045dc487924b771b06a24398851669ccb97f956134cc75fa6fcd", checked := Try.checked }
namespace Rows
def none {H : Type} : Left H := { results := [], args := [] }

/-- 'effectuslaw1.Tokens': WHATEVER THE INPUT: true; the input reads as it did. -/
def tokensSpec : ChangeSpec := { name := "tokens", fn := fun _ => fun
  | [d] => { results := [.lit (.bool true)], args := [d] }
  | _ => none }
def tokensRow : OpenClaim := { program := "ytiimlomgpmgecaa", sum := "1ec71737e52f045dc487924b771b06a24398851669ccb97f956134cc75fa6fcd", func := "effectus/effectuslaw1.Tokens", spec := "tokens", apart := false }
def TokensSaid : Prop := tokensRow.holds Try.pinned (OpenSpec.ofChange tokensSpec)

/-- ITS FALSE NEIGHBOUR: 'it returns false'. Refute it at one input. -/
def tokensWrong : ChangeSpec := { name := "tokens", fn := fun _ => fun
  | [d] => { results := [.lit (.bool false)], args := [d] }
  | _ => none }
def TokensWrongFalsely : Prop := tokensRow.holds Try.pinned (OpenSpec.ofChange tokensWrong)

/-- 'effectuslaw1.Split': WHATEVER THE INPUT: true; the input reads as it did. -/
def splitSpec : ChangeSpec := { name := "split", fn := fun _ => fun
  | [d1, d2] => { results := [.lit (.bool true)], args := [d1, d2] }
  | _ => none }
def splitRow : OpenClaim := { program := "ytiimlomgpmgecaa", sum := "1ec71737e52f045dc487924b771b06a24398851669ccb97f956134cc75fa6fcd", func := "effectus/effectuslaw1.Split", spec := "split", apart := false }
def SplitSaid : Prop := splitRow.holds Try.pinned (OpenSpec.ofChange splitSpec)

/-- ITS FALSE NEIGHBOUR: 'it returns false'. Refute it at one input. -/
def splitWrong : ChangeSpec := { name := "split", fn := fun _ => fun
  | [d1, d2] => { results := [.lit (.bool false)], args := [d1, d2] }
  | _ => none }
def SplitWrongFalsely : Prop := splitRow.holds Try.pinned (OpenSpec.ofChange splitWrong)

/- THE SECOND FORM. 'bulk': how many values and letters a reading holds, each counted each time it is reached (what is shared counts as often as it is met; a slice's spare places count too). A statement '..UptoSaid' is the law's where the arguments, and the package variables that the reading takes, are together of bulk at most 1048576: NARROWER than '..Said'. Prove '..Said' where nothing that the law and all that it calls make is longer than what came in: it says more and counts as full. Else prove '..UptoSaid'. A law counts once. -/
mutual
def uptoBulk {H : Type} : DataW H → Nat
  | .lit (.string bytes) => bytes.length + 1
  | .lit _ => 1
  | .nil => 1
  | .ptr d => uptoBulk d + 1
  | .slice elems spare => uptoBulkAll elems + uptoBulkAll spare + 1
  | .agg parts => uptoBulkAll parts + 1
  | .iface _ d => uptoBulk d + 1
  | .map entries => uptoBulkEntries entries + 1
  | .held _ => 1
def uptoBulkAll {H : Type} : List (DataW H) → Nat
  | [] => 0
  | d :: r => uptoBulk d + uptoBulkAll r
def uptoBulkEntries {H : Type} : List (Lit × DataW H) → Nat
  | [] => 0
  | x :: r => uptoBulkEntry x + uptoBulkEntries r
def uptoBulkEntry {H : Type} : Lit × DataW H → Nat
  | (.string bytes, d) => bytes.length + uptoBulk d + 1
  | (_, d) => uptoBulk d + 1
 end
def uptoSmall : (H : Type) → List (DataW H) → Bool := fun _ ds => decide (uptoBulkAll ds ≤ 1048576)
def OpenSpec.upto (s : _root_.Go.ChangeSpec) : _root_.Go.OpenSpec := { _root_.Go.OpenSpec.ofChange s with cond := some uptoSmall }

/-- 'effectuslaw1.Tokens', WHERE WHAT IT READS IS OF BULK AT MOST 1048576: true; the input reads as it did. -/
def tokensUptoRow : OpenClaim := { program := "ytiimlomgpmgecaa", sum := "1ec71737e52f045dc487924b771b06a24398851669ccb97f956134cc75fa6fcd", func := "effectus/effectuslaw1.Tokens", spec := "tokens", apart := false, narrowed := true }
def TokensUptoSaid : Prop := tokensUptoRow.holds Try.pinned (OpenSpec.upto tokensSpec)

/-- 'effectuslaw1.Split', WHERE WHAT IT READS IS OF BULK AT MOST 1048576: true; the input reads as it did. -/
def splitUptoRow : OpenClaim := { program := "ytiimlomgpmgecaa", sum := "1ec71737e52f045dc487924b771b06a24398851669ccb97f956134cc75fa6fcd", func := "effectus/effectuslaw1.Split", spec := "split", apart := false, narrowed := true }
def SplitUptoSaid : Prop := splitUptoRow.holds Try.pinned (OpenSpec.upto splitSpec)

end Rows
end Go.Proofs.Ytiimlomgpmgecaa
