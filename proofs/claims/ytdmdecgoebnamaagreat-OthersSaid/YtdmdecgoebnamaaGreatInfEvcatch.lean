/- A part of the proof. -/
import Derived.Test.YtdmdecgoebnamaaGreatRunN
set_option linter.unusedVariables false
set_option linter.unusedSimpArgs false
namespace Go.Inf
open Go.Syn
set_option maxRecDepth 100000
theorem ev_catch : evT (txt [1, 0, 1, 0, 1, 1, 1, 1, 1, 1, 1, 1, 1, 0, 0] ++ ⟨#[32, 109, 97, 105, 110, 32, 61, 32, 49]⟩) (⟨#[99, 97, 116, 99, 104]⟩ : ByteArray) (⟨#[114, 101, 116, 114, 121]⟩ : ByteArray) = true := by kernel_rfl
theorem begun_catch : Begun (txt [1, 0, 1, 0, 1, 1, 1, 1, 1, 1, 1, 1, 1, 0, 0]) (⟨#[99, 97, 116, 99, 104]⟩ : ByteArray) (⟨#[114, 101, 116, 114, 121]⟩ : ByteArray) := begun_of (by rw [N.parse_fast]; exact ev_catch) (Nat.le_of_ble_eq_true (by kernel_rfl))
end Go.Inf
