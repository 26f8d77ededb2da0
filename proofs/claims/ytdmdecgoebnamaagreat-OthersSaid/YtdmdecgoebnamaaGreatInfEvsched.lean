/- A part of the proof. -/
import Derived.Test.YtdmdecgoebnamaaGreatRunN
set_option linter.unusedVariables false
set_option linter.unusedSimpArgs false
namespace Go.Inf
open Go.Syn
set_option maxRecDepth 100000
theorem ev_sched : evT (txt [1, 0, 1, 0, 1, 1, 1, 1, 1, 1, 1, 0, 0] ++ ⟨#[32, 109, 97, 105, 110, 32, 61, 32, 49]⟩) (⟨#[114, 117, 110]⟩ : ByteArray) (⟨#[114, 117, 110]⟩ : ByteArray) = true := by kernel_rfl
theorem begun_sched : Begun (txt [1, 0, 1, 0, 1, 1, 1, 1, 1, 1, 1, 0, 0]) (⟨#[114, 117, 110]⟩ : ByteArray) (⟨#[114, 117, 110]⟩ : ByteArray) := begun_of (by rw [N.parse_fast]; exact ev_sched) (Nat.le_of_ble_eq_true (by kernel_rfl))
end Go.Inf
