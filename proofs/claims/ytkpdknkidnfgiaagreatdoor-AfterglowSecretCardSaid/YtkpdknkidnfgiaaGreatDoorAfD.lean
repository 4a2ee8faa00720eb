/- Closed facts of the row and the card of AfterglowSecret, told by the kernel; no condition. -/
import Derived.Test.YtkpdknkidnfgiaaGreatDoorCards
import Derived.SevenTiedAt
import Derived.JoinedCond
namespace Go.Proofs.YtkpdknkidnfgiaaGreatDoor.afterglowSecret
set_option linter.unusedVariables false
set_option maxRecDepth 100000
set_option maxHeartbeats 4000000
theorem wfs : Rows.afterglowSecretRow.wfByText (OpenSpec.ofChange Rows.afterglowSecretSpec) = true := by kernel_rfl
theorem mains : Tryz.prog.mainIs = some (true, "fb30053cab3892e9b6fa0d220155742b584ab49745e0ab69666d16276f991acd".toList) := by kernel_rfl
theorem named : Tryz.prog.funcNamed Rows.afterglowSecretRow.func = some 3 := by kernel_rfl
theorem looked : true = Tryz.prog.looks [] := by kernel_rfl
theorem stands : ([22, 24].all fun u => !Tryz.prog.wantsStandIn u) = true := by kernel_rfl
theorem instanced : Tryz.f3.isInstance Tryz.prog Rows.afterglowSecretRow.origin Rows.afterglowSecretRow.targs := of_decide_eq_true (by kernel_rfl)
theorem wrapped : Tryz.f3.isWrapper Tryz.prog Rows.afterglowSecretRow.wrapper Rows.afterglowSecretRow.mainSum := by unfold Func.isWrapper; first | (rw [if_pos (by decide +kernel)]; kernel_rfl) | (rw [if_neg (by decide +kernel)]; exact ⟨rfl, rfl⟩)
end Go.Proofs.YtkpdknkidnfgiaaGreatDoor.afterglowSecret
