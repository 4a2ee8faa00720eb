/- Closed facts of the row and the card of AfterglowSecret, told by the kernel; no condition. -/
import Derived.Test.YtkpdknkidnfgiaaGreatDoorCards
import Derived.SevenTiedAt
import Derived.JoinedCond
namespace Go.Proofs.YtkpdknkidnfgiaaGreatDoor.afterglowSecret
set_option linter.unusedVariables false
set_option maxRecDepth 100000
set_option maxHeartbeats 4000000
theorem both {a b : Bool} (x : a = true) (y : b = true) : (a && b) = true := by rw [x, y]; rfl
theorem closed : joinedFacts Tryz.pinned.checked.prog 3 Tryz.f3 (OpenSpec.ofChange Rows.afterglowSecretSpec).bare Rows.afterglowSecretRow = true := by
  show joinedFacts Tryz.prog 3 Tryz.f3 (OpenSpec.ofChange Rows.afterglowSecretSpec).bare Rows.afterglowSecretRow = true
  unfold joinedFacts
  repeat' with_reducible refine both ?_ ?_
  all_goals decide +kernel
end Go.Proofs.YtkpdknkidnfgiaaGreatDoor.afterglowSecret
