/- The statement AfterglowSecret: for every input the law returns true, and its arguments read as before; its card, tied to the program's text. -/
import Derived.Test.YtkpdknkidnfgiaaGreatDoorTie
import Derived.Test.YtkpdknkidnfgiaaGreatDoorAfC
import Derived.Test.YtkpdknkidnfgiaaGreatDoorAfD
import Derived.Test.YtkpdknkidnfgiaaGreatDoorAfE
import Derived.Test.YtkpdknkidnfgiaaGreatDoorAfL
import Derived.Test.YtkpdknkidnfgiaaGreatDoorJc
namespace Go.Proofs.YtkpdknkidnfgiaaGreatDoor.afterglowSecret
open Go.ChangeShapes Go.WideShapes Go.ChangeAt Go.RowKit
set_option linter.unusedVariables false
set_option maxRecDepth 100000
set_option maxHeartbeats 4000000
theorem over : Rows.afterglowSecretRow.holds Tryz.pinned (OpenSpec.ofChange Rows.afterglowSecretSpec) :=
  OpenClaim.holds_of_cond 3 Tryz.f3 rfl rfl rfl rfl rfl rfl rfl ⟨rfl, rfl, rfl, rfl, rfl⟩ rfl rfl rfl rfl rfl named Tryz.func3 closed instanced wrapped
    (fun os started H enc _ I => by rw [OpenClaim.pre_eq_preRow]; exact lifted Tp.CK os started H enc I)
theorem proved : Rows.AfterglowSecretCardSaid :=
  Claim7.holds_tied_plain_at .later [] [.data, .data, .data, .data, .sentinel, .sentinel, .pinned] true (true, "fb30053cab3892e9b6fa0d220155742b584ab49745e0ab69666d16276f991acd") true
    over (fun _ h => by cases h) wfs (fun _ h => by cases h) afterglowSecret_row_tie rfl ⟨rfl, rfl⟩ mains rfl
    (fun f fn hf hfn => by
      obtain rfl : f = 3 := Option.some.inj (hf.symm.trans named)
      obtain rfl : fn = Tryz.f3 := (Option.some.inj (Tryz.func3.symm.trans hfn)).symm
      exact ⟨looked, fun j t ht => by
        rw [Tryz.params3] at ht
        have hm : t ∈ [22, 24] := by
          have := Array.mem_of_getElem? ht
          simpa using this
        exact (show Tryz.prog.wantsStandIn t = false by simpa using List.all_eq_true.1 stands t hm)⟩)
    gone
#print axioms proved
end Go.Proofs.YtkpdknkidnfgiaaGreatDoor.afterglowSecret
