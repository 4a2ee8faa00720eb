/- A closed fact of the row of AfterglowSecret, told by the kernel; no condition. -/
import Derived.Test.YtkpdknkidnfgiaaGreatDoorCards
import Derived.SevenTiedAt
import Derived.JoinedCond
namespace Go.Proofs.YtkpdknkidnfgiaaGreatDoor.afterglowSecret
set_option linter.unusedVariables false
set_option maxRecDepth 100000
set_option maxHeartbeats 4000000
theorem still {P : Program} (h : P.funcs.any Func.goes = false) (f : FuncId) : P.goes f = false := by
  have h1 : ∀ g : Nat, (P.funcs[g]?).any Func.goes = false := by
    intro g
    cases hg : P.funcs[g]? with
    | none => rfl
    | some x =>
      obtain ⟨hl, hx⟩ := Array.getElem?_eq_some_iff.1 hg
      have := Array.any_eq_false.1 h g hl
      rw [hx] at this
      simpa using this
  have h2 : (P.closure f).any (fun g => (P.funcs[g]?).any Func.goes) = false := by simp only [h1]; simp
  unfold Program.goes
  rw [h2, h]
  simp
theorem gone : false = Rows.afterglowSecretRow.goesBy Tryz.prog := by
  have h : ∀ o : Option FuncId, o.any Tryz.prog.goes = false := fun o => by cases o with | none => rfl | some f => exact still (by kernel_rfl) f
  show false = (Option.any Tryz.prog.goes _ || false)
  rw [h]
  rfl
end Go.Proofs.YtkpdknkidnfgiaaGreatDoor.afterglowSecret
