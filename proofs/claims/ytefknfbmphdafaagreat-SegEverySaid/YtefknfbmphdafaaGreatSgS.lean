/- The document's Ahead: the walk. -/
import Derived.Test.YtefknfbmphdafaaGreatSgR
namespace Go.Proofs.YtefknfbmphdafaaGreat
namespace SgM
open Go Go.RowKit CrcM FrM
open Ds (Blk)

set_option maxRecDepth 100000 in
set_option maxHeartbeats 4000000 in
theorem ahead_any (a b : Sg) (w : World) :
    Calls Tryz.prog 74 #[sgV a, sgV b] w fun e w' => e = .returned (.bool (lt a b)) ∧ Below w.heap.size w w' := by
  have HE := Lib.hid (show lt a b = (decide (a.n < b.n) || (decide (a.n = b.n) && decide (((a.k.toNat : Nat) : Int) < (b.k.toNat : Nat)))) by
    unfold lt; congr 2; exact decide_eq_decide.2 (by omega))
  obtain ⟨x, hx⟩ : ∃ x : Int, x = (a.k.toNat : Nat) := ⟨_, rfl⟩
  obtain ⟨y, hy⟩ : ∃ y : Int, y = (b.k.toNat : Nat) := ⟨_, rfl⟩
  obtain ⟨m, hm⟩ : ∃ m : Int, m = a.n := ⟨_, rfl⟩
  obtain ⟨n, hn⟩ : ∃ n : Int, n = b.n := ⟨_, rfl⟩
  unfold sgV
  rw [← hx, ← hy, ← hm, ← hn]
  rw [← hx, ← hy, ← hm, ← hn] at HE
  clear hx hy hm hn
  have hbx : ∀ (o o' : Obj), Below w.heap.size w ((w.alloc o).alloc o') := fun o o' => (below_box w o).alloc (by simp) o'
  by_cases h1 : m < n
  · have HF := Lib.hid (show lt a b = true by rw [HE.out, decide_eq_true h1]; rfl)
    go_enter Tryz.func74, Tryz.ntmps74
    go_wp2
    go_ret
    exact ⟨by rw [HF.out]; rfl, hbx _ _⟩
  by_cases h2 : m = n
  · have e2 : (m == n) = true := by rw [beq_iff_eq]; exact h2
    by_cases h3 : x < y
    · have HF := Lib.hid (show lt a b = true by rw [HE.out, decide_eq_true h2, decide_eq_true h3, decide_eq_false h1]; rfl)
      subst h2
      go_enter Tryz.func74, Tryz.ntmps74
      go_wp2
      go_ret
      exact ⟨by rw [HF.out]; rfl, hbx _ _⟩
    · have HF := Lib.hid (show lt a b = false by rw [HE.out, decide_eq_true h2, decide_eq_false h3, decide_eq_false h1]; rfl)
      have d3 : decide (x < y) = false := decide_eq_false h3
      subst h2
      go_enter Tryz.func74, Tryz.ntmps74
      go_wp2
      go_ret
      exact ⟨by rw [HF.out]; rfl, hbx _ _⟩
  · have HF := Lib.hid (show lt a b = false by rw [HE.out, decide_eq_false h2, decide_eq_false h1]; rfl)
    have e2 : (m == n) = false := by rw [beq_eq_false_iff_ne]; exact h2
    have d2 : decide (m = n) = false := decide_eq_false h2
    go_enter Tryz.func74, Tryz.ntmps74
    go_wp2
    go_ret
    exact ⟨by rw [HF.out]; rfl, hbx _ _⟩
end SgM
end Go.Proofs.YtefknfbmphdafaaGreat
