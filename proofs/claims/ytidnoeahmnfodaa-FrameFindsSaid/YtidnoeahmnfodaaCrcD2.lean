/- Sum and Text of one text, of two; what is kept behind a step. -/
import Derived.Test.YtidnoeahmnfodaaCrcD
import Derived.Deep.RegionHeld3
namespace Go.Proofs.Ytidnoeahmnfodaa
open Go.RowKit CrcM

theorem strRow_one (w : World) (b : Nat) (s : ByteArray) (h : w.cell? ⟨b, 0, none⟩ = some (.string s)) : StrRow w (some ⟨b, 0, none⟩) [s] := by
  intro j hj
  obtain rfl : j = 0 := by simp at hj; exact hj
  exact ⟨_, _, rfl, h⟩
theorem strRow_two (w : World) (b : Nat) (s r : ByteArray) (h : w.cell? ⟨b, 0, none⟩ = some (.string s)) (h1 : w.cell? ⟨b, 1, none⟩ = some (.string r)) : StrRow w (some ⟨b, 0, none⟩) [s, r] := by
  intro j hj
  rcases (show j = 0 ∨ j = 1 by simp at hj; omega) with rfl | rfl
  · exact ⟨_, _, rfl, h⟩
  · exact ⟨_, _, rfl, h1⟩
theorem flat_one (s : ByteArray) : flat [s] = s.data.toList := by simp [flat]
theorem flat_two (s r : ByteArray) : flat [s, r] = s.data.toList ++ r.data.toList := by simp [flat]
theorem sum_one (b : Nat) (s : ByteArray) (w : World) (hs : s.size ≤ 9223372036854775807) (h : w.cell? ⟨b, 0, none⟩ = some (.string s)) :
    Calls Try.prog 38 #[.slice (some ⟨b, 0, none⟩) 1 1] w fun e w' => e = .returned (.int .u32 (smm s.data.toList)) ∧ Below w.heap.size w w' := by
  have := sum_any (some ⟨b, 0, none⟩) 1 [s] w (by simp) (by simpa using hs) (strRow_one w b s h)
  rw [flat_one] at this
  exact this
theorem sum_two (b : Nat) (s r : ByteArray) (w : World) (hs : s.size ≤ 9223372036854775807) (hr : r.size ≤ 9223372036854775807) (h : w.cell? ⟨b, 0, none⟩ = some (.string s)) (h1 : w.cell? ⟨b, 1, none⟩ = some (.string r)) :
    Calls Try.prog 38 #[.slice (some ⟨b, 0, none⟩) 2 2] w fun e w' => e = .returned (.int .u32 (smm (s.data.toList ++ r.data.toList))) ∧ Below w.heap.size w w' := by
  have := sum_any (some ⟨b, 0, none⟩) 2 [s, r] w (by simp) (by intro x hx; simp at hx; rcases hx with rfl | rfl <;> assumption) (strRow_two w b s r h h1)
  rw [flat_two] at this
  exact this
theorem text_one (b : Nat) (s : ByteArray) (w : World) (hs : s.size ≤ 9223372036854775807) (h : w.cell? ⟨b, 0, none⟩ = some (.string s)) :
    Calls Try.prog 28 #[.slice (some ⟨b, 0, none⟩) 1 1] w fun e w' => e = .returned (.string (hexB 8 (smm s.data.toList))) ∧ Below w.heap.size w w' := by
  have := text_any (some ⟨b, 0, none⟩) 1 [s] w (by simp) (by simpa using hs) (strRow_one w b s h)
  rw [flat_one] at this
  exact this
/-- What is kept behind a step: a cell that was there, and all that was there. -/
theorem keep1 {W w w' : World} {p : Addr} {v : Value} (hp : p.block < W.heap.size) (h : w.cell? p = some v ∧ Below W.heap.size W w) (hb : Below W.heap.size w w') : w'.cell? p = some v ∧ Below W.heap.size W w' :=
  ⟨(hb.cell hp).trans h.1, h.2.trans hb⟩
theorem keepB {W w w' : World} {p : Addr} {v : Value} (hp : p.block < W.heap.size) (h : w.cell? p = some v ∧ Below W.heap.size W w) (hb : Below w.heap.size w w') : w'.cell? p = some v ∧ Below W.heap.size W w' :=
  keep1 hp h (hb.mono h.2.size)
theorem keepA {W w : World} {p : Addr} {v : Value} (hp : p.block < W.heap.size) (h : w.cell? p = some v ∧ Below W.heap.size W w) (o : Obj) : (w.alloc o).cell? p = some v ∧ Below W.heap.size W (w.alloc o) :=
  keepB hp h ((Below.refl _ _).alloc (Nat.le_refl _) o)
theorem held_below {W w : World} {p : Addr} {v : Value} (h : w.cell? p = some v ∧ Below W.heap.size W w) : Below W.heap.size W w := h.2
theorem below_new {W w : World} (h : Below W.heap.size W w) (o : Obj) : Below W.heap.size w (w.alloc o) := (Below.refl _ _).alloc h.size o
theorem below_draw {B : Nat} {w : World} : Below B w w.drew := (Below.refl _ _).drew

end Go.Proofs.Ytidnoeahmnfodaa
