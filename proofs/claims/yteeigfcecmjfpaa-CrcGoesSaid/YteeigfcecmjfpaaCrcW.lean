/- What the six statements of layer 3 ask of their walks, in the form in which arguments are read. -/
import Derived.Test.YteeigfcecmjfpaaCrcH
import Derived.ProofKit
import Derived.OpenShut
import Derived.SliceStrings
namespace Go.Proofs.Yteeigfcecmjfpaa
open Go.ChangeShapes Go.WideShapes Go.ChangeAt Go.RowKit CrcM

theorem u8_nat {a : Int} (h : (Lit.int .u8 a).wf = true) : ∃ c : Nat, a = c ∧ c < 256 := by
  have := bounds_u8 h
  exact ⟨a.toNat, by omega, by omega⟩
theorem u32_nat {a : Int} (h : (Lit.int .u32 a).wf = true) : ∃ c : Nat, a = c ∧ c < 4294967296 := by
  have := bounds_u32 h
  exact ⟨a.toNat, by omega, by omega⟩

theorem walk_CrcTable (w : World) (a0 : Int) (w0 : (Lit.int .u8 a0).wf = true) :
    Calls Try.prog 3 #[.int .u8 a0] w fun e w' => e = .returned (.bool true) ∧ Below w.heap.size w w' := by
  obtain ⟨c, rfl, hc⟩ := u8_nat w0
  exact law_table c hc w
theorem walk_CrcSteps (w : World) (a0 : Int) (w0 : (Lit.int .u32 a0).wf = true) (a1 : Int) (w1 : (Lit.int .u8 a1).wf = true) :
    Calls Try.prog 4 #[.int .u32 a0, .int .u8 a1] w fun e w' => e = .returned (.bool true) ∧ Below w.heap.size w w' := by
  obtain ⟨s, rfl, hs⟩ := u32_nat w0
  obtain ⟨c, rfl, hc⟩ := u8_nat w1
  exact law_steps s c hs hc w
theorem walk_CrcSums (w : World) (a0 : ByteArray) (w0 : a0.size ≤ maxLen) :
    Calls Try.prog 5 #[.string a0] w fun e w' => e = .returned (.bool true) ∧ Below w.heap.size w w' :=
  law_sums a0 w0 w
theorem walk_CrcGoes (w : World) (a0 : ByteArray) (w0 : a0.size ≤ maxLen) (a1 : Int) (w1 : (Lit.int .u8 a1).wf = true) :
    Calls Try.prog 7 #[.string a0, .int .u8 a1] w fun e w' => e = .returned (.bool true) ∧ Below w.heap.size w w' := by
  obtain ⟨c, rfl, hc⟩ := u8_nat w1
  exact law_goes a0 c w0 hc w
theorem walk_CrcLinear (w : World) (a0 : Int) (w0 : (Lit.int .u8 a0).wf = true) (a1 : Int) (w1 : (Lit.int .u8 a1).wf = true) :
    Calls Try.prog 8 #[.int .u8 a0, .int .u8 a1] w fun e w' => e = .returned (.bool true) ∧ Below w.heap.size w w' := by
  obtain ⟨a, rfl, ha⟩ := u8_nat w0
  obtain ⟨c, rfl, hc⟩ := u8_nat w1
  exact law_linear a c ha hc w

/-- A slice of texts, as a reading gives it. -/
def ReadStrs (w : World) (v : Value) : Prop :=
  ∃ (a : Option Addr) (cap : Nat) (l : List ByteArray), v = .slice a l.length cap ∧ l.length ≤ 9223372036854775807 ∧ (∀ s, s ∈ l → s.size ≤ 9223372036854775807) ∧ (a = none → cap = 0) ∧
    ∀ j (h : j < l.length), ∃ d, a = some d ∧ w.cell? (d.add j) = some (.string l[j])
theorem cells_string : Try.prog.cellsOf 9 = 1 := by kernel_rfl
theorem read_strs {H : Type} {enc : TypeId × Value → H} {W : World} {base : Nat} {v : Value} {d : DataW H} {ps : List MemPlace} (hok : Value.okWide Try.prog W .any base 36 v)
    (h : DataW.Trod enc Try.prog W 0 (fun _ => true) true 36 v d ps) : ReadStrs W v := by
  obtain ⟨a0, len, cap, rfl⟩ := okWide_slice Try.underlying36 hok
  obtain ⟨fuel, hf⟩ := h
  rcases open_strings Try.underlying36 Try.underlying9 cells_string hf with ⟨hcs, hx⟩ | ⟨a, len', cap', ss, hcs, _, hl, hm, hz, hx, hcell, hws⟩
  · simp [Value.cells] at hcs
    obtain ⟨rfl, rfl, rfl⟩ := hcs
    exact ⟨none, 0, [], rfl, by simp, by simp, fun _ => rfl, fun j h => by simp at h⟩
  · simp [Value.cells] at hcs
    obtain ⟨rfl, rfl, rfl⟩ := hcs
    simp only [if_true] at hz
    have hlen : (ss.take len).length = len := by simp; omega
    unfold maxLen at hm hws
    refine ⟨some a, cap, ss.take len, by rw [hlen], by omega, fun s hs => hws s (List.mem_of_mem_take hs), (fun h => by cases h), fun j hj => ⟨a, rfl, ?_⟩⟩
    have hj2 : j < ss.length := by omega
    rw [hcell j hj2]
    simp [List.getD, hj2]
theorem strRow_of (w : World) (a : Option Addr) (l : List ByteArray) (h : ∀ j (h : j < l.length), ∃ d, a = some d ∧ w.cell? (d.add j) = some (.string l[j])) : StrRow w a l := by
  intro j hj
  obtain ⟨d, rfl, hc⟩ := h j hj
  obtain ⟨d0, he, hc0⟩ := h 0 (by omega)
  obtain rfl : d = d0 := by simpa using he
  obtain ⟨b, off, spot⟩ := d
  have hspot : spot = none := by simpa [Addr.add] using World.cell?_spot hc0
  subst hspot
  refine ⟨b, off, rfl, ?_⟩
  rw [← hc]
  unfold Addr.add
  split <;> simp_all
theorem walk_CrcParts (W : World) (v : Value) (h : ReadStrs W v) :
    Calls Try.prog 6 #[v] W fun e w' => e = .returned (.bool true) ∧ Below W.heap.size W w' := by
  obtain ⟨a, cap, l, rfl, hl, hs, hn, hc⟩ := h
  exact law_parts a cap l W hl hs (strRow_of W a l hc) hn
end Go.Proofs.Yteeigfcecmjfpaa
