/- The readings of texts, of a file of the log. -/
import Derived.Test.YtefknfbmphdafaaGreatSgP
import Derived.ProofKit
import Derived.OpenShut
import Derived.SliceStrings
import Derived.SizedLaws
import Derived.Deep.Slices
namespace Go.Proofs.YtefknfbmphdafaaGreat
namespace SgM
open Go Go.ChangeShapes Go.WideShapes Go.ChangeAt Go.RowKit CrcM FrM
open Ds (Blk)

set_option maxRecDepth 100000 in
theorem cells_string : Tryz.prog.cellsOf 9 = 1 := by kernel_rfl
def ReadStrs (w : World) (v : Value) : Prop := ∃ F : List ByteArray, StrsAt w v F ∧ (∀ s ∈ F, s.size ≤ maxLen) ∧ F.length ≤ maxLen
set_option maxRecDepth 100000 in
theorem read_strs {H : Type} {enc : TypeId × Value → H} {W : World} {base : Nat} {v : Value} {d : DataW H} {ps : List MemPlace} (hok : Value.okWide Tryz.prog W .any base 22 v)
    (h : DataW.Trod enc Tryz.prog W 0 (fun _ => true) true 22 v d ps) : ReadStrs W v := by
  obtain ⟨a0, len, cap, rfl⟩ := okWide_slice Tryz.underlying22 hok
  obtain ⟨fuel, hf⟩ := h
  rcases open_strings Tryz.underlying22 Tryz.underlying9 cells_string hf with ⟨hcs, hx⟩ | ⟨a, len', cap', ss, hcs, _, hl, hm, hz, hx, hcell, hws⟩
  · simp [Value.cells] at hcs
    obtain ⟨rfl, rfl, rfl⟩ := hcs
    exact ⟨[], ⟨none, 0, rfl, fun h => absurd rfl h⟩, by simp, by simp⟩
  · simp [Value.cells] at hcs
    obtain ⟨rfl, rfl, rfl⟩ := hcs
    simp only [if_true] at hz
    have hlen : (ss.take len).length = len := by simp; omega
    refine ⟨ss.take len, ⟨some a, cap, by rw [hlen], fun hne => ?_⟩, fun s hs => hws s (List.mem_of_mem_take hs), by omega⟩
    have hc : ∀ k (h : k < (ss.take len).length), W.cell? (a.add k) = some (.string (ss.take len)[k]) := by
      intro k hk
      have hj2 : k < ss.length := by omega
      rw [hcell k hj2]
      simp [List.getD, hj2]
    obtain ⟨b, off, spot⟩ := a
    have h0 := hc 0 (List.length_pos_iff.2 hne)
    have hspot : spot = none := by simpa [Addr.add] using World.cell?_spot h0
    subst hspot
    have ea : ∀ j, (⟨b, off, none⟩ : Addr).add j = ⟨b, off + j, none⟩ := fun j => by unfold Addr.add; split <;> simp_all
    refine ⟨b, off, rfl, ?_, fun k hk => ?_⟩
    · rw [ea] at h0; exact block_lt_of_cell h0
    · have := hc k hk
      rw [ea] at this
      exact this
def ReadSeg (v : Value) : Prop := ∃ s : Sg, v = sgV s ∧ In64 s.n
set_option maxRecDepth 100000 in
theorem cells_rg : Tryz.prog.cellsOf 30 = 2 := by kernel_rfl
theorem u8_of' {n : Int} (h : (Lit.int .u8 n).wf = true) : ∃ k : UInt8, n = (k.toNat : Int) := by
  have := bounds_u8 h
  refine ⟨UInt8.ofNat n.toNat, ?_⟩
  rw [UInt8.toNat_ofNat']
  omega
set_option maxRecDepth 100000 in
theorem read_seg {H : Type} {enc : TypeId × Value → H} {W : World} {base : Nat} {v : Value} {d : DataW H} {ps : List MemPlace} (hok : Value.okWide Tryz.prog W .any base 30 v)
    (h : DataW.Trod enc Tryz.prog W 0 (fun _ => true) true 30 v d ps) : ReadSeg v := by
  obtain ⟨v0, v1, y0, y1, n, rfl, _, _, h0, h1⟩ := Joins.open_agg2 Tryz.underlying30 (by kernel_rfl) cells_rg hok h
  obtain ⟨a, ha, _, hw⟩ := DataW.trod_int Tryz.underlying5 h0
  obtain ⟨b, hb, _, hs⟩ := DataW.trod_int Tryz.underlying3 h1
  simp at ha hb
  subst ha hb
  obtain ⟨k, rfl⟩ := u8_of' hw
  exact ⟨⟨k, b⟩, rfl, bounds_i64 hs⟩
end SgM
end Go.Proofs.YtefknfbmphdafaaGreat
