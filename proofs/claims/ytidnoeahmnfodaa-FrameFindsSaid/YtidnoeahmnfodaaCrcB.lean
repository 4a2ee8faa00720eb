/- The walk of Table: the array of all entries; facts on that array in memory. -/
import Derived.Test.YtidnoeahmnfodaaCrcA
import Derived.Deep.WholeRow
import Derived.Laws.CopyOwn
namespace Go.Proofs.Ytidnoeahmnfodaa
open Go.RowKit CrcM

def tabL (k : Nat) : List Value := (List.range 256).map fun i => Value.int .u32 ((if i < k then ent i else 0 : Nat) : Int)
def tab (k : Nat) : Array Value := (tabL k).toArray
theorem tab_size (k : Nat) : (tab k).size = 256 := by simp [tab, tabL]
theorem tab_at (k i : Nat) (hi : i < 256) : (tab k)[i]? = some (.int .u32 ((if i < k then ent i else 0 : Nat) : Int)) := by
  simp [tab, tabL, hi]
theorem tab_set (k : Nat) (hk : k < 256) : (tab k).setIfInBounds k (.int .u32 (ent k)) = tab (k + 1) := by
  apply Array.ext_getElem?
  intro i
  rw [Array.getElem?_setIfInBounds]
  by_cases hi : i < 256
  · by_cases e : k = i
    · subst e
      rw [if_pos rfl, if_pos (by rw [tab_size]; exact hk), tab_at _ _ hi, if_pos (by omega)]
    · rw [if_neg e, tab_at _ _ hi, tab_at _ _ hi]
      by_cases h : i < k
      · rw [if_pos h, if_pos (by omega)]
      · rw [if_neg h, if_neg (by omega)]
  · rw [if_neg (by omega), Array.getElem?_eq_none (by rw [tab_size]; omega), Array.getElem?_eq_none (by rw [tab_size]; omega)]
theorem tab_ones (k : Nat) : (tab k).all (·.oneCell') = true := by
  rw [Array.all_eq_true_iff_forall_mem]
  intro v hv
  simp [tab, tabL] at hv
  obtain ⟨i, _, rfl⟩ := hv
  rfl
theorem zero_tab (w : World) : (zeroValue 76).run Try.prog w = .ok (.agg (tab 0)) w := by kernel_rfl
theorem und_tab : Try.prog.underlying 76 = some (.array 256 68) := by kernel_rfl
theorem info_tab : (Try.prog.info? 76).map (·.size) = some 256 := by kernel_rfl

set_option maxRecDepth 100000 in
set_option maxHeartbeats 400000 in
theorem table_any (w : World) :
    Calls Try.prog 44 #[] w fun e w' => e = .returned (.agg (tab 256)) ∧ Below w.heap.size w w' := by
  have hz := zero_tab
  go_enter Try.func44, Try.ntmps44
  go_wp2
  go_loopw [3] (fun i wr => ∃ k : Nat, k ≤ 256 ∧ i = .int .i64 k ∧ wr.heap[w.heap.size]? = some (.cells (tab 0) 76 (0, 0)) ∧ wr.heap[w.heap.size + 1]? = some (.cells (tab k) 76 (0, 0)) ∧ Below w.heap.size w wr)
    (fun i _ => 256 - (intOf i).toNat)
  case atStart => 
    refine ⟨0, Nat.zero_le _, rfl, heap_alloc2_old _ _ _, heap_alloc2_new _ _ _, ?_⟩
    exact ((Below.refl _ _).alloc (Nat.le_refl _) _).alloc (by simp) _
  case round =>
    obtain ⟨k, hk, rfl, h0, h1, hb⟩ := hrel
    by_cases hlt : k < 256
    · have hcell : wr.cell? ⟨w.heap.size + 1, k, none⟩ = some (.int .u32 0) := by
        rw [cell_of_row _ _ _ _ _ _ h1, tab_at _ _ hlt, if_neg (by omega)]; rfl
      have hfz : wr.frozen? ⟨w.heap.size + 1, k, none⟩ = false := frozen_of_row _ _ _ _ _ h1
      have H0 := Lib.hid h0
      have H1 := Lib.hid h1
      clear h0 h1
      go_wp2_with (go_at_call 48; refine (entry_any _ (by omega) _).mono ?_; rintro e w' ⟨rfl, rfl⟩)
      go_roundw
      case rel =>
        refine ⟨k + 1, by omega, by go_num, ?_, ?_, ?_⟩
        · rw [heap_setCell_other _ _ _ _ (by simp)]; exact H0.out
        · rw [heap_setCell_same _ _ _ _ _ _ H1.out, tab_set _ hlt]
        · exact hb.setCell (by simp) _
      case measure => simp [intOf]; omega
    · obtain rfl : k = 256 := by omega
      have H0 := Lib.hid h0
      have H1 := Lib.hid h1
      clear h0 h1
      go_wp2_with (first
        | refine wpList_load_row rfl _ _ rfl _ rfl _ _ _ _ H1.out und_tab rfl (by rw [info_tab, tab_size]) ?_
        | refine wpList_store_row rfl _ _ _ rfl _ _ rfl rfl _ _ H0.out (by rw [info_tab, tab_size]) (by rw [tab_size, tab_size]) (tab_ones 256) ?_)
      refine bodyPost_ret (results_cell_row rfl _ _ _ _ _ _ _ rfl (setRow_heap _ _ _ _ _ _ H0.out) und_tab rfl (by rw [info_tab, tab_size])) rfl ⟨rfl, ?_⟩
      exact below_setRow hb (Nat.le_refl _) _

/-- The array of all entries, stored into the block that was made last. -/
theorem store_tab (w : World) : (storeCells ⟨w.heap.size, 0, none⟩ (tab 256).toList 0).run Try.prog (w.alloc (.cells (tab 0) 76)) = .ok () (w.alloc (.cells (tab 256) 76)) :=
  run_storeCells_new w _ _ _ (by rw [info_tab, tab_size]) (by rw [tab_size, tab_size]) (tab_ones 256)
end Go.Proofs.Ytidnoeahmnfodaa
