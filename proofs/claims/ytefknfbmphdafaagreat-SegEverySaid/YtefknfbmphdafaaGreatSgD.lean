/- Files are sorted: slices.SortFunc at the log's files, in the words of rows that are owned. -/
import Derived.Test.YtefknfbmphdafaaGreatSgC
import Derived.Test.YtefknfbmphdafaaGreatSrt
namespace Go.Proofs.YtefknfbmphdafaaGreat
namespace SgM
open Go Go.RowKit CrcM FrM Go.Lib Go.Sort
open Ds (Blk)

theorem lt_of (x y : Sg) : ltOf cmpS x y = lt x y := by
  unfold ltOf cmpS
  by_cases h1 : lt x y = true
  · rw [if_pos h1, h1]; rfl
  · rw [if_neg h1]
    have h1' : lt x y = false := by simpa using h1
    rw [h1']
    by_cases h2 : lt y x = true
    · rw [if_pos h2]; rfl
    · rw [if_neg h2]; rfl
theorem swo_lt : SWO (ltOf cmpS) where
  irrefl x := by rw [lt_of]; exact lt_irr x
  trans x y z h1 h2 := by rw [lt_of] at *; exact lt_trans h1 h2
  ntrans x y z h1 h2 := by rw [lt_of, lt_no] at *; omega
theorem cmp_lays (blk off size : Nat) (w : World) : CmpLays Tryz.prog 31 #[] sgE 2 cmpS blk off size w := fun _ _ _ _ x y => cmp_any x y _
theorem holds_own {w : World} {base g cap : Nat} {L : List Sg} (h : w.ownsRow base 25 2 (.slice (some ⟨g, 0, none⟩) L.length cap) L.length (sgC L)) : HoldsK sgE 2 w g 0 L.toArray := by
  intro j hj
  rw [flatK_sg] at hj ⊢
  have hj' : j < (sgC L).length := by simpa using hj
  rcases h.2 with ⟨h1, _⟩ | ⟨g', cap', cur, h1, hb, hg, h2, h3, h4, h5⟩
  · cases h1
  · injection h1 with h1 _ h1'
    injection h1 with h1
    injection h1 with h1 _ _
    subst h1
    rw [Nat.zero_add]
    refine ⟨?_, frozen_of_row _ _ _ _ _ hg⟩
    rw [cell_of_row _ _ _ _ _ _ hg, getElem!_pos _ j hj]
    have := congrArg (fun l => l[j]?) h5
    simp only [List.getElem?_take] at this
    rw [if_pos (by rw [← sgC_len]; exact hj'), List.getElem?_eq_getElem hj'] at this
    simpa using this
theorem put_take (F cur : Array Value) (h : F.size ≤ cur.size) : (putCells id 0 F cur).toList.take F.size = F.toList := by
  apply List.ext_getElem?
  intro j
  rw [List.getElem?_take]
  by_cases hj : j < F.size
  · rw [if_pos hj]
    have hc : j < cur.size := by omega
    simp [putCells, hj, hc]
  · rw [if_neg hj, List.getElem?_eq_none (by simpa using hj)]
theorem sort_any {L : List Sg} {base : Nat} {v : Value} {w : World} (h : w.ownsRow base 25 2 v L.length (sgC L)) (hl : L.length ≤ 1000) :
    Calls Tryz.prog 32 #[v, .func (.func 31) #[] #[]] w fun e w' =>
      e = .returned (.tuple #[]) ∧ w'.ownsRow base 25 2 v L.length (sgC (srtS L)) ∧ w.grownBy w' v.ownBlock := by
  have h0 := h
  rcases h.2 with ⟨rfl, hn⟩ | ⟨g, cap, cur, rfl, hb, hg, h2, h3, h4, h5⟩
  · have hL : L = [] := List.length_eq_zero_iff.1 hn
    subst hL
    refine (AnyF.slices_SortFunc_none { Tryz.sortf with } none 0 _ w).mono ?_
    rintro e w' ⟨rfl, rfl⟩
    have e0 : srtS [] = [] := by unfold srtS; simp
    rw [e0]
    exact ⟨rfl, h0, ⟨rfl, rfl, rfl, Nat.le_refl _, fun _ _ _ => rfl⟩⟩
  · have hH := holds_own h0
    have hlt : g < w.heap.size := (Array.getElem?_eq_some_iff.1 hg).1
    have eg : ∀ args w, (callFunc 31 args).run Tryz.prog w = .ok (.enter 31 args) w := enters_of Tryz.func31 (by kernel_rfl) rfl
    have hcon := AnyQ.slices_SortFunc_total Tryz.sortf 2 Tryz.isAgg25 Tryz.sizeOf25 sgE (fun _ => rfl) sgC_one cmpS swo_lt 31 #[] g 0 cap L.toArray w eg (cmp_lays g 0 _ w) hH hlt (by simp; omega)
      (fun x y h1 h2 => by
        rw [lt_of] at h1 h2
        exact Classical.byContradiction fun hne => by rcases lt_total hne with h | h <;> simp [h] at h1 h2)
    refine hcon.mono ?_
    rintro e w' ⟨rfl, n, os, rfl⟩
    have hs : (L.toArray.toList.mergeSort fun x y => !(ltOf cmpS) y x) = srtS L := by
      unfold srtS
      congr 1
      funext x y
      rw [lt_of]
    rw [hs]
    have hblk : (sortWorldK sgE 2 w g 0 n (srtS L).toArray os).heap[g]? = some (.cells (putCells id 0 (sgC (srtS L)).toArray cur) 25 (0, 0)) := by
      unfold sortWorldK putRowK
      rw [flatK_sg]
      unfold grow putRow mapBlock
      simp only []
      rw [Array.getElem?_append_left (by simpa using hlt), Array.getElem?_modify, if_pos rfl]
      show Option.map _ w.heap[g]? = _
      rw [hg]; rfl
    refine ⟨rfl, ⟨by rw [sgC_len, srt_len], .inr ⟨g, cap, _, rfl, hb, hblk, h2, h3, by simp [putCells, h4], ?_⟩⟩, ?_⟩
    · have := put_take (sgC (srtS L)).toArray cur (by simp [sgC_len, srt_len]; omega)
      simpa [sgC_len, srt_len] using this
    · refine ⟨rfl, rfl, rfl, ?_, ?_⟩
      · unfold sortWorldK grow putRowK putRow mapBlock; simp
      · intro k hk hne
        have hne' : g ≠ k := fun e => hne (by rw [← e]; rfl)
        unfold sortWorldK putRowK grow putRow mapBlock
        simp only []
        rw [Array.getElem?_append_left (by simpa using hk), Array.getElem?_modify, if_neg hne']
        rfl
end SgM
end Go.Proofs.YtefknfbmphdafaaGreat
