/- Rows that are owned: files each once; names sorted. -/
import Derived.Test.YtefknfbmphdafaaGreatSgD
import Derived.Test.YtefknfbmphdafaaGreatSgE
namespace Go.Proofs.YtefknfbmphdafaaGreat
namespace SgM
open Go Go.RowKit CrcM FrM Go.Lib Go.Sort
open Ds (Blk)

theorem ownsRow_cap {w : World} {base : Nat} {v : Value} {n g cap : Nat} {xs : List Value} {cur : Array Value} {e : TypeId} (hb : base ≤ g) (hg : w.heap[g]? = some (.cells cur e (0, 0))) (hn : n ≤ cap) (hc : cap ≤ maxLen) (size : Nat) (hs : cur.size = cap * size) (hv : v = .slice (some ⟨g, 0, none⟩) n cap) (hx : xs.length = n * size) (ht : cur.toList.take (n * size) = xs) :
    w.ownsRow base e size v n xs := ⟨hx, .inr ⟨g, cap, cur, hv, hb, hg, hn, hc, hs, ht⟩⟩
theorem compact_none (a : Option Addr) (cap : Nat) (w : World) :
    Calls Tryz.prog 33 #[.slice a 0 cap] w fun e w' => e = .returned (.slice a 0 cap) ∧ w = w' := by
  go_enter Tryz.func33, Tryz.ntmps33
  go_wp2
  go_ret
  exact ⟨rfl, rfl⟩
theorem compact_own {L : List Sg} {base : Nat} {v : Value} {w : World} (h : w.ownsRow base 25 2 v L.length (sgC (srtS L))) (hl : L.length ≤ 1000) :
    Calls Tryz.prog 33 #[v] w fun e w' =>
      ∃ v', e = .returned v' ∧ w'.ownsRow base 25 2 v' (uq L).length (sgC (uq L)) ∧ w.grownBy w' v.ownBlock := by
  rcases h.2 with ⟨rfl, hn⟩ | ⟨g, cap, cur, rfl, hb, hg, h2, h3, h4, h5⟩
  · have hL : L = [] := List.length_eq_zero_iff.1 hn
    subst hL
    refine (compact_none none 0 w).mono ?_
    rintro e w' ⟨rfl, rfl⟩
    exact ⟨_, rfl, World.ownsRow_nil _ _ _ _, ⟨rfl, rfl, rfl, Nat.le_refl _, fun _ _ _ => rfl⟩⟩
  · have h0 : RwS w g (srtS L).toArray.toList (cur.toList.drop (L.length * 2)) := by
      unfold RwS
      rw [List.toList_toArray, ← h5, List.take_append_drop, Array.toArray_toList]
      exact hg
    have hc := compact_any (cap := cap) h0 (by simp [srt_len]; omega) (by simp [srt_len]; omega) (by unfold maxLen at h3; omega)
    have hsz : (srtS L).toArray.size = L.length := by simp [srt_len]
    have hu : compactUpTo (srtS L).toArray (srtS L).toArray.size = uq L := unq_is L
    rw [hu, hsz] at hc
    refine hc.mono ?_
    rintro e w' ⟨rfl, R', hr, hrw, hgr⟩
    have hul : (uq L).length ≤ L.length := by
      rw [← hu]
      unfold compactUpTo
      rw [List.length_map, ← hsz]
      exact Nat.le_trans (List.length_filter_le _ _) (by simp)
    have hcl : cur.size = cap * 2 := h4
    refine ⟨_, rfl, ownsRow_cap hb hrw (by omega) h3 2 ?_ rfl (sgC_len _) ?_, hgr⟩
    · have hcl3 : cur.toList.length = cap * 2 := by rw [Array.length_toList]; exact hcl
      rw [List.length_drop] at hr
      rw [List.size_toArray, List.length_append, sgC_len]
      omega
    · rw [← sgC_len]; simp

/-! ### names, sorted -/
def strC (L : List (List UInt8)) : List Value := L.map encStr
def leB (x y : List UInt8) : Bool := decide (x ≤ y)
theorem sort_strs {L : List (List UInt8)} {base : Nat} {v : Value} {w : World} (h : w.ownsRow base 9 1 v L.length (strC L)) (hl : L.length ≤ 1000) :
    Calls Tryz.prog 35 #[v] w fun e w' =>
      e = .returned (.tuple #[]) ∧ w'.ownsRow base 9 1 v L.length (strC (L.mergeSort leB)) ∧ w.grownBy w' v.ownBlock := by
  have h0 := h
  rcases h.2 with ⟨rfl, hn⟩ | ⟨g, cap, cur, rfl, hb, hg, h2, h3, h4, h5⟩
  · have hL : L = [] := List.length_eq_zero_iff.1 hn
    subst hL
    refine (Tryz.slices_Sort_string_none none 0 w).mono ?_
    rintro e w' ⟨rfl, rfl⟩
    rw [show ([] : List (List UInt8)).mergeSort leB = [] by simp]
    exact ⟨rfl, h0, ⟨rfl, rfl, rfl, Nat.le_refl _, fun _ _ _ => rfl⟩⟩
  · have hlt : g < w.heap.size := (Array.getElem?_eq_some_iff.1 hg).1
    have hH : Holds encStr w g 0 L.toArray := by
      intro j hj
      have hj' : j < L.length := by simpa using hj
      rw [Nat.zero_add]
      refine ⟨?_, frozen_of_row _ _ _ _ _ hg⟩
      rw [cell_of_row _ _ _ _ _ _ hg, getElem!_pos _ j hj]
      have := congrArg (fun l => l[j]?) h5
      simp only [List.getElem?_take] at this
      rw [if_pos (by omega)] at this
      have h6 : (strC L)[j]? = some (encStr L[j]) := by unfold strC; simp [hj']
      rw [h6] at this
      simpa using this
    refine (Tryz.slices_Sort_string g 0 cap L w hH hlt (by omega)).mono ?_
    rintro e w' ⟨rfl, n, os, rfl⟩
    have hms : (L.mergeSort fun x y => decide (x ≤ y)) = L.mergeSort leB := rfl
    rw [hms]
    have hblk : (grow (putRow encStr (Go.Sort.ahead w n) g 0 (L.mergeSort leB).toArray) os).heap[g]? = some (.cells (putCells encStr 0 (L.mergeSort leB).toArray cur) 9 (0, 0)) := by
      unfold grow putRow mapBlock
      simp only []
      rw [Array.getElem?_append_left (by simpa using hlt), Array.getElem?_modify, if_pos rfl]
      show Option.map _ w.heap[g]? = _
      rw [hg]; rfl
    refine ⟨rfl, ownsRow_cap hb hblk h2 h3 1 (by simp [putCells, h4]) rfl ?_ ?_, ?_⟩
    · unfold strC; simp
    · apply List.ext_getElem?
      intro j
      rw [List.getElem?_take]
      by_cases hj : j < L.length * 1
      · rw [if_pos hj]
        have hc : j < cur.size := by omega
        have hj' : j < L.length := by omega
        simp [putCells, hc, hj', strC]
      · rw [if_neg hj, List.getElem?_eq_none (by simp [strC]; omega)]
    · refine ⟨rfl, rfl, rfl, ?_, ?_⟩
      · unfold grow putRow mapBlock; simp
      · intro k hk hne
        have hne' : g ≠ k := fun e => hne (by rw [← e]; rfl)
        unfold grow putRow mapBlock
        simp only []
        rw [Array.getElem?_append_left (by simpa using hk), Array.getElem?_modify, if_neg hne']
        rfl
end SgM
end Go.Proofs.YtefknfbmphdafaaGreat
