/- Rows of files: what stands in them; sorted, and each once: the plain side. -/
import Derived.Test.YtefknfbmphdafaaGreatSgB
import Derived.Lib.SlicesCompact
import Derived.Shelf.GgSortFunc.RowK
namespace Go.Proofs.YtefknfbmphdafaaGreat
namespace SgM
open Go Go.RowKit CrcM FrM Go.Lib
open Ds (Blk)

def sgE (s : Sg) : List Value := [.int .u8 (s.k.toNat : Nat), .int .i64 s.n]
def sgC (L : List Sg) : List Value := L.flatMap sgE
theorem sgC_nil : sgC [] = [] := rfl
theorem sgC_cons (s : Sg) (L : List Sg) : sgC (s :: L) = .int .u8 (s.k.toNat : Nat) :: .int .i64 s.n :: sgC L := rfl
theorem sgC_app (L M : List Sg) : sgC (L ++ M) = sgC L ++ sgC M := by unfold sgC; rw [List.flatMap_append]
theorem sgC_len (L : List Sg) : (sgC L).length = L.length * 2 := by
  induction L with
  | nil => rfl
  | cons s r ih => rw [sgC_cons, List.length_cons, List.length_cons, ih, List.length_cons]; omega
theorem sgC_get : ∀ (L : List Sg) (i : Nat) (h : i < L.length), (sgC L)[2 * i]? = some (.int .u8 (L[i].k.toNat : Nat)) ∧ (sgC L)[2 * i + 1]? = some (.int .i64 L[i].n)
  | s :: r, 0, _ => ⟨rfl, rfl⟩
  | s :: r, i + 1, h => by
    have := sgC_get r i (by simpa using h)
    rw [sgC_cons, show 2 * (i + 1) = 2 * i + 2 by omega]
    exact this
theorem sgC_one (s : Sg) : ∀ u ∈ sgE s, u.oneCell' = true := by
  intro u hu; unfold sgE at hu; simp at hu; rcases hu with rfl | rfl <;> rfl
theorem flatK_sg (L : List Sg) : Go.Sort.flatK sgE 2 L.toArray = (sgC L).toArray := by
  apply Array.ext_getElem?
  intro t
  by_cases ht : t < L.length * 2
  · have h1 : t < (Go.Sort.flatK sgE 2 L.toArray).size := by simpa using ht
    have h2 : t < (sgC L).toArray.size := by simpa [sgC_len] using ht
    have hd : t / 2 < L.length := by omega
    rw [Array.getElem?_eq_getElem h1, ← getElem!_pos _ t h1, Go.Sort.get_flatK _ _ _ t (by simpa using ht)]
    have e : L.toArray[t / 2]! = L[t / 2] := by rw [getElem!_pos _ _ (by simpa using hd)]; simp
    rw [e]
    obtain ⟨g1, g2⟩ := sgC_get L (t / 2) hd
    have hm : t % 2 = 0 ∨ t % 2 = 1 := by omega
    rw [List.getElem?_toArray]
    rcases hm with h | h
    · rw [show 2 * (t / 2) = t by omega] at g1
      rw [h, g1]; rfl
    · rw [show 2 * (t / 2) + 1 = t by omega] at g2
      rw [h, g2]; rfl
  · rw [Array.getElem?_eq_none (by simp; omega), Array.getElem?_eq_none (by simp [sgC_len]; omega)]

/-! ### sorted, and each once -/
def srtS (L : List Sg) : List Sg := L.mergeSort fun x y => !lt y x
theorem srt_len (L : List Sg) : (srtS L).length = L.length := List.length_mergeSort _
theorem srt_mem {L : List Sg} {x : Sg} : x ∈ srtS L ↔ x ∈ L := by unfold srtS; exact List.mem_mergeSort
theorem le_trans' (a b c : Sg) (h : (!lt b a) = true) (h' : (!lt c b) = true) : (!lt c a) = true := by
  rw [Bool.not_eq_true', lt_no] at h h' ⊢; omega
theorem le_total' (a b : Sg) : ((!lt b a) || (!lt a b)) = true := by
  rw [Bool.or_eq_true, Bool.not_eq_true', Bool.not_eq_true', lt_no, lt_no]; omega
theorem srt_pair (L : List Sg) : (srtS L).Pairwise fun a b => lt b a = false := by
  have := List.pairwise_mergeSort (le := fun x y => !lt y x) le_trans' le_total' L
  exact this.imp fun h => by simpa using h
theorem srt_le {L : List Sg} {i j : Nat} (hi : i < j) (hj : j < (srtS L).length) : lt (srtS L)[j] (srtS L)[i] = false :=
  List.pairwise_iff_getElem.1 (srt_pair L) i j (by omega) hj hi
def unqS (L : List Sg) : List Sg := compactUpTo (srtS L).toArray (srtS L).toArray.size
theorem srt_at (L : List Sg) {i : Nat} (h : i < (srtS L).length) : (srtS L).toArray[i]! = (srtS L)[i] := by rw [getElem!_pos _ _ (by simpa using h)]; simp
theorem unq_up (L : List Sg) : Up (unqS L) := by
  unfold Up unqS compactUpTo
  rw [List.pairwise_map]
  refine List.Pairwise.imp_of_mem ?_ (List.Pairwise.filter _ List.pairwise_lt_range)
  intro i j hi hj hij
  rw [List.mem_filter, List.mem_range] at hi hj
  have hj1 : j < (srtS L).length := by simpa using hj.1
  have hk := hj.2
  unfold keeps at hk
  rw [decide_eq_true_eq] at hk
  have hne : (srtS L).toArray[j]! ≠ (srtS L).toArray[j - 1]! := hk.resolve_left (by omega)
  rw [srt_at L hj1, srt_at L (by omega : j - 1 < (srtS L).length)] at hne
  rw [srt_at L hj1, srt_at L (by omega : i < (srtS L).length)]
  have h1 := srt_le (L := L) (i := j - 1) (j := j) (by omega) hj1
  have h2 : lt (srtS L)[j - 1] (srtS L)[j] = true := (lt_total hne).resolve_left (by rw [h1]; decide)
  by_cases he : i = j - 1
  · subst he; exact h2
  · have h3 := srt_le (L := L) (i := i) (j := j - 1) (by omega) (by omega)
    rw [lt_no] at h3
    rw [lt_iff] at h2 ⊢
    omega
theorem mem_unq {L : List Sg} {x : Sg} : x ∈ unqS L ↔ x ∈ L := by
  unfold unqS compactUpTo
  rw [List.mem_map]
  constructor
  · rintro ⟨j, hj, rfl⟩
    rw [List.mem_filter, List.mem_range] at hj
    have hj1 : j < (srtS L).length := by simpa using hj.1
    rw [srt_at L hj1]
    exact srt_mem.1 (List.getElem_mem _)
  · intro hx
    obtain ⟨j, hj, rfl⟩ := List.mem_iff_getElem.1 (srt_mem.2 hx)
    induction j with
    | zero => exact ⟨0, List.mem_filter.2 ⟨List.mem_range.2 (by simpa using hj), by simp [keeps]⟩, srt_at L hj⟩
    | succ j ih =>
      by_cases hk : keeps (srtS L).toArray (j + 1) = true
      · exact ⟨j + 1, List.mem_filter.2 ⟨List.mem_range.2 (by simpa using hj), hk⟩, srt_at L hj⟩
      · have he : (srtS L)[j + 1] = (srtS L)[j] := by
          unfold keeps at hk
          rw [decide_eq_true_eq] at hk
          have h2 := not_or.1 hk
          have h3 := Classical.not_not.1 h2.2
          rw [srt_at L hj, show j + 1 - 1 = j from rfl, srt_at L (by omega : j < (srtS L).length)] at h3
          exact h3
        rw [he]
        exact ih (by omega) (by rw [← he]; exact hx)
theorem unq_is (L : List Sg) : unqS L = uq L := up_ext (unq_up L) (uq_up L) fun _ => mem_unq.trans mem_uq.symm
end SgM
end Go.Proofs.YtefknfbmphdafaaGreat
