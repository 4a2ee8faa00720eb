/- Rows of frames; the walks of Scan. -/
import Derived.Test.YtidnoeahmnfodaaFrH
import Derived.WalkKit
import Derived.Lib.SmallJoins
namespace Go.Proofs.Ytidnoeahmnfodaa
open Go.RowKit CrcM FrM

abbrev Fr := UInt8 × ByteArray
def frC (l : List Fr) : List Value := l.flatMap fun f => [.int .u8 (f.1.toNat : Int), .string f.2]
theorem frC_len (l : List Fr) : (frC l).length = l.length * 2 := by
  induction l with
  | nil => rfl
  | cons a r ih => unfold frC at *; rw [List.flatMap_cons, List.length_append, ih]; simp; omega
theorem frC_snoc (l : List Fr) (f : Fr) : frC (l ++ [f]) = frC l ++ [.int .u8 (f.1.toNat : Int), .string f.2] := by simp [frC]
def frAt (s : ByteArray) (a : Nat) : Fr := (nxK (s.extract a s.size).data.toList, nxBb (s.extract a s.size))
def errAt (s : ByteArray) (a : Nat) : Nat := nxE (s.extract a s.size).data.toList
def lenAt (s : ByteArray) (a : Nat) : Nat := nxN (s.extract a s.size).data.toList
/-- Frame behind frame. -/
def st (s : ByteArray) : Nat → Nat × List Fr
  | 0 => (0, [])
  | k + 1 => ((st s k).1 + lenAt s (st s k).1, (st s k).2 ++ [frAt s (st s k).1])
structure StepTo (s : ByteArray) (k A : Nat) (l : List Fr) : Prop where
  at_ : A = (st s k).1
  list : l = (st s k).2
  all : ∀ j, j < k → errAt s (st s j).1 = 0
  le : A ≤ s.size
  count : l.length * 14 ≤ A
theorem nx_fits (t : List UInt8) (h : nxE t = 0) : 14 ≤ nxN t ∧ nxN t ≤ t.length := by
  unfold nxN
  rw [if_pos h]
  refine ⟨by omega, ?_⟩
  unfold nxE at h
  split at h
  · omega
  · split at h
    · omega
    · split at h
      · omega
      · rename_i h1 _ h3
        have a := (sc_zero head 0 6 t (by omega)).1
        have b := (sc_zero (body (len4 t)) 6 (len4 t + 8) (t.drop 6) (by omega)).1
        rw [List.length_drop] at b
        omega
theorem lenAt_fits (s : ByteArray) (a : Nat) (ha : a ≤ s.size) (h : errAt s a = 0) : 14 ≤ lenAt s a ∧ a + lenAt s a ≤ s.size := by
  have := nx_fits _ h
  rw [← size_list, extract_size, Nat.min_self] at this
  unfold lenAt
  omega
theorem StepTo.zero (s : ByteArray) : StepTo s 0 0 [] := ⟨rfl, rfl, fun _ h => absurd h (Nat.not_lt_zero _), Nat.zero_le _, Nat.zero_le _⟩
theorem StepTo.next {s : ByteArray} {k A : Nat} {l : List Fr} (h : StepTo s k A l) (he : errAt s A = 0) : StepTo s (k + 1) (A + lenAt s A) (l ++ [frAt s A]) := by
  obtain ⟨rfl, rfl, h3, h4, h5⟩ := h
  have := lenAt_fits s _ h4 he
  refine ⟨rfl, rfl, fun j hj => ?_, by omega, by rw [List.length_append, List.length_singleton]; omega⟩
  rcases (show j < k ∨ j = k by omega) with h | rfl
  · exact h3 j h
  · exact he
/-- Where it ends there is but one way. -/
theorem StepTo.unique {s : ByteArray} {k A k' A' : Nat} {l l' : List Fr} (h : StepTo s k A l) (hs : errAt s A ≠ 0) (h' : StepTo s k' A' l') (hs' : errAt s A' ≠ 0) : A = A' ∧ l = l' := by
  obtain ⟨rfl, rfl, h3, _, _⟩ := h
  obtain ⟨rfl, rfl, h3', _, _⟩ := h'
  rcases Nat.lt_trichotomy k k' with h | rfl | h
  · exact absurd (h3' k h) hs
  · exact ⟨rfl, rfl⟩
  · exact absurd (h3 k' h) hs'

theorem ownsRow_below' {B : Nat} {e : TypeId} {k : Nat} {v : Value} {n : Nat} {xs : List Value} {w w' : World} (h : w.ownsRow B e k v n xs) (hb : Below w.heap.size w w') : w'.ownsRow B e k v n xs := by
  refine ⟨h.1, ?_⟩
  rcases h.2 with h2 | ⟨g, cap, cur, h1, h2, h3, h4⟩
  · exact Or.inl h2
  · refine Or.inr ⟨g, cap, cur, h1, h2, ?_, h4⟩
    have hlt : g < w.heap.size := by
      by_cases hlt : g < w.heap.size
      · exact hlt
      · rw [Array.getElem?_eq_none (by omega)] at h3; cases h3
    rw [hb.block _ hlt]
    exact h3
def ScanPost (T : TypeId) (s : ByteArray) (w : World) (e : Ending) (w' : World) : Prop :=
  ∃ v k A l, StepTo s k A l ∧ errAt s A ≠ 0 ∧ e = .returned (.tuple #[v, .int .i64 A]) ∧ w'.ownsRow w.heap.size T 2 v l.length (frC l) ∧ Below w.heap.size w w'
theorem info_frameRow : (Try.prog.info? 28).map (fun i => (i.zero, i.size, i.bytes)) = some (some (.agg #[.int .u8 0, .string ⟨#[]⟩]), 2, 24) := by kernel_rfl
theorem info_frame04Row : (Try.prog.info? 23).map (fun i => (i.zero, i.size, i.bytes)) = some (some (.agg #[.int .u8 0, .string ⟨#[]⟩]), 2, 24) := by kernel_rfl

theorem new_two (W : World) (T : TypeId) (a b : Value) (g : Nat) (hg : g = W.heap.size) : ∀ (j : Nat) (u : Value), [a, b][j]? = some u → (W.alloc (.cells #[a, b] T)).cell? ((⟨g, 0, none⟩ : Addr).add j) = some u := by
  subst hg
  intro j u h
  match j with
  | 0 => simp at h; subst h; simp [Addr.add]
  | 1 => simp at h; subst h; simp [Addr.add]
  | j + 2 => simp at h
theorem one_two (K : UInt8) (D : ByteArray) : ∀ u ∈ [Value.int .u8 (K.toNat : Int), .string D], u.oneCell' = true := by
  intro u hu
  simp at hu
  rcases hu with rfl | rfl <;> rfl
theorem below_append {w wr w1 w' : World} {T : TypeId} {size n : Nat} {v : Value} {xs : List Value} {o o2 : Obj} (h : Below w.heap.size w wr) (h1 : Below wr.heap.size wr w1) (ho : wr.ownsRow w.heap.size T size v n xs)
    (hg : ((w1.alloc o).alloc o2).grownBy w' v.ownBlock) : Below w.heap.size w w' := by
  have hs := h.size
  have hs1 := h1.size
  refine Below.grown (((keepW h h1).alloc (by omega) _).alloc (by simp; omega) _) hg (by simp; omega) (fun k hk => (ho.lt k hk).1)

set_option maxRecDepth 100000 in
set_option maxHeartbeats 1000000 in
theorem scan_any (s : ByteArray) (w : World) (hs : s.size ≤ 1000000) :
    Calls Try.prog 16 #[.string s] w (ScanPost 28 s w) := by
  obtain ⟨i0, hi, hz0, hz1, hz2⟩ := info_parts info_frameRow
  go_enter Try.func16, Try.ntmps16
  go_wp2
  go_loopw [4, 5] (fun v i wr => ∃ k A l, StepTo s k A l ∧ i = .int .i64 (A : Nat) ∧ wr.ownsRow w.heap.size 28 2 v l.length (frC l) ∧ Below w.heap.size w wr) (fun _ i _ => s.size + 1 - (intOf i).toNat)
  case atStart => exact ⟨0, 0, [], StepTo.zero s, rfl, World.ownsRow_nil _ _ _ _, Below.refl _ _⟩
  case round =>
    obtain ⟨k, A, l, hst, rfl, hown, hbw⟩ := hrel
    have hA := hst.le
    have hl := hst.count
    have NA := next_any (s.extract A s.size)
    unfold NextPost frV at NA
    have hE : nxE (s.extract A s.size).data.toList = errAt s A := rfl
    have hN : nxN (s.extract A s.size).data.toList = lenAt s A := rfl
    have hK : nxK (s.extract A s.size).data.toList = (frAt s A).1 := rfl
    have hB : nxBb (s.extract A s.size) = (frAt s A).2 := rfl
    rw [hE, hN, hK, hB] at NA
    clear hE hN hK hB
    have hxs : (s.extract A s.size).size ≤ 9223372036854775807 := by rw [extract_size]; omega
    by_cases he : errAt s A = 0
    · have hf := lenAt_fits s A hA he
      have hst' := Lib.hid (hst.next he)
      rw [he] at NA
      clear he hst
      replace NA := Lib.hid NA
      generalize frAt s A = F at *
      generalize lenAt s A = N at *
      obtain ⟨K, D⟩ := F
      go_wp2_with (first | (go_at_call 14; refine (NA.out _ hxs).mono ?_; rintro e w1 ⟨rfl, hb1⟩; have hown1 := ownsRow_below' hown hb1; have hsz1 := hb1.size) | (at_builtin; refine wpList_append_own _ rfl _ _ 36 rfl w.heap.size 28 i0 (.agg #[.int .u8 0, .string ⟨#[]⟩]) 2 24 Try.underlying36 hi hz0 hz1 hz2 rfl (by decide) _ _ _ rfl ((hown1.alloc _).alloc _) ⟨w1.heap.size + 1, 0, none⟩ 1 1 [.int .u8 K.toNat, .string D] rfl rfl (new_two (w1.alloc _) _ _ _ _ (by simp)) (one_two K D) (by unfold maxLen; omega) (by omega) (by have := hbw.size; simp; omega) ?_; intro v' w' hown' hgrow _; have hbw' := below_append hbw hb1 hown hgrow; clear hgrow))
      go_roundw
      case rel => exact ⟨k + 1, _, _, hst'.out, by go_num, by rw [List.length_append, frC_snoc]; exact hown', hbw'⟩
      case measure => simp [intOf]; omega
    · have hne : ((errAt s A : Int) != 0) = true := by rw [bne_iff_ne]; omega
      replace hst := Lib.hid hst
      have HE := Lib.hid he
      clear he
      generalize errAt s A = E at NA hne
      generalize frAt s A = F at NA
      generalize lenAt s A = N at NA
      replace NA := Lib.hid NA
      go_wp2_with (go_at_call 14; refine (NA.out _ hxs).mono ?_; rintro e w1 ⟨rfl, hb1⟩)
      go_ret2
      exact ⟨_, k, A, l, hst.out, HE.out, rfl, (ownsRow_below' hown hb1).alloc _, (keepW hbw hb1).alloc (by have := hbw.size; have := hb1.size; omega) _⟩
set_option maxRecDepth 100000 in
set_option maxHeartbeats 1000000 in
theorem scan04_any (s : ByteArray) (w : World) (hs : s.size ≤ 1000000) :
    Calls Try.prog 17 #[.string s] w (ScanPost 23 s w) := by
  obtain ⟨i0, hi, hz0, hz1, hz2⟩ := info_parts info_frame04Row
  go_enter Try.func17, Try.ntmps17
  go_wp2
  go_loopw [4, 5] (fun v i wr => ∃ k A l, StepTo s k A l ∧ i = .int .i64 (A : Nat) ∧ wr.ownsRow w.heap.size 23 2 v l.length (frC l) ∧ Below w.heap.size w wr) (fun _ i _ => s.size + 1 - (intOf i).toNat)
  case atStart => exact ⟨0, 0, [], StepTo.zero s, rfl, World.ownsRow_nil _ _ _ _, Below.refl _ _⟩
  case round =>
    obtain ⟨k, A, l, hst, rfl, hown, hbw⟩ := hrel
    have hA := hst.le
    have hl := hst.count
    have NA := next04_any (s.extract A s.size)
    unfold NextPost frV at NA
    have hE : nxE (s.extract A s.size).data.toList = errAt s A := rfl
    have hN : nxN (s.extract A s.size).data.toList = lenAt s A := rfl
    have hK : nxK (s.extract A s.size).data.toList = (frAt s A).1 := rfl
    have hB : nxBb (s.extract A s.size) = (frAt s A).2 := rfl
    rw [hE, hN, hK, hB] at NA
    clear hE hN hK hB
    have hxs : (s.extract A s.size).size ≤ 9223372036854775807 := by rw [extract_size]; omega
    by_cases he : errAt s A = 0
    · have hf := lenAt_fits s A hA he
      have hst' := Lib.hid (hst.next he)
      rw [he] at NA
      clear he hst
      replace NA := Lib.hid NA
      generalize frAt s A = F at *
      generalize lenAt s A = N at *
      obtain ⟨K, D⟩ := F
      go_wp2_with (first | (go_at_call 15; refine (NA.out _ hxs).mono ?_; rintro e w1 ⟨rfl, hb1⟩; have hown1 := ownsRow_below' hown hb1; have hsz1 := hb1.size) | (at_builtin; refine wpList_append_own _ rfl _ _ 39 rfl w.heap.size 23 i0 (.agg #[.int .u8 0, .string ⟨#[]⟩]) 2 24 Try.underlying39 hi hz0 hz1 hz2 rfl (by decide) _ _ _ rfl ((hown1.alloc _).alloc _) ⟨w1.heap.size + 1, 0, none⟩ 1 1 [.int .u8 K.toNat, .string D] rfl rfl (new_two (w1.alloc _) _ _ _ _ (by simp)) (one_two K D) (by unfold maxLen; omega) (by omega) (by have := hbw.size; simp; omega) ?_; intro v' w' hown' hgrow _; have hbw' := below_append hbw hb1 hown hgrow; clear hgrow))
      go_roundw
      case rel => exact ⟨k + 1, _, _, hst'.out, by go_num, by rw [List.length_append, frC_snoc]; exact hown', hbw'⟩
      case measure => simp [intOf]; omega
    · have hne : ((errAt s A : Int) != 0) = true := by rw [bne_iff_ne]; omega
      replace hst := Lib.hid hst
      have HE := Lib.hid he
      clear he
      generalize errAt s A = E at NA hne
      generalize frAt s A = F at NA
      generalize lenAt s A = N at NA
      replace NA := Lib.hid NA
      go_wp2_with (go_at_call 15; refine (NA.out _ hxs).mono ?_; rintro e w1 ⟨rfl, hb1⟩)
      go_ret2
      exact ⟨_, k, A, l, hst.out, HE.out, rfl, (ownsRow_below' hown hb1).alloc _, (keepW hbw hb1).alloc (by have := hbw.size; have := hb1.size; omega) _⟩
def fnd (s : ByteArray) : Nat → List Fr
  | 0 => []
  | k + 1 => if errAt s k = 0 then fnd s k ++ [frAt s k] else fnd s k
theorem fnd_le (s : ByteArray) (k : Nat) : (fnd s k).length ≤ k := by
  induction k with
  | zero => exact Nat.le_refl _
  | succ k ih =>
    unfold fnd
    split
    · rw [List.length_append, List.length_singleton]; omega
    · omega
def FindPost (T : TypeId) (s : ByteArray) (w : World) (e : Ending) (w' : World) : Prop :=
  ∃ v, e = .returned v ∧ w'.ownsRow w.heap.size T 2 v (fnd s s.size).length (frC (fnd s s.size)) ∧ Below w.heap.size w w'

set_option maxRecDepth 100000 in
set_option maxHeartbeats 1000000 in
theorem find_any (s : ByteArray) (w : World) (hs : s.size ≤ 1000000) :
    Calls Try.prog 20 #[.string s] w (FindPost 28 s w) := by
  obtain ⟨i0, hi, hz0, hz1, hz2⟩ := info_parts info_frameRow
  go_enter Try.func20, Try.ntmps20
  go_wp2
  go_loopw [3, 10] (fun v i wr => ∃ k, k ≤ s.size ∧ i = .int .i64 (k : Nat) ∧ wr.ownsRow w.heap.size 28 2 v (fnd s k).length (frC (fnd s k)) ∧ Below w.heap.size w wr) (fun _ i _ => s.size - (intOf i).toNat)
  case atStart => exact ⟨0, Nat.zero_le _, rfl, World.ownsRow_nil _ _ _ _, Below.refl _ _⟩
  case round =>
    obtain ⟨k, hk, rfl, hown, hbw⟩ := hrel
    have hl := fnd_le s k
    by_cases hlt : k < s.size
    · have NA := next_any (s.extract k s.size)
      unfold NextPost frV at NA
      have hE : nxE (s.extract k s.size).data.toList = errAt s k := rfl
      have hK : nxK (s.extract k s.size).data.toList = (frAt s k).1 := rfl
      have hB : nxBb (s.extract k s.size) = (frAt s k).2 := rfl
      rw [hE, hK, hB] at NA
      clear hE hK hB
      have hxs : (s.extract k s.size).size ≤ 9223372036854775807 := by rw [extract_size]; omega
      by_cases he : errAt s k = 0
      · have hfn : fnd s (k + 1) = fnd s k ++ [frAt s k] := by show (if errAt s k = 0 then _ else _) = _; rw [if_pos he]
        rw [he] at NA
        clear he
        replace NA := Lib.hid NA
        generalize frAt s k = F at *
        generalize nxN (s.extract k s.size).data.toList = N at *
        obtain ⟨K, D⟩ := F
        have HF := Lib.hid hfn
        clear hfn
        go_wp2_with (first | (go_at_call 14; refine (NA.out _ hxs).mono ?_; rintro e w1 ⟨rfl, hb1⟩; have hown1 := ownsRow_below' hown hb1; have hsz1 := hb1.size) | (at_builtin; refine wpList_append_own _ rfl _ _ 36 rfl w.heap.size 28 i0 (.agg #[.int .u8 0, .string ⟨#[]⟩]) 2 24 Try.underlying36 hi hz0 hz1 hz2 rfl (by decide) _ _ _ rfl ((hown1.alloc _).alloc _) ⟨w1.heap.size + 1, 0, none⟩ 1 1 [.int .u8 K.toNat, .string D] rfl rfl (new_two (w1.alloc _) _ _ _ _ (by simp)) (one_two K D) (by unfold maxLen; omega) (by omega) (by have := hbw.size; simp; omega) ?_; intro v' w' hown' hgrow _; have hbw' := below_append hbw hb1 hown hgrow; clear hgrow))
        go_roundw
        case rel => exact ⟨k + 1, by omega, by go_num, by rw [HF.out, List.length_append, frC_snoc]; exact hown', hbw'⟩
        case measure => simp [intOf]; omega
      · have hfn : fnd s (k + 1) = fnd s k := by show (if errAt s k = 0 then _ else _) = _; rw [if_neg he]
        have hne : ((errAt s k : Int) == 0) = false := by rw [beq_eq_false_iff_ne]; omega
        clear he
        generalize errAt s k = E at NA hne
        generalize frAt s k = F at NA
        generalize nxN (s.extract k s.size).data.toList = N at NA
        replace NA := Lib.hid NA
        have HF := Lib.hid hfn
        clear hfn
        go_wp2_with (go_at_call 14; refine (NA.out _ hxs).mono ?_; rintro e w1 ⟨rfl, hb1⟩; have hown1 := ownsRow_below' hown hb1)
        go_roundw
        case rel => exact ⟨k + 1, by omega, by go_num, by rw [HF.out]; exact hown1.alloc _, (keepW hbw hb1).alloc (by have := hbw.size; have := hb1.size; omega) _⟩
        case measure => simp [intOf]; omega
    · obtain rfl : k = s.size := by omega
      go_wp2
      go_ret
      exact ⟨_, rfl, hown, hbw⟩

set_option maxRecDepth 100000 in
set_option maxHeartbeats 1000000 in
theorem find04_any (s : ByteArray) (w : World) (hs : s.size ≤ 1000000) :
    Calls Try.prog 21 #[.string s] w (FindPost 23 s w) := by
  obtain ⟨i0, hi, hz0, hz1, hz2⟩ := info_parts info_frame04Row
  go_enter Try.func21, Try.ntmps21
  go_wp2
  go_loopw [3, 4] (fun v i wr => ∃ k, k ≤ s.size ∧ i = .int .i64 (k : Nat) ∧ wr.ownsRow w.heap.size 23 2 v (fnd s k).length (frC (fnd s k)) ∧ Below w.heap.size w wr) (fun _ i _ => s.size - (intOf i).toNat)
  case atStart => exact ⟨0, Nat.zero_le _, rfl, World.ownsRow_nil _ _ _ _, Below.refl _ _⟩
  case round =>
    obtain ⟨k, hk, rfl, hown, hbw⟩ := hrel
    have hl := fnd_le s k
    by_cases hlt : k < s.size
    · have NA := next04_any (s.extract k s.size)
      unfold NextPost frV at NA
      have hE : nxE (s.extract k s.size).data.toList = errAt s k := rfl
      have hK : nxK (s.extract k s.size).data.toList = (frAt s k).1 := rfl
      have hB : nxBb (s.extract k s.size) = (frAt s k).2 := rfl
      rw [hE, hK, hB] at NA
      clear hE hK hB
      have hxs : (s.extract k s.size).size ≤ 9223372036854775807 := by rw [extract_size]; omega
      by_cases he : errAt s k = 0
      · have hfn : fnd s (k + 1) = fnd s k ++ [frAt s k] := by show (if errAt s k = 0 then _ else _) = _; rw [if_pos he]
        rw [he] at NA
        clear he
        replace NA := Lib.hid NA
        generalize frAt s k = F at *
        generalize nxN (s.extract k s.size).data.toList = N at *
        obtain ⟨K, D⟩ := F
        have HF := Lib.hid hfn
        clear hfn
        go_wp2_with (first | (go_at_call 15; refine (NA.out _ hxs).mono ?_; rintro e w1 ⟨rfl, hb1⟩; have hown1 := ownsRow_below' hown hb1; have hsz1 := hb1.size) | (at_builtin; refine wpList_append_own _ rfl _ _ 39 rfl w.heap.size 23 i0 (.agg #[.int .u8 0, .string ⟨#[]⟩]) 2 24 Try.underlying39 hi hz0 hz1 hz2 rfl (by decide) _ _ _ rfl ((hown1.alloc _).alloc _) ⟨w1.heap.size + 1, 0, none⟩ 1 1 [.int .u8 K.toNat, .string D] rfl rfl (new_two (w1.alloc _) _ _ _ _ (by simp)) (one_two K D) (by unfold maxLen; omega) (by omega) (by have := hbw.size; simp; omega) ?_; intro v' w' hown' hgrow _; have hbw' := below_append hbw hb1 hown hgrow; clear hgrow))
        go_roundw
        case rel => exact ⟨k + 1, by omega, by go_num, by rw [HF.out, List.length_append, frC_snoc]; exact hown', hbw'⟩
        case measure => simp [intOf]; omega
      · have hfn : fnd s (k + 1) = fnd s k := by show (if errAt s k = 0 then _ else _) = _; rw [if_neg he]
        have hne : ((errAt s k : Int) == 0) = false := by rw [beq_eq_false_iff_ne]; omega
        clear he
        generalize errAt s k = E at NA hne
        generalize frAt s k = F at NA
        generalize nxN (s.extract k s.size).data.toList = N at NA
        replace NA := Lib.hid NA
        have HF := Lib.hid hfn
        clear hfn
        go_wp2_with (go_at_call 15; refine (NA.out _ hxs).mono ?_; rintro e w1 ⟨rfl, hb1⟩; have hown1 := ownsRow_below' hown hb1)
        go_roundw
        case rel => exact ⟨k + 1, by omega, by go_num, by rw [HF.out]; exact hown1.alloc _, (keepW hbw hb1).alloc (by have := hbw.size; have := hb1.size; omega) _⟩
        case measure => simp [intOf]; omega
    · obtain rfl : k = s.size := by omega
      go_wp2
      go_ret
      exact ⟨_, rfl, hown, hbw⟩

end Go.Proofs.Ytidnoeahmnfodaa
