/- The walks of the disk's small methods. -/
import Derived.Test.YtgkphogefpmeaaaDkW
namespace Go.Proofs.Ytgkphogefpmeaaa
open Go.RowKit Go.Maps DkM

def thr (L : List Fl) (n : ByteArray) : Nat := if (lkF L n).isSome then 0 else 51
section
variable {w : World} {p b : Nat} {S : Dk}

set_option maxHeartbeats 400000 in
theorem down_any (h : DiskAt w p b S) : Calls Try.prog 29 #[.pointer (some ⟨p, 0, none⟩)] w fun e w' => e = .returned (.bool S.down) ∧ w = w' := by
  obtain ⟨lt, c0, c1, c2, c3, c4, c5, c6⟩ := h.cells
  clear h
  go_enter Try.func29, Try.ntmps29
  go_wp2
  go_ret
  exact ⟨rfl, rfl⟩

set_option maxHeartbeats 400000 in
theorem used_any (h : DiskAt w p b S) : Calls Try.prog 32 #[.pointer (some ⟨p, 0, none⟩)] w fun e w' => e = .returned (.int .i64 S.used) ∧ w = w' := by
  obtain ⟨lt, c0, c1, c2, c3, c4, c5, c6⟩ := h.cells
  clear h
  go_enter Try.func32, Try.ntmps32
  go_wp2
  go_ret
  exact ⟨rfl, rfl⟩

set_option maxHeartbeats 400000 in
theorem limit_any (h : DiskAt w p b S) : Calls Try.prog 36 #[.pointer (some ⟨p, 0, none⟩)] w fun e w' => e = .returned (.int .i64 S.lim) ∧ w = w' := by
  obtain ⟨lt, c0, c1, c2, c3, c4, c5, c6⟩ := h.cells
  clear h
  go_enter Try.func36, Try.ntmps36
  go_wp2
  go_ret
  exact ⟨rfl, rfl⟩

set_option maxHeartbeats 400000 in
theorem ops_any (h : DiskAt w p b S) : Calls Try.prog 35 #[.pointer (some ⟨p, 0, none⟩)] w fun e w' => e = .returned (.int .i64 S.ops) ∧ w = w' := by
  obtain ⟨lt, c0, c1, c2, c3, c4, c5, c6⟩ := h.cells
  clear h
  go_enter Try.func35, Try.ntmps35
  go_wp2
  go_ret
  exact ⟨rfl, rfl⟩

set_option maxHeartbeats 400000 in
theorem reads_any (h : DiskAt w p b S) : Calls Try.prog 18 #[.pointer (some ⟨p, 0, none⟩)] w fun e w' => e = .returned (.int .i64 S.reads) ∧ w = w' := by
  obtain ⟨lt, c0, c1, c2, c3, c4, c5, c6⟩ := h.cells
  clear h
  go_enter Try.func18, Try.ntmps18
  go_wp2
  go_ret
  exact ⟨rfl, rfl⟩

set_option maxHeartbeats 400000 in
theorem setFuse_any (h : DiskAt w p b S) (n : Int) : Calls Try.prog 34 #[.pointer (some ⟨p, 0, none⟩), .int .i64 n] w fun e w' => e = .returned (.tuple #[]) ∧ DiskAt w' p b { S with fuse := max n (-1) } ∧ Kp p b w w' := by
  obtain ⟨lt, c0, c1, c2, c3, c4, c5, c6⟩ := h.cells
  have f2 := h.blk.frozen 2
  have H := Lib.hid h
  clear h
  go_enter Try.func34, Try.ntmps34
  go_wp2
  all_goals
    go_end0
    refine ⟨rfl, ?_, Kp.setP _ _ _⟩
    first
      | (have e : max n (-1) = n := by omega
         rw [e]; exact H.out.set2 _)
      | (have e : max n (-1) = -1 := by omega
         rw [e]; exact H.out.set2 _)

set_option maxHeartbeats 400000 in
theorem there_any (h : DiskAt w p b S) {n : ByteArray} (hn : n.size ≤ maxLen) :
    Calls Try.prog 45 #[.pointer (some ⟨p, 0, none⟩), .string n] w fun e w' => e = .returned (.int .i64 (thr S.L n : Nat)) ∧ Below w.heap.size w w' := by
  obtain ⟨lt, c0, c1, c2, c3, c4, c5, c6⟩ := h.cells
  have ho := h.own
  clear h c1 c2 c3 c4 c5 c6
  generalize S.L = L at *
  cases hB : (lkF L n).isSome with
  | true =>
    have HT := Lib.hid (show thr L n = 0 by unfold thr; rw [hB]; rfl)
    have HB := Lib.hid hB
    clear hB
    go_enter Try.func45, Try.ntmps45
    go_wp2_with (at_lookup; refine wpList_look_ok _ rfl _ _ rfl b L n rfl ho rfl hn ?_; rw [HB.out])
    go_ret
    exact ⟨by rw [HT.out]; rfl, (Below.refl _ _).alloc (Nat.le_refl _) _⟩
  | false =>
    have HT := Lib.hid (show thr L n = 51 by unfold thr; rw [hB]; rfl)
    have HB := Lib.hid hB
    clear hB
    go_enter Try.func45, Try.ntmps45
    go_wp2_with (at_lookup; refine wpList_look_ok _ rfl _ _ rfl b L n rfl ho rfl hn ?_; rw [HB.out])
    go_ret
    exact ⟨by rw [HT.out]; rfl, (Below.refl _ _).alloc (Nat.le_refl _) _⟩

set_option maxHeartbeats 400000 in
theorem size_any (h : DiskAt w p b S) {n : ByteArray} (hn : n.size ≤ maxLen) :
    Calls Try.prog 22 #[.pointer (some ⟨p, 0, none⟩), .string n] w fun e w' => e = .returned (.tuple #[.int .i64 ((flB (lkF S.L n)).size : Nat), .bool (lkF S.L n).isSome]) ∧ Below w.heap.size w w' := by
  obtain ⟨lt, c0, c1, c2, c3, c4, c5, c6⟩ := h.cells
  have ho := h.own
  clear h c1 c2 c3 c4 c5 c6
  generalize S.L = L at *
  go_enter Try.func22, Try.ntmps22
  go_wp2_with (at_lookup; refine wpList_look_ok _ rfl _ _ rfl b L n rfl ho rfl hn ?_)
  go_ret2
  exact ⟨rfl, (Below.refl _ _).alloc (Nat.le_refl _) _⟩

set_option maxHeartbeats 400000 in
theorem loose_any (h : DiskAt w p b S) {n : ByteArray} (hn : n.size ≤ maxLen) (hs : (flB (lkF S.L n)).size ≤ 9223372036854775807) (hs2 : flN (lkF S.L n) ≤ (flB (lkF S.L n)).size) :
    Calls Try.prog 26 #[.pointer (some ⟨p, 0, none⟩), .string n] w fun e w' => e = .returned (.int .i64 (((flB (lkF S.L n)).size : Nat) - (flN (lkF S.L n) : Nat))) ∧ Below w.heap.size w w' := by
  obtain ⟨lt, c0, c1, c2, c3, c4, c5, c6⟩ := h.cells
  have ho := h.own
  clear h c1 c2 c3 c4 c5 c6
  generalize S.L = L at *
  go_enter Try.func26, Try.ntmps26
  go_wp2_with (at_lookup; refine wpList_look _ rfl _ _ rfl b L n rfl ho rfl hn ?_)
  go_ret
  exact ⟨rfl, (Below.refl _ _).alloc (Nat.le_refl _) _⟩
end

def clampI (x lo hi : Int) : Int := min (max x lo) hi
def newS (lim : Int) : Dk := { L := [], lim := min (max lim 0) 1073741824, fuse := -1, used := 0, ops := 0, reads := 0, down := false }
theorem new_at (w : World) (v : Int) : DiskAt ((w.alloc (.map #[] 0)).alloc (.cells #[.map (some w.heap.size), .int .i64 v, .int .i64 (-1), .int .i64 0, .int .i64 0, .int .i64 0, .bool false] 71)) (w.heap.size + 1) w.heap.size { newS 0 with lim := v } := by
  refine ⟨?_, Own.alloc (own_of (World.ownsMap_made _ _ _ _)) _⟩
  have := Blk.new (w.alloc (.map #[] 0)) 71 #[.map (some w.heap.size), .int .i64 v, .int .i64 (-1), .int .i64 0, .int .i64 0, .int .i64 0, .bool false]
  rw [show (w.alloc (.map #[] 0)).heap.size = w.heap.size + 1 by simp] at this
  exact this
theorem new_eq {lim v : Int} (h : min (max lim 0) 1073741824 = v) : newS lim = { newS 0 with lim := v } := by subst h; rfl
theorem below_two (w : World) (a c : Obj) : Below w.heap.size w ((w.alloc a).alloc c) := ((Below.refl _ _).alloc (Nat.le_refl _) _).alloc (by simp) _
set_option maxHeartbeats 400000 in
theorem new_any (lim : Int) (w : World) :
    Calls Try.prog 13 #[.int .i64 lim] w fun e w' => e = .returned (.pointer (some ⟨w.heap.size + 1, 0, none⟩)) ∧ DiskAt w' (w.heap.size + 1) w.heap.size (newS lim) ∧ Below w.heap.size w w' := by
  have hmm := @run_makeMap Try.prog
  go_enter Try.func13, Try.ntmps13
  go_wp2
  all_goals
    go_ret
    refine ⟨rfl, ?_, below_two _ _ _⟩
    first
      | (rw [new_eq (lim := lim) (v := lim) (by omega)]; exact new_at _ _)
      | (rw [new_eq (lim := lim) (v := 0) (by omega)]; exact new_at _ _)
      | (rw [new_eq (lim := lim) (v := 1073741824) (by omega)]; exact new_at _ _)
end Go.Proofs.Ytgkphogefpmeaaa
