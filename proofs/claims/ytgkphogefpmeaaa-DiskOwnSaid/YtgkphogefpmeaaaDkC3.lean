/- The walks of Sync and Delete. -/
import Derived.Test.YtgkphogefpmeaaaDkC2
namespace Go.Proofs.Ytgkphogefpmeaaa
open Go.RowKit Go.Maps DkM

def gotF (S : Dk) (n : ByteArray) : Fl := (lkF S.L n).getD ⟨n, nul, nul⟩
def didS (S : Dk) (n : ByteArray) : Dk := { tick S with L := putF S.L ⟨n, (gotF S n).s ++ (gotF S n).l, nul⟩ }
def doS (S : Dk) (n : ByteArray) : Dk × Nat := opR S (thr S.L n) (didS S n)
def didD (S : Dk) (n : ByteArray) : Dk := { tick S with L := wo S.L n, used := S.used - ((flB (lkF S.L n)).size : Nat) }
def doD (S : Dk) (n : ByteArray) : Dk × Nat := opR S (thr S.L n) (didD S n)
theorem thr_zero {L : List Fl} {n : ByteArray} (h : thr L n = 0) : ∃ f, lkF L n = some f := by
  unfold thr at h
  cases hl : lkF L n with
  | none => rw [hl] at h; simp at h
  | some f => exact ⟨f, rfl⟩
theorem flB_le {L : List Fl} {n : ByteArray} : (flB (lkF L n)).size ≤ usd L := by
  cases hl : lkF L n with
  | none => exact Nat.zero_le _
  | some f =>
    have := usd_le (lkF_some hl).1
    show (f.s ++ f.l).size ≤ _
    rw [app_size]; exact this
theorem below_undrew {w w' : World} (h : Below w.drew.heap.size w.drew w') : Below w.heap.size w w' := ⟨h.os, h.tape, h.output, h.size, h.block⟩
section
variable {w : World} {p b : Nat} {S : Dk}

set_option maxRecDepth 100000 in
set_option maxHeartbeats 1000000 in
theorem sync_any (h : DiskAt w p b S) (B : Bd S) {n : ByteArray} (hn : n.size ≤ maxLen) :
    Calls Try.prog 39 #[ptr p, .string n] w (OpPost (doS S n) p b w) := by
  have hp := h.blk.lt
  have hb := h.own.lt
  have HM := Lib.hid hn
  obtain ⟨w2, hw2⟩ : ∃ w2, w2 = (w.alloc (.cells #[ptr p] 26)).alloc (.cells #[.string n] 9) := ⟨_, rfl⟩
  have hD2 : Hid (DiskAt w2 p b S) := Lib.hid (by rw [hw2]; exact (h.alloc _).alloc _)
  have K2 : Kp p b w w2 := by rw [hw2]; exact (Kp.alloc _ _).trans (Kp.alloc _ _)
  have X2 : w2.cell? ⟨w.heap.size, 0, none⟩ = some (ptr p) := by rw [hw2]; exact box_fst _ _ _ _ _
  have Y2 : w2.cell? ⟨w.heap.size + 1, 0, none⟩ = some (.string n) := by rw [hw2]; exact box_snd _ _ _ _ _
  have lX := cell_lt X2
  have lY := cell_lt Y2
  simp only at lX lY
  have HW2 := Lib.hid hw2
  have hlen := ml B.len
  have HB := Lib.hid B
  clear h B hn hw2
  have OP : ∀ w3, Below w2.heap.size w2 w3 → Calls Try.prog 48 #[ptr p, .int .i64 (thr S.L n : Nat), .func (.func 52) #[] #[ptr w.heap.size, ptr (w.heap.size + 1)]] w3 (OpPost (doS S n) p b w3) := fun w3 hb3 =>
    op_any (hD2.out.belowS hb3) HB.out (thr S.L n) (S' := didS S n) (fun _ h0 _ w1 D1 k => by
      obtain ⟨f, hf⟩ := thr_zero h0
      have hE : ({ tick S with L := putF (tick S).L ⟨n, f.s ++ f.l, nul⟩ } : Dk) = didS S n := by unfold didS gotF; rw [hf]; rfl
      rw [← hE]
      exact sync1_any D1 hlen HM.out hf (boxK (x := w.heap.size) ((hb3.cell (by exact lX)).trans X2) k (by omega) (by omega)) (boxK (x := w.heap.size + 1) ((hb3.cell (by exact lY)).trans Y2) k (by omega) (by omega))) (fun _ => by kernel_rfl)
  have HO := Lib.hid OP
  clear OP
  go_enter Try.func39, Try.ntmps39
  go_wp2_with fail
  rw [← HW2.out]
  go_region_held3 (fun w' => w'.cell? ⟨w.heap.size, 0, none⟩ = some (ptr p) ∧ w'.cell? ⟨w.heap.size + 1, 0, none⟩ = some (.string n))
    (first | exact ⟨X2, Y2⟩ | exact ⟨(hb3.cell lX).trans X2, (hb3.cell lY).trans Y2⟩ | exact ⟨(K4.cell (by exact Nat.lt_of_lt_of_le lX hb3.size) (by simp; omega) (by simp; omega)).trans ((hb3.cell lX).trans X2), (K4.cell (by exact Nat.lt_of_lt_of_le lY hb3.size) (by simp; omega) (by simp; omega)).trans ((hb3.cell lY).trans Y2)⟩)
    (first | (go_at_call 45; refine (there_any hD2.out.drew HM.out).mono ?_; rintro e w3 ⟨rfl, hb3⟩) | (go_at_call 48; refine (HO.out _ (below_undrew hb3)).mono ?_; rintro e w4 ⟨rfl, D4, K4⟩))
  all_goals
    have HD := Lib.hid D4
    clear D4
    go_wp2
    go_ret
    exact ⟨rfl, HD.out, (K2.comp (Kp.of_below (below_undrew hb3))).comp K4⟩

set_option maxRecDepth 100000 in
set_option maxHeartbeats 1000000 in
theorem delete_any (h : DiskAt w p b S) (B : Bd S) {n : ByteArray} (hn : n.size ≤ maxLen) :
    Calls Try.prog 41 #[ptr p, .string n] w (OpPost (doD S n) p b w) := by
  have hp := h.blk.lt
  have hb := h.own.lt
  have HM := Lib.hid hn
  obtain ⟨w2, hw2⟩ : ∃ w2, w2 = (w.alloc (.cells #[ptr p] 26)).alloc (.cells #[.string n] 9) := ⟨_, rfl⟩
  have hD2 : Hid (DiskAt w2 p b S) := Lib.hid (by rw [hw2]; exact (h.alloc _).alloc _)
  have K2 : Kp p b w w2 := by rw [hw2]; exact (Kp.alloc _ _).trans (Kp.alloc _ _)
  have X2 : w2.cell? ⟨w.heap.size, 0, none⟩ = some (ptr p) := by rw [hw2]; exact box_fst _ _ _ _ _
  have Y2 : w2.cell? ⟨w.heap.size + 1, 0, none⟩ = some (.string n) := by rw [hw2]; exact box_snd _ _ _ _ _
  have lX := cell_lt X2
  have lY := cell_lt Y2
  simp only at lX lY
  have HW2 := Lib.hid hw2
  have hlen := ml B.len
  have HB := Lib.hid B
  clear h B hn hw2
  have OP : ∀ w3, Below w2.heap.size w2 w3 → Calls Try.prog 48 #[ptr p, .int .i64 (thr S.L n : Nat), .func (.func 54) #[] #[ptr w.heap.size, ptr (w.heap.size + 1)]] w3 (OpPost (doD S n) p b w3) := fun w3 hb3 =>
    op_any (hD2.out.belowS hb3) HB.out (thr S.L n) (S' := didD S n) (fun _ h0 _ w1 D1 k => by
      exact delete1_any D1 HM.out (boxK (x := w.heap.size) ((hb3.cell (by exact lX)).trans X2) k (by omega) (by omega)) (boxK (x := w.heap.size + 1) ((hb3.cell (by exact lY)).trans Y2) k (by omega) (by omega)) (by show (_ : Int) ≤ S.used; rw [HB.out.used]; exact Int.ofNat_le.2 flB_le) (by show S.used ≤ _; have := HB.out.used; have := HB.out.used1; omega)) (fun _ => by kernel_rfl)
  have HO := Lib.hid OP
  clear OP
  go_enter Try.func41, Try.ntmps41
  go_wp2_with fail
  rw [← HW2.out]
  go_region_held3 (fun w' => w'.cell? ⟨w.heap.size, 0, none⟩ = some (ptr p) ∧ w'.cell? ⟨w.heap.size + 1, 0, none⟩ = some (.string n))
    (first | exact ⟨X2, Y2⟩ | exact ⟨(hb3.cell lX).trans X2, (hb3.cell lY).trans Y2⟩ | exact ⟨(K4.cell (by exact Nat.lt_of_lt_of_le lX hb3.size) (by simp; omega) (by simp; omega)).trans ((hb3.cell lX).trans X2), (K4.cell (by exact Nat.lt_of_lt_of_le lY hb3.size) (by simp; omega) (by simp; omega)).trans ((hb3.cell lY).trans Y2)⟩)
    (first | (go_at_call 45; refine (there_any hD2.out.drew HM.out).mono ?_; rintro e w3 ⟨rfl, hb3⟩) | (go_at_call 48; refine (HO.out _ (below_undrew hb3)).mono ?_; rintro e w4 ⟨rfl, D4, K4⟩))
  all_goals
    have HD := Lib.hid D4
    clear D4
    go_wp2
    go_ret
    exact ⟨rfl, HD.out, (K2.comp (Kp.of_below (below_undrew hb3))).comp K4⟩
end
end Go.Proofs.Ytgkphogefpmeaaa
