/- The walk of Rename. -/
import Derived.Test.YtgkphogefpmeaaaDkC3
namespace Go.Proofs.Ytgkphogefpmeaaa
open Go.RowKit Go.Maps DkM

def whyR (S : Dk) (a c : ByteArray) : Nat := if Rgt c = true then thr S.L a else 51
def didR (S : Dk) (a c : ByteArray) : Dk := if eqN a c = true then tick S else { tick S with L := wo (putF S.L ⟨c, (gotF S a).s, (gotF S a).l⟩) a, used := S.used - ((flB (lkF S.L c)).size : Nat) }
def doR (S : Dk) (a c : ByteArray) : Dk × Nat := opR S (whyR S a c) (didR S a c)
section
variable {w : World} {p b : Nat} {S : Dk}

set_option maxRecDepth 100000 in
set_option maxHeartbeats 1000000 in
theorem rename_any (h : DiskAt w p b S) (B : Bd S) {a c : ByteArray} (ha : a.size ≤ maxLen) (hc : c.size ≤ maxLen) :
    Calls Try.prog 40 #[ptr p, .string a, .string c] w (OpPost (doR S a c) p b w) := by
  have hp := h.blk.lt
  have hb := h.own.lt
  have hs : c.size ≤ 9223372036854775807 := by unfold maxLen at hc; omega
  have HMa := Lib.hid ha
  have HMc := Lib.hid hc
  obtain ⟨w2, hw2⟩ : ∃ w2, w2 = ((w.alloc (.cells #[ptr p] 26)).alloc (.cells #[.string a] 9)).alloc (.cells #[.string c] 9) := ⟨_, rfl⟩
  have hD2 : Hid (DiskAt w2 p b S) := Lib.hid (by rw [hw2]; exact ((h.alloc _).alloc _).alloc _)
  have K2 : Kp p b w w2 := by rw [hw2]; exact ((Kp.alloc _ _).trans (Kp.alloc _ _)).trans (Kp.alloc _ _)
  have X2 : w2.cell? ⟨w.heap.size, 0, none⟩ = some (ptr p) := by rw [hw2]; exact box3_1 _ _ _ _ _ _ _
  have Y2 : w2.cell? ⟨w.heap.size + 1, 0, none⟩ = some (.string a) := by rw [hw2]; exact box3_2 _ _ _ _ _ _ _
  have Z2 : w2.cell? ⟨w.heap.size + 1 + 1, 0, none⟩ = some (.string c) := by rw [hw2]; exact box3_3 _ _ _ _ _ _ _
  have HW2 := Lib.hid hw2
  have hlen := ml B.len
  have HB := Lib.hid B
  clear h B ha hc hw2
  have OP : ∀ (w3 : World) (e : Nat), (e = 0 → thr S.L a = 0) → Below w2.heap.size w2 w3 → Calls Try.prog 48 #[ptr p, .int .i64 (e : Nat), .func (.func 53) #[] #[ptr (w.heap.size + 1), ptr (w.heap.size + 1 + 1), ptr w.heap.size]] w3 (OpPost (opR S e (didR S a c)) p b w3) := fun w3 e he hb3 =>
    op_any (hD2.out.belowS hb3) HB.out e (S' := didR S a c) (fun _ h0 _ w1 D1 k => by
      obtain ⟨f, hf⟩ := thr_zero (he h0)
      have X1 := boxK (x := w.heap.size) ((hb3.cell (cell_lt X2)).trans X2) k (by omega) (by omega)
      have Y1 := boxK (x := w.heap.size + 1) ((hb3.cell (cell_lt Y2)).trans Y2) k (by omega) (by omega)
      have Z1 := boxK (x := w.heap.size + 1 + 1) ((hb3.cell (cell_lt Z2)).trans Z2) k (by omega) (by omega)
      unfold didR
      by_cases heq : eqN a c = true
      · rw [if_pos heq]
        obtain rfl := eqN_iff.1 heq
        exact rename1_same D1 Y1 Z1
      · rw [if_neg heq]
        have hne : a ≠ c := fun h => heq (eqN_iff.2 h)
        have hE : gotF S a = f := by unfold gotF; rw [hf]; rfl
        rw [hE]
        exact rename1_any D1 hlen HMa.out HMc.out hne hf Y1 Z1 X1 (by show (_ : Int) ≤ S.used; rw [HB.out.used]; exact Int.ofNat_le.2 flB_le) (by show S.used ≤ _; have := HB.out.used; have := HB.out.used1; omega)) (fun _ => by kernel_rfl)
  have HO := Lib.hid OP
  clear OP
  cases hr : Rgt c with
  | false =>
    have HW := Lib.hid (show whyR S a c = 51 by unfold whyR; rw [if_neg (by rw [hr]; decide)])
    have HR := Lib.hid hr
    clear hr
    go_enter Try.func40, Try.ntmps40
    go_wp2_with (first | (go_at_call 45; rw [← HW2.out]; refine (there_any hD2.out HMa.out).mono ?_; rintro e w3 ⟨rfl, hb3⟩; have X3 : w3.cell? ⟨w.heap.size, 0, none⟩ = some (ptr p) := (hb3.cell (cell_lt X2)).trans X2; have Y3 : w3.cell? ⟨w.heap.size + 1, 0, none⟩ = some (.string a) := (hb3.cell (cell_lt Y2)).trans Y2; have Z3 : w3.cell? ⟨w.heap.size + 1 + 1, 0, none⟩ = some (.string c) := (hb3.cell (cell_lt Z2)).trans Z2) | (go_at_call 24; refine (right_any c _ hs).mono ?_; rw [HR.out]; rintro e w4 ⟨rfl, rfl⟩))
    refine (HO.out _ 51 (fun h => absurd h (by decide)) hb3).mono ?_
    rintro e w4 ⟨rfl, D4, K4⟩
    have HD := Lib.hid D4
    clear D4
    go_wp2
    go_ret
    exact ⟨by unfold doR; rw [HW.out]; rfl, by unfold doR; rw [HW.out]; exact HD.out, (K2.comp (Kp.of_below hb3)).comp K4⟩
  | true =>
    have HW := Lib.hid (show whyR S a c = thr S.L a by unfold whyR; rw [if_pos hr])
    have HR := Lib.hid hr
    clear hr
    go_enter Try.func40, Try.ntmps40
    go_wp2_with (first | (go_at_call 45; rw [← HW2.out]; refine (there_any hD2.out HMa.out).mono ?_; rintro e w3 ⟨rfl, hb3⟩; have X3 : w3.cell? ⟨w.heap.size, 0, none⟩ = some (ptr p) := (hb3.cell (cell_lt X2)).trans X2; have Y3 : w3.cell? ⟨w.heap.size + 1, 0, none⟩ = some (.string a) := (hb3.cell (cell_lt Y2)).trans Y2; have Z3 : w3.cell? ⟨w.heap.size + 1 + 1, 0, none⟩ = some (.string c) := (hb3.cell (cell_lt Z2)).trans Z2) | (go_at_call 24; refine (right_any c _ hs).mono ?_; rw [HR.out]; rintro e w4 ⟨rfl, rfl⟩))
    refine (HO.out _ (thr S.L a) (fun h => h) hb3).mono ?_
    rintro e w4 ⟨rfl, D4, K4⟩
    have HD := Lib.hid D4
    clear D4
    go_wp2
    go_ret
    exact ⟨by unfold doR; rw [HW.out]; rfl, by unfold doR; rw [HW.out]; exact HD.out, (K2.comp (Kp.of_below hb3)).comp K4⟩
end
end Go.Proofs.Ytgkphogefpmeaaa
