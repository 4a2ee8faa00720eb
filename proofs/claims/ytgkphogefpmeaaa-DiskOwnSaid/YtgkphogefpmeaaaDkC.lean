/- The walks of the disk's ops. -/
import Derived.Test.YtgkphogefpmeaaaDkO
import Derived.Test.YtgkphogefpmeaaaDkR
namespace Go.Proofs.Ytgkphogefpmeaaa
open Go.RowKit Go.Maps DkM

def whyC (L : List Fl) (n : ByteArray) : Nat := if Rgt n = true ∧ (lkF L n).isSome = false then 0 else 51
def doC (S : Dk) (n : ByteArray) : Dk × Nat := opR S (whyC S.L n) { tick S with L := putF S.L ⟨n, nul, nul⟩ }
theorem thr_some {L : List Fl} {n : ByteArray} (h : (lkF L n).isSome = true) : thr L n = 0 := by unfold thr; rw [h]; rfl
theorem thr_none {L : List Fl} {n : ByteArray} (h : (lkF L n).isSome = false) : thr L n = 51 := by unfold thr; rw [h]; rfl
section
variable {w : World} {p b : Nat} {S : Dk}
theorem ml {n : Nat} (h : n ≤ 1048576) : n < maxLen := by unfold maxLen; omega
/-- A cell of a box that the method laid. -/
theorem boxK {w w1 : World} {x : Nat} {v : Value} (h : w.cell? ⟨x, 0, none⟩ = some v) (k : Kp p b w w1) (h1 : x ≠ p) (h2 : x ≠ b) : w1.cell? ⟨x, 0, none⟩ = some v := (k.cell (cell_lt h) h1 h2).trans h
theorem box_one (w : World) (v : Value) (T : TypeId) : (w.alloc (.cells #[v] T)).cell? ⟨w.heap.size, 0, none⟩ = some v := by simp
theorem box_fst (w : World) (v u : Value) (T U : TypeId) : ((w.alloc (.cells #[v] T)).alloc (.cells #[u] U)).cell? ⟨w.heap.size, 0, none⟩ = some v := by simp
theorem box_snd (w : World) (v u : Value) (T U : TypeId) : ((w.alloc (.cells #[v] T)).alloc (.cells #[u] U)).cell? ⟨w.heap.size + 1, 0, none⟩ = some u := by
  simp

set_option maxRecDepth 100000 in
set_option maxHeartbeats 1000000 in
theorem create_any (h : DiskAt w p b S) (B : Bd S) {n : ByteArray} (hn : n.size ≤ maxLen) :
    Calls Try.prog 33 #[ptr p, .string n] w (OpPost (doC S n) p b w) := by
  have hs : n.size ≤ 9223372036854775807 := by unfold maxLen at hn; omega
  have hp := h.blk.lt
  have hb := h.own.lt
  have HM := Lib.hid hn
  have D2 : DiskAt ((w.alloc (.cells #[ptr p] 26)).alloc (.cells #[.string n] 9)) p b S := (h.alloc _).alloc _
  have hD2 := Lib.hid D2
  have K2 : Kp p b w ((w.alloc (.cells #[ptr p] 26)).alloc (.cells #[.string n] 9)) := (Kp.alloc _ _).trans (Kp.alloc _ _)
  have X2 := box_fst w (ptr p) (.string n) 26 9
  have Y2 := box_snd w (ptr p) (.string n) 26 9
  have hlen := ml B.len
  have HB := Lib.hid B
  clear h B D2 hn
  cases hr : Rgt n with
  | false =>
    have HW := Lib.hid (show whyC S.L n = 51 by unfold whyC; rw [if_neg (by rw [hr]; simp)])
    have HR := Lib.hid hr
    clear hr
    go_enter Try.func33, Try.ntmps33
    go_wp2_with (go_at_call 24; refine (right_any n _ hs).mono ?_; rw [HR.out]; rintro e w1 ⟨rfl, rfl⟩)
    have OP : Calls Try.prog 48 #[ptr p, .int .i64 51, .func (.func 49) #[] #[ptr w.heap.size, ptr (w.heap.size + 1)]] _ _ := op_any hD2.out HB.out 51 (S' := { tick S with L := putF S.L ⟨n, nul, nul⟩ }) (fun _ he _ => absurd he (by decide)) (fun _ => by kernel_rfl)
    refine OP.mono ?_
    rintro e w3 ⟨rfl, D3, K3⟩
    have HD := Lib.hid D3
    clear D3 OP
    go_wp2
    go_ret
    exact ⟨by unfold doC; rw [HW.out]; rfl, by unfold doC; rw [HW.out]; exact HD.out, K2.trans K3⟩
  | true =>
    have HR := Lib.hid hr
    cases ht : (lkF S.L n).isSome with
    | true =>
      have HW := Lib.hid (show whyC S.L n = 51 by unfold whyC; rw [if_neg (by rw [ht]; simp)])
      have HT := Lib.hid (thr_some ht)
      clear hr ht
      go_enter Try.func33, Try.ntmps33
      go_wp2_with (first | (go_at_call 24; refine (right_any n _ hs).mono ?_; rw [HR.out]; rintro e w1 ⟨rfl, rfl⟩) | (go_at_call 45; refine (there_any hD2.out HM.out).mono ?_; rw [HT.out]; rintro e w3 ⟨rfl, hb3⟩; have X3 : w3.cell? ⟨w.heap.size, 0, none⟩ = some (ptr p) := (hb3.cell (cell_lt X2)).trans X2; have Y3 : w3.cell? ⟨w.heap.size + 1, 0, none⟩ = some (.string n) := (hb3.cell (cell_lt Y2)).trans Y2))
      have D3 := hD2.out.belowS hb3
      have OP : Calls Try.prog 48 #[ptr p, .int .i64 51, .func (.func 49) #[] #[ptr w.heap.size, ptr (w.heap.size + 1)]] _ _ := op_any D3 HB.out 51 (S' := { tick S with L := putF S.L ⟨n, nul, nul⟩ }) (fun _ he _ => absurd he (by decide)) (fun _ => by kernel_rfl)
      refine OP.mono ?_
      rintro e w4 ⟨rfl, D4, K4⟩
      have HD := Lib.hid D4
      clear D4 OP
      go_wp2
      go_ret
      exact ⟨by unfold doC; rw [HW.out]; rfl, by unfold doC; rw [HW.out]; exact HD.out, (K2.trans (Kp.of_below hb3)).trans K4⟩
    | false =>
      have HW := Lib.hid (show whyC S.L n = 0 by unfold whyC; rw [if_pos ⟨hr, ht⟩])
      have HT := Lib.hid (thr_none ht)
      clear hr ht
      go_enter Try.func33, Try.ntmps33
      go_wp2_with (first | (go_at_call 24; refine (right_any n _ hs).mono ?_; rw [HR.out]; rintro e w1 ⟨rfl, rfl⟩) | (go_at_call 45; refine (there_any hD2.out HM.out).mono ?_; rw [HT.out]; rintro e w3 ⟨rfl, hb3⟩; have X3 : w3.cell? ⟨w.heap.size, 0, none⟩ = some (ptr p) := (hb3.cell (cell_lt X2)).trans X2; have Y3 : w3.cell? ⟨w.heap.size + 1, 0, none⟩ = some (.string n) := (hb3.cell (cell_lt Y2)).trans Y2))
      have D3 := hD2.out.belowS hb3
      have OP : Calls Try.prog 48 #[ptr p, .int .i64 0, .func (.func 49) #[] #[ptr w.heap.size, ptr (w.heap.size + 1)]] _ _ := op_any D3 HB.out 0 (S' := { tick S with L := putF S.L ⟨n, nul, nul⟩ }) (fun _ _ _ w1 D1 k => create1_any D1 hlen HM.out (boxK X3 k (by omega) (by omega)) (boxK Y3 k (by omega) (by omega))) (fun _ => by kernel_rfl)
      refine OP.mono ?_
      rintro e w4 ⟨rfl, D4, K4⟩
      have HD := Lib.hid D4
      clear D4 OP
      go_wp2
      go_ret
      exact ⟨by unfold doC; rw [HW.out]; rfl, by unfold doC; rw [HW.out]; exact HD.out, (K2.trans (Kp.of_below hb3)).trans K4⟩
end
end Go.Proofs.Ytgkphogefpmeaaa
