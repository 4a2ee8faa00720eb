/- The walk of Append. -/
import Derived.Test.YtgkphogefpmeaaaDkC
namespace Go.Proofs.Ytgkphogefpmeaaa
open Go.RowKit Go.Maps DkM

def whyA (S : Dk) (n t : ByteArray) : Nat := if (lkF S.L n).isSome = false then 51 else if S.lim - S.used < (t.size : Nat) then 52 else 0
def didA (S : Dk) (n t : ByteArray) : Dk := { tick S with L := putF S.L ⟨n, ((lkF S.L n).getD ⟨n, nul, nul⟩).s, ((lkF S.L n).getD ⟨n, nul, nul⟩).l ++ t⟩, used := S.used + (t.size : Nat) }
def doA (S : Dk) (n t : ByteArray) : Dk × Nat := opR S (whyA S n t) (didA S n t)
theorem Kp.comp {p b : Nat} {w w1 w2 : World} (h : Kp p b w w1) (k : Kp p b w1 w2) : Kp p b w w2 := h.trans k
theorem box3_1 (w : World) (u v x : Value) (T U X : TypeId) : (((w.alloc (.cells #[u] T)).alloc (.cells #[v] U)).alloc (.cells #[x] X)).cell? ⟨w.heap.size, 0, none⟩ = some u :=
  (World.cell?_alloc_lt _ _ _ (cell_lt (box_fst w u v T U))).trans (box_fst w u v T U)
theorem box3_2 (w : World) (u v x : Value) (T U X : TypeId) : (((w.alloc (.cells #[u] T)).alloc (.cells #[v] U)).alloc (.cells #[x] X)).cell? ⟨w.heap.size + 1, 0, none⟩ = some v :=
  (World.cell?_alloc_lt _ _ _ (cell_lt (box_snd w u v T U))).trans (box_snd w u v T U)
theorem box3_3 (w : World) (u v x : Value) (T U X : TypeId) : (((w.alloc (.cells #[u] T)).alloc (.cells #[v] U)).alloc (.cells #[x] X)).cell? ⟨w.heap.size + 1 + 1, 0, none⟩ = some x := by
  have := box_one ((w.alloc (.cells #[u] T)).alloc (.cells #[v] U)) x X
  rw [show ((w.alloc (.cells #[u] T)).alloc (.cells #[v] U)).heap.size = w.heap.size + 1 + 1 by simp] at this
  exact this
section
variable {w : World} {p b : Nat} {S : Dk}

set_option maxRecDepth 100000 in
set_option maxHeartbeats 1000000 in
theorem append_any (h : DiskAt w p b S) (B : Bd S) {n t : ByteArray} (hn : n.size ≤ maxLen) (ht : t.size ≤ 9223372036854775807) :
    Calls Try.prog 38 #[ptr p, .string n, .string t] w (OpPost (doA S n t) p b w) := by
  have hp := h.blk.lt
  have hb := h.own.lt
  have HM := Lib.hid hn
  obtain ⟨w2, hw2⟩ : ∃ w2, w2 = ((w.alloc (.cells #[ptr p] 26)).alloc (.cells #[.string n] 9)).alloc (.cells #[.string t] 9) := ⟨_, rfl⟩
  have hD2 : Hid (DiskAt w2 p b S) := Lib.hid (by rw [hw2]; exact ((h.alloc _).alloc _).alloc _)
  have K2 : Kp p b w w2 := by rw [hw2]; exact ((Kp.alloc _ _).trans (Kp.alloc _ _)).trans (Kp.alloc _ _)
  have X2 : w2.cell? ⟨w.heap.size, 0, none⟩ = some (ptr p) := by rw [hw2]; exact box3_1 _ _ _ _ _ _ _
  have Y2 : w2.cell? ⟨w.heap.size + 1, 0, none⟩ = some (.string n) := by rw [hw2]; exact box3_2 _ _ _ _ _ _ _
  have Z2 : w2.cell? ⟨w.heap.size + 1 + 1, 0, none⟩ = some (.string t) := by rw [hw2]; exact box3_3 _ _ _ _ _ _ _
  have HW2 := Lib.hid hw2
  have hlen := ml B.len
  have HB := Lib.hid B
  have h1 := B.lim0
  have h2 := B.lim1
  have h3 := B.used
  have h4 := B.used1
  have h5 : 0 ≤ S.used := by omega
  have h6 : S.used ≤ 1073741824 := by omega
  clear h B hn hw2 h3 h4
  cases hf : (lkF S.L n).isSome with
  | false =>
    have HW := Lib.hid (show whyA S n t = 51 by unfold whyA; rw [if_pos hf])
    have HT := Lib.hid (thr_none hf)
    clear hf
    go_enter Try.func38, Try.ntmps38
    go_wp2_with (go_at_call 45; rw [← HW2.out]; refine (there_any hD2.out HM.out).mono ?_; rw [HT.out]; rintro e w3 ⟨rfl, hb3⟩; have X3 : w3.cell? ⟨w.heap.size, 0, none⟩ = some (ptr p) := (hb3.cell (cell_lt X2)).trans X2; have Z3 : w3.cell? ⟨w.heap.size + 1 + 1, 0, none⟩ = some (.string t) := (hb3.cell (cell_lt Z2)).trans Z2)
    go_quiet (fail)
    have D3 := (hD2.out.belowS hb3).drewN nq
    go_wp2_with fail
    have OP : Calls Try.prog 48 #[ptr p, .int .i64 51, .func (.func 51) #[] #[ptr w.heap.size, ptr (w.heap.size + 1), ptr (w.heap.size + 1 + 1)]] _ _ := op_any D3 HB.out 51 (S' := didA S n t) (fun _ he _ => absurd he (by decide)) (fun _ => by kernel_rfl)
    refine OP.mono ?_
    rintro e w4 ⟨rfl, D4, K4⟩
    have HD := Lib.hid D4
    clear D4 OP D3
    go_wp2
    go_ret
    exact ⟨by unfold doA; rw [HW.out]; rfl, by unfold doA; rw [HW.out]; exact HD.out, (K2.comp ((Kp.of_below hb3).comp (Kp.drewN _ _))).comp K4⟩
  | true =>
    have HT := Lib.hid (thr_some hf)
    by_cases hbig : S.lim - S.used < (t.size : Nat)
    · have HW := Lib.hid (show whyA S n t = 52 by unfold whyA; rw [if_neg (by rw [hf]; simp), if_pos hbig])
      clear hf
      go_enter Try.func38, Try.ntmps38
      go_wp2_with (go_at_call 45; rw [← HW2.out]; refine (there_any hD2.out HM.out).mono ?_; rw [HT.out]; rintro e w3 ⟨rfl, hb3⟩; have X3 : w3.cell? ⟨w.heap.size, 0, none⟩ = some (ptr p) := (hb3.cell (cell_lt X2)).trans X2; have Z3 : w3.cell? ⟨w.heap.size + 1 + 1, 0, none⟩ = some (.string t) := (hb3.cell (cell_lt Z2)).trans Z2)
      have D3 := Lib.hid (hD2.out.belowS hb3)
      obtain ⟨-, -, c1, -, c3, -⟩ := D3.out.cells
      go_quiet (fail)
      have D4 := Lib.hid (D3.out.drewN nq)
      clear c1 c3
      go_wp2_with fail
      have OP : Calls Try.prog 48 #[ptr p, .int .i64 52, .func (.func 51) #[] #[ptr w.heap.size, ptr (w.heap.size + 1), ptr (w.heap.size + 1 + 1)]] _ _ := op_any D4.out HB.out 52 (S' := didA S n t) (fun _ he _ => absurd he (by decide)) (fun _ => by kernel_rfl)
      refine OP.mono ?_
      rintro e w4 ⟨rfl, D4, K4⟩
      have HD := Lib.hid D4
      clear D4 OP
      go_wp2
      go_ret
      exact ⟨by unfold doA; rw [HW.out]; rfl, by unfold doA; rw [HW.out]; exact HD.out, (K2.comp ((Kp.of_below hb3).comp (Kp.drewN _ _))).comp K4⟩
    · have HW := Lib.hid (show whyA S n t = 0 by unfold whyA; rw [if_neg (by rw [hf]; simp), if_neg hbig])
      have hsm : (t.size : Int) ≤ S.lim - S.used := by omega
      clear hbig
      obtain ⟨f, hff⟩ := Option.isSome_iff_exists.1 hf
      have hcat : (f.s ++ f.l).size + t.size ≤ 9223372036854775807 := by
        have := usd_le (lkF_some hff).1
        have h3 := HB.out.used1
        rw [app_size]
        omega
      have HE := Lib.hid (show ({ tick S with L := putF (tick S).L ⟨n, f.s, f.l ++ t⟩, used := (tick S).used + (t.size : Nat) } : Dk) = didA S n t by unfold didA; rw [hff]; rfl)
      have HF := Lib.hid hff
      clear hf hff
      go_enter Try.func38, Try.ntmps38
      go_wp2_with (go_at_call 45; rw [← HW2.out]; refine (there_any hD2.out HM.out).mono ?_; rw [HT.out]; rintro e w3 ⟨rfl, hb3⟩; have X3 : w3.cell? ⟨w.heap.size, 0, none⟩ = some (ptr p) := (hb3.cell (cell_lt X2)).trans X2; have Z3 : w3.cell? ⟨w.heap.size + 1 + 1, 0, none⟩ = some (.string t) := (hb3.cell (cell_lt Z2)).trans Z2)
      have Y3 : w3.cell? ⟨w.heap.size + 1, 0, none⟩ = some (.string n) := (hb3.cell (cell_lt Y2)).trans Y2
      have D3 := Lib.hid (hD2.out.belowS hb3)
      obtain ⟨-, -, c1, -, c3, -⟩ := D3.out.cells
      go_quiet (fail)
      have D4 := Lib.hid (D3.out.drewN nq)
      clear c1 c3
      go_wp2_with fail
      have OP : Calls Try.prog 48 #[ptr p, .int .i64 0, .func (.func 51) #[] #[ptr w.heap.size, ptr (w.heap.size + 1), ptr (w.heap.size + 1 + 1)]] _ _ :=
        op_any D4.out HB.out 0 (S' := didA S n t) (fun _ _ _ w1 D1 k => by
          rw [← HE.out]
          exact append1_any D1 hlen HM.out HF.out (boxK (w := w3.drewN nq) (x := w.heap.size) X3 k (by omega) (by omega)) (boxK (w := w3.drewN nq) (x := w.heap.size + 1) Y3 k (by omega) (by omega)) (boxK (w := w3.drewN nq) (x := w.heap.size + 1 + 1) Z3 k (by omega) (by omega)) h5 (by show S.used + _ ≤ _; omega) hcat) (fun _ => by kernel_rfl)
      refine OP.mono ?_
      rintro e w4 ⟨rfl, D4, K4⟩
      have HD := Lib.hid D4
      clear D4 OP
      go_wp2
      go_ret
      exact ⟨by unfold doA; rw [HW.out]; rfl, by unfold doA; rw [HW.out]; exact HD.out, (K2.comp ((Kp.of_below hb3).comp (Kp.drewN _ _))).comp K4⟩
end
end Go.Proofs.Ytgkphogefpmeaaa
