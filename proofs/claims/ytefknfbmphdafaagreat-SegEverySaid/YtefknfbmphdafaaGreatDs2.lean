/- What the log leans on: Ds2. -/
import Derived.Test.YtefknfbmphdafaaGreatDs1
import Derived.Test.YtefknfbmphdafaaGreatIter
namespace Go.Proofs.YtefknfbmphdafaaGreat.Ds
open Go.RowKit Go.Maps DkM

def whyC (L : List Fl) (n : ByteArray) : Nat := if Rgt n = true ∧ (lkF L n).isSome = false then 0 else 51
def doC (S : Dk) (n : ByteArray) : Dk × Nat := opR S (whyC S.L n) { tick S with L := putF S.L ⟨n, nul, nul⟩ }
theorem thr_some {L : List Fl} {n : ByteArray} (h : (lkF L n).isSome = true) : thr L n = 0 := by unfold thr; rw [h]; rfl
theorem thr_none {L : List Fl} {n : ByteArray} (h : (lkF L n).isSome = false) : thr L n = 51 := by unfold thr; rw [h]; rfl
section
variable {w : World} {p b : Nat} {S : Dk}
theorem ml {n : Nat} (h : n ≤ 1048576) : n < maxLen := by unfold maxLen; omega
/-- A cell of a box that the method laid. -/
theorem boxK {w w1 : World} {x : Nat} {v : Value} (h : w.cell? ⟨x, 0, none⟩ = some v) (k : Kp p b w w1) (h1 : x ≠ p) (h2 : x ≠ b) : w1.cell? ⟨x, 0, none⟩ = some v := (k.cell (cell_lt h) h1 h2).trans h
theorem box_one (w : World) (v : Value) (T : TypeId) : (w.alloc (.cells #[v] T)).cell? ⟨w.heap.size, 0, none⟩ = some v := by simp
theorem box_fst (w : World) (v u : Value) (T U : TypeId) : ((w.alloc (.cells #[v] T)).alloc (.cells #[u] U)).cell? ⟨w.heap.size, 0, none⟩ = some v := by simp
theorem box_snd (w : World) (v u : Value) (T U : TypeId) : ((w.alloc (.cells #[v] T)).alloc (.cells #[u] U)).cell? ⟨w.heap.size + 1, 0, none⟩ = some u := by
  simp

set_option maxRecDepth 100000 in
set_option maxHeartbeats 1000000 in
theorem create_any (h : DiskAt w p b S) (B : Bd S) {n : ByteArray} (hn : n.size ≤ maxLen) :
    Calls Tryz.prog 21 #[ptr p, .string n] w (OpPost (doC S n) p b w) := by
  have hs : n.size ≤ 9223372036854775807 := by unfold maxLen at hn; omega
  have hp := h.blk.lt
  have hb := h.own.lt
  have HM := Lib.hid hn
  have D2 : DiskAt ((w.alloc (.cells #[ptr p] 41)).alloc (.cells #[.string n] 9)) p b S := (h.alloc _).alloc _
  have hD2 := Lib.hid D2
  have K2 : Kp p b w ((w.alloc (.cells #[ptr p] 41)).alloc (.cells #[.string n] 9)) := (Kp.alloc _ _).trans (Kp.alloc _ _)
  have X2 := box_fst w (ptr p) (.string n) 41 9
  have Y2 := box_snd w (ptr p) (.string n) 41 9
  have hlen := ml B.len
  have HB := Lib.hid B
  clear h B D2 hn
  cases hr : Rgt n with
  | false =>
    have HW := Lib.hid (show whyC S.L n = 51 by unfold whyC; rw [if_neg (by rw [hr]; simp)])
    have HR := Lib.hid hr
    clear hr
    go_enter Tryz.func21, Tryz.ntmps21
    go_wp2_with (go_at_call 47; refine (right_any n _ hs).mono ?_; rw [HR.out]; rintro e w1 ⟨rfl, rfl⟩)
    have OP : Calls Tryz.prog 49 #[ptr p, .int .i64 51, .func (.func 50) #[] #[ptr w.heap.size, ptr (w.heap.size + 1)]] _ _ := op_any hD2.out HB.out 51 (S' := { tick S with L := putF S.L ⟨n, nul, nul⟩ }) (fun _ he _ => absurd he (by decide)) (fun _ => by kernel_rfl)
    refine OP.mono ?_
    rintro e w3 ⟨rfl, D3, K3⟩
    have HD := Lib.hid D3
    clear D3 OP
    go_wp2
    go_ret
    exact ⟨by unfold doC; rw [HW.out]; rfl, by unfold doC; rw [HW.out]; exact HD.out, K2.trans K3⟩
  | true =>
    have HR := Lib.hid hr
    cases ht : (lkF S.L n).isSome with
    | true =>
      have HW := Lib.hid (show whyC S.L n = 51 by unfold whyC; rw [if_neg (by rw [ht]; simp)])
      have HT := Lib.hid (thr_some ht)
      clear hr ht
      go_enter Tryz.func21, Tryz.ntmps21
      go_wp2_with (first | (go_at_call 47; refine (right_any n _ hs).mono ?_; rw [HR.out]; rintro e w1 ⟨rfl, rfl⟩) | (go_at_call 48; refine (there_any hD2.out HM.out).mono ?_; rw [HT.out]; rintro e w3 ⟨rfl, hb3⟩; have X3 : w3.cell? ⟨w.heap.size, 0, none⟩ = some (ptr p) := (hb3.cell (cell_lt X2)).trans X2; have Y3 : w3.cell? ⟨w.heap.size + 1, 0, none⟩ = some (.string n) := (hb3.cell (cell_lt Y2)).trans Y2))
      have D3 := hD2.out.belowS hb3
      have OP : Calls Tryz.prog 49 #[ptr p, .int .i64 51, .func (.func 50) #[] #[ptr w.heap.size, ptr (w.heap.size + 1)]] _ _ := op_any D3 HB.out 51 (S' := { tick S with L := putF S.L ⟨n, nul, nul⟩ }) (fun _ he _ => absurd he (by decide)) (fun _ => by kernel_rfl)
      refine OP.mono ?_
      rintro e w4 ⟨rfl, D4, K4⟩
      have HD := Lib.hid D4
      clear D4 OP
      go_wp2
      go_ret
      exact ⟨by unfold doC; rw [HW.out]; rfl, by unfold doC; rw [HW.out]; exact HD.out, (K2.trans (Kp.of_below hb3)).trans K4⟩
    | false =>
      have HW := Lib.hid (show whyC S.L n = 0 by unfold whyC; rw [if_pos ⟨hr, ht⟩])
      have HT := Lib.hid (thr_none ht)
      clear hr ht
      go_enter Tryz.func21, Tryz.ntmps21
      go_wp2_with (first | (go_at_call 47; refine (right_any n _ hs).mono ?_; rw [HR.out]; rintro e w1 ⟨rfl, rfl⟩) | (go_at_call 48; refine (there_any hD2.out HM.out).mono ?_; rw [HT.out]; rintro e w3 ⟨rfl, hb3⟩; have X3 : w3.cell? ⟨w.heap.size, 0, none⟩ = some (ptr p) := (hb3.cell (cell_lt X2)).trans X2; have Y3 : w3.cell? ⟨w.heap.size + 1, 0, none⟩ = some (.string n) := (hb3.cell (cell_lt Y2)).trans Y2))
      have D3 := hD2.out.belowS hb3
      have OP : Calls Tryz.prog 49 #[ptr p, .int .i64 0, .func (.func 50) #[] #[ptr w.heap.size, ptr (w.heap.size + 1)]] _ _ := op_any D3 HB.out 0 (S' := { tick S with L := putF S.L ⟨n, nul, nul⟩ }) (fun _ _ _ w1 D1 k => create1_any D1 hlen HM.out (boxK X3 k (by omega) (by omega)) (boxK Y3 k (by omega) (by omega))) (fun _ => by kernel_rfl)
      refine OP.mono ?_
      rintro e w4 ⟨rfl, D4, K4⟩
      have HD := Lib.hid D4
      clear D4 OP
      go_wp2
      go_ret
      exact ⟨by unfold doC; rw [HW.out]; rfl, by unfold doC; rw [HW.out]; exact HD.out, (K2.trans (Kp.of_below hb3)).trans K4⟩
end
end Go.Proofs.YtefknfbmphdafaaGreat.Ds
namespace Go.Proofs.YtefknfbmphdafaaGreat.Ds
open Go.RowKit Go.Maps DkM

def whyA (S : Dk) (n t : ByteArray) : Nat := if (lkF S.L n).isSome = false then 51 else if S.lim - S.used < (t.size : Nat) then 52 else 0
def didA (S : Dk) (n t : ByteArray) : Dk := { tick S with L := putF S.L ⟨n, ((lkF S.L n).getD ⟨n, nul, nul⟩).s, ((lkF S.L n).getD ⟨n, nul, nul⟩).l ++ t⟩, used := S.used + (t.size : Nat) }
def doA (S : Dk) (n t : ByteArray) : Dk × Nat := opR S (whyA S n t) (didA S n t)
theorem Kp.comp {p b : Nat} {w w1 w2 : World} (h : Kp p b w w1) (k : Kp p b w1 w2) : Kp p b w w2 := h.trans k
theorem box3_1 (w : World) (u v x : Value) (T U X : TypeId) : (((w.alloc (.cells #[u] T)).alloc (.cells #[v] U)).alloc (.cells #[x] X)).cell? ⟨w.heap.size, 0, none⟩ = some u :=
  (World.cell?_alloc_lt _ _ _ (cell_lt (box_fst w u v T U))).trans (box_fst w u v T U)
theorem box3_2 (w : World) (u v x : Value) (T U X : TypeId) : (((w.alloc (.cells #[u] T)).alloc (.cells #[v] U)).alloc (.cells #[x] X)).cell? ⟨w.heap.size + 1, 0, none⟩ = some v :=
  (World.cell?_alloc_lt _ _ _ (cell_lt (box_snd w u v T U))).trans (box_snd w u v T U)
theorem box3_3 (w : World) (u v x : Value) (T U X : TypeId) : (((w.alloc (.cells #[u] T)).alloc (.cells #[v] U)).alloc (.cells #[x] X)).cell? ⟨w.heap.size + 1 + 1, 0, none⟩ = some x := by
  have := box_one ((w.alloc (.cells #[u] T)).alloc (.cells #[v] U)) x X
  rw [show ((w.alloc (.cells #[u] T)).alloc (.cells #[v] U)).heap.size = w.heap.size + 1 + 1 by simp] at this
  exact this
section
variable {w : World} {p b : Nat} {S : Dk}

set_option maxRecDepth 100000 in
set_option maxHeartbeats 1000000 in
theorem append_any (h : DiskAt w p b S) (B : Bd S) {n t : ByteArray} (hn : n.size ≤ maxLen) (ht : t.size ≤ 9223372036854775807) :
    Calls Tryz.prog 29 #[ptr p, .string n, .string t] w (OpPost (doA S n t) p b w) := by
  have hp := h.blk.lt
  have hb := h.own.lt
  have HM := Lib.hid hn
  obtain ⟨w2, hw2⟩ : ∃ w2, w2 = ((w.alloc (.cells #[ptr p] 41)).alloc (.cells #[.string n] 9)).alloc (.cells #[.string t] 9) := ⟨_, rfl⟩
  have hD2 : Hid (DiskAt w2 p b S) := Lib.hid (by rw [hw2]; exact ((h.alloc _).alloc _).alloc _)
  have K2 : Kp p b w w2 := by rw [hw2]; exact ((Kp.alloc _ _).trans (Kp.alloc _ _)).trans (Kp.alloc _ _)
  have X2 : w2.cell? ⟨w.heap.size, 0, none⟩ = some (ptr p) := by rw [hw2]; exact box3_1 _ _ _ _ _ _ _
  have Y2 : w2.cell? ⟨w.heap.size + 1, 0, none⟩ = some (.string n) := by rw [hw2]; exact box3_2 _ _ _ _ _ _ _
  have Z2 : w2.cell? ⟨w.heap.size + 1 + 1, 0, none⟩ = some (.string t) := by rw [hw2]; exact box3_3 _ _ _ _ _ _ _
  have HW2 := Lib.hid hw2
  have hlen := ml B.len
  have HB := Lib.hid B
  have h1 := B.lim0
  have h2 := B.lim1
  have h3 := B.used
  have h4 := B.used1
  have h5 : 0 ≤ S.used := by omega
  have h6 : S.used ≤ 1073741824 := by omega
  clear h B hn hw2 h3 h4
  cases hf : (lkF S.L n).isSome with
  | false =>
    have HW := Lib.hid (show whyA S n t = 51 by unfold whyA; rw [if_pos hf])
    have HT := Lib.hid (thr_none hf)
    clear hf
    go_enter Tryz.func29, Tryz.ntmps29
    go_wp2_with (go_at_call 48; rw [← HW2.out]; refine (there_any hD2.out HM.out).mono ?_; rw [HT.out]; rintro e w3 ⟨rfl, hb3⟩; have X3 : w3.cell? ⟨w.heap.size, 0, none⟩ = some (ptr p) := (hb3.cell (cell_lt X2)).trans X2; have Z3 : w3.cell? ⟨w.heap.size + 1 + 1, 0, none⟩ = some (.string t) := (hb3.cell (cell_lt Z2)).trans Z2)
    go_quiet (fail)
    have D3 := (hD2.out.belowS hb3).drewN nq
    go_wp2_with fail
    have OP : Calls Tryz.prog 49 #[ptr p, .int .i64 51, .func (.func 65) #[] #[ptr w.heap.size, ptr (w.heap.size + 1), ptr (w.heap.size + 1 + 1)]] _ _ := op_any D3 HB.out 51 (S' := didA S n t) (fun _ he _ => absurd he (by decide)) (fun _ => by kernel_rfl)
    refine OP.mono ?_
    rintro e w4 ⟨rfl, D4, K4⟩
    have HD := Lib.hid D4
    clear D4 OP D3
    go_wp2
    go_ret
    exact ⟨by unfold doA; rw [HW.out]; rfl, by unfold doA; rw [HW.out]; exact HD.out, (K2.comp ((Kp.of_below hb3).comp (Kp.drewN _ _))).comp K4⟩
  | true =>
    have HT := Lib.hid (thr_some hf)
    by_cases hbig : S.lim - S.used < (t.size : Nat)
    · have HW := Lib.hid (show whyA S n t = 52 by unfold whyA; rw [if_neg (by rw [hf]; simp), if_pos hbig])
      clear hf
      go_enter Tryz.func29, Tryz.ntmps29
      go_wp2_with (go_at_call 48; rw [← HW2.out]; refine (there_any hD2.out HM.out).mono ?_; rw [HT.out]; rintro e w3 ⟨rfl, hb3⟩; have X3 : w3.cell? ⟨w.heap.size, 0, none⟩ = some (ptr p) := (hb3.cell (cell_lt X2)).trans X2; have Z3 : w3.cell? ⟨w.heap.size + 1 + 1, 0, none⟩ = some (.string t) := (hb3.cell (cell_lt Z2)).trans Z2)
      have D3 := Lib.hid (hD2.out.belowS hb3)
      obtain ⟨-, -, c1, -, c3, -⟩ := D3.out.cells
      go_quiet (fail)
      have D4 := Lib.hid (D3.out.drewN nq)
      clear c1 c3
      go_wp2_with fail
      have OP : Calls Tryz.prog 49 #[ptr p, .int .i64 52, .func (.func 65) #[] #[ptr w.heap.size, ptr (w.heap.size + 1), ptr (w.heap.size + 1 + 1)]] _ _ := op_any D4.out HB.out 52 (S' := didA S n t) (fun _ he _ => absurd he (by decide)) (fun _ => by kernel_rfl)
      refine OP.mono ?_
      rintro e w4 ⟨rfl, D4, K4⟩
      have HD := Lib.hid D4
      clear D4 OP
      go_wp2
      go_ret
      exact ⟨by unfold doA; rw [HW.out]; rfl, by unfold doA; rw [HW.out]; exact HD.out, (K2.comp ((Kp.of_below hb3).comp (Kp.drewN _ _))).comp K4⟩
    · have HW := Lib.hid (show whyA S n t = 0 by unfold whyA; rw [if_neg (by rw [hf]; simp), if_neg hbig])
      have hsm : (t.size : Int) ≤ S.lim - S.used := by omega
      clear hbig
      obtain ⟨f, hff⟩ := Option.isSome_iff_exists.1 hf
      have hcat : (f.s ++ f.l).size + t.size ≤ 9223372036854775807 := by
        have := usd_le (lkF_some hff).1
        have h3 := HB.out.used1
        rw [app_size]
        omega
      have HE := Lib.hid (show ({ tick S with L := putF (tick S).L ⟨n, f.s, f.l ++ t⟩, used := (tick S).used + (t.size : Nat) } : Dk) = didA S n t by unfold didA; rw [hff]; rfl)
      have HF := Lib.hid hff
      clear hf hff
      go_enter Tryz.func29, Tryz.ntmps29
      go_wp2_with (go_at_call 48; rw [← HW2.out]; refine (there_any hD2.out HM.out).mono ?_; rw [HT.out]; rintro e w3 ⟨rfl, hb3⟩; have X3 : w3.cell? ⟨w.heap.size, 0, none⟩ = some (ptr p) := (hb3.cell (cell_lt X2)).trans X2; have Z3 : w3.cell? ⟨w.heap.size + 1 + 1, 0, none⟩ = some (.string t) := (hb3.cell (cell_lt Z2)).trans Z2)
      have Y3 : w3.cell? ⟨w.heap.size + 1, 0, none⟩ = some (.string n) := (hb3.cell (cell_lt Y2)).trans Y2
      have D3 := Lib.hid (hD2.out.belowS hb3)
      obtain ⟨-, -, c1, -, c3, -⟩ := D3.out.cells
      go_quiet (fail)
      have D4 := Lib.hid (D3.out.drewN nq)
      clear c1 c3
      go_wp2_with fail
      have OP : Calls Tryz.prog 49 #[ptr p, .int .i64 0, .func (.func 65) #[] #[ptr w.heap.size, ptr (w.heap.size + 1), ptr (w.heap.size + 1 + 1)]] _ _ :=
        op_any D4.out HB.out 0 (S' := didA S n t) (fun _ _ _ w1 D1 k => by
          rw [← HE.out]
          exact append1_any D1 hlen HM.out HF.out (boxK (w := w3.drewN nq) (x := w.heap.size) X3 k (by omega) (by omega)) (boxK (w := w3.drewN nq) (x := w.heap.size + 1) Y3 k (by omega) (by omega)) (boxK (w := w3.drewN nq) (x := w.heap.size + 1 + 1) Z3 k (by omega) (by omega)) h5 (by show S.used + _ ≤ _; omega) hcat) (fun _ => by kernel_rfl)
      refine OP.mono ?_
      rintro e w4 ⟨rfl, D4, K4⟩
      have HD := Lib.hid D4
      clear D4 OP
      go_wp2
      go_ret
      exact ⟨by unfold doA; rw [HW.out]; rfl, by unfold doA; rw [HW.out]; exact HD.out, (K2.comp ((Kp.of_below hb3).comp (Kp.drewN _ _))).comp K4⟩
end
end Go.Proofs.YtefknfbmphdafaaGreat.Ds
namespace Go.Proofs.YtefknfbmphdafaaGreat.Ds
open Go.RowKit Go.Maps DkM

def gotF (S : Dk) (n : ByteArray) : Fl := (lkF S.L n).getD ⟨n, nul, nul⟩
def didS (S : Dk) (n : ByteArray) : Dk := { tick S with L := putF S.L ⟨n, (gotF S n).s ++ (gotF S n).l, nul⟩ }
def doS (S : Dk) (n : ByteArray) : Dk × Nat := opR S (thr S.L n) (didS S n)
def didD (S : Dk) (n : ByteArray) : Dk := { tick S with L := wo S.L n, used := S.used - ((flB (lkF S.L n)).size : Nat) }
def doD (S : Dk) (n : ByteArray) : Dk × Nat := opR S (thr S.L n) (didD S n)
theorem thr_zero {L : List Fl} {n : ByteArray} (h : thr L n = 0) : ∃ f, lkF L n = some f := by
  unfold thr at h
  cases hl : lkF L n with
  | none => rw [hl] at h; simp at h
  | some f => exact ⟨f, rfl⟩
theorem flB_le {L : List Fl} {n : ByteArray} : (flB (lkF L n)).size ≤ usd L := by
  cases hl : lkF L n with
  | none => exact Nat.zero_le _
  | some f =>
    have := usd_le (lkF_some hl).1
    show (f.s ++ f.l).size ≤ _
    rw [app_size]; exact this
theorem below_undrew {w w' : World} (h : Below w.drew.heap.size w.drew w') : Below w.heap.size w w' := ⟨h.os, h.tape, h.output, h.size, h.block⟩
section
variable {w : World} {p b : Nat} {S : Dk}

set_option maxRecDepth 100000 in
set_option maxHeartbeats 1000000 in
theorem sync_any (h : DiskAt w p b S) (B : Bd S) {n : ByteArray} (hn : n.size ≤ maxLen) :
    Calls Tryz.prog 77 #[ptr p, .string n] w (OpPost (doS S n) p b w) := by
  have hp := h.blk.lt
  have hb := h.own.lt
  have HM := Lib.hid hn
  obtain ⟨w2, hw2⟩ : ∃ w2, w2 = (w.alloc (.cells #[ptr p] 41)).alloc (.cells #[.string n] 9) := ⟨_, rfl⟩
  have hD2 : Hid (DiskAt w2 p b S) := Lib.hid (by rw [hw2]; exact (h.alloc _).alloc _)
  have K2 : Kp p b w w2 := by rw [hw2]; exact (Kp.alloc _ _).trans (Kp.alloc _ _)
  have X2 : w2.cell? ⟨w.heap.size, 0, none⟩ = some (ptr p) := by rw [hw2]; exact box_fst _ _ _ _ _
  have Y2 : w2.cell? ⟨w.heap.size + 1, 0, none⟩ = some (.string n) := by rw [hw2]; exact box_snd _ _ _ _ _
  have lX := cell_lt X2
  have lY := cell_lt Y2
  simp only at lX lY
  have HW2 := Lib.hid hw2
  have hlen := ml B.len
  have HB := Lib.hid B
  clear h B hn hw2
  have OP : ∀ w3, Below w2.heap.size w2 w3 → Calls Tryz.prog 49 #[ptr p, .int .i64 (thr S.L n : Nat), .func (.func 115) #[] #[ptr w.heap.size, ptr (w.heap.size + 1)]] w3 (OpPost (doS S n) p b w3) := fun w3 hb3 =>
    op_any (hD2.out.belowS hb3) HB.out (thr S.L n) (S' := didS S n) (fun _ h0 _ w1 D1 k => by
      obtain ⟨f, hf⟩ := thr_zero h0
      have hE : ({ tick S with L := putF (tick S).L ⟨n, f.s ++ f.l, nul⟩ } : Dk) = didS S n := by unfold didS gotF; rw [hf]; rfl
      rw [← hE]
      exact sync1_any D1 hlen HM.out hf (boxK (x := w.heap.size) ((hb3.cell (by exact lX)).trans X2) k (by omega) (by omega)) (boxK (x := w.heap.size + 1) ((hb3.cell (by exact lY)).trans Y2) k (by omega) (by omega))) (fun _ => by kernel_rfl)
  have HO := Lib.hid OP
  clear OP
  go_enter Tryz.func77, Tryz.ntmps77
  go_wp2_with fail
  rw [← HW2.out]
  go_region_held3 (fun w' => w'.cell? ⟨w.heap.size, 0, none⟩ = some (ptr p) ∧ w'.cell? ⟨w.heap.size + 1, 0, none⟩ = some (.string n))
    (first | exact ⟨X2, Y2⟩ | exact ⟨(hb3.cell lX).trans X2, (hb3.cell lY).trans Y2⟩ | exact ⟨(K4.cell (by exact Nat.lt_of_lt_of_le lX hb3.size) (by simp; omega) (by simp; omega)).trans ((hb3.cell lX).trans X2), (K4.cell (by exact Nat.lt_of_lt_of_le lY hb3.size) (by simp; omega) (by simp; omega)).trans ((hb3.cell lY).trans Y2)⟩)
    (first | (go_at_call 48; refine (there_any hD2.out.drew HM.out).mono ?_; rintro e w3 ⟨rfl, hb3⟩) | (go_at_call 49; refine (HO.out _ (below_undrew hb3)).mono ?_; rintro e w4 ⟨rfl, D4, K4⟩))
  all_goals
    have HD := Lib.hid D4
    clear D4
    go_wp2
    go_ret
    exact ⟨rfl, HD.out, (K2.comp (Kp.of_below (below_undrew hb3))).comp K4⟩

set_option maxRecDepth 100000 in
set_option maxHeartbeats 1000000 in
theorem delete_any (h : DiskAt w p b S) (B : Bd S) {n : ByteArray} (hn : n.size ≤ maxLen) :
    Calls Tryz.prog 79 #[ptr p, .string n] w (OpPost (doD S n) p b w) := by
  have hp := h.blk.lt
  have hb := h.own.lt
  have HM := Lib.hid hn
  obtain ⟨w2, hw2⟩ : ∃ w2, w2 = (w.alloc (.cells #[ptr p] 41)).alloc (.cells #[.string n] 9) := ⟨_, rfl⟩
  have hD2 : Hid (DiskAt w2 p b S) := Lib.hid (by rw [hw2]; exact (h.alloc _).alloc _)
  have K2 : Kp p b w w2 := by rw [hw2]; exact (Kp.alloc _ _).trans (Kp.alloc _ _)
  have X2 : w2.cell? ⟨w.heap.size, 0, none⟩ = some (ptr p) := by rw [hw2]; exact box_fst _ _ _ _ _
  have Y2 : w2.cell? ⟨w.heap.size + 1, 0, none⟩ = some (.string n) := by rw [hw2]; exact box_snd _ _ _ _ _
  have lX := cell_lt X2
  have lY := cell_lt Y2
  simp only at lX lY
  have HW2 := Lib.hid hw2
  have hlen := ml B.len
  have HB := Lib.hid B
  clear h B hn hw2
  have OP : ∀ w3, Below w2.heap.size w2 w3 → Calls Tryz.prog 49 #[ptr p, .int .i64 (thr S.L n : Nat), .func (.func 117) #[] #[ptr w.heap.size, ptr (w.heap.size + 1)]] w3 (OpPost (doD S n) p b w3) := fun w3 hb3 =>
    op_any (hD2.out.belowS hb3) HB.out (thr S.L n) (S' := didD S n) (fun _ h0 _ w1 D1 k => by
      exact delete1_any D1 HM.out (boxK (x := w.heap.size) ((hb3.cell (by exact lX)).trans X2) k (by omega) (by omega)) (boxK (x := w.heap.size + 1) ((hb3.cell (by exact lY)).trans Y2) k (by omega) (by omega)) (by show (_ : Int) ≤ S.used; rw [HB.out.used]; exact Int.ofNat_le.2 flB_le) (by show S.used ≤ _; have := HB.out.used; have := HB.out.used1; omega)) (fun _ => by kernel_rfl)
  have HO := Lib.hid OP
  clear OP
  go_enter Tryz.func79, Tryz.ntmps79
  go_wp2_with fail
  rw [← HW2.out]
  go_region_held3 (fun w' => w'.cell? ⟨w.heap.size, 0, none⟩ = some (ptr p) ∧ w'.cell? ⟨w.heap.size + 1, 0, none⟩ = some (.string n))
    (first | exact ⟨X2, Y2⟩ | exact ⟨(hb3.cell lX).trans X2, (hb3.cell lY).trans Y2⟩ | exact ⟨(K4.cell (by exact Nat.lt_of_lt_of_le lX hb3.size) (by simp; omega) (by simp; omega)).trans ((hb3.cell lX).trans X2), (K4.cell (by exact Nat.lt_of_lt_of_le lY hb3.size) (by simp; omega) (by simp; omega)).trans ((hb3.cell lY).trans Y2)⟩)
    (first | (go_at_call 48; refine (there_any hD2.out.drew HM.out).mono ?_; rintro e w3 ⟨rfl, hb3⟩) | (go_at_call 49; refine (HO.out _ (below_undrew hb3)).mono ?_; rintro e w4 ⟨rfl, D4, K4⟩))
  all_goals
    have HD := Lib.hid D4
    clear D4
    go_wp2
    go_ret
    exact ⟨rfl, HD.out, (K2.comp (Kp.of_below (below_undrew hb3))).comp K4⟩
end
end Go.Proofs.YtefknfbmphdafaaGreat.Ds
namespace Go.Proofs.YtefknfbmphdafaaGreat.Ds
open Go.RowKit Go.Maps DkM

def whyR (S : Dk) (a c : ByteArray) : Nat := if Rgt c = true then thr S.L a else 51
def didR (S : Dk) (a c : ByteArray) : Dk := if eqN a c = true then tick S else { tick S with L := wo (putF S.L ⟨c, (gotF S a).s, (gotF S a).l⟩) a, used := S.used - ((flB (lkF S.L c)).size : Nat) }
def doR (S : Dk) (a c : ByteArray) : Dk × Nat := opR S (whyR S a c) (didR S a c)
section
variable {w : World} {p b : Nat} {S : Dk}

set_option maxRecDepth 100000 in
set_option maxHeartbeats 1000000 in
theorem rename_any (h : DiskAt w p b S) (B : Bd S) {a c : ByteArray} (ha : a.size ≤ maxLen) (hc : c.size ≤ maxLen) :
    Calls Tryz.prog 78 #[ptr p, .string a, .string c] w (OpPost (doR S a c) p b w) := by
  have hp := h.blk.lt
  have hb := h.own.lt
  have hs : c.size ≤ 9223372036854775807 := by unfold maxLen at hc; omega
  have HMa := Lib.hid ha
  have HMc := Lib.hid hc
  obtain ⟨w2, hw2⟩ : ∃ w2, w2 = ((w.alloc (.cells #[ptr p] 41)).alloc (.cells #[.string a] 9)).alloc (.cells #[.string c] 9) := ⟨_, rfl⟩
  have hD2 : Hid (DiskAt w2 p b S) := Lib.hid (by rw [hw2]; exact ((h.alloc _).alloc _).alloc _)
  have K2 : Kp p b w w2 := by rw [hw2]; exact ((Kp.alloc _ _).trans (Kp.alloc _ _)).trans (Kp.alloc _ _)
  have X2 : w2.cell? ⟨w.heap.size, 0, none⟩ = some (ptr p) := by rw [hw2]; exact box3_1 _ _ _ _ _ _ _
  have Y2 : w2.cell? ⟨w.heap.size + 1, 0, none⟩ = some (.string a) := by rw [hw2]; exact box3_2 _ _ _ _ _ _ _
  have Z2 : w2.cell? ⟨w.heap.size + 1 + 1, 0, none⟩ = some (.string c) := by rw [hw2]; exact box3_3 _ _ _ _ _ _ _
  have HW2 := Lib.hid hw2
  have hlen := ml B.len
  have HB := Lib.hid B
  clear h B ha hc hw2
  have OP : ∀ (w3 : World) (e : Nat), (e = 0 → thr S.L a = 0) → Below w2.heap.size w2 w3 → Calls Tryz.prog 49 #[ptr p, .int .i64 (e : Nat), .func (.func 116) #[] #[ptr (w.heap.size + 1), ptr (w.heap.size + 1 + 1), ptr w.heap.size]] w3 (OpPost (opR S e (didR S a c)) p b w3) := fun w3 e he hb3 =>
    op_any (hD2.out.belowS hb3) HB.out e (S' := didR S a c) (fun _ h0 _ w1 D1 k => by
      obtain ⟨f, hf⟩ := thr_zero (he h0)
      have X1 := boxK (x := w.heap.size) ((hb3.cell (cell_lt X2)).trans X2) k (by omega) (by omega)
      have Y1 := boxK (x := w.heap.size + 1) ((hb3.cell (cell_lt Y2)).trans Y2) k (by omega) (by omega)
      have Z1 := boxK (x := w.heap.size + 1 + 1) ((hb3.cell (cell_lt Z2)).trans Z2) k (by omega) (by omega)
      unfold didR
      by_cases heq : eqN a c = true
      · rw [if_pos heq]
        obtain rfl := eqN_iff.1 heq
        exact rename1_same D1 Y1 Z1
      · rw [if_neg heq]
        have hne : a ≠ c := fun h => heq (eqN_iff.2 h)
        have hE : gotF S a = f := by unfold gotF; rw [hf]; rfl
        rw [hE]
        exact rename1_any D1 hlen HMa.out HMc.out hne hf Y1 Z1 X1 (by show (_ : Int) ≤ S.used; rw [HB.out.used]; exact Int.ofNat_le.2 flB_le) (by show S.used ≤ _; have := HB.out.used; have := HB.out.used1; omega)) (fun _ => by kernel_rfl)
  have HO := Lib.hid OP
  clear OP
  cases hr : Rgt c with
  | false =>
    have HW := Lib.hid (show whyR S a c = 51 by unfold whyR; rw [if_neg (by rw [hr]; decide)])
    have HR := Lib.hid hr
    clear hr
    go_enter Tryz.func78, Tryz.ntmps78
    go_wp2_with (first | (go_at_call 48; rw [← HW2.out]; refine (there_any hD2.out HMa.out).mono ?_; rintro e w3 ⟨rfl, hb3⟩; have X3 : w3.cell? ⟨w.heap.size, 0, none⟩ = some (ptr p) := (hb3.cell (cell_lt X2)).trans X2; have Y3 : w3.cell? ⟨w.heap.size + 1, 0, none⟩ = some (.string a) := (hb3.cell (cell_lt Y2)).trans Y2; have Z3 : w3.cell? ⟨w.heap.size + 1 + 1, 0, none⟩ = some (.string c) := (hb3.cell (cell_lt Z2)).trans Z2) | (go_at_call 47; refine (right_any c _ hs).mono ?_; rw [HR.out]; rintro e w4 ⟨rfl, rfl⟩))
    refine (HO.out _ 51 (fun h => absurd h (by decide)) hb3).mono ?_
    rintro e w4 ⟨rfl, D4, K4⟩
    have HD := Lib.hid D4
    clear D4
    go_wp2
    go_ret
    exact ⟨by unfold doR; rw [HW.out]; rfl, by unfold doR; rw [HW.out]; exact HD.out, (K2.comp (Kp.of_below hb3)).comp K4⟩
  | true =>
    have HW := Lib.hid (show whyR S a c = thr S.L a by unfold whyR; rw [if_pos hr])
    have HR := Lib.hid hr
    clear hr
    go_enter Tryz.func78, Tryz.ntmps78
    go_wp2_with (first | (go_at_call 48; rw [← HW2.out]; refine (there_any hD2.out HMa.out).mono ?_; rintro e w3 ⟨rfl, hb3⟩; have X3 : w3.cell? ⟨w.heap.size, 0, none⟩ = some (ptr p) := (hb3.cell (cell_lt X2)).trans X2; have Y3 : w3.cell? ⟨w.heap.size + 1, 0, none⟩ = some (.string a) := (hb3.cell (cell_lt Y2)).trans Y2; have Z3 : w3.cell? ⟨w.heap.size + 1 + 1, 0, none⟩ = some (.string c) := (hb3.cell (cell_lt Z2)).trans Z2) | (go_at_call 47; refine (right_any c _ hs).mono ?_; rw [HR.out]; rintro e w4 ⟨rfl, rfl⟩))
    refine (HO.out _ (thr S.L a) (fun h => h) hb3).mono ?_
    rintro e w4 ⟨rfl, D4, K4⟩
    have HD := Lib.hid D4
    clear D4
    go_wp2
    go_ret
    exact ⟨by unfold doR; rw [HW.out]; rfl, by unfold doR; rw [HW.out]; exact HD.out, (K2.comp (Kp.of_below hb3)).comp K4⟩
end
end Go.Proofs.YtefknfbmphdafaaGreat.Ds
namespace Go.Proofs.YtefknfbmphdafaaGreat.Ds
open Go.RowKit Go.Maps DkM

def rdS (S : Dk) (n : ByteArray) (a : Int) : ByteArray × Nat :=
  if S.down then (nul, 50) else match lkF S.L n with
    | none => (nul, 51)
    | some f => if a < 0 ∨ ((f.s ++ f.l).size : Int) < a then (nul, 1) else ((f.s ++ f.l).extract a.toNat (min (f.s ++ f.l).size (a.toNat + 64)), 0)
def doRd (S : Dk) (n : ByteArray) (a : Int) : Dk := if (rdS S n a).2 = 0 then { S with reads := S.reads + 1 } else S
def ReadPost (S : Dk) (n : ByteArray) (a : Int) (p b : Nat) (w : World) (e : Ending) (w' : World) : Prop :=
  e = .returned (.tuple #[.string (rdS S n a).1, .int .i64 ((rdS S n a).2 : Nat)]) ∧ DiskAt w' p b (doRd S n a) ∧ Kp p b w w'
theorem rd_post {S : Dk} {n : ByteArray} {a : Int} {p b : Nat} {w w' : World} {B : ByteArray} {c : Nat} (h : rdS S n a = (B, c)) {e : Ending} (he : e = .returned (.tuple #[.string B, .int .i64 (c : Nat)])) (hD : DiskAt w' p b (if c = 0 then { S with reads := S.reads + 1 } else S)) (hk : Kp p b w w') : ReadPost S n a p b w e w' := by
  refine ⟨by rw [h]; exact he, ?_, hk⟩
  unfold doRd
  rw [h]
  exact hD
section
variable {w : World} {p b : Nat} {S : Dk}

set_option maxRecDepth 100000 in
set_option maxHeartbeats 1000000 in
theorem read_any (h : DiskAt w p b S) (B : Bd S) {n : ByteArray} (hn : n.size ≤ maxLen) (a : Int) (hw0 : -9223372036854775808 ≤ a) (hw1 : a ≤ 9223372036854775807) :
    Calls Tryz.prog 53 #[ptr p, .string n, .int .i64 a] w (ReadPost S n a p b w) := by
  obtain ⟨lt, c0, c1, c2, c3, c4, c5, c6⟩ := h.cells
  have hD := Lib.hid h
  have HM := Lib.hid hn
  have hfl := run_field0
  have r0 := B.reads0
  have r1 := B.reads1
  have HB := Lib.hid B
  cases hd : S.down with
  | true =>
    have HR := Lib.hid (show rdS S n a = (nul, 50) by unfold rdS; rw [hd]; rfl)
    rw [hd] at c6
    clear h hn c0 c1 c2 c3 c4 c5 hd B
    go_enter Tryz.func53, Tryz.ntmps53
    go_wp2_with fail
    go_ret2
    exact rd_post HR.out rfl (by rw [if_neg (by decide)]; exact hD.out) (Kp.refl _ _ _)
  | false =>
    rw [hd] at c6
    cases hl : lkF S.L n with
    | none =>
      have HR := Lib.hid (show rdS S n a = (nul, 51) by unfold rdS; rw [hd, hl]; rfl)
      have HT := Lib.hid (show thr S.L n = 51 from thr_none (by rw [hl]; rfl))
      clear h hn c0 c1 c2 c3 c4 c5 hd hl B
      go_enter Tryz.func53, Tryz.ntmps53
      go_wp2_with (go_at_call 48; refine (there_any hD.out HM.out).mono ?_; rw [HT.out]; rintro e w3 ⟨rfl, hb3⟩)
      go_ret2
      exact rd_post HR.out rfl (by rw [if_neg (by decide)]; exact hD.out.belowS hb3) (Kp.of_below hb3)
    | some f =>
      have HT := Lib.hid (show thr S.L n = 0 from thr_some (by rw [hl]; rfl))
      have hsz : (f.s ++ f.l).size ≤ 1073741824 := by
        have := usd_le (lkF_some hl).1
        have h3 := HB.out.used1
        rw [app_size]
        omega
      by_cases hbad : a < 0 ∨ ((f.s ++ f.l).size : Int) < a
      · have HR := Lib.hid (show rdS S n a = (nul, 1) by unfold rdS; rw [hd, hl]; simp only; rw [if_neg (by decide), if_pos hbad])
        have HL := Lib.hid hl
        clear h hn c1 c2 c3 c4 c5 hd hl B
        obtain ⟨X, hX⟩ : ∃ X, X = f.s ++ f.l := ⟨_, rfl⟩
        rw [← hX] at hbad hsz
        have HX := Lib.hid hX
        clear hX
        by_cases hneg : a < 0
        · clear hbad
          go_enter Tryz.func53, Tryz.ntmps53
          go_wp2_with (first | (go_at_call 48; refine (there_any hD.out HM.out).mono ?_; rw [HT.out]; rintro e w3 ⟨rfl, hb3⟩; have d0 : w3.cell? ⟨p, 0, none⟩ = some (.map (some b)) := (hb3.cell (by exact lt)).trans c0) | (at_lookup; refine wpList_look _ rfl _ _ rfl b S.L n rfl (hD.out.belowS hb3).own rfl HM.out ?_; rw [HL.out]; unfold orV flB flN; simp only []; rw [← HX.out]))
          go_ret2
          exact rd_post HR.out rfl (by rw [if_neg (by decide)]; exact hD.out.belowS hb3) (Kp.of_below hb3)
        · have hbig : (X.size : Int) < a := by omega
          have hpos : 0 ≤ a := by omega
          clear hbad hneg
          go_enter Tryz.func53, Tryz.ntmps53
          go_wp2_with (first | (go_at_call 48; refine (there_any hD.out HM.out).mono ?_; rw [HT.out]; rintro e w3 ⟨rfl, hb3⟩; have d0 : w3.cell? ⟨p, 0, none⟩ = some (.map (some b)) := (hb3.cell (by exact lt)).trans c0) | (at_lookup; refine wpList_look _ rfl _ _ rfl b S.L n rfl (hD.out.belowS hb3).own rfl HM.out ?_; rw [HL.out]; unfold orV flB flN; simp only []; rw [← HX.out]))
          go_ret2
          exact rd_post HR.out rfl (by rw [if_neg (by decide)]; exact hD.out.belowS hb3) (Kp.of_below hb3)
      · obtain ⟨k, rfl⟩ : ∃ k : Nat, a = k := ⟨a.toNat, by omega⟩
        obtain ⟨X, hX⟩ : ∃ X, X = f.s ++ f.l := ⟨_, rfl⟩
        have hk : k ≤ X.size := by rw [hX]; omega
        have HR := Lib.hid (show rdS S n k = (X.extract k (min X.size (k + 64)), 0) by unfold rdS; rw [hd, hl]; simp only; rw [if_neg (by decide), if_neg hbad, hX]; rfl)
        have HL := Lib.hid hl
        rw [← hX] at hsz
        have HX := Lib.hid hX
        have hin : (0 : Int) ≤ (k : Int) := by omega
        have hin2 : (k : Int) ≤ (X.size : Int) := by omega
        clear h hn c1 c2 c3 c4 hd hl B hX hbad hw0 hw1
        by_cases hmn : X.size ≤ k + 64
        · have HZ := Lib.hid (show min X.size (k + 64) = X.size by omega)
          go_enter Tryz.func53, Tryz.ntmps53
          go_wp2_with (first | (go_at_call 48; refine (there_any hD.out HM.out).mono ?_; rw [HT.out]; rintro e w3 ⟨rfl, hb3⟩; have d0 : w3.cell? ⟨p, 0, none⟩ = some (.map (some b)) := (hb3.cell (by exact lt)).trans c0; have d5 : w3.cell? ⟨p, 5, none⟩ = some (.int .i64 S.reads) := (hb3.cell (by exact lt)).trans c5; have f5 := (hD.out.belowS hb3).blk.frozen 5) | (at_lookup; refine wpList_look _ rfl _ _ rfl b S.L n rfl (hD.out.belowS hb3).own rfl HM.out ?_; rw [HL.out]; unfold orV flB flN; simp only []; rw [← HX.out]))
          go_ret2
          exact rd_post HR.out (by rw [HZ.out]; first | rfl | (have e : (min (X.size : Int) ((k : Int) + 64)).toNat = X.size := (by omega); show Ending.returned (Value.tuple #[Value.string (X.extract k (min (X.size : Int) ((k : Int) + 64)).toNat), Value.int IntKind.i64 0]) = _; rw [e]; rfl)) (by rw [if_pos rfl]; exact (hD.out.belowS hb3).set5 _) ((Kp.of_below hb3).trans (Kp.setP _ _ _))
        · have HZ := Lib.hid (show min X.size (k + 64) = k + 64 by omega)
          have hmn2 : k + 64 < X.size := by omega
          have hin3 : (k : Int) + 64 ≤ (X.size : Int) := by omega
          clear hmn
          go_enter Tryz.func53, Tryz.ntmps53
          go_wp2_with (first | (go_at_call 48; refine (there_any hD.out HM.out).mono ?_; rw [HT.out]; rintro e w3 ⟨rfl, hb3⟩; have d0 : w3.cell? ⟨p, 0, none⟩ = some (.map (some b)) := (hb3.cell (by exact lt)).trans c0; have d5 : w3.cell? ⟨p, 5, none⟩ = some (.int .i64 S.reads) := (hb3.cell (by exact lt)).trans c5; have f5 := (hD.out.belowS hb3).blk.frozen 5) | (at_lookup; refine wpList_look _ rfl _ _ rfl b S.L n rfl (hD.out.belowS hb3).own rfl HM.out ?_; rw [HL.out]; unfold orV flB flN; simp only []; rw [← HX.out]))
          go_ret2
          exact rd_post HR.out (by rw [HZ.out]; first | rfl | (have e : (min (X.size : Int) ((k : Int) + 64)).toNat = k + 64 := (by omega); show Ending.returned (Value.tuple #[Value.string (X.extract k (min (X.size : Int) ((k : Int) + 64)).toNat), Value.int IntKind.i64 0]) = _; rw [e]; rfl)) (by rw [if_pos rfl]; exact (hD.out.belowS hb3).set5 _) ((Kp.of_below hb3).trans (Kp.setP _ _ _))
end
end Go.Proofs.YtefknfbmphdafaaGreat.Ds
namespace Go.Proofs
open Go.RowKit Go.Maps Go.Sort Go.Shelf
theorem Tryz.sortsKeys (m : Nat) : AnyZ.SortsIn Tryz.prog Tryz.sorted45_ren Fence.wide m :=
  ⟨fun blk off cap ss W hH hblk hsz => callsIn_wide.2 (AnyM.slices_Sort_string Tryz.sort35 blk off cap ss W hH hblk hsz),
   fun p cap W => callsIn_wide.2 (AnyM.slices_Sort_string_none Tryz.sort35 p cap W)⟩
theorem Tryz.mapsKeys (mb : Option Nat) (W : World) : CallsIn Fence.wide 5 Tryz.prog 46 #[.map mb] W fun e w' => e = .returned (.func (.func 84) #[] #[.pointer (some ⟨W.heap.size, 0, none⟩)]) ∧ w' = W.alloc (.cells #[.map mb] 99) :=
  AnyZ.keys_in Tryz.keys46 Fence.wide 5 trivial rfl mb W
set_option maxHeartbeats 1000000 in
theorem Tryz.sortedKeys {H : Type} (b nn : Nat) (D0 : DataW H) (R : Value → Option (DataW H × List MemPlace)) (w : World) (hown : w.ownsMap Tryz.prog 9 R b nn D0) (hmax : Maps.size D0 ≤ maxLen) (hbytes : Maps.size D0 * 16 ≤ 140737488355328) :
    CallsIn Fence.wide 5 Tryz.prog 45 #[.func (.func 84) #[] #[.pointer (some ⟨w.heap.size, 0, none⟩)]] (w.alloc (.cells #[.map (some b)] 99)) fun e w' => ∃ (v : Value) (ss : List (List UInt8)), e = .returned v ∧ ss.Perm (strKeys D0) ∧
      w'.ownsRow (w.alloc (.cells #[.map (some b)] 99)).heap.size 9 1 v ss.length ((ss.mergeSort (fun x y => decide (x ≤ y))).map encStr) ∧ (v = .slice none 0 0 ↔ ss = []) ∧ Below (w.alloc (.cells #[.map (some b)] 99)).heap.size (w.alloc (.cells #[.map (some b)] 99)) w' := by
  have hbl := hown.lt
  have hseq : SeqGives Fence.wide 2 Tryz.prog 84 #[.pointer (some ⟨w.heap.size, 0, none⟩)] encStr (fun ss => ss.Perm (strKeys D0)) (Maps.size D0) (w.alloc (.cells #[.map (some b)] 99)) :=
    AnyZ.keys_gives (ρ := Tryz.keys46_ren) { Tryz.keys46 with } Fence.wide _ trivial rfl (by omega) w.heap.size b nn D0 _ (by simp) (by simp) (by
      obtain ⟨es, clock, hb, Ft, hs, hD⟩ := hown
      exact ⟨es, clock, (Below.heap_alloc _ _ b hbl).trans hb, Ft, hs, hD⟩)
  exact AnyZ.sorted_in Tryz.sorted45 Fence.wide 5 trivial trivial trivial trivial rfl (by omega) (Tryz.sortsKeys _) (enters_of Tryz.func35 (by kernel_rfl) rfl) 84 #[.pointer (some ⟨w.heap.size, 0, none⟩)] trivial (enters_of Tryz.func84 (by kernel_rfl) rfl) _ _ hmax hbytes _ hseq
end Go.Proofs
namespace Go.Proofs.YtefknfbmphdafaaGreat.Ds
open Go.RowKit Go.Maps DkM

/-- The names of a row of files, in a slice from block 'base' on. -/
def NamesAt (w : World) (base : Nat) (v : Value) (L : List Fl) : Prop :=
  ∃ A cap, v = .slice A L.length cap ∧ (0 < L.length → ∃ g, A = some ⟨g, 0, none⟩ ∧ base ≤ g ∧ g < w.heap.size ∧ ∀ k (h : k < L.length), w.cell? ⟨g, k, none⟩ = some (.string L[k].n))
def FilesPost (L : List Fl) (w : World) (e : Ending) (w' : World) : Prop := ∃ v, e = .returned v ∧ NamesAt w' w.heap.size v L ∧ Below w.heap.size w w'
section
variable {w : World} {p b : Nat} {S : Dk}
theorem names_of {w w' : World} {base : Nat} {v : Value} {L : List Fl} {ss : List (List UInt8)} (hr : Rise L) (hp : ss.Perm (strKeys (toD L))) (ho : w'.ownsRow base 9 1 v ss.length ((ss.mergeSort (fun x y => decide (x ≤ y))).map encStr)) (hb : w.heap.size ≤ base) : NamesAt w' w.heap.size v L := by
  rw [keys_toD] at hp
  have hs := sorted_keys hr hp
  have hlen : ss.length = L.length := by simpa using hp.length_eq
  unfold leB at hs
  rw [hs, List.map_map, hlen] at ho
  have ho' := ho
  rcases ho.2 with ⟨rfl, h0⟩ | ⟨g, cap, cur, rfl, hg, hh, h1, h2, h3, h4⟩
  · refine ⟨none, 0, ?_, fun h => ?_⟩
    · rw [h0]
    · omega
  · refine ⟨_, _, rfl, fun h => ⟨g, rfl, by omega, ?_, fun k hk => ?_⟩⟩
    · exact (Array.getElem?_eq_some_iff.1 hh).1
    · have := ho'.cells (g := g) rfl k (.string L[k].n) (by simp [hk])
      have e : (⟨g, 0, none⟩ : Addr).add k = ⟨g, k, none⟩ := by
        unfold Addr.add
        split
        · simp_all
        · simp
      rw [e] at this
      exact this

set_option maxRecDepth 100000 in
set_option maxHeartbeats 1000000 in
theorem files_any (h : DiskAt w p b S) (B : Bd S) : Calls Tryz.prog 18 #[ptr p] w (FilesPost S.L w) := by
  obtain ⟨lt, c0, c1, c2, c3, c4, c5, c6⟩ := h.cells
  have hlen := B.len
  have HK := fun W => callsIn_wide.1 (Tryz.mapsKeys (some b) W)
  have HS := callsIn_wide.1 (Tryz.sortedKeys b _ (toD S.L) holdV w h.own (by rw [size_toD]; unfold maxLen; omega) (by rw [size_toD]; omega))
  have HR := Lib.hid B.rise
  replace HK := Lib.hid HK
  replace HS := Lib.hid HS
  clear h B c1 c2 c3 c4 c5 c6 hlen
  go_enter Tryz.func18, Tryz.ntmps18
  go_wp2_with (first | (go_at_call 46; refine (HK.out _).mono ?_; rintro e w1 ⟨rfl, rfl⟩) | (go_at_call 45; refine HS.out.mono ?_; rintro e w1 ⟨v, ss, rfl, hp, ho, hv, hb⟩))
  go_ret
  exact ⟨v, rfl, names_of HR.out hp ho (by simp), ((Below.refl _ _).alloc (Nat.le_refl _) _).trans (hb.mono (by simp))⟩

def CopyPost (p b : Nat) (S : Dk) (w : World) (e : Ending) (w' : World) : Prop :=
  e = .returned (ptr w.heap.size) ∧ DiskAt w' w.heap.size (w.heap.size + 1) S ∧ DiskAt w' p b S ∧ Below w.heap.size w w'
end
end Go.Proofs.YtefknfbmphdafaaGreat.Ds
namespace Go.Proofs.YtefknfbmphdafaaGreat.Ds
open Go.RowKit Go.Maps DkM

/-- How many loose bytes are kept. -/
def clK (n : Nat) (x : Int) : Nat := min x.toNat n
def crO (f : Fl) (x : Int) : Fl := ⟨f.n, f.s ++ f.l.extract 0 (clK f.l.size x), nul⟩
def crF : List Fl → List Int → List Fl
  | [], _ => []
  | f :: r, ks => if f.l.size = 0 then f :: crF r ks else crO f (ks.headD 0) :: crF r ks.tail
theorem crF_len (L : List Fl) (ks : List Int) : (crF L ks).length = L.length := by
  induction L generalizing ks with
  | nil => rfl
  | cons f r ih =>
    unfold crF
    split <;> simp [ih]
def doCr (S : Dk) (ks : List Int) : Dk := { S with L := crF S.L ks, used := (usd (crF S.L ks) : Nat), down := false, fuse := -1 }
theorem ext_sz (x : ByteArray) (m : Nat) (h : m ≤ x.size) : (x.extract 0 m).size = m := by rw [ext_size]; omega
theorem crO_size (f : Fl) (x : Int) : (crO f x).s.size + (crO f x).l.size = f.s.size + clK f.l.size x := by
  unfold crO
  simp only [app_size]
  rw [ext_sz _ _ (by unfold clK; omega)]
  rfl
theorem usd_app (A B : List Fl) : usd (A ++ B) = usd A + usd B := by
  induction A with
  | nil => simp [usd]
  | cons f r ih => simp only [List.cons_append, usd, ih]; omega
theorem cut_app (a b : ByteArray) (m : Nat) : (a ++ b).extract 0 (a.size + m) = a ++ b.extract 0 m := by
  refine ba_ext ?_
  rw [ext_list, app_list, app_list, ext_list]
  simp only [List.drop_zero]
  rw [sz_list, List.take_append, List.take_of_length_le (by omega)]
  simp

theorem file_cr {f : Fl} {x : Int} {m : Nat} (hm : m = clK f.l.size x) : (Value.agg #[.string ((f.s ++ f.l).extract 0 (f.s.size + m)), .int .i64 ((f.s.size : Nat) + (m : Nat))]) = fileV (crO f x) := by
  have hml : m ≤ f.l.size := by rw [hm]; unfold clK; omega
  unfold fileV crO
  simp only [app_nul, app_size]
  rw [← hm, ext_sz _ _ hml, cut_app]
  rfl
theorem file_cr0 {f : Fl} : (Value.agg #[.string ((f.s ++ f.l).extract 0 f.s.size), .int .i64 (f.s.size : Nat)]) = fileV (crO f 0) :=
  file_cr (m := 0) (by unfold clK; simp)
/-- A slice of numbers, in block kb. -/
def IntsAt (w : World) (kb : Nat) (ks : List Int) (v : Value) : Prop :=
  ∃ A cap, v = .slice A ks.length cap ∧ ks.length ≤ cap ∧ (0 < ks.length → ∃ ko, A = some ⟨kb, ko, none⟩ ∧ ∀ k (h : k < ks.length), w.cell? ⟨kb, ko + k, none⟩ = some (.int .i64 ks[k]))
theorem IntsAt.none_ (w : World) (kb : Nat) (A : Option Addr) (cap : Nat) : IntsAt w kb [] (.slice A 0 cap) := ⟨A, cap, rfl, Nat.zero_le _, fun h => absurd h (by simp)⟩
theorem IntsAt.keep {w w' : World} {kb : Nat} {ks : List Int} {v : Value} (h : IntsAt w kb ks v) (hk : 0 < ks.length → w'.heap[kb]? = w.heap[kb]?) : IntsAt w' kb ks v := by
  obtain ⟨A, cap, h1, h2, h3⟩ := h
  refine ⟨A, cap, h1, h2, fun hl => ?_⟩
  obtain ⟨ko, e, hc⟩ := h3 hl
  exact ⟨ko, e, fun k hk' => (World.cell?_of_block (w := w) (hk hl)).trans (hc k hk')⟩
theorem IntsAt.tail {w : World} {kb ko cap : Nat} {x : Int} {ks : List Int} (hl : (x :: ks).length ≤ cap) (hc : ∀ k (h : k < (x :: ks).length), w.cell? ⟨kb, ko + k, none⟩ = some (.int .i64 (x :: ks)[k])) (A : Option Addr) (hA : 1 < cap → A = some ⟨kb, ko + 1, none⟩) :
    IntsAt w kb ks (.slice A ks.length (cap - 1)) := by
  refine ⟨A, cap - 1, rfl, by simp at hl; omega, fun h => ⟨ko + 1, hA (by simp at hl; omega), fun k hk => ?_⟩⟩
  have := hc (k + 1) (by simp; omega)
  rw [show ko + (k + 1) = ko + 1 + k by omega] at this
  simpa using this

/-- Between two files of a crash. -/
structure CrAt (L0 : List Fl) (ks0 : List Int) (j : Nat) (A : List Fl) (ks : List Int) : Prop where
  eq : crF L0 ks0 = A ++ crF (L0.drop j) ks
  len : A.length = j
  rise : Rise (A ++ L0.drop j)
  less : usd (A ++ L0.drop j) ≤ usd L0
theorem CrAt.start {L0 : List Fl} {ks0 : List Int} (h : Rise L0) : CrAt L0 ks0 0 [] ks0 := ⟨rfl, rfl, h, Nat.le_refl _⟩
theorem CrAt.skip {L0 : List Fl} {ks0 : List Int} {j : Nat} {A : List Fl} {ks : List Int} (h : CrAt L0 ks0 j A ks) (hj : j < L0.length) (h0 : L0[j].l.size = 0) : CrAt L0 ks0 (j + 1) (A ++ [L0[j]]) ks := by
  obtain ⟨h1, h2, h3, h4⟩ := h
  rw [List.drop_eq_getElem_cons hj] at h1 h3 h4
  refine ⟨?_, by simp [h2], by simpa using h3, by simpa using h4⟩
  rw [h1]
  have e : crF (L0[j] :: L0.drop (j + 1)) ks = L0[j] :: crF (L0.drop (j + 1)) ks := by
    show (if L0[j].l.size = 0 then _ else _) = _
    rw [if_pos h0]
  rw [e]; simp
theorem CrAt.next {L0 : List Fl} {ks0 : List Int} {j : Nat} {A : List Fl} {ks : List Int} (h : CrAt L0 ks0 j A ks) (hj : j < L0.length) (h0 : L0[j].l.size ≠ 0) : CrAt L0 ks0 (j + 1) (A ++ [crO L0[j] (ks.headD 0)]) ks.tail ∧ putF (A ++ L0.drop j) (crO L0[j] (ks.headD 0)) = (A ++ [crO L0[j] (ks.headD 0)]) ++ L0.drop (j + 1) ∧
      usd ((A ++ [crO L0[j] (ks.headD 0)]) ++ L0.drop (j + 1)) + L0[j].l.size = usd (A ++ L0.drop j) + clK L0[j].l.size (ks.headD 0) := by
  obtain ⟨h1, h2, h3, h4⟩ := h
  rw [List.drop_eq_getElem_cons hj] at h1 h3 h4 ⊢
  have hp := put_at (g := crO L0[j] (ks.headD 0)) h3 rfl
  have hR := Rise.put h3 (crO L0[j] (ks.headD 0))
  rw [hp] at hR
  have hz := crO_size L0[j] (ks.headD 0)
  have hm : clK L0[j].l.size (ks.headD 0) ≤ L0[j].l.size := by unfold clK; omega
  have hu : usd ((A ++ [crO L0[j] (ks.headD 0)]) ++ L0.drop (j + 1)) + L0[j].l.size = usd (A ++ L0[j] :: L0.drop (j + 1)) + clK L0[j].l.size (ks.headD 0) := by
    rw [usd_app, usd_app, usd_app]
    simp only [usd]
    omega
  refine ⟨⟨?_, by simp [h2], by simpa using hR, by omega⟩, by rw [hp]; simp, hu⟩
  rw [h1]
  have e : crF (L0[j] :: L0.drop (j + 1)) ks = crO L0[j] (ks.headD 0) :: crF (L0.drop (j + 1)) ks.tail := by
    show (if L0[j].l.size = 0 then _ else _) = _
    rw [if_neg h0]
  rw [e]; simp
theorem CrAt.look {L0 : List Fl} {ks0 : List Int} {j : Nat} {A : List Fl} {ks : List Int} (h : CrAt L0 ks0 j A ks) (hj : j < L0.length) : lkF (A ++ L0.drop j) L0[j].n = some L0[j] := by
  have h3 := h.rise
  rw [List.drop_eq_getElem_cons hj] at h3 ⊢
  exact lkF_mem h3 (List.mem_append_right _ (List.mem_cons_self))
theorem CrAt.done {L0 : List Fl} {ks0 : List Int} {j : Nat} {A : List Fl} {ks : List Int} (h : CrAt L0 ks0 j A ks) (hj : j = L0.length) : A ++ L0.drop j = crF L0 ks0 := by
  rw [h.eq, hj, List.drop_length]; rfl
theorem CrAt.lenL {L0 : List Fl} {ks0 : List Int} {j : Nat} {A : List Fl} {ks : List Int} (h : CrAt L0 ks0 j A ks) (hj : j ≤ L0.length) : (A ++ L0.drop j).length = L0.length := by
  rw [List.length_append, h.len, List.length_drop]; omega
end Go.Proofs.YtefknfbmphdafaaGreat.Ds
