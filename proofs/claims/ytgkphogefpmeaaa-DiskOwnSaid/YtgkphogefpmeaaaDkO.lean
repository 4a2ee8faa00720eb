/- The walk of op: an op is done, or not. -/
import Derived.Test.YtgkphogefpmeaaaDkB2
namespace Go.Proofs.Ytgkphogefpmeaaa
open Go.RowKit Go.Maps DkM

def tick (S : Dk) : Dk := { S with fuse := max (S.fuse - 1) (-1), ops := S.ops + 1 }
section
variable {w : World} {p b : Nat} {S : Dk}

set_option maxHeartbeats 400000 in
theorem op_down (h : DiskAt w p b S) (hd : S.down = true) (e : Int) (F : Value) :
    Calls Try.prog 48 #[ptr p, .int .i64 e, F] w fun r w' => r = .returned (.int .i64 50) ∧ w = w' := by
  obtain ⟨lt, c0, c1, c2, c3, c4, c5, c6⟩ := h.cells
  rw [hd] at c6
  clear h c0 c1 c2 c3 c4 c5 hd
  go_enter Try.func48, Try.ntmps48
  go_wp2
  go_ret
  exact ⟨rfl, rfl⟩

set_option maxHeartbeats 400000 in
theorem op_err (h : DiskAt w p b S) (hd : S.down = false) (e : Int) (he : e ≠ 0) (F : Value) :
    Calls Try.prog 48 #[ptr p, .int .i64 e, F] w fun r w' => r = .returned (.int .i64 e) ∧ w = w' := by
  obtain ⟨lt, c0, c1, c2, c3, c4, c5, c6⟩ := h.cells
  rw [hd] at c6
  have hne : (e != 0) = true := by simpa using he
  clear h c0 c1 c2 c3 c4 c5 hd he
  go_enter Try.func48, Try.ntmps48
  go_wp2
  go_ret
  exact ⟨rfl, rfl⟩

set_option maxHeartbeats 400000 in
theorem op_fuse (h : DiskAt w p b S) (hd : S.down = false) (hf : S.fuse = 0) (F : Value) :
    Calls Try.prog 48 #[ptr p, .int .i64 0, F] w fun r w' => r = .returned (.int .i64 50) ∧ DiskAt w' p b { S with down := true } ∧ Kp p b w w' := by
  obtain ⟨lt, c0, c1, c2, c3, c4, c5, c6⟩ := h.cells
  rw [hd] at c6
  rw [hf] at c2
  have f6 := h.blk.frozen 6
  have H := Lib.hid h
  clear h c0 c1 c3 c4 c5 hd hf
  go_enter Try.func48, Try.ntmps48
  go_wp2
  go_ret
  exact ⟨rfl, H.out.set6 _, Kp.setP _ _ _⟩

/-- What a closure does, wherever the disk has this state. -/
def Closes (F : FuncId) (C : Array Value) (p b : Nat) (w : World) (S S' : Dk) : Prop :=
  ∀ w1, DiskAt w1 p b S → Kp p b w w1 → Calls Try.prog F C w1 fun e w' => e = .returned (.tuple #[]) ∧ DiskAt w' p b S' ∧ Kp p b w1 w'

set_option maxHeartbeats 1000000 in
theorem op_does (h : DiskAt w p b S) (hd : S.down = false) (hf : S.fuse ≠ 0) (hf1 : -1 ≤ S.fuse) (hf2 : S.fuse ≤ 9223372036854775807) (ho1 : 0 ≤ S.ops) (ho2 : S.ops < 9223372036854775807) {F : FuncId} {C : Array Value} {S' : Dk} (hc : Closes F C p b w (tick S) S') (hl : ∀ W : World, (callFunc F C).run Try.prog W = .ok (.enter F C) W) :
    Calls Try.prog 48 #[ptr p, .int .i64 0, .func (.func F) #[] C] w fun r w' => r = .returned (.int .i64 0) ∧ DiskAt w' p b S' ∧ Kp p b w w' := by
  obtain ⟨lt, c0, c1, c2, c3, c4, c5, c6⟩ := h.cells
  rw [hd] at c6
  have f2 := h.blk.frozen 2
  have f4 := h.blk.frozen 4
  have hf0 : (S.fuse == 0) = false := by simpa using hf
  have H := Lib.hid h
  have HC := Lib.hid hc
  clear h c0 c1 c3 c5 hd hc hf
  go_enter Try.func48, Try.ntmps48
  go_wp2_with fail
  · have D : DiskAt ((w.setCell ⟨p, 2, none⟩ (.int .i64 (-1))).setCell ⟨p, 4, none⟩ (.int .i64 (S.ops + 1))) p b (tick S) := by
      have e : max (S.fuse - 1) (-1) = -1 := by omega
      unfold tick
      rw [e]
      exact (H.out.set2 _).set4 _
    have K : Kp p b w ((w.setCell ⟨p, 2, none⟩ (.int .i64 (-1))).setCell ⟨p, 4, none⟩ (.int .i64 (S.ops + 1))) := (Kp.setP _ _ _).trans (Kp.setP _ _ _)
    refine (HC.out _ D K).mono ?_
    rintro e w1 ⟨rfl, D1, K1⟩
    have D2 := Lib.hid D1
    clear D1 D
    go_wp2
    go_ret
    exact ⟨rfl, D2.out, K.trans K1⟩
  · have D : DiskAt ((w.setCell ⟨p, 2, none⟩ (.int .i64 (S.fuse - 1))).setCell ⟨p, 4, none⟩ (.int .i64 (S.ops + 1))) p b (tick S) := by
      have e : max (S.fuse - 1) (-1) = S.fuse - 1 := by omega
      unfold tick
      rw [e]
      exact (H.out.set2 _).set4 _
    have K : Kp p b w ((w.setCell ⟨p, 2, none⟩ (.int .i64 (S.fuse - 1))).setCell ⟨p, 4, none⟩ (.int .i64 (S.ops + 1))) := (Kp.setP _ _ _).trans (Kp.setP _ _ _)
    refine (HC.out _ D K).mono ?_
    rintro e w1 ⟨rfl, D1, K1⟩
    have D2 := Lib.hid D1
    clear D1 D
    go_wp2
    go_ret
    exact ⟨rfl, D2.out, K.trans K1⟩

/-- What comes of an op, and its error. -/
def opR (S : Dk) (e : Nat) (S' : Dk) : Dk × Nat := if S.down then (S, 50) else if e ≠ 0 then (S, e) else if S.fuse = 0 then ({ S with down := true }, 50) else (S', 0)
structure Bd (S : Dk) : Prop where
  fuse0 : -1 ≤ S.fuse
  fuse1 : S.fuse ≤ 9223372036854775807
  ops0 : 0 ≤ S.ops
  ops1 : S.ops ≤ 1099511627776
  reads0 : 0 ≤ S.reads
  reads1 : S.reads ≤ 1099511627776
  len : S.L.length ≤ 1048576
  used : S.used = (usd S.L : Nat)
  used1 : usd S.L ≤ 1073741824
  lim0 : 0 ≤ S.lim
  lim1 : S.lim ≤ 1073741824
  rise : Rise S.L
def OpPost (R : Dk × Nat) (p b : Nat) (w : World) (r : Ending) (w' : World) : Prop := r = .returned (.int .i64 (R.2 : Nat)) ∧ DiskAt w' p b R.1 ∧ Kp p b w w'
theorem op_any (h : DiskAt w p b S) (B : Bd S) (e : Nat) {F : FuncId} {C : Array Value} {S' : Dk} (hc : S.down = false → e = 0 → S.fuse ≠ 0 → Closes F C p b w (tick S) S') (hl : ∀ W : World, (callFunc F C).run Try.prog W = .ok (.enter F C) W) :
    Calls Try.prog 48 #[ptr p, .int .i64 (e : Nat), .func (.func F) #[] C] w (OpPost (opR S e S') p b w) := by
  unfold opR OpPost
  cases hd : S.down with
  | true =>
    rw [if_pos rfl]
    exact (op_down h hd e _).mono fun r w' ⟨h1, h2⟩ => by subst h2; exact ⟨h1, h, Kp.refl _ _ _⟩
  | false =>
    rw [if_neg (by decide)]
    by_cases he : e = 0
    · subst he
      rw [if_neg (by simp)]
      by_cases hf : S.fuse = 0
      · rw [if_pos hf]
        exact op_fuse h hd hf _
      · rw [if_neg hf]
        have := B.ops1
        exact op_does h hd hf B.fuse0 B.fuse1 B.ops0 (by omega) (hc hd rfl hf) hl
    · rw [if_pos he]
      exact (op_err h hd e (by omega) _).mono fun r w' ⟨h1, h2⟩ => by subst h2; exact ⟨h1, h, Kp.refl _ _ _⟩
end
end Go.Proofs.Ytgkphogefpmeaaa
