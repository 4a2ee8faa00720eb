/- The walk of Read. -/
import Derived.Test.YtgkphogefpmeaaaDkC4
namespace Go.Proofs.Ytgkphogefpmeaaa
open Go.RowKit Go.Maps DkM

def rdS (S : Dk) (n : ByteArray) (a : Int) : ByteArray × Nat :=
  if S.down then (nul, 50) else match lkF S.L n with
    | none => (nul, 51)
    | some f => if a < 0 ∨ ((f.s ++ f.l).size : Int) < a then (nul, 1) else ((f.s ++ f.l).extract a.toNat (min (f.s ++ f.l).size (a.toNat + 64)), 0)
def doRd (S : Dk) (n : ByteArray) (a : Int) : Dk := if (rdS S n a).2 = 0 then { S with reads := S.reads + 1 } else S
def ReadPost (S : Dk) (n : ByteArray) (a : Int) (p b : Nat) (w : World) (e : Ending) (w' : World) : Prop :=
  e = .returned (.tuple #[.string (rdS S n a).1, .int .i64 ((rdS S n a).2 : Nat)]) ∧ DiskAt w' p b (doRd S n a) ∧ Kp p b w w'
theorem rd_post {S : Dk} {n : ByteArray} {a : Int} {p b : Nat} {w w' : World} {B : ByteArray} {c : Nat} (h : rdS S n a = (B, c)) {e : Ending} (he : e = .returned (.tuple #[.string B, .int .i64 (c : Nat)])) (hD : DiskAt w' p b (if c = 0 then { S with reads := S.reads + 1 } else S)) (hk : Kp p b w w') : ReadPost S n a p b w e w' := by
  refine ⟨by rw [h]; exact he, ?_, hk⟩
  unfold doRd
  rw [h]
  exact hD
section
variable {w : World} {p b : Nat} {S : Dk}

set_option maxRecDepth 100000 in
set_option maxHeartbeats 1000000 in
theorem read_any (h : DiskAt w p b S) (B : Bd S) {n : ByteArray} (hn : n.size ≤ maxLen) (a : Int) (hw0 : -9223372036854775808 ≤ a) (hw1 : a ≤ 9223372036854775807) :
    Calls Try.prog 20 #[ptr p, .string n, .int .i64 a] w (ReadPost S n a p b w) := by
  obtain ⟨lt, c0, c1, c2, c3, c4, c5, c6⟩ := h.cells
  have hD := Lib.hid h
  have HM := Lib.hid hn
  have hfl := run_field0
  have r0 := B.reads0
  have r1 := B.reads1
  have HB := Lib.hid B
  cases hd : S.down with
  | true =>
    have HR := Lib.hid (show rdS S n a = (nul, 50) by unfold rdS; rw [hd]; rfl)
    rw [hd] at c6
    clear h hn c0 c1 c2 c3 c4 c5 hd B
    go_enter Try.func20, Try.ntmps20
    go_wp2_with fail
    go_ret2
    exact rd_post HR.out rfl (by rw [if_neg (by decide)]; exact hD.out) (Kp.refl _ _ _)
  | false =>
    rw [hd] at c6
    cases hl : lkF S.L n with
    | none =>
      have HR := Lib.hid (show rdS S n a = (nul, 51) by unfold rdS; rw [hd, hl]; rfl)
      have HT := Lib.hid (show thr S.L n = 51 from thr_none (by rw [hl]; rfl))
      clear h hn c0 c1 c2 c3 c4 c5 hd hl B
      go_enter Try.func20, Try.ntmps20
      go_wp2_with (go_at_call 45; refine (there_any hD.out HM.out).mono ?_; rw [HT.out]; rintro e w3 ⟨rfl, hb3⟩)
      go_ret2
      exact rd_post HR.out rfl (by rw [if_neg (by decide)]; exact hD.out.belowS hb3) (Kp.of_below hb3)
    | some f =>
      have HT := Lib.hid (show thr S.L n = 0 from thr_some (by rw [hl]; rfl))
      have hsz : (f.s ++ f.l).size ≤ 1073741824 := by
        have := usd_le (lkF_some hl).1
        have h3 := HB.out.used1
        rw [app_size]
        omega
      by_cases hbad : a < 0 ∨ ((f.s ++ f.l).size : Int) < a
      · have HR := Lib.hid (show rdS S n a = (nul, 1) by unfold rdS; rw [hd, hl]; simp only; rw [if_neg (by decide), if_pos hbad])
        have HL := Lib.hid hl
        clear h hn c1 c2 c3 c4 c5 hd hl B
        obtain ⟨X, hX⟩ : ∃ X, X = f.s ++ f.l := ⟨_, rfl⟩
        rw [← hX] at hbad hsz
        have HX := Lib.hid hX
        clear hX
        by_cases hneg : a < 0
        · clear hbad
          go_enter Try.func20, Try.ntmps20
          go_wp2_with (first | (go_at_call 45; refine (there_any hD.out HM.out).mono ?_; rw [HT.out]; rintro e w3 ⟨rfl, hb3⟩; have d0 : w3.cell? ⟨p, 0, none⟩ = some (.map (some b)) := (hb3.cell (by exact lt)).trans c0) | (at_lookup; refine wpList_look _ rfl _ _ rfl b S.L n rfl (hD.out.belowS hb3).own rfl HM.out ?_; rw [HL.out]; unfold orV flB flN; simp only []; rw [← HX.out]))
          go_ret2
          exact rd_post HR.out rfl (by rw [if_neg (by decide)]; exact hD.out.belowS hb3) (Kp.of_below hb3)
        · have hbig : (X.size : Int) < a := by omega
          have hpos : 0 ≤ a := by omega
          clear hbad hneg
          go_enter Try.func20, Try.ntmps20
          go_wp2_with (first | (go_at_call 45; refine (there_any hD.out HM.out).mono ?_; rw [HT.out]; rintro e w3 ⟨rfl, hb3⟩; have d0 : w3.cell? ⟨p, 0, none⟩ = some (.map (some b)) := (hb3.cell (by exact lt)).trans c0) | (at_lookup; refine wpList_look _ rfl _ _ rfl b S.L n rfl (hD.out.belowS hb3).own rfl HM.out ?_; rw [HL.out]; unfold orV flB flN; simp only []; rw [← HX.out]))
          go_ret2
          exact rd_post HR.out rfl (by rw [if_neg (by decide)]; exact hD.out.belowS hb3) (Kp.of_below hb3)
      · obtain ⟨k, rfl⟩ : ∃ k : Nat, a = k := ⟨a.toNat, by omega⟩
        obtain ⟨X, hX⟩ : ∃ X, X = f.s ++ f.l := ⟨_, rfl⟩
        have hk : k ≤ X.size := by rw [hX]; omega
        have HR := Lib.hid (show rdS S n k = (X.extract k (min X.size (k + 64)), 0) by unfold rdS; rw [hd, hl]; simp only; rw [if_neg (by decide), if_neg hbad, hX]; rfl)
        have HL := Lib.hid hl
        rw [← hX] at hsz
        have HX := Lib.hid hX
        have hin : (0 : Int) ≤ (k : Int) := by omega
        have hin2 : (k : Int) ≤ (X.size : Int) := by omega
        clear h hn c1 c2 c3 c4 hd hl B hX hbad hw0 hw1
        by_cases hmn : X.size ≤ k + 64
        · have HZ := Lib.hid (show min X.size (k + 64) = X.size by omega)
          go_enter Try.func20, Try.ntmps20
          go_wp2_with (first | (go_at_call 45; refine (there_any hD.out HM.out).mono ?_; rw [HT.out]; rintro e w3 ⟨rfl, hb3⟩; have d0 : w3.cell? ⟨p, 0, none⟩ = some (.map (some b)) := (hb3.cell (by exact lt)).trans c0; have d5 : w3.cell? ⟨p, 5, none⟩ = some (.int .i64 S.reads) := (hb3.cell (by exact lt)).trans c5; have f5 := (hD.out.belowS hb3).blk.frozen 5) | (at_lookup; refine wpList_look _ rfl _ _ rfl b S.L n rfl (hD.out.belowS hb3).own rfl HM.out ?_; rw [HL.out]; unfold orV flB flN; simp only []; rw [← HX.out]))
          go_ret2
          exact rd_post HR.out (by rw [HZ.out]; rfl) (by rw [if_pos rfl]; exact (hD.out.belowS hb3).set5 _) ((Kp.of_below hb3).trans (Kp.setP _ _ _))
        · have HZ := Lib.hid (show min X.size (k + 64) = k + 64 by omega)
          have hmn2 : k + 64 < X.size := by omega
          have hin3 : (k : Int) + 64 ≤ (X.size : Int) := by omega
          clear hmn
          go_enter Try.func20, Try.ntmps20
          go_wp2_with (first | (go_at_call 45; refine (there_any hD.out HM.out).mono ?_; rw [HT.out]; rintro e w3 ⟨rfl, hb3⟩; have d0 : w3.cell? ⟨p, 0, none⟩ = some (.map (some b)) := (hb3.cell (by exact lt)).trans c0; have d5 : w3.cell? ⟨p, 5, none⟩ = some (.int .i64 S.reads) := (hb3.cell (by exact lt)).trans c5; have f5 := (hD.out.belowS hb3).blk.frozen 5) | (at_lookup; refine wpList_look _ rfl _ _ rfl b S.L n rfl (hD.out.belowS hb3).own rfl HM.out ?_; rw [HL.out]; unfold orV flB flN; simp only []; rw [← HX.out]))
          go_ret2
          exact rd_post HR.out (by rw [HZ.out]; rfl) (by rw [if_pos rfl]; exact (hD.out.belowS hb3).set5 _) ((Kp.of_below hb3).trans (Kp.setP _ _ _))
end
end Go.Proofs.Ytgkphogefpmeaaa
