/- The walk of FrameScans. -/
import Derived.Test.YtidnoeahmnfodaaFrR
namespace Go.Proofs.Ytidnoeahmnfodaa
open Go.RowKit CrcM FrM

theorem len_small {s : ByteArray} {k A : Nat} {l : List Fr} (h : StepTo s k A l) (hs : s.size ≤ 1000000) : l.length ≤ 1000000 := by
  have h1 := h.count
  have h2 := h.le
  omega
theorem dec_self (l : List Fr) : decide (l = l) = true := by simp

set_option maxRecDepth 100000 in
set_option maxHeartbeats 1000000 in
theorem walk_FrameScans (w : World) (s : ByteArray) (_hs : s.size ≤ maxLen) :
    Calls Try.prog 5 #[.string s] w fun e w' => e = .returned (.bool true) ∧ Below w.heap.size w w' := by
  have AL := Lib.hid alive_any
  by_cases hbig : 600 < s.size
  · go_enter Try.func5, Try.ntmps5
    go_wp2_with (go_at_call 11; refine (AL.out _).mono ?_; rintro e w1 ⟨rfl, hb1⟩)
    go_ret
    exact ⟨rfl, hb1⟩
  · have hsz : s.size ≤ 1000000 := by omega
    have F1 := fun W => find_any s W hsz
    have F2 := fun W => find04_any s W hsz
    have hfl := fnd_le s s.size
    unfold FindPost at F1 F2
    generalize fnd s s.size = m at *
    replace F1 := Lib.hid F1
    replace F2 := Lib.hid F2
    go_enter Try.func5, Try.ntmps5
    go_wp2_with fail
    refine (scan_any s _ hsz).mono ?_
    rintro e w1 ⟨v1, k1, A, l, st1, ne1, rfl, ow1, hb1⟩
    go_wp2_with fail
    refine (scan04_any s _ hsz).mono ?_
    rintro e w2 ⟨v2, k2, A2, l2, st2, ne2, rfl, ow2, hb2⟩
    obtain ⟨rfl, rfl⟩ := st1.unique ne1 st2 ne2
    have hll := len_small st1 hsz
    have r1 := Lib.hid ((FrRow.own ow1).below hb2)
    have r2 := Lib.hid (FrRow.own ow2)
    have hbW := keepW hb1 hb2
    clear ow1 ow2 hb1 hb2 st1 st2 ne1 ne2
    go_wp2_with fail
    refine (AL.out _).mono ?_
    rintro e w3 ⟨rfl, hb3⟩
    replace r1 := Lib.hid (r1.out.below hb3)
    replace r2 := Lib.hid (r2.out.below hb3)
    replace hbW := keepW hbW hb3
    clear hb3
    go_wp2_with fail
    refine (olds_any v1 l _ hll r1.out).mono ?_
    rintro e w4 ⟨v4, rfl, ow4, hb4⟩
    replace r2 := Lib.hid (r2.out.below hb4)
    have r4 := Lib.hid (FrRow.own ow4)
    replace hbW := keepW hbW hb4
    clear hb4 ow4 r1
    go_wp2_with fail
    refine (same_any v4 v2 l l _ (by omega) (by omega) r4.out r2.out).mono ?_
    rintro e w5 ⟨rfl, hb5⟩
    rw [dec_self]
    replace hbW := keepW hbW hb5
    clear hb5 r4 r2
    go_wp2_with fail
    refine (F1.out _).mono ?_
    rintro e w6 ⟨v6, rfl, ow6, hb6⟩
    have r6 := Lib.hid (FrRow.own ow6)
    replace hbW := keepW hbW hb6
    clear hb6 ow6
    go_wp2_with fail
    refine (olds_any v6 m _ (by omega) r6.out).mono ?_
    rintro e w7 ⟨v7, rfl, ow7, hb7⟩
    have r7 := Lib.hid (FrRow.own ow7)
    replace hbW := keepW hbW hb7
    clear hb7 ow7 r6
    go_wp2_with fail
    refine (F2.out _).mono ?_
    rintro e w8 ⟨v8, rfl, ow8, hb8⟩
    replace r7 := Lib.hid (r7.out.below hb8)
    have r8 := Lib.hid (FrRow.own ow8)
    replace hbW := keepW hbW hb8
    clear hb8 ow8
    go_wp2_with fail
    refine (same_any v7 v8 m m _ (by omega) (by omega) r7.out r8.out).mono ?_
    rintro e w9 ⟨rfl, hb9⟩
    rw [dec_self]
    replace hbW := keepW hbW hb9
    clear hb9 r7 r8
    go_wp2
    go_ret
    exact ⟨rfl, hbW⟩
end Go.Proofs.Ytidnoeahmnfodaa
