/- The walks of FrameSizes, FrameGoes, FramePacks. -/
import Derived.Test.YtidnoeahmnfodaaFrL
namespace Go.Proofs.Ytidnoeahmnfodaa
open Go.ChangeShapes Go.WideShapes Go.ChangeAt Go.RowKit CrcM FrM

theorem pkSb_empty {k : UInt8} {b : ByteArray} (h : pkE k b.data.toList ≠ 0) : pkSb k b = ⟨#[]⟩ := by unfold pkSb pkS; rw [if_neg h]; rfl
theorem pkSb_whole {k : UInt8} {b : ByteArray} (h : pkE k b.data.toList = 0) : (pkSb k b).data.toList = whole k b.data.toList := by unfold pkSb pkS; rw [if_pos h, bytesOf_list]
theorem pkSb_size {k : UInt8} {b : ByteArray} (h : pkE k b.data.toList = 0) : (pkSb k b).size = 14 + b.size := by rw [size_list, pkSb_whole h, whole_length, size_list]
theorem pkSb_small (k : UInt8) (b : ByteArray) : (pkSb k b).size ≤ 2014 := by
  by_cases h : pkE k b.data.toList = 0
  · have := (pkE_zero h).2.1
    rw [pkSb_size h, size_list]
    omega
  · rw [pkSb_empty h]; decide
theorem pkE_some (k : UInt8) (b : List UInt8) : pkE k b ≤ 42 := by unfold pkE; repeat' split
                                                                   all_goals omega
def marks (s : ByteArray) (k : Nat) : Nat := (s.data.toList.take k).countP (fun c => decide (c = 254))
theorem marks_next (s : ByteArray) (k : Nat) (h : k < s.size) : marks s (k + 1) = marks s k + if s[k] = 254 then 1 else 0 := by
  unfold marks
  rw [bytes_take s k h, List.countP_append]
  simp [List.countP_cons]
theorem marks_all {k : UInt8} {b : ByteArray} (h : pkE k b.data.toList = 0) : marks (pkSb k b) (pkSb k b).size = 1 := by
  unfold marks
  rw [take_all, pkSb_whole h, whole_count h]
theorem marks_le (s : ByteArray) (k : Nat) : marks s k ≤ k := by
  unfold marks
  refine Nat.le_trans List.countP_le_length ?_
  rw [List.length_take]
  omega

set_option maxRecDepth 100000 in
set_option maxHeartbeats 1000000 in
theorem walk_FrameSizes (w : World) (v : Value) (hv : ReadFrame v) :
    Calls Try.prog 9 #[v] w fun e w' => e = .returned (.bool true) ∧ Below w.heap.size w w' := by
  obtain ⟨k, b, rfl, hb⟩ := hv
  have AL := Lib.hid alive_any
  unfold frV
  by_cases hbig : 2000 < b.size
  · go_enter Try.func9, Try.ntmps9
    go_wp2_with (go_at_call 11; refine (AL.out _).mono ?_; rintro e w1 ⟨rfl, hb1⟩)
    go_ret
    exact ⟨rfl, (below_box _ _).trans (hb1.mono (by simp))⟩
  · have P1 := fun W => pack_any k b W hb
    unfold PackPost frV at P1
    by_cases hE : pkE k b.data.toList = 0
    · have HS := Lib.hid (pkSb_size hE)
      have HM := Lib.hid (marks_all hE)
      have h0 : ∀ h : 0 < (pkSb k b).size, (pkSb k b)[0] = 254 := by
        intro h
        have hl := pkSb_whole hE
        have e := getElem_list (pkSb k b) 0 h (by rw [← size_list]; exact h)
        rw [← e]
        simp only [hl]
        rfl
      rw [hE] at P1
      clear hE
      generalize pkSb k b = S at *
      have hS0 : 0 < S.size := by rw [HS.out]; omega
      have hz : ((S[0].toNat : Int) == 254) = true := by rw [h0 hS0]; rfl
      have hS : S.size ≤ 2014 := by rw [HS.out]; omega
      have hSi : (S.size : Int) = 14 + (b.size : Int) := by rw [HS.out]; omega
      clear h0
      replace P1 := Lib.hid P1
      go_enter Try.func9, Try.ntmps9
      go_wp2_with fail
      refine (P1.out _).mono ?_
      rintro e w1 ⟨rfl, hb1⟩
      have k1 : w1.cell? ⟨w.heap.size, 1, none⟩ = some (.string b) := by rw [hb1.cell (by simp)]; simp
      have hbW : Below w.heap.size w w1 := (below_box w _).trans (hb1.mono (by simp))
      have hlt : w.heap.size < w1.heap.size := by have := hb1.size; simp at this; omega
      clear hb1
      go_wp2_with fail
      go_loop [5, 6] (fun m i => ∃ j : Nat, j ≤ S.size ∧ i = .int .i64 j ∧ m = .int .i64 (marks S j)) (fun _ i => S.size - (intOf i).toNat)
      case atStart => exact ⟨0, Nat.zero_le _, rfl, rfl⟩
      case round =>
        obtain ⟨j, hj, rfl, rfl⟩ := hrel
        have hm := marks_le S j
        by_cases hlj : j < S.size
        · have hn := marks_next S j hlj
          by_cases h254 : S[j] = 254
          · rw [if_pos h254] at hn
            have ht : ((S[j].toNat : Int) == 254) = true := by rw [h254]; rfl
            have HN := Lib.hid hn
            clear hn h254
            go_wp2
            go_round
            case rel => exact ⟨j + 1, by omega, by go_num, by rw [HN.out]; go_num⟩
            case measure => simp [intOf]; omega
          · rw [if_neg h254] at hn
            have ht : ((S[j].toNat : Int) == 254) = false := by
              rw [beq_eq_false_iff_ne]
              intro h
              apply h254
              apply UInt8.toNat_inj.1
              show _ = 254
              omega
            have HN := Lib.hid hn
            clear hn h254
            go_wp2
            go_round
            case rel => exact ⟨j + 1, by omega, by go_num, by rw [HN.out]; rfl⟩
            case measure => simp [intOf]; omega
        · obtain rfl : j = S.size := by omega
          rw [HM.out]
          go_wp2_with fail
          refine (AL.out _).mono ?_
          rintro e w2 ⟨rfl, hb2⟩
          have k2 : w2.cell? ⟨w.heap.size, 1, none⟩ = some (.string b) := by rw [hb2.cell (by simpa using hlt)]; exact k1
          have hbW2 := keepW hbW hb2
          clear hb2 k1
          go_wp2
          go_ret
          exact ⟨rfl, hbW2⟩
    · have hZ := pkSb_empty hE
      rw [hZ] at P1
      have hne : ((pkE k b.data.toList : Int) != 0) = true := by rw [bne_iff_ne]; omega
      clear hZ hE
      generalize pkE k b.data.toList = E at *
      replace P1 := Lib.hid P1
      go_enter Try.func9, Try.ntmps9
      go_wp2_with fail
      refine (P1.out _).mono ?_
      rintro e w1 ⟨rfl, hb1⟩
      have hbW : Below w.heap.size w w1 := (below_box w _).trans (hb1.mono (by simp))
      clear hb1
      go_wp2_with fail
      refine (AL.out _).mono ?_
      rintro e w2 ⟨rfl, hb2⟩
      have hbW2 := keepW hbW hb2
      clear hb2
      go_wp2
      go_ret
      exact ⟨rfl, hbW2⟩
end Go.Proofs.Ytidnoeahmnfodaa
