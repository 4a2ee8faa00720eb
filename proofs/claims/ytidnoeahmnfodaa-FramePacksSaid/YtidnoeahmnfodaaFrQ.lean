/- The walk of FramePacks. -/
import Derived.Test.YtidnoeahmnfodaaFrO
namespace Go.Proofs.Ytidnoeahmnfodaa
open Go.ChangeShapes Go.WideShapes Go.ChangeAt Go.RowKit CrcM FrM

theorem next_of_pack {k : UInt8} {b : ByteArray} (t : ByteArray) (h : pkE k b.data.toList = 0) :
    nxE (pkSb k b ++ t).data.toList = 0 ∧ nxK (pkSb k b ++ t).data.toList = k ∧ nxBb (pkSb k b ++ t) = b ∧ nxN (pkSb k b ++ t).data.toList = (pkSb k b).size := by
  obtain ⟨h1, h2, h3, h4⟩ := pk_nx t.data.toList h
  have e : (pkSb k b ++ t).data.toList = whole k b.data.toList ++ t.data.toList := by rw [append_list, pkSb_whole h]
  rw [e]
  refine ⟨h1, h2, ba_ext ?_, ?_⟩
  · rw [nxBb_list, e, h3]
  · rw [h4, pkSb_size h, size_list]

set_option maxRecDepth 100000 in
set_option maxHeartbeats 1000000 in
theorem walk_FramePacks (w : World) (v : Value) (hv : ReadFrame v) (t : ByteArray) (_ht : t.size ≤ maxLen) (z2 : t.data.toList.length ≤ reachBytes) :
    Calls Try.prog 3 #[v, .string t] w fun e w' => e = .returned (.bool true) ∧ Below w.heap.size w w' := by
  have ht : t.size ≤ 140737488355328 := by rw [size_list]; unfold reachBytes at z2; omega
  clear z2 _ht
  obtain ⟨k, b, rfl, hb⟩ := hv
  have AL := Lib.hid alive_any
  unfold frV
  by_cases hbig : 2100 < b.size
  · go_enter Try.func3, Try.ntmps3
    go_wp2_with (go_at_call 11; refine (AL.out _).mono ?_; rintro e w1 ⟨rfl, hb1⟩)
    go_ret
    exact ⟨rfl, (below_box _ _).trans (hb1.mono (by simp))⟩
  · have P1 := fun W => pack_any k b W hb
    have P2 := fun W => pack04_any k b W hb
    have hsm := pkSb_small k b
    have hZ : ((pkSb k b ++ t).size) ≤ 9223372036854775807 := by rw [ByteArray.size_append]; omega
    have N1 := fun W => next_any (pkSb k b ++ t) W hZ
    have hnx := @next_of_pack k b t
    unfold PackPost frV at P1 P2
    unfold NextPost frV at N1
    by_cases hE : pkE k b.data.toList = 0
    · obtain ⟨n1, n2, n3, n4⟩ := hnx hE
      rw [n1, n2, n3, n4] at N1
      rw [hE] at P1 P2
      clear hnx hE n1 n2 n3 n4
      generalize pkSb k b = S at *
      have hss : (S.toList == S.toList) = true := by simp
      replace P1 := Lib.hid P1
      replace P2 := Lib.hid P2
      replace N1 := Lib.hid N1
      go_enter Try.func3, Try.ntmps3
      go_wp2_with fail
      refine (P1.out _).mono ?_
      rintro e w1 ⟨rfl, hb1⟩
      have k0 : w1.cell? ⟨w.heap.size, 0, none⟩ = some (.int .u8 k.toNat) := by rw [hb1.cell (by simp)]; simp
      have k1 : w1.cell? ⟨w.heap.size, 1, none⟩ = some (.string b) := by rw [hb1.cell (by simp)]; simp
      have hbW : Below w.heap.size w w1 := (below_box w _).trans (hb1.mono (by simp))
      have hlt : w.heap.size < w1.heap.size := by have := hb1.size; simp at this; omega
      clear hb1
      go_wp2_with fail
      refine (P2.out _).mono ?_
      rintro e w2 ⟨rfl, hb2⟩
      replace k0 : w2.cell? ⟨w.heap.size, 0, none⟩ = some (.int .u8 k.toNat) := by rw [hb2.cell (by simpa using hlt)]; exact k0
      replace k1 : w2.cell? ⟨w.heap.size, 1, none⟩ = some (.string b) := by rw [hb2.cell (by simpa using hlt)]; exact k1
      have hbW2 := keepW hbW hb2
      have hlt2 : w.heap.size < w2.heap.size := by have := hb2.size; omega
      clear hb2
      go_wp2_with fail
      refine (N1.out _).mono ?_
      rintro e w3 ⟨rfl, hb3⟩
      replace k0 : w3.cell? ⟨w.heap.size, 0, none⟩ = some (.int .u8 k.toNat) := by rw [hb3.cell (by simpa using hlt2)]; exact k0
      replace k1 : w3.cell? ⟨w.heap.size, 1, none⟩ = some (.string b) := by rw [hb3.cell (by simpa using hlt2)]; exact k1
      have hbW3 := keepW hbW2 hb3
      have hlt3 : w.heap.size < w3.heap.size := by have := hb3.size; omega
      clear hb3
      go_wp2_with fail
      refine (AL.out _).mono ?_
      rintro e w4 ⟨rfl, hb4⟩
      have hbx : Below w3.heap.size w3 w4 := (below_box w3 _).trans (hb4.mono (by simp))
      have m0 : w4.cell? ⟨w.heap.size, 0, none⟩ = some (.int .u8 k.toNat) := by rw [hbx.cell (by simpa using hlt3)]; exact k0
      have m1 : w4.cell? ⟨w.heap.size, 1, none⟩ = some (.string b) := by rw [hbx.cell (by simpa using hlt3)]; exact k1
      have g0 : w4.cell? ⟨w3.heap.size, 0, none⟩ = some (.int .u8 k.toNat) := by rw [hb4.cell (by simp)]; simp
      have g1 : w4.cell? ⟨w3.heap.size, 1, none⟩ = some (.string b) := by rw [hb4.cell (by simp)]; simp
      have hbW4 := keepW hbW3 hbx
      clear hb4 hbx k0 k1
      go_wp2
      go_ret
      exact ⟨rfl, hbW4⟩
    · have hne : ((pkE k b.data.toList : Int) != 0) = true := by rw [bne_iff_ne]; omega
      clear hnx hE
      generalize nxE (pkSb k b ++ t).data.toList = E2 at *
      generalize nxN (pkSb k b ++ t).data.toList = N2 at *
      generalize nxK (pkSb k b ++ t).data.toList = K2 at *
      generalize nxBb (pkSb k b ++ t) = B2 at *
      generalize pkSb k b = S at *
      generalize pkE k b.data.toList = E at *
      have hss : (S.toList == S.toList) = true := by simp
      replace P1 := Lib.hid P1
      replace P2 := Lib.hid P2
      replace N1 := Lib.hid N1
      go_enter Try.func3, Try.ntmps3
      go_wp2_with fail
      refine (P1.out _).mono ?_
      rintro e w1 ⟨rfl, hb1⟩
      have k0 : w1.cell? ⟨w.heap.size, 0, none⟩ = some (.int .u8 k.toNat) := by rw [hb1.cell (by simp)]; simp
      have k1 : w1.cell? ⟨w.heap.size, 1, none⟩ = some (.string b) := by rw [hb1.cell (by simp)]; simp
      have hbW : Below w.heap.size w w1 := (below_box w _).trans (hb1.mono (by simp))
      have hlt : w.heap.size < w1.heap.size := by have := hb1.size; simp at this; omega
      clear hb1
      go_wp2_with fail
      refine (P2.out _).mono ?_
      rintro e w2 ⟨rfl, hb2⟩
      have hbW2 := keepW hbW hb2
      clear hb2 k0 k1
      go_wp2_with fail
      refine (N1.out _).mono ?_
      rintro e w3 ⟨rfl, hb3⟩
      have hbW3 := keepW hbW2 hb3
      clear hb3
      go_wp2_with fail
      refine (AL.out _).mono ?_
      rintro e w4 ⟨rfl, hb4⟩
      have hbW4 := keepW hbW3 ((below_box w3 _).trans (hb4.mono (by simp)))
      clear hb4
      go_wp2
      go_ret
      exact ⟨rfl, hbW4⟩
end Go.Proofs.Ytidnoeahmnfodaa
