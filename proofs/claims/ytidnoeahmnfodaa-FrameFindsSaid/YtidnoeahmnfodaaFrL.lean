/- The reading of a frame; the walks of the statements on one frame. -/
import Derived.Test.YtidnoeahmnfodaaFrK
import Derived.ProofKit
import Derived.OpenShut
namespace Go.Proofs.Ytidnoeahmnfodaa
open Go.ChangeShapes Go.WideShapes Go.ChangeAt Go.RowKit CrcM FrM

def ReadFrame (v : Value) : Prop := ∃ (k : UInt8) (b : ByteArray), v = frV k b ∧ b.size ≤ 9223372036854775807
theorem cells_frame04 : Try.prog.cellsOf 23 = 2 := by kernel_rfl
theorem u8_of {n : Int} (h : (Lit.int .u8 n).wf = true) : ∃ k : UInt8, n = (k.toNat : Int) := by
  have := bounds_u8 h
  refine ⟨UInt8.ofNat n.toNat, ?_⟩
  rw [UInt8.toNat_ofNat']
  omega
theorem read_frame {H : Type} {enc : TypeId × Value → H} {W : World} {base : Nat} {v : Value} {d : DataW H} {ps : List MemPlace} (hok : Value.okWide Try.prog W .any base 23 v)
    (h : DataW.Trod enc Try.prog W 0 (fun _ => true) true 23 v d ps) : ReadFrame v := by
  obtain ⟨v0, v1, y0, y1, n, rfl, _, _, h0, h1⟩ := Joins.open_agg2 Try.underlying23 (by kernel_rfl) cells_frame04 hok h
  obtain ⟨a, ha, _, hw⟩ := DataW.trod_int Try.underlying5 h0
  obtain ⟨b, hb, _, hs⟩ := DataW.trod_string Try.underlying9 h1
  simp at ha hb
  subst ha hb
  obtain ⟨k, rfl⟩ := u8_of hw
  exact ⟨k, b, rfl, hs⟩

theorem pkSb_of {s : ByteArray} (h : nxE s.data.toList = 0) : pkSb (nxK s.data.toList) (nxBb s) = s.extract 0 (nxN s.data.toList) ∧ pkE (nxK s.data.toList) (nxBb s).data.toList = 0 := by
  obtain ⟨h1, h2⟩ := nx_pk h
  rw [nxBb_list]
  refine ⟨ba_ext ?_, h1⟩
  rw [pkSb, bytesOf_list, nxBb_list, extract_list, List.drop_zero, pkS, if_pos h1, h2]
theorem nxBb_size (s : ByteArray) (hs : s.size ≤ 9223372036854775807) : (nxBb s).size ≤ 9223372036854775807 := by
  unfold nxBb
  split
  · rw [extract_size]; omega
  · decide

set_option maxRecDepth 100000 in
set_option maxHeartbeats 1000000 in
theorem walk_FrameNext (w : World) (s : ByteArray) (hs : s.size ≤ maxLen) :
    Calls Try.prog 4 #[.string s] w fun e w' => e = .returned (.bool true) ∧ Below w.heap.size w w' := by
  have hs : s.size ≤ 9223372036854775807 := hs
  have AL := Lib.hid alive_any
  by_cases hbig : 2200 < s.size
  · go_enter Try.func4, Try.ntmps4
    go_wp2_with (go_at_call 11; refine (AL.out _).mono ?_; rintro e w1 ⟨rfl, hb1⟩)
    go_ret
    exact ⟨rfl, hb1⟩
  · have N1 := fun W => next_any s W hs
    have N2 := fun W => next04_any s W hs
    unfold NextPost frV at N1 N2
    have P1 := fun W => pack_any (nxK s.data.toList) (nxBb s) W (nxBb_size s hs)
    unfold PackPost frV at P1
    have hfit := nx_fits s.data.toList
    rw [← size_list] at hfit
    have hpk := @pkSb_of s
    generalize nxE s.data.toList = E at *
    generalize nxN s.data.toList = N at *
    generalize nxK s.data.toList = K at *
    generalize nxBb s = B at *
    by_cases hE : E = 0
    · subst hE
      obtain ⟨f1, f2⟩ := hfit rfl
      obtain ⟨p1, p2⟩ := hpk rfl
      rw [p1, p2] at P1
      clear hfit hpk p1 p2
      replace N1 := Lib.hid N1
      replace N2 := Lib.hid N2
      replace P1 := Lib.hid P1
      have hsl : ((s.extract 0 N).toList == (s.extract 0 N).toList) = true := by simp
      go_enter Try.func4, Try.ntmps4
      go_wp2_with fail
      refine (N1.out _).mono ?_
      rintro e w1 ⟨rfl, hb1⟩
      go_wp2_with fail
      refine (N2.out _).mono ?_
      rintro e w2 ⟨rfl, hb2⟩
      have k0 : w2.cell? ⟨w1.heap.size, 0, none⟩ = some (.int .u8 K.toNat) := by rw [hb2.cell (by simp)]; simp
      have k1 : w2.cell? ⟨w1.heap.size, 1, none⟩ = some (.string B) := by rw [hb2.cell (by simp)]; simp
      have hbW : Below w.heap.size w w2 := keepW hb1 ((below_box w1 _).trans (hb2.mono (by simp)))
      have hlt : w1.heap.size < w2.heap.size := by have := hb2.size; simp at this; omega
      clear hb1 hb2
      go_wp2_with fail
      refine (P1.out _).mono ?_
      rintro e w3 ⟨rfl, hb3⟩
      have hbW3 := keepW hbW ((below_box w2 _).trans (hb3.mono (by simp)))
      clear hb3
      go_wp2_with fail
      refine (AL.out _).mono ?_
      rintro e w4 ⟨rfl, hb4⟩
      have hbW4 := keepW hbW3 hb4
      clear hb4
      go_wp2
      go_ret
      exact ⟨rfl, hbW4⟩
    · have hne : ((E : Int) != 0) = true := by rw [bne_iff_ne]; omega
      clear hfit hpk hE
      generalize pkSb K B = Z at P1
      generalize pkE K B.data.toList = Y at P1
      replace N1 := Lib.hid N1
      replace N2 := Lib.hid N2
      replace P1 := Lib.hid P1
      go_enter Try.func4, Try.ntmps4
      go_wp2_with fail
      refine (N1.out _).mono ?_
      rintro e w1 ⟨rfl, hb1⟩
      go_wp2_with fail
      refine (N2.out _).mono ?_
      rintro e w2 ⟨rfl, hb2⟩
      have k0 : w2.cell? ⟨w1.heap.size, 0, none⟩ = some (.int .u8 K.toNat) := by rw [hb2.cell (by simp)]; simp
      have k1 : w2.cell? ⟨w1.heap.size, 1, none⟩ = some (.string B) := by rw [hb2.cell (by simp)]; simp
      have hbW : Below w.heap.size w w2 := keepW hb1 ((below_box w1 _).trans (hb2.mono (by simp)))
      have hlt : w1.heap.size < w2.heap.size := by have := hb2.size; simp at this; omega
      clear hb1 hb2
      go_wp2_with fail
      refine (P1.out _).mono ?_
      rintro e w3 ⟨rfl, hb3⟩
      have hbW3 := keepW hbW ((below_box w2 _).trans (hb3.mono (by simp)))
      clear hb3
      go_wp2_with fail
      refine (AL.out _).mono ?_
      rintro e w4 ⟨rfl, hb4⟩
      have hbW4 := keepW hbW3 hb4
      clear hb4
      go_wp2
      go_ret
      exact ⟨rfl, hbW4⟩
end Go.Proofs.Ytidnoeahmnfodaa
