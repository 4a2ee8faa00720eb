/- The walk of FrameGoes. -/
import Derived.Test.YtidnoeahmnfodaaFrO
namespace Go.Proofs.Ytidnoeahmnfodaa
open Go.ChangeShapes Go.WideShapes Go.ChangeAt Go.RowKit CrcM FrM

theorem short_at {k : UInt8} {b s : ByteArray} (h : pkE k b.data.toList = 0) (c : Nat) (hc : c < (pkSb k b).size) (hs : s.data.toList = (pkSb k b).data.toList.take c) : nxE s.data.toList = 43 := by
  rw [hs, pkSb_whole h]
  rw [pkSb_size h, size_list] at hc
  exact cut_short h c hc
theorem form_at {k : UInt8} {b s t : ByteArray} (h : pkE k b.data.toList = 0) (c : Nat) (hc : c < (pkSb k b).size) (hs : s.data.toList = (pkSb k b).data.toList.take c ++ 0 :: t.data.toList) : nxE s.data.toList = 44 := by
  rw [hs, pkSb_whole h]
  rw [pkSb_size h, size_list] at hc
  exact cut_zero h c hc _

set_option maxRecDepth 100000 in
set_option maxHeartbeats 1000000 in
theorem walk_FrameGoes (w : World) (v : Value) (hv : ReadFrame v) (a1 : Int) (w1 : (Lit.int .i64 a1).wf = true) (t : ByteArray) (_ht : t.size ≤ maxLen) (z2 : t.data.toList.length ≤ reachBytes) :
    Calls Try.prog 8 #[v, .int .i64 a1, .string t] w fun e w' => e = .returned (.bool true) ∧ Below w.heap.size w w' := by
  have ht : t.size ≤ 140737488355328 := by rw [size_list]; unfold reachBytes at z2; omega
  clear z2 _ht
  obtain ⟨k, b, rfl, hb⟩ := hv
  have AL := Lib.hid alive_any
  have P1 := fun W => pack04_any k b W hb
  have hsm := pkSb_small k b
  unfold PackPost frV at P1
  unfold frV
  by_cases hE : pkE k b.data.toList = 0
  · by_cases hc : 0 ≤ a1 ∧ a1 < (pkSb k b).size ∧ (pkSb k b).size ≤ 300
    · obtain ⟨hc1, hc2, hc3⟩ := hc
      obtain ⟨c, rfl⟩ : ∃ c : Nat, a1 = c := ⟨a1.toNat, by omega⟩
      have hc4 : c < (pkSb k b).size := by omega
      have N1 := fun W => next_any ((pkSb k b).extract 0 c) W (by rw [extract_size]; omega)
      have N2 := fun (hsz : (((pkSb k b).extract 0 c ++ ⟨#[0]⟩) ++ t).size ≤ 9223372036854775807) W => next_any (((pkSb k b).extract 0 c ++ ⟨#[0]⟩) ++ t) W hsz
      have e1 := short_at (s := (pkSb k b).extract 0 c) hE c hc4 (by rw [extract_list, List.drop_zero])
      have e2 := form_at (s := ((pkSb k b).extract 0 c ++ ⟨#[0]⟩) ++ t) (t := t) hE c hc4 (by rw [append_list, append_list, extract_list, List.drop_zero]; simp)
      have n1 : nxN ((pkSb k b).extract 0 c).data.toList = 0 := by unfold nxN; rw [if_neg (by omega)]
      have n2 : nxN (((pkSb k b).extract 0 c ++ ⟨#[0]⟩) ++ t).data.toList = 0 := by unfold nxN; rw [if_neg (by omega)]
      unfold NextPost frV at N1 N2
      rw [e1, n1] at N1
      rw [e2, n2] at N2
      rw [hE] at P1
      clear e1 e2 n1 n2 hE
      generalize nxK ((pkSb k b).extract 0 c).data.toList = K1 at *
      generalize nxBb ((pkSb k b).extract 0 c) = B1 at *
      generalize nxK (((pkSb k b).extract 0 c ++ ⟨#[0]⟩) ++ t).data.toList = K2 at *
      generalize nxBb (((pkSb k b).extract 0 c ++ ⟨#[0]⟩) ++ t) = B2 at *
      generalize pkSb k b = S at *
      have hx : (S.extract 0 c).size = c := by rw [extract_size]; omega
      obtain ⟨X, hX⟩ : ∃ X, X = S.extract 0 c := ⟨_, rfl⟩
      obtain ⟨Y, hY⟩ : ∃ Y, Y = X ++ ⟨#[0]⟩ := ⟨_, rfl⟩
      rw [← hX] at N1 N2 hx
      rw [← hY] at N2
      have hys : Y.size = c + 1 := by rw [hY, ByteArray.size_append, hx]; rfl
      replace P1 := Lib.hid P1
      replace N1 := Lib.hid N1
      replace N2 := Lib.hid N2
      replace hX := hX.symm
      replace hY := hY.symm
      go_enter Try.func8, Try.ntmps8
      go_wp2_with fail
      refine (P1.out _).mono ?_
      rintro e w1 ⟨rfl, hb1⟩
      have hbW : Below w.heap.size w w1 := (below_box w _).trans (hb1.mono (by simp))
      clear hb1
      go_wp2_with fail
      refine (N1.out _).mono ?_
      rintro e w2 ⟨rfl, hb2⟩
      have hbW2 := keepW hbW hb2
      clear hb2
      go_wp2_with fail
      refine (N2.out (by rw [ByteArray.size_append, hys]; omega) _).mono ?_
      rintro e w3 ⟨rfl, hb3⟩
      have hbW3 := keepW hbW2 ((below_box w2 _).trans (hb3.mono (by simp)))
      clear hb3
      go_wp2_with fail
      refine (AL.out _).mono ?_
      rintro e w4 ⟨rfl, hb4⟩
      have hbW4 := keepW hbW3 ((below_box w3 _).trans (hb4.mono (by simp)))
      clear hb4
      go_wp2
      go_ret
      exact ⟨rfl, hbW4⟩
    · rw [hE] at P1
      clear hE
      generalize pkSb k b = S at *
      replace P1 := Lib.hid P1
      by_cases c1 : a1 < 0
      · clear hc
        go_enter Try.func8, Try.ntmps8
        go_wp2_with fail
        refine (P1.out _).mono ?_
        rintro e w1 ⟨rfl, hb1⟩
        have hbW : Below w.heap.size w w1 := (below_box w _).trans (hb1.mono (by simp))
        clear hb1
        go_wp2_with (go_at_call 11; refine (AL.out _).mono ?_; rintro e w2 ⟨rfl, hb2⟩)
        go_ret
        exact ⟨rfl, keepW hbW hb2⟩
      · by_cases c2 : (S.size : Int) ≤ a1
        · clear hc
          go_enter Try.func8, Try.ntmps8
          go_wp2_with fail
          refine (P1.out _).mono ?_
          rintro e w1 ⟨rfl, hb1⟩
          have hbW : Below w.heap.size w w1 := (below_box w _).trans (hb1.mono (by simp))
          clear hb1
          go_wp2_with (go_at_call 11; refine (AL.out _).mono ?_; rintro e w2 ⟨rfl, hb2⟩)
          go_ret
          exact ⟨rfl, keepW hbW hb2⟩
        · have c3 : 300 < S.size := by omega
          clear hc
          go_enter Try.func8, Try.ntmps8
          go_wp2_with fail
          refine (P1.out _).mono ?_
          rintro e w1 ⟨rfl, hb1⟩
          have hbW : Below w.heap.size w w1 := (below_box w _).trans (hb1.mono (by simp))
          clear hb1
          go_wp2_with (go_at_call 11; refine (AL.out _).mono ?_; rintro e w2 ⟨rfl, hb2⟩)
          go_ret
          exact ⟨rfl, keepW hbW hb2⟩
  · have hne : ((pkE k b.data.toList : Int) != 0) = true := by rw [bne_iff_ne]; omega
    generalize pkSb k b = S at *
    generalize pkE k b.data.toList = E at *
    clear hE
    replace P1 := Lib.hid P1
    go_enter Try.func8, Try.ntmps8
    go_wp2_with fail
    refine (P1.out _).mono ?_
    rintro e w1 ⟨rfl, hb1⟩
    have hbW : Below w.heap.size w w1 := (below_box w _).trans (hb1.mono (by simp))
    clear hb1
    go_wp2_with (go_at_call 11; refine (AL.out _).mono ?_; rintro e w2 ⟨rfl, hb2⟩)
    go_ret
    exact ⟨rfl, keepW hbW hb2⟩
end Go.Proofs.Ytidnoeahmnfodaa
