/- The walk of Bytes: a file, read block by block. -/
import Derived.Test.YtgkphogefpmeaaaDkD
namespace Go.Proofs.Ytgkphogefpmeaaa
open Go.RowKit Go.Maps DkM

def BytesPost (S : Dk) (X : ByteArray) (p b : Nat) (w : World) (e : Ending) (w' : World) : Prop :=
  e = .returned (.tuple #[.string X, .bool true]) ∧ ∃ c : Nat, c ≤ X.size ∧ DiskAt w' p b { S with reads := S.reads + c } ∧ Kp p b w w'
theorem bd_reads {S : Dk} (B : Bd S) {c : Nat} (h : S.reads + c ≤ 1099511627776) : Bd { S with reads := S.reads + c } := by
  obtain ⟨h1, h2, h3, h4, h5, h6, h7, h8, h9, h10, h11, h12⟩ := B
  exact ⟨h1, h2, h3, h4, by simp only; omega, h, h7, h8, h9, h10, h11, h12⟩
theorem cat_next (X : ByteArray) (j m : Nat) (h : j ≤ m) : X.extract 0 j ++ X.extract j m = X.extract 0 m := by
  refine ba_ext ?_
  rw [app_list, ext_list, ext_list, ext_list]
  simp only [List.drop_zero]
  have : X.data.toList.take j = (X.data.toList.take m).take j := by rw [List.take_take, Nat.min_eq_left h]
  rw [this, List.take_append_drop]
theorem all_of (X : ByteArray) : X.extract 0 X.size = X := by
  refine ba_ext ?_
  rw [ext_list, List.drop_zero]
  exact take_all X
theorem ba_empty {T : ByteArray} (h : 0 < T.size) : T.toList.isEmpty = false := by
  rw [ByteArray.toList_eq, List.isEmpty_eq_false_iff]
  intro e
  rw [sz_list, e] at h
  simp at h
section
variable {w : World} {p b : Nat} {S : Dk}
theorem read_block {j : Nat} {n : ByteArray} {f : Fl} (hd : S.down = false) (hl : lkF S.L n = some f) (hj : j < (f.s ++ f.l).size) : rdS S n j = ((f.s ++ f.l).extract j (min (f.s ++ f.l).size (j + 64)), 0) := by
  unfold rdS
  rw [hd, hl]
  simp only
  rw [if_neg (by decide), if_neg (by omega)]
  rfl
set_option maxRecDepth 100000 in
set_option maxHeartbeats 1000000 in
theorem bytes_any (h : DiskAt w p b S) (B : Bd S) (hr : S.reads ≤ 549755813888) (hd : S.down = false) {n : ByteArray} (hn : n.size ≤ maxLen) {f : Fl} (hl : lkF S.L n = some f) :
    Calls Try.prog 31 #[ptr p, .string n] w (BytesPost S (f.s ++ f.l) p b w) := by
  have hsz : (f.s ++ f.l).size ≤ 1073741824 := by
    have := usd_le (lkF_some hl).1
    have h3 := B.used1
    rw [app_size]
    omega
  have HSZ := Lib.hid (size_at h hl hn)
  have HRB := fun (c j : Nat) (hj : j < (f.s ++ f.l).size) => read_block (S := { S with reads := S.reads + c }) (j := j) (n := n) hd hl hj
  have HM := Lib.hid hn
  have HB := Lib.hid B
  have hD := Lib.hid h
  replace HRB := Lib.hid HRB
  clear h B hn hl
  generalize f.s ++ f.l = X at *
  go_enter Try.func31, Try.ntmps31
  go_wp2_with fail
  refine HSZ.out.mono ?_
  rintro e w1 ⟨rfl, hb1⟩
  go_wp2_with fail
  go_loopw [8] (fun s wr => ∃ j c : Nat, j ≤ X.size ∧ c ≤ j ∧ s = .string (X.extract 0 j) ∧ DiskAt wr p b { S with reads := S.reads + c } ∧ Kp p b w wr) (fun s _ => match s with | .string t => X.size - t.size | _ => 0)
  case atStart =>
    refine ⟨0, 0, Nat.zero_le _, Nat.le_refl _, ?_, ?_, Kp.of_below hb1⟩
    · congr 1; exact ba_ext (by rw [ext_list]; simp)
    · have e : ({ S with reads := S.reads + ((0 : Nat) : Int) } : Dk) = S := by simp
      rw [e]; exact hD.out.belowS hb1
  case round =>
    obtain ⟨j, c, hj, hc, rfl, hDj, hKp⟩ := hrel
    have HDj := Lib.hid hDj
    clear hDj
    obtain ⟨Y, hY⟩ : ∃ Y, Y = X.extract 0 j := ⟨_, rfl⟩
    have hYs : Y.size = j := by rw [hY, ext_size]; omega
    have HY := Lib.hid hY
    rw [← hY]
    clear hY
    by_cases hlt : j < X.size
    · have hYl : Y.size < X.size := by omega
      have BJ := Lib.hid (bd_reads HB.out (c := c) (by omega))
      obtain ⟨T, hT⟩ : ∃ T, T = X.extract j (min X.size (j + 64)) := ⟨_, rfl⟩
      have hTs : T.size = min X.size (j + 64) - j := by rw [hT, ext_size]; omega
      have hT0 := ba_empty (T := T) (by omega)
      have hcat : Y.size + T.size ≤ 9223372036854775807 := by omega
      have HC := Lib.hid (show Y ++ T = X.extract 0 (min X.size (j + 64)) by rw [HY.out, hT]; exact cat_next X j _ (by omega))
      have HR := Lib.hid (show rdS { S with reads := S.reads + (c : Int) } n (Y.size : Nat) = (T, 0) by rw [hYs, hT]; exact HRB.out c j hlt)
      have HYS := Lib.hid hYs
      have HTS := Lib.hid hTs
      clear hT hYs hTs
      go_wp2_with fail
      refine (read_any HDj.out BJ.out HM.out (Y.size : Nat) (by omega) (by omega)).mono ?_
      rintro e w2 h2
      obtain ⟨rfl, D2, K2⟩ := read_yes HR.out h2
      have H2 := Lib.hid D2
      clear D2 h2
      go_wp2_with fail
      go_roundw
      case rel =>
        refine ⟨min X.size (j + 64), c + 1, by omega, by omega, by rw [HC.out], ?_, hKp.trans K2⟩
        have e : ({ S with reads := S.reads + ((c + 1 : Nat) : Int) } : Dk) = { S with reads := S.reads + (c : Int) + 1 } := by
          rw [show S.reads + ((c + 1 : Nat) : Int) = S.reads + (c : Int) + 1 by omega]
        rw [e]
        exact H2.out
      case measure =>
        have h1 := HYS.out
        have h2 := HTS.out
        show X.size - (Y ++ T).size < X.size - Y.size
        rw [app_size]
        omega
    · have hje : j = X.size := by omega
      have HE := Lib.hid (show Y = X by rw [HY.out, hje]; exact all_of X)
      have hnl : X.size ≤ Y.size := by omega
      go_wp2_with fail
      go_ret2
      exact ⟨by rw [HE.out]; rfl, c, by omega, HDj.out, hKp⟩
end
end Go.Proofs.Ytgkphogefpmeaaa
