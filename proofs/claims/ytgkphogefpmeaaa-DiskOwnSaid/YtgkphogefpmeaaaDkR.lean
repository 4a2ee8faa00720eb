/- The walks of Right, of the disk and of its reference. -/
import Derived.Test.YtgkphogefpmeaaaDkA
namespace Go.Proofs.Ytgkphogefpmeaaa
open Go.RowKit Go.Maps DkM

def okc (c : UInt8) : Bool := (decide (97 ≤ c.toNat) && decide (c.toNat ≤ 122)) || (decide (48 ≤ c.toNat) && decide (c.toNat ≤ 57))
def allOk (l : List UInt8) : Bool := l.all okc
def Rgt (n : ByteArray) : Bool := decide (1 ≤ n.size) && decide (n.size ≤ 20) && allOk n.data.toList
theorem allOk_snoc (l : List UInt8) (c : UInt8) : allOk (l ++ [c]) = (allOk l && okc c) := by simp [allOk]
theorem bytes_take (s : ByteArray) (k : Nat) (h : k < s.size) : s.data.toList.take (k + 1) = s.data.toList.take k ++ [s[k]] := by
  rw [List.take_succ_eq_append_getElem (by simpa using h)]; rfl
theorem take_all (s : ByteArray) : s.data.toList.take s.size = s.data.toList := List.take_of_length_le (by show s.data.toList.length ≤ s.data.size; simp)
theorem allOk_next {s : ByteArray} {k : Nat} (h : k < s.size) (ha : allOk (s.data.toList.take k) = true) (hc : okc s[k] = true) : allOk (s.data.toList.take (k + 1)) = true := by
  rw [bytes_take s k h, allOk_snoc, ha, hc]; rfl
theorem allOk_not {s : ByteArray} {k : Nat} (h : k < s.size) (hc : okc s[k] = false) : Rgt s = false := by
  have e : allOk s.data.toList = false := by
    unfold allOk
    rw [List.all_eq_false]
    exact ⟨s[k], by show s.data[k] ∈ _; rw [← Array.getElem_toList]; exact List.getElem_mem _, by rw [hc]; decide⟩
  unfold Rgt; rw [e]; simp
theorem okc_yes {c : UInt8} (h : (97 ≤ (c.toNat : Int) ∧ (c.toNat : Int) ≤ 122) ∨ (48 ≤ (c.toNat : Int) ∧ (c.toNat : Int) ≤ 57)) : okc c = true := by
  unfold okc; simp only [Bool.or_eq_true, Bool.and_eq_true, decide_eq_true_eq]; omega
theorem okc_no {c : UInt8} (h : ¬ ((97 ≤ (c.toNat : Int) ∧ (c.toNat : Int) ≤ 122) ∨ (48 ≤ (c.toNat : Int) ∧ (c.toNat : Int) ≤ 57))) : okc c = false := by
  rw [← Bool.not_eq_true]; unfold okc; simp only [Bool.or_eq_true, Bool.and_eq_true, decide_eq_true_eq]; omega
theorem rgt_end {s : ByteArray} (h : allOk s.data.toList = true) (v : Bool) (hv : v = true ↔ 1 ≤ s.size ∧ s.size ≤ 20) : Rgt s = v := by
  rw [Bool.eq_iff_iff, hv]; unfold Rgt; rw [h]; simp

set_option maxHeartbeats 1000000 in
theorem right_any (s : ByteArray) (w : World) (hs : s.size ≤ 9223372036854775807) :
    Calls Try.prog 24 #[.string s] w fun e w' => e = .returned (.bool (Rgt s)) ∧ w = w' := by
  go_enter Try.func24, Try.ntmps24
  go_wp2
  go_loop [7] (fun i => ∃ k : Nat, k ≤ s.size ∧ allOk (s.data.toList.take k) = true ∧ i = .int .i64 k) (fun i => s.size - (intOf i).toNat)
  case atStart => exact ⟨0, Nat.zero_le _, rfl, rfl⟩
  case round =>
    obtain ⟨k, hk, ha, rfl⟩ := hrel
    have HA := Lib.hid ha
    clear ha
    by_cases hlt : k < s.size
    · have HN := fun (hc : okc s[k] = true) => Lib.hid (allOk_next hlt HA.out hc)
      have HF := fun (hc : okc s[k] = false) => Lib.hid (allOk_not hlt hc)
      replace HN := Lib.hid HN
      replace HF := Lib.hid HF
      go_wp2
      all_goals
        first
        | (go_ret; exact ⟨by rw [(HF.out (okc_no (by omega))).out]; rfl, rfl⟩)
        | (go_round
           case rel => exact ⟨k + 1, by omega, (HN.out (okc_yes (by omega))).out, by go_num⟩
           case measure => simp [intOf]; omega)
    · obtain rfl : k = s.size := by omega
      have HE := Lib.hid (show allOk s.data.toList = true by rw [← take_all s]; exact HA.out)
      go_wp2
      all_goals
        go_ret
        first
        | exact ⟨by rw [rgt_end HE.out (decide ((s.size : Int) ≤ 20)) (by simp; omega)]; rfl, rfl⟩
        | exact ⟨by rw [rgt_end HE.out false (by simp; omega)]; rfl, rfl⟩

theorem rgt_short {s : ByteArray} (h : s.size < 1 ∨ 20 < s.size) : Rgt s = false := by
  rw [← Bool.not_eq_true]; unfold Rgt; simp only [Bool.and_eq_true, decide_eq_true_eq]; omega
set_option maxHeartbeats 1000000 in
theorem right_ref (s : ByteArray) (w : World) (hs : s.size ≤ 9223372036854775807) :
    Calls Try.prog 25 #[.string s] w fun e w' => e = .returned (.bool (Rgt s)) ∧ w = w' := by
  by_cases hsz : s.size < 1 ∨ 20 < s.size
  · have HE := Lib.hid (rgt_short hsz)
    rcases hsz with hsz | hsz
    all_goals
      go_enter Try.func25, Try.ntmps25
      go_wp2
      go_ret
      exact ⟨by rw [HE.out]; rfl, rfl⟩
  · have h1 : 1 ≤ s.size := by omega
    have h2 : s.size ≤ 20 := by omega
    clear hsz
    go_enter Try.func25, Try.ntmps25
    go_wp2
    go_loop [3] (fun i => ∃ k : Nat, k ≤ s.size ∧ allOk (s.data.toList.take k) = true ∧ i = .int .i64 k) (fun i => s.size - (intOf i).toNat)
    case atStart => exact ⟨0, Nat.zero_le _, rfl, rfl⟩
    case round =>
      obtain ⟨k, hk, ha, rfl⟩ := hrel
      have HA := Lib.hid ha
      clear ha
      by_cases hlt : k < s.size
      · have HN := fun (hc : okc s[k] = true) => Lib.hid (allOk_next hlt HA.out hc)
        have HF := fun (hc : okc s[k] = false) => Lib.hid (allOk_not hlt hc)
        replace HN := Lib.hid HN
        replace HF := Lib.hid HF
        go_wp2
        all_goals
          first
          | (go_ret; exact ⟨by rw [(HF.out (okc_no (by first | omega | (simp at *; omega)))).out]; rfl, rfl⟩)
          | (go_round
             case rel => exact ⟨k + 1, by omega, (HN.out (okc_yes (by first | omega | (simp at *; omega)))).out, by go_num⟩
             case measure => simp [intOf]; omega)
      · obtain rfl : k = s.size := by omega
        have HE := Lib.hid (show allOk s.data.toList = true by rw [← take_all s]; exact HA.out)
        go_wp2
        go_ret
        exact ⟨by rw [rgt_end HE.out true (by simp; omega)]; rfl, rfl⟩
end Go.Proofs.Ytgkphogefpmeaaa
