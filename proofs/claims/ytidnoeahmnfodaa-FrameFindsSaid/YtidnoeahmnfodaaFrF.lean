/- The walks of the reference's small functions, of text, and of its Pack. -/
import Derived.Test.YtidnoeahmnfodaaFrE
namespace Go.Proofs.Ytidnoeahmnfodaa
open Go.RowKit CrcM FrM

theorem u8_lt (c : UInt8) : c.toNat < 256 := c.toNat_lt
theorem digit04_any (c : UInt8) (w : World) : Calls Try.prog 42 #[.int .u8 c.toNat] w fun e w' => e = .returned (.bool (isDig c)) ∧ w = w' := by
  have hc := u8_lt c
  rcases (show c.toNat < 48 ∨ (48 ≤ c.toNat ∧ c.toNat ≤ 57) ∨ (57 < c.toNat ∧ c.toNat < 97) ∨ (97 ≤ c.toNat ∧ c.toNat ≤ 102) ∨ 102 < c.toNat by omega) with h | ⟨h, h'⟩ | ⟨h, h'⟩ | ⟨h, h'⟩ | h
  all_goals
    have H := Lib.hid (show isDig c = (decide (48 ≤ (c.toNat : Int)) && decide ((c.toNat : Int) ≤ 57) || decide (97 ≤ (c.toNat : Int)) && decide ((c.toNat : Int) ≤ 102)) by
      unfold isDig
      rw [Bool.eq_iff_iff]
      simp only [Bool.or_eq_true, Bool.and_eq_true, decide_eq_true_eq]
      omega)
    go_enter Try.func42, Try.ntmps42
    go_wp2
    go_ret
    exact ⟨ret_bool (by rw [H.out, Bool.eq_iff_iff]; simp only [Bool.or_eq_true, Bool.and_eq_true, decide_eq_true_eq, Bool.false_eq_true, true_iff, false_iff]; omega), rfl⟩

def valI (c : UInt8) : Int := if isDig c = true then ((val c : Nat) : Int) else -1
theorem value_any (c : UInt8) (w : World) : Calls Try.prog 43 #[.int .u8 c.toNat] w fun e w' => e = .returned (.int .i64 (valI c)) ∧ w = w' := by
  have hc := u8_lt c
  rcases (show c.toNat < 48 ∨ (48 ≤ c.toNat ∧ c.toNat ≤ 57) ∨ (57 < c.toNat ∧ c.toNat < 97) ∨ (97 ≤ c.toNat ∧ c.toNat ≤ 102) ∨ 102 < c.toNat by omega) with h | ⟨h, h'⟩ | ⟨h, h'⟩ | ⟨h, h'⟩ | h
  · have H := Lib.hid (show valI c = -1 by unfold valI; rw [if_neg (by simp [isDig]; omega)])
    go_enter Try.func43, Try.ntmps43
    go_wp2
    go_ret
    exact ⟨ret_int (by rw [H.out]), rfl⟩
  · have H := Lib.hid (show valI c = (c.toNat : Int) - 48 by unfold valI val; rw [if_pos (by simp [isDig]; omega), if_pos (by omega)]; omega)
    go_enter Try.func43, Try.ntmps43
    go_wp2
    go_ret
    exact ⟨ret_int (by rw [H.out]), rfl⟩
  · have H := Lib.hid (show valI c = -1 by unfold valI; rw [if_neg (by simp [isDig]; omega)])
    go_enter Try.func43, Try.ntmps43
    go_wp2
    go_ret
    exact ⟨ret_int (by rw [H.out]), rfl⟩
  · have H := Lib.hid (show valI c = (c.toNat : Int) - 87 by unfold valI val; rw [if_pos (by simp [isDig]; omega), if_neg (by omega)]; omega)
    go_enter Try.func43, Try.ntmps43
    go_wp2
    go_ret
    exact ⟨ret_int (by rw [H.out]), rfl⟩
  · have H := Lib.hid (show valI c = -1 by unfold valI; rw [if_neg (by simp [isDig]; omega)])
    go_enter Try.func43, Try.ntmps43
    go_wp2
    go_ret
    exact ⟨ret_int (by rw [H.out]), rfl⟩

set_option maxHeartbeats 400000 in
theorem unhex_ref (s : ByteArray) (w : World) (hs : s.size ≤ 9223372036854775807) :
    Calls Try.prog 37 #[.string s] w fun e w' => e = .returned (.tuple #[.int .i64 (unR s.data.toList), .bool (unB s.data.toList)]) ∧ w = w' := by
  have hsz := size_list s
  by_cases hr : 1 ≤ s.size ∧ s.size ≤ 12
  · obtain ⟨h1, h12⟩ := hr
    have HSZ := Lib.hid hsz
    clear hsz
    go_enter Try.func37, Try.ntmps37
    go_wp2
    go_loop [4, 5] (fun x i => ∃ k n : Nat, k ≤ s.size ∧ n = unhex (s.data.toList.take k) ∧ allDig (s.data.toList.take k) = true ∧ i = .int .i64 k ∧ x = .int .i64 n) (fun _ i => s.size - (intOf i).toNat)
    case atStart => exact ⟨0, 0, Nat.zero_le _, rfl, rfl, rfl, rfl⟩
    case round =>
      obtain ⟨k, n, hk, hn, hd, rfl, rfl⟩ := hrel
      have hb := (unhex_big (s.data.toList.take k) 12 hd (by rw [List.length_take]; omega) (by omega)).2
      rw [← hn] at hb
      have HN := Lib.hid hn
      have HD := Lib.hid hd
      clear hn hd
      by_cases hlt : k < s.size
      · have VA := value_any s[k]
        by_cases hg : isDig s[k] = true
        · have hv := val_lt _ hg
          unfold valI at VA
          rw [if_pos hg] at VA
          replace VA := Lib.hid VA
          have HU := Lib.hid (show 16 * n + val s[k] = unhex (s.data.toList.take (k + 1)) by rw [bytes_take s k hlt, unhex_snoc, HN.out])
          have HA := Lib.hid (show allDig (s.data.toList.take (k + 1)) = true by rw [bytes_take s k hlt, allDig_snoc, HD.out, hg]; rfl)
          clear hg
          go_wp2_with (go_at_call 43; refine (VA.out _).mono ?_; rintro e w' ⟨rfl, rfl⟩)
          go_round
          case rel => exact ⟨k + 1, 16 * n + val s[k], by omega, HU.out, HA.out, by go_num, by go_num⟩
          case measure => simp [intOf]; omega
        · unfold valI at VA
          rw [if_neg hg] at VA
          replace VA := Lib.hid VA
          have HB := Lib.hid (show unB s.data.toList = false by
            unfold unB allDig
            rw [Bool.and_eq_false_iff]
            right
            rw [List.all_eq_false]
            exact ⟨s[k], by have := Array.getElem_mem_toList (xs := s.data) (i := k) hlt; exact this, by simpa using hg⟩)
          clear hg
          go_wp2_with (go_at_call 43; refine (VA.out _).mono ?_; rintro e w' ⟨rfl, rfl⟩)
          go_ret2
          exact ⟨by unfold unR; rw [HB.out]; rfl, rfl⟩
      · obtain rfl : k = s.size := by omega
        have HB := Lib.hid (show unB s.data.toList = true by
          have := HD.out
          rw [take_all] at this
          unfold unB
          rw [this, ← HSZ.out]
          simp; omega)
        have HU := Lib.hid (show n = unhex s.data.toList by rw [HN.out, take_all])
        go_wp2
        go_ret2
        exact ⟨by unfold unR; rw [HB.out, ← HU.out]; rfl, rfl⟩
  · have HB := Lib.hid (show unB s.data.toList = false by unfold unB; rw [← hsz]; simp; omega)
    clear hsz
    by_cases h1 : s.size < 1
    · go_enter Try.func37, Try.ntmps37
      go_wp2
      go_ret2
      exact ⟨by unfold unR; rw [HB.out]; rfl, rfl⟩
    · have h12 : 12 < s.size := by omega
      go_enter Try.func37, Try.ntmps37
      go_wp2
      go_ret2
      exact ⟨by unfold unR; rw [HB.out]; rfl, rfl⟩

def mayB (at_ long : Nat) (c : UInt8) : Bool := if at_ = 0 then isMark c else if at_ = 1 then isKind c else if at_ < 6 ∨ 6 + long ≤ at_ then isDig c else isPlain c
set_option maxHeartbeats 1000000 in
theorem may_any (c : UInt8) (k n : Nat) (hk : k ≤ 4000) (hn : n ≤ 2000) (w : World) : Calls Try.prog 36 #[.int .u8 c.toNat, .int .i64 k, .int .i64 n] w fun e w' => e = .returned (.bool (mayB k n c)) ∧ w = w' := by
  have hc := u8_lt c
  by_cases h0 : k = 0
  · subst h0
    have H := Lib.hid (show ((c.toNat : Int) == 254) = mayB 0 n c by
      show _ = isMark c
      unfold isMark
      by_cases h : c.toNat = 254
      · simp [h]
      · rw [decide_eq_false h, beq_eq_false_iff_ne]; omega)
    go_enter Try.func36, Try.ntmps36
    go_wp2
    go_ret
    exact ⟨ret_bool H.out, rfl⟩
  · by_cases h1 : k = 1
    · subst h1
      rcases (show c.toNat < 97 ∨ (97 ≤ c.toNat ∧ c.toNat ≤ 122) ∨ 122 < c.toNat by omega) with h | ⟨h, h'⟩ | h
      all_goals
        have H := Lib.hid (show mayB 1 n c = (decide (97 ≤ (c.toNat : Int)) && decide ((c.toNat : Int) ≤ 122)) by
          show isKind c = _
          unfold isKind
          rw [Bool.eq_iff_iff]
          simp only [Bool.and_eq_true, decide_eq_true_eq]
          omega)
        go_enter Try.func36, Try.ntmps36
        go_wp2
        go_ret
        exact ⟨ret_bool (by rw [H.out] <;> (first | rfl | omega | (simp <;> omega))), rfl⟩
    · have b0 : ((k : Int) == 0) = false := by rw [beq_eq_false_iff_ne]; omega
      have b1 : ((k : Int) == 1) = false := by rw [beq_eq_false_iff_ne]; omega
      by_cases h6 : k < 6
      · have H := Lib.hid (show isDig c = mayB k n c by unfold mayB; rw [if_neg h0, if_neg h1, if_pos (Or.inl h6)])
        clear h0 h1
        go_enter Try.func36, Try.ntmps36
        go_wp2_with (go_at_call 42; refine (digit04_any c _).mono ?_; rintro e w' ⟨rfl, rfl⟩)
        go_ret
        exact ⟨ret_bool H.out, rfl⟩
      · by_cases h7 : 6 + n ≤ k
        · have H := Lib.hid (show isDig c = mayB k n c by unfold mayB; rw [if_neg h0, if_neg h1, if_pos (Or.inr h7)])
          clear h0 h1
          go_enter Try.func36, Try.ntmps36
          go_wp2_with (go_at_call 42; refine (digit04_any c _).mono ?_; rintro e w' ⟨rfl, rfl⟩)
          go_ret
          exact ⟨ret_bool H.out, rfl⟩
        · have HM := Lib.hid (show mayB k n c = isPlain c by unfold mayB; rw [if_neg h0, if_neg h1, if_neg (by omega)])
          clear h0 h1
          rcases (show c.toNat < 32 ∨ (32 ≤ c.toNat ∧ c.toNat ≤ 126) ∨ 126 < c.toNat by omega) with h | ⟨h, h'⟩ | h
          all_goals
            have H := Lib.hid (show isPlain c = (decide (32 ≤ (c.toNat : Int)) && decide ((c.toNat : Int) ≤ 126)) by
              unfold isPlain
              rw [Bool.eq_iff_iff]
              simp only [Bool.and_eq_true, decide_eq_true_eq]
              omega)
            go_enter Try.func36, Try.ntmps36
            go_wp2
            go_ret
            exact ⟨ret_bool (by rw [HM.out, H.out] <;> (first | rfl | omega | (simp <;> omega))), rfl⟩
end Go.Proofs.Ytidnoeahmnfodaa
