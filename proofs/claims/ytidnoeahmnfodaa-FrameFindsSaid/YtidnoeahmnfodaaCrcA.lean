/- The walks of the leaves of package crc and of its reference: entry, Step, bit, differ, Entry, Step. -/
import Derived.Test.YtidnoeahmnfodaaProg
import Derived.Test.YtidnoeahmnfodaaMath
import Derived.WalkKit
import Derived.WalkSpells
import Derived.WalkLawsBesides
import Derived.Lib.Hide
namespace Go.Proofs.Ytidnoeahmnfodaa
open Go.RowKit CrcM

theorem ret_int {k : IntKind} {a b : Int} (h : a = b) : Ending.returned (.int k a) = .returned (.int k b) := by rw [h]
theorem int_eq {k : IntKind} {a b : Int} (h : a = b) : Value.int k a = .int k b := by rw [h]

theorem low_bit (n : Nat) (h : n < 4294967296) : bits .and .u32 (n : Int) 1 = ((n % 2 : Nat) : Int) := by
  have := u32_and_nat n 1 h (by omega)
  rw [nat_mask1] at this
  exact this
theorem turn_yes (n : Nat) (h : n < 4294967296) (h1 : n % 2 = 1) : bits .xor .u32 ((n : Int) / 2) 2197175160 = ((turn n : Nat) : Int) := by
  have := u32_xor_nat (n / 2) 2197175160 (by omega) (by omega)
  unfold turn
  rw [if_pos h1, ← this]
  rfl
theorem turn_no (n : Nat) (h1 : n % 2 ≠ 1) : (n : Int) / 2 = ((turn n : Nat) : Int) := by
  unfold turn
  rw [if_neg h1]
  omega

set_option maxHeartbeats 400000 in
theorem entry_any (c : Nat) (hc : c < 256) (w : World) :
    Calls Try.prog 48 #[.int .u8 c] w fun e w' => e = .returned (.int .u32 (ent c)) ∧ w = w' := by
  go_enter Try.func48, Try.ntmps48
  go_wp2
  go_loop [3, 7] (fun n i => ∃ k : Nat, k ≤ 8 ∧ i = .int .i64 k ∧ n = .int .u32 (turns k c)) (fun _ i => 8 - (intOf i).toNat)
  case atStart => exact ⟨0, Nat.zero_le _, rfl, rfl⟩
  case round =>
    obtain ⟨k, hk, rfl, rfl⟩ := hrel
    have hb := turns_lt k c (by omega)
    by_cases hlt : k < 8
    · by_cases h1 : turns k c % 2 = 1
      · have ht : (bits .and .u32 (turns k c : Int) 1 == 1) = true := by rw [low_bit _ hb, h1]; rfl
        have H := Lib.hid (turn_yes _ hb h1)
        have H1 := Lib.hid h1
        clear h1
        go_wp2
        go_round
        case rel => exact ⟨k + 1, by omega, by go_num, int_eq H.out⟩
        case measure => simp [intOf]; omega
      · have ht : (bits .and .u32 (turns k c : Int) 1 == 1) = false := by rw [low_bit _ hb]; simp; omega
        have H := Lib.hid (turn_no _ h1)
        clear h1
        go_wp2
        go_round
        case rel => exact ⟨k + 1, by omega, by go_num, int_eq H.out⟩
        case measure => simp [intOf]; omega
    · obtain rfl : k = 8 := by omega
      go_wp2
      go_ret
      exact ⟨rfl, rfl⟩

theorem step_eq (s c : Nat) (hs : s < 4294967296) (hc : c < 256) : bits .xor .u32 ((s : Int) / 256) ((ent ((s % 256) ^^^ c) : Nat) : Int) = ((stp s c : Nat) : Int) := by
  have h1 : (s % 256) ^^^ c < 2 ^ 8 := Nat.xor_lt_two_pow (by omega) (by omega)
  have h2 := ent_lt ((s % 256) ^^^ c) (by omega)
  have := u32_xor_nat (s / 256) (ent ((s % 256) ^^^ c)) (by omega) h2
  unfold stp
  rw [← this]
  rfl
theorem low_byte (s c : Nat) (hc : c < 256) : bits .xor .u8 ((s : Int) % 256) (c : Int) = (((s % 256) ^^^ c : Nat) : Int) := by
  have := u8_xor_nat (s % 256) c (by omega) hc
  rw [← this]
  rfl

set_option maxHeartbeats 400000 in
theorem bit_any (n k : Nat) (hn : n < 9223372036854775808) (hk : k < 64) (w : World) :
    Calls Try.prog 49 #[.int .i64 n, .int .i64 k] w fun e w' => e = .returned (.int .i64 (bitAt n k)) ∧ w = w' := by
  go_enter Try.func49, Try.ntmps49
  go_wp2
  go_loop [0, 5] (fun x i => ∃ j : Nat, j ≤ k ∧ i = .int .i64 j ∧ x = .int .i64 ((n / 2 ^ j : Nat) : Int)) (fun _ i => k - (intOf i).toNat)
  case atStart => exact ⟨0, Nat.zero_le _, rfl, by simp⟩
  case round =>
    obtain ⟨j, hj, rfl, rfl⟩ := hrel
    have hb : n / 2 ^ j < 9223372036854775808 := Nat.lt_of_le_of_lt (Nat.div_le_self _ _) hn
    have H := Lib.hid (show n / 2 ^ j / 2 = n / 2 ^ (j + 1) by rw [Nat.div_div_eq_div_mul, Nat.pow_succ])
    obtain ⟨x, hx⟩ : ∃ x, x = n / 2 ^ j := ⟨_, rfl⟩
    rw [← hx] at hb
    have HX := Lib.hid hx
    rw [← hx]
    clear hx
    by_cases hlt : j < k
    · go_wp2
      go_round
      case rel => exact ⟨j + 1, by omega, by go_num, int_eq (by rw [← H.out, ← HX.out]; omega)⟩
      case measure => simp [intOf]; omega
    · go_wp2
      go_ret
      obtain rfl : j = k := by omega
      exact ⟨ret_int (by rw [HX.out]; rfl), rfl⟩

theorem differ_next (a b k : Nat) : ((a ^^^ b) % 2 ^ (k + 1) : Nat) = (a ^^^ b) % 2 ^ k + (if a / 2 ^ k % 2 ≠ b / 2 ^ k % 2 then 2 ^ k else 0) := xor_bit a b k
theorem pow_le (k : Nat) (h : k ≤ 32) : 2 ^ k ≤ 4294967296 := by
  have := Nat.pow_le_pow_right (n := 2) (by omega) h
  omega

set_option maxHeartbeats 400000 in
theorem differ_any (a b : Nat) (ha : a < 9223372036854775808) (hb : b < 9223372036854775808) (w : World) :
    Calls Try.prog 45 #[.int .i64 a, .int .i64 b] w fun e w' => e = .returned (.int .i64 (dif a b)) ∧ w = w' := by
  go_enter Try.func45, Try.ntmps45
  go_wp2
  go_loop [5, 6, 7] (fun o p i => ∃ k d q : Nat, k ≤ 32 ∧ d = (a ^^^ b) % 2 ^ k ∧ q = 2 ^ k ∧ i = .int .i64 k ∧ o = .int .i64 d ∧ p = .int .i64 q) (fun _ _ i => 32 - (intOf i).toNat)
  case atStart => exact ⟨0, 0, 1, Nat.zero_le _, by simp [Nat.mod_one], rfl, rfl, rfl, rfl⟩
  case round =>
    obtain ⟨k, d, q, hk, hd, hq, rfl, rfl, rfl⟩ := hrel
    have hq1 : q ≤ 4294967296 := by rw [hq]; exact pow_le k hk
    have hd1 : d < q := by rw [hd, hq]; exact Nat.mod_lt _ (Nat.two_pow_pos k)
    have H := differ_next a b k
    rw [← hd, ← hq] at H
    have HD := Lib.hid hd
    have HQ := Lib.hid hq
    have HN := Lib.hid (show 2 * q = 2 ^ (k + 1) by rw [hq, Nat.pow_succ]; omega)
    clear hd hq
    by_cases hlt : k < 32
    · by_cases hx : bitAt a k = bitAt b k
      · rw [if_neg (by simpa [← HQ.out, bitAt] using hx)] at H
        have HH := Lib.hid H
        have ht : ((bitAt a k : Int) != (bitAt b k : Int)) = false := by rw [hx]; simp
        clear H hx
        go_wp2_with (go_at_call 49; refine (bit_any _ _ (by omega) (by omega) _).mono ?_; rintro e w' ⟨rfl, rfl⟩)
        go_round
        case rel => exact ⟨k + 1, d, 2 * q, by omega, by rw [HH.out]; rfl, HN.out, by go_num, rfl, by go_num⟩
        case measure => simp [intOf]; omega
      · rw [if_pos (by simpa [← HQ.out, bitAt] using hx)] at H
        have HH := Lib.hid H
        have ht : ((bitAt a k : Int) != (bitAt b k : Int)) = true := by rw [bne_iff_ne]; omega
        clear H hx
        go_wp2_with (go_at_call 49; refine (bit_any _ _ (by omega) (by omega) _).mono ?_; rintro e w' ⟨rfl, rfl⟩)
        go_round
        case rel => exact ⟨k + 1, d + q, 2 * q, by omega, by rw [HH.out], HN.out, by go_num, by go_num, by go_num⟩
        case measure => simp [intOf]; omega
    · obtain rfl : k = 32 := by omega
      go_wp2
      go_ret
      exact ⟨ret_int (by rw [HD.out]; rfl), rfl⟩

theorem dif_lt (a b : Nat) (ha : a < 4294967296) (hb : b < 4294967296) : dif a b = a ^^^ b := by
  unfold dif
  exact Nat.mod_eq_of_lt (Nat.xor_lt_two_pow (n := 32) (by omega) (by omega))
theorem turn_yes' (n : Nat) (h : n < 4294967296) (h1 : n % 2 = 1) : dif (n / 2) 2197175160 = turn n := by
  rw [dif_lt _ _ (by omega) (by omega)]
  unfold turn
  rw [if_pos h1]
theorem turn_no' (n : Nat) (h1 : n % 2 ≠ 1) : n / 2 = turn n := by unfold turn; rw [if_neg h1]

set_option maxHeartbeats 400000 in
theorem entry_ref (c : Nat) (hc : c < 4294967296) (w : World) :
    Calls Try.prog 46 #[.int .i64 c] w fun e w' => e = .returned (.int .i64 (ent c)) ∧ w = w' := by
  go_enter Try.func46, Try.ntmps46
  go_wp2
  go_loop [3, 4] (fun n i => ∃ k x : Nat, k ≤ 8 ∧ x = turns k c ∧ i = .int .i64 k ∧ n = .int .i64 x) (fun _ i => 8 - (intOf i).toNat)
  case atStart => exact ⟨0, c, Nat.zero_le _, rfl, rfl, rfl⟩
  case round =>
    obtain ⟨k, x, hk, hx, rfl, rfl⟩ := hrel
    have hb := turns_lt k c (by omega)
    rw [← hx] at hb
    have HX := Lib.hid hx
    clear hx
    by_cases hlt : k < 8
    · by_cases h1 : x % 2 = 1
      · have ht : ((x : Int) % 2 == 1) = true := by simp; omega
        have H := Lib.hid (turn_yes' _ hb h1)
        clear h1
        go_wp2_with (go_at_call 45; refine (differ_any (x / 2) 2197175160 (by omega) (by omega) _).mono ?_; rintro e w' ⟨rfl, rfl⟩)
        go_round
        case rel => exact ⟨k + 1, dif (x / 2) 2197175160, by omega, by rw [H.out, HX.out]; rfl, by go_num, rfl⟩
        case measure => simp [intOf]; omega
      · have ht : ((x : Int) % 2 == 1) = false := by simp; omega
        have H := Lib.hid (turn_no' _ h1)
        clear h1
        go_wp2
        go_round
        case rel => exact ⟨k + 1, x / 2, by omega, by rw [H.out, HX.out]; rfl, by go_num, by go_num⟩
        case measure => simp [intOf]; omega
    · obtain rfl : k = 8 := by omega
      go_wp2
      go_ret
      exact ⟨ret_int (by rw [HX.out]; rfl), rfl⟩

set_option maxHeartbeats 400000 in
theorem step_ref (s c : Nat) (hs : s < 4294967296) (hc : c < 256) (w : World) :
    Calls Try.prog 40 #[.int .i64 s, .int .i64 c] w fun e w' => e = .returned (.int .i64 (stp s c)) ∧ w = w' := by
  have h1 : (s % 256) ^^^ c < 2 ^ 8 := Nat.xor_lt_two_pow (by omega) (by omega)
  have e1 : dif (s % 256) c = (s % 256) ^^^ c := dif_lt _ _ (by omega) (by omega)
  have b1 : dif (s % 256) c < 256 := by omega
  have b2 : ent (dif (s % 256) c) < 4294967296 := ent_lt _ (by omega)
  have H := Lib.hid (show dif (s / 256) (ent (dif (s % 256) c)) = stp s c by rw [dif_lt _ _ (by omega) b2, e1]; rfl)
  clear e1 h1
  go_enter Try.func40, Try.ntmps40
  go_wp2_with fail
  refine (differ_any (s % 256) c (by omega) (by omega) _).mono ?_
  rintro e w' ⟨rfl, rfl⟩
  go_wp2_with fail
  refine (entry_ref _ (by omega) _).mono ?_
  rintro e w' ⟨rfl, rfl⟩
  go_wp2_with fail
  refine (differ_any (s / 256) _ (by omega) (by omega) _).mono ?_
  rintro e w' ⟨rfl, rfl⟩
  go_wp2
  go_ret
  exact ⟨ret_int (by rw [H.out]), rfl⟩
end Go.Proofs.Ytidnoeahmnfodaa
