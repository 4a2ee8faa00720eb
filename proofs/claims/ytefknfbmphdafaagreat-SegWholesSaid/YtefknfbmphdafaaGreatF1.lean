/- What the log leans on: F1. -/
import Derived.WalkKit
import Derived.Test.YtefknfbmphdafaaGreatProg
import Derived.WalkSpells
import Derived.WalkLawsBesides
import Derived.Lib.Hide
import Derived.Deep.WholeRow
import Derived.Laws.CopyOwn
import Derived.Deep.OwnRows
import Derived.Deep.RegionHeld3
namespace Go.Proofs.YtefknfbmphdafaaGreat
namespace CrcM

/-- One turn of a smm's bits. -/
def turn (n : Nat) : Nat := if n % 2 = 1 then (n / 2) ^^^ 2197175160 else n / 2
def turns : Nat → Nat → Nat
  | 0, n => n
  | k + 1, n => turn (turns k n)
def ent (c : Nat) : Nat := turns 8 c
def stp (s c : Nat) : Nat := (s / 256) ^^^ ent ((s % 256) ^^^ c)
def feed (s : Nat) (l : List UInt8) : Nat := l.foldl (fun a c => stp a c.toNat) s
def smm (l : List UInt8) : Nat := 4294967295 - feed 4294967295 l

def bitAt (n k : Nat) : Nat := n / 2 ^ k % 2
def dif (a b : Nat) : Nat := (a ^^^ b) % 4294967296

theorem turn_lt (n : Nat) (h : n < 4294967296) : turn n < 4294967296 := by
  unfold turn
  split
  · exact Nat.xor_lt_two_pow (n := 32) (by omega) (by omega)
  · omega
theorem turns_lt (k n : Nat) (h : n < 4294967296) : turns k n < 4294967296 := by
  induction k with
  | zero => exact h
  | succ k ih => exact turn_lt _ ih
theorem ent_lt (c : Nat) (h : c < 4294967296) : ent c < 4294967296 := turns_lt 8 c h
theorem stp_lt (s c : Nat) (h : s < 4294967296) (hc : c < 256) : stp s c < 4294967296 := by
  unfold stp
  have h1 : (s % 256) ^^^ c < 2 ^ 8 := Nat.xor_lt_two_pow (by omega) (by omega)
  have h2 := ent_lt ((s % 256) ^^^ c) (by omega)
  exact Nat.xor_lt_two_pow (n := 32) (by omega) (by omega)
theorem feed_lt (l : List UInt8) (s : Nat) (h : s < 4294967296) : feed s l < 4294967296 := by
  unfold feed
  induction l generalizing s with
  | nil => exact h
  | cons c l ih => exact ih _ (stp_lt _ _ h c.toNat_lt)
theorem feed_append (s : Nat) (a b : List UInt8) : feed s (a ++ b) = feed (feed s a) b := by
  unfold feed; rw [List.foldl_append]
theorem feed_snoc (s : Nat) (a : List UInt8) (c : UInt8) : feed s (a ++ [c]) = stp (feed s a) c.toNat := by
  rw [feed_append]; rfl
theorem feed_nil (s : Nat) : feed s [] = s := rfl
theorem smm_lt (l : List UInt8) : smm l < 4294967296 := by unfold smm; omega

theorem xor_bit (a b k : Nat) : (a ^^^ b) % 2 ^ (k + 1) = (a ^^^ b) % 2 ^ k + (if a / 2 ^ k % 2 ≠ b / 2 ^ k % 2 then 2 ^ k else 0) := by
  have h1 : (a ^^^ b) % 2 ^ (k + 1) = (a ^^^ b) % 2 ^ k + 2 ^ k * ((a ^^^ b) / 2 ^ k % 2) := by
    rw [Nat.pow_succ, Nat.mod_mul]
  have h2 : (a ^^^ b) / 2 ^ k % 2 = if a / 2 ^ k % 2 ≠ b / 2 ^ k % 2 then 1 else 0 := by
    have e : ∀ n, n / 2 ^ k % 2 = (n.testBit k).toNat := fun n => by
      rw [Nat.toNat_testBit]
    rw [e, e, e, Nat.testBit_xor]
    cases a.testBit k <;> cases b.testBit k <;> simp
  rw [h1, h2]
  split <;> simp

/-- Where a byte's bits are 32 the entries' differences add up. -/
theorem turn_xor (a b : Nat) : turn (a ^^^ b) = turn a ^^^ turn b := by
  have hd : (a ^^^ b) / 2 = a / 2 ^^^ b / 2 := by
    have := Nat.shiftRight_xor_distrib (a := a) (b := b) (i := 1)
    simpa [Nat.shiftRight_eq_div_pow] using this
  have hm : (a ^^^ b) % 2 = (a % 2) ^^^ (b % 2) := by
    have := Nat.xor_mod_two_pow (a := a) (b := b) (n := 1)
    simpa using this
  unfold turn
  rw [hm, hd]
  rcases Nat.mod_two_eq_zero_or_one a with ha | ha <;> rcases Nat.mod_two_eq_zero_or_one b with hb | hb <;> simp only [ha, hb]
  · simp
  · simp [Nat.xor_assoc]
  · simp only [Nat.xor_zero, if_true, Nat.zero_ne_one, if_false]
    rw [Nat.xor_assoc, Nat.xor_assoc, Nat.xor_comm (b / 2)]
  · simp only [Nat.xor_self, if_true, Nat.zero_ne_one, if_false]
    rw [Nat.xor_assoc, ← Nat.xor_assoc 2197175160, Nat.xor_comm 2197175160 (b / 2), Nat.xor_assoc, Nat.xor_self, Nat.xor_zero]
theorem turns_xor (k a b : Nat) : turns k (a ^^^ b) = turns k a ^^^ turns k b := by
  induction k with
  | zero => rfl
  | succ k ih => simp only [turns, ih, turn_xor]
theorem ent_xor (a b : Nat) : ent (a ^^^ b) = ent a ^^^ ent b := turns_xor 8 a b
theorem ent_zero : ent 0 = 0 := by decide +kernel

/-- A hexadecimal digit. -/
def dig (n : Nat) : UInt8 := if n < 10 then UInt8.ofNat (48 + n) else UInt8.ofNat (87 + n)
def hex : Nat → Nat → List UInt8
  | 0, _ => []
  | k + 1, n => hex k (n / 16) ++ [dig (n % 16)]
theorem hex_length (k n : Nat) : (hex k n).length = k := by
  induction k generalizing n with
  | zero => rfl
  | succ k ih => simp [hex, ih]
theorem hex_cons (k n : Nat) (h : n < 16 ^ (k + 1)) : hex (k + 1) n = dig (n / 16 ^ k % 16) :: hex k n := by
  induction k generalizing n with
  | zero => simp [hex]
  | succ k ih =>
    have e : hex (k + 2) n = hex (k + 1) (n / 16) ++ [dig (n % 16)] := rfl
    rw [e, ih (n / 16) (by rw [Nat.pow_succ] at h; omega), Nat.div_div_eq_div_mul, Nat.mul_comm 16, ← Nat.pow_succ]
    rfl
theorem hex_mod (k n : Nat) : hex k n = hex k (n % 16 ^ k) := by
  induction k generalizing n with
  | zero => rfl
  | succ k ih =>
    simp only [hex]
    rw [ih (n / 16), ih (n % 16 ^ (k + 1) / 16)]
    congr 2
    · rw [Nat.pow_succ, Nat.mul_comm, Nat.mod_mul_right_div_self, Nat.mod_mod]
    · rw [Nat.pow_succ, Nat.mul_comm, Nat.mod_mul_right_mod]
theorem hex_cons' (k n : Nat) : hex (k + 1) n = dig (n / 16 ^ k % 16) :: hex k n := by
  rw [hex_mod (k + 1), hex_cons k _ (Nat.mod_lt _ (Nat.pos_of_ne_zero (by simp [Nat.pow_eq_zero]))), hex_mod k n, hex_mod k (n % 16 ^ (k + 1))]
  congr 2
  · rw [Nat.pow_succ, Nat.mod_mul_right_div_self, Nat.mod_mod]
  · rw [Nat.pow_succ, Nat.mod_mul_right_mod]

theorem known : hex 8 (smm [49, 50, 51, 52, 53, 54, 55, 56, 57]) = [101, 51, 48, 54, 57, 50, 56, 51] := by decide +kernel
theorem known2 : smm [49, 50, 51, 52, 53, 54, 55, 56, 57] = 3808858755 := by decide +kernel
theorem known3 : ent 1 = 4067132163 := by decide +kernel
theorem known4 : stp 0 1 = 4067132163 := by decide +kernel
end CrcM
end Go.Proofs.YtefknfbmphdafaaGreat
namespace Go.Proofs.YtefknfbmphdafaaGreat
open Go.RowKit CrcM

theorem ret_int {k : IntKind} {a b : Int} (h : a = b) : Ending.returned (.int k a) = .returned (.int k b) := by rw [h]
theorem int_eq {k : IntKind} {a b : Int} (h : a = b) : Value.int k a = .int k b := by rw [h]

theorem low_bit (n : Nat) (h : n < 4294967296) : bits .and .u32 (n : Int) 1 = ((n % 2 : Nat) : Int) := by
  have := u32_and_nat n 1 h (by omega)
  rw [nat_mask1] at this
  exact this
theorem turn_yes (n : Nat) (h : n < 4294967296) (h1 : n % 2 = 1) : bits .xor .u32 ((n : Int) / 2) 2197175160 = ((turn n : Nat) : Int) := by
  have := u32_xor_nat (n / 2) 2197175160 (by omega) (by omega)
  unfold turn
  rw [if_pos h1, ← this]
  rfl
theorem turn_no (n : Nat) (h1 : n % 2 ≠ 1) : (n : Int) / 2 = ((turn n : Nat) : Int) := by
  unfold turn
  rw [if_neg h1]
  omega

set_option maxHeartbeats 400000 in
theorem entry_any (c : Nat) (hc : c < 256) (w : World) :
    Calls Tryz.prog 139 #[.int .u8 c] w fun e w' => e = .returned (.int .u32 (ent c)) ∧ w = w' := by
  go_enter Tryz.func139, Tryz.ntmps139
  go_wp2
  go_loop [3, 7] (fun n i => ∃ k : Nat, k ≤ 8 ∧ i = .int .i64 k ∧ n = .int .u32 (turns k c)) (fun _ i => 8 - (intOf i).toNat)
  case atStart => exact ⟨0, Nat.zero_le _, rfl, rfl⟩
  case round =>
    obtain ⟨k, hk, rfl, rfl⟩ := hrel
    have hb := turns_lt k c (by omega)
    by_cases hlt : k < 8
    · by_cases h1 : turns k c % 2 = 1
      · have ht : (bits .and .u32 (turns k c : Int) 1 == 1) = true := by rw [low_bit _ hb, h1]; rfl
        have H := Lib.hid (turn_yes _ hb h1)
        have H1 := Lib.hid h1
        clear h1
        go_wp2
        go_round
        case rel => exact ⟨k + 1, by omega, by go_num, int_eq H.out⟩
        case measure => simp [intOf]; omega
      · have ht : (bits .and .u32 (turns k c : Int) 1 == 1) = false := by rw [low_bit _ hb]; simp; omega
        have H := Lib.hid (turn_no _ h1)
        clear h1
        go_wp2
        go_round
        case rel => exact ⟨k + 1, by omega, by go_num, int_eq H.out⟩
        case measure => simp [intOf]; omega
    · obtain rfl : k = 8 := by omega
      go_wp2
      go_ret
      exact ⟨rfl, rfl⟩

theorem step_eq (s c : Nat) (hs : s < 4294967296) (hc : c < 256) : bits .xor .u32 ((s : Int) / 256) ((ent ((s % 256) ^^^ c) : Nat) : Int) = ((stp s c : Nat) : Int) := by
  have h1 : (s % 256) ^^^ c < 2 ^ 8 := Nat.xor_lt_two_pow (by omega) (by omega)
  have h2 := ent_lt ((s % 256) ^^^ c) (by omega)
  have := u32_xor_nat (s / 256) (ent ((s % 256) ^^^ c)) (by omega) h2
  unfold stp
  rw [← this]
  rfl
theorem low_byte (s c : Nat) (hc : c < 256) : bits .xor .u8 ((s : Int) % 256) (c : Int) = (((s % 256) ^^^ c : Nat) : Int) := by
  have := u8_xor_nat (s % 256) c (by omega) hc
  rw [← this]
  rfl

set_option maxHeartbeats 400000 in
theorem bit_any (n k : Nat) (hn : n < 9223372036854775808) (hk : k < 64) (w : World) :
    Calls Tryz.prog 144 #[.int .i64 n, .int .i64 k] w fun e w' => e = .returned (.int .i64 (bitAt n k)) ∧ w = w' := by
  go_enter Tryz.func144, Tryz.ntmps144
  go_wp2
  go_loop [0, 5] (fun x i => ∃ j : Nat, j ≤ k ∧ i = .int .i64 j ∧ x = .int .i64 ((n / 2 ^ j : Nat) : Int)) (fun _ i => k - (intOf i).toNat)
  case atStart => exact ⟨0, Nat.zero_le _, rfl, by simp⟩
  case round =>
    obtain ⟨j, hj, rfl, rfl⟩ := hrel
    have hb : n / 2 ^ j < 9223372036854775808 := Nat.lt_of_le_of_lt (Nat.div_le_self _ _) hn
    have H := Lib.hid (show n / 2 ^ j / 2 = n / 2 ^ (j + 1) by rw [Nat.div_div_eq_div_mul, Nat.pow_succ])
    obtain ⟨x, hx⟩ : ∃ x, x = n / 2 ^ j := ⟨_, rfl⟩
    rw [← hx] at hb
    have HX := Lib.hid hx
    rw [← hx]
    clear hx
    by_cases hlt : j < k
    · go_wp2
      go_round
      case rel => exact ⟨j + 1, by omega, by go_num, int_eq (by rw [← H.out, ← HX.out]; omega)⟩
      case measure => simp [intOf]; omega
    · go_wp2
      go_ret
      obtain rfl : j = k := by omega
      exact ⟨ret_int (by rw [HX.out]; rfl), rfl⟩

theorem differ_next (a b k : Nat) : ((a ^^^ b) % 2 ^ (k + 1) : Nat) = (a ^^^ b) % 2 ^ k + (if a / 2 ^ k % 2 ≠ b / 2 ^ k % 2 then 2 ^ k else 0) := xor_bit a b k
theorem pow_le (k : Nat) (h : k ≤ 32) : 2 ^ k ≤ 4294967296 := by
  have := Nat.pow_le_pow_right (n := 2) (by omega) h
  omega

set_option maxHeartbeats 400000 in
theorem differ_any (a b : Nat) (ha : a < 9223372036854775808) (hb : b < 9223372036854775808) (w : World) :
    Calls Tryz.prog 142 #[.int .i64 a, .int .i64 b] w fun e w' => e = .returned (.int .i64 (dif a b)) ∧ w = w' := by
  go_enter Tryz.func142, Tryz.ntmps142
  go_wp2
  go_loop [5, 6, 7] (fun o p i => ∃ k d q : Nat, k ≤ 32 ∧ d = (a ^^^ b) % 2 ^ k ∧ q = 2 ^ k ∧ i = .int .i64 k ∧ o = .int .i64 d ∧ p = .int .i64 q) (fun _ _ i => 32 - (intOf i).toNat)
  case atStart => exact ⟨0, 0, 1, Nat.zero_le _, by simp [Nat.mod_one], rfl, rfl, rfl, rfl⟩
  case round =>
    obtain ⟨k, d, q, hk, hd, hq, rfl, rfl, rfl⟩ := hrel
    have hq1 : q ≤ 4294967296 := by rw [hq]; exact pow_le k hk
    have hd1 : d < q := by rw [hd, hq]; exact Nat.mod_lt _ (Nat.two_pow_pos k)
    have H := differ_next a b k
    rw [← hd, ← hq] at H
    have HD := Lib.hid hd
    have HQ := Lib.hid hq
    have HN := Lib.hid (show 2 * q = 2 ^ (k + 1) by rw [hq, Nat.pow_succ]; omega)
    clear hd hq
    by_cases hlt : k < 32
    · by_cases hx : bitAt a k = bitAt b k
      · rw [if_neg (by simpa [← HQ.out, bitAt] using hx)] at H
        have HH := Lib.hid H
        have ht : ((bitAt a k : Int) != (bitAt b k : Int)) = false := by rw [hx]; simp
        clear H hx
        go_wp2_with (go_at_call 144; refine (bit_any _ _ (by omega) (by omega) _).mono ?_; rintro e w' ⟨rfl, rfl⟩)
        go_round
        case rel => exact ⟨k + 1, d, 2 * q, by omega, by rw [HH.out]; rfl, HN.out, by go_num, rfl, by go_num⟩
        case measure => simp [intOf]; omega
      · rw [if_pos (by simpa [← HQ.out, bitAt] using hx)] at H
        have HH := Lib.hid H
        have ht : ((bitAt a k : Int) != (bitAt b k : Int)) = true := by rw [bne_iff_ne]; omega
        clear H hx
        go_wp2_with (go_at_call 144; refine (bit_any _ _ (by omega) (by omega) _).mono ?_; rintro e w' ⟨rfl, rfl⟩)
        go_round
        case rel => exact ⟨k + 1, d + q, 2 * q, by omega, by rw [HH.out], HN.out, by go_num, by go_num, by go_num⟩
        case measure => simp [intOf]; omega
    · obtain rfl : k = 32 := by omega
      go_wp2
      go_ret
      exact ⟨ret_int (by rw [HD.out]; rfl), rfl⟩

theorem dif_lt (a b : Nat) (ha : a < 4294967296) (hb : b < 4294967296) : dif a b = a ^^^ b := by
  unfold dif
  exact Nat.mod_eq_of_lt (Nat.xor_lt_two_pow (n := 32) (by omega) (by omega))
theorem turn_yes' (n : Nat) (h : n < 4294967296) (h1 : n % 2 = 1) : dif (n / 2) 2197175160 = turn n := by
  rw [dif_lt _ _ (by omega) (by omega)]
  unfold turn
  rw [if_pos h1]
theorem turn_no' (n : Nat) (h1 : n % 2 ≠ 1) : n / 2 = turn n := by unfold turn; rw [if_neg h1]

set_option maxHeartbeats 400000 in
theorem entry_ref (c : Nat) (hc : c < 4294967296) (w : World) :
    Calls Tryz.prog 143 #[.int .i64 c] w fun e w' => e = .returned (.int .i64 (ent c)) ∧ w = w' := by
  go_enter Tryz.func143, Tryz.ntmps143
  go_wp2
  go_loop [3, 4] (fun n i => ∃ k x : Nat, k ≤ 8 ∧ x = turns k c ∧ i = .int .i64 k ∧ n = .int .i64 x) (fun _ i => 8 - (intOf i).toNat)
  case atStart => exact ⟨0, c, Nat.zero_le _, rfl, rfl, rfl⟩
  case round =>
    obtain ⟨k, x, hk, hx, rfl, rfl⟩ := hrel
    have hb := turns_lt k c (by omega)
    rw [← hx] at hb
    have HX := Lib.hid hx
    clear hx
    by_cases hlt : k < 8
    · by_cases h1 : x % 2 = 1
      · have ht : ((x : Int) % 2 == 1) = true := by simp; omega
        have H := Lib.hid (turn_yes' _ hb h1)
        clear h1
        go_wp2_with (go_at_call 142; refine (differ_any (x / 2) 2197175160 (by omega) (by omega) _).mono ?_; rintro e w' ⟨rfl, rfl⟩)
        go_round
        case rel => exact ⟨k + 1, dif (x / 2) 2197175160, by omega, by rw [H.out, HX.out]; rfl, by go_num, rfl⟩
        case measure => simp [intOf]; omega
      · have ht : ((x : Int) % 2 == 1) = false := by simp; omega
        have H := Lib.hid (turn_no' _ h1)
        clear h1
        go_wp2
        go_round
        case rel => exact ⟨k + 1, x / 2, by omega, by rw [H.out, HX.out]; rfl, by go_num, by go_num⟩
        case measure => simp [intOf]; omega
    · obtain rfl : k = 8 := by omega
      go_wp2
      go_ret
      exact ⟨ret_int (by rw [HX.out]; rfl), rfl⟩

set_option maxHeartbeats 400000 in
theorem step_ref (s c : Nat) (hs : s < 4294967296) (hc : c < 256) (w : World) :
    Calls Tryz.prog 138 #[.int .i64 s, .int .i64 c] w fun e w' => e = .returned (.int .i64 (stp s c)) ∧ w = w' := by
  have h1 : (s % 256) ^^^ c < 2 ^ 8 := Nat.xor_lt_two_pow (by omega) (by omega)
  have e1 : dif (s % 256) c = (s % 256) ^^^ c := dif_lt _ _ (by omega) (by omega)
  have b1 : dif (s % 256) c < 256 := by omega
  have b2 : ent (dif (s % 256) c) < 4294967296 := ent_lt _ (by omega)
  have H := Lib.hid (show dif (s / 256) (ent (dif (s % 256) c)) = stp s c by rw [dif_lt _ _ (by omega) b2, e1]; rfl)
  clear e1 h1
  go_enter Tryz.func138, Tryz.ntmps138
  go_wp2_with fail
  refine (differ_any (s % 256) c (by omega) (by omega) _).mono ?_
  rintro e w' ⟨rfl, rfl⟩
  go_wp2_with fail
  refine (entry_ref _ (by omega) _).mono ?_
  rintro e w' ⟨rfl, rfl⟩
  go_wp2_with fail
  refine (differ_any (s / 256) _ (by omega) (by omega) _).mono ?_
  rintro e w' ⟨rfl, rfl⟩
  go_wp2
  go_ret
  exact ⟨ret_int (by rw [H.out]), rfl⟩
end Go.Proofs.YtefknfbmphdafaaGreat
namespace Go.Proofs.YtefknfbmphdafaaGreat
open Go.RowKit CrcM

def tabL (k : Nat) : List Value := (List.range 256).map fun i => Value.int .u32 ((if i < k then ent i else 0 : Nat) : Int)
def tab (k : Nat) : Array Value := (tabL k).toArray
theorem tab_size (k : Nat) : (tab k).size = 256 := by simp [tab, tabL]
theorem tab_at (k i : Nat) (hi : i < 256) : (tab k)[i]? = some (.int .u32 ((if i < k then ent i else 0 : Nat) : Int)) := by
  simp [tab, tabL, hi]
theorem tab_set (k : Nat) (hk : k < 256) : (tab k).setIfInBounds k (.int .u32 (ent k)) = tab (k + 1) := by
  apply Array.ext_getElem?
  intro i
  rw [Array.getElem?_setIfInBounds]
  by_cases hi : i < 256
  · by_cases e : k = i
    · subst e
      rw [if_pos rfl, if_pos (by rw [tab_size]; exact hk), tab_at _ _ hi, if_pos (by omega)]
    · rw [if_neg e, tab_at _ _ hi, tab_at _ _ hi]
      by_cases h : i < k
      · rw [if_pos h, if_pos (by omega)]
      · rw [if_neg h, if_neg (by omega)]
  · rw [if_neg (by omega), Array.getElem?_eq_none (by rw [tab_size]; omega), Array.getElem?_eq_none (by rw [tab_size]; omega)]
theorem tab_ones (k : Nat) : (tab k).all (·.oneCell') = true := by
  rw [Array.all_eq_true_iff_forall_mem]
  intro v hv
  simp [tab, tabL] at hv
  obtain ⟨i, _, rfl⟩ := hv
  rfl
theorem zero_tab (w : World) : (zeroValue 176).run Tryz.prog w = .ok (.agg (tab 0)) w := by kernel_rfl
theorem und_tab : Tryz.prog.underlying 176 = some (.array 256 146) := by kernel_rfl
theorem info_tab : (Tryz.prog.info? 176).map (·.size) = some 256 := by kernel_rfl

set_option maxRecDepth 100000 in
set_option maxHeartbeats 400000 in
theorem table_any (w : World) :
    Calls Tryz.prog 126 #[] w fun e w' => e = .returned (.agg (tab 256)) ∧ Below w.heap.size w w' := by
  have hz := zero_tab
  go_enter Tryz.func126, Tryz.ntmps126
  go_wp2
  go_loopw [3] (fun i wr => ∃ k : Nat, k ≤ 256 ∧ i = .int .i64 k ∧ wr.heap[w.heap.size]? = some (.cells (tab 0) 176 (0, 0)) ∧ wr.heap[w.heap.size + 1]? = some (.cells (tab k) 176 (0, 0)) ∧ Below w.heap.size w wr)
    (fun i _ => 256 - (intOf i).toNat)
  case atStart => 
    refine ⟨0, Nat.zero_le _, rfl, heap_alloc2_old _ _ _, heap_alloc2_new _ _ _, ?_⟩
    exact ((Below.refl _ _).alloc (Nat.le_refl _) _).alloc (by simp) _
  case round =>
    obtain ⟨k, hk, rfl, h0, h1, hb⟩ := hrel
    by_cases hlt : k < 256
    · have hcell : wr.cell? ⟨w.heap.size + 1, k, none⟩ = some (.int .u32 0) := by
        rw [cell_of_row _ _ _ _ _ _ h1, tab_at _ _ hlt, if_neg (by omega)]; rfl
      have hfz : wr.frozen? ⟨w.heap.size + 1, k, none⟩ = false := frozen_of_row _ _ _ _ _ h1
      have H0 := Lib.hid h0
      have H1 := Lib.hid h1
      clear h0 h1
      go_wp2_with (go_at_call 139; refine (entry_any _ (by omega) _).mono ?_; rintro e w' ⟨rfl, rfl⟩)
      go_roundw
      case rel =>
        refine ⟨k + 1, by omega, by go_num, ?_, ?_, ?_⟩
        · rw [heap_setCell_other _ _ _ _ (by simp)]; exact H0.out
        · rw [heap_setCell_same _ _ _ _ _ _ H1.out, tab_set _ hlt]
        · exact hb.setCell (by simp) _
      case measure => simp [intOf]; omega
    · obtain rfl : k = 256 := by omega
      have H0 := Lib.hid h0
      have H1 := Lib.hid h1
      clear h0 h1
      go_wp2_with (first
        | refine wpList_load_row rfl _ _ rfl _ rfl _ _ _ _ H1.out und_tab rfl (by rw [info_tab, tab_size]) ?_
        | refine wpList_store_row rfl _ _ _ rfl _ _ rfl rfl _ _ H0.out (by rw [info_tab, tab_size]) (by rw [tab_size, tab_size]) (tab_ones 256) ?_)
      refine bodyPost_ret (results_cell_row rfl _ _ _ _ _ _ _ rfl (setRow_heap _ _ _ _ _ _ H0.out) und_tab rfl (by rw [info_tab, tab_size])) rfl ⟨rfl, ?_⟩
      exact below_setRow hb (Nat.le_refl _) _

/-- The array of all entries, stored into the block that was made last. -/
theorem store_tab (w : World) : (storeCells ⟨w.heap.size, 0, none⟩ (tab 256).toList 0).run Tryz.prog (w.alloc (.cells (tab 0) 176)) = .ok () (w.alloc (.cells (tab 256) 176)) :=
  run_storeCells_new w _ _ _ (by rw [info_tab, tab_size]) (by rw [tab_size, tab_size]) (tab_ones 256)
end Go.Proofs.YtefknfbmphdafaaGreat
namespace Go.Proofs.YtefknfbmphdafaaGreat
open Go.RowKit CrcM

def flat (l : List ByteArray) : List UInt8 := l.flatMap (·.data.toList)
theorem flat_take (l : List ByteArray) (k : Nat) (h : k < l.length) : flat (l.take (k + 1)) = flat (l.take k) ++ l[k].data.toList := by
  unfold flat; rw [List.take_succ_eq_append_getElem h, List.flatMap_append]; simp
theorem bytes_take (s : ByteArray) (k : Nat) (h : k < s.size) : s.data.toList.take (k + 1) = s.data.toList.take k ++ [s[k]] := by
  rw [List.take_succ_eq_append_getElem (by simpa using h)]; rfl
theorem take_all (s : ByteArray) : s.data.toList.take s.size = s.data.toList := List.take_of_length_le (by show s.data.toList.length ≤ s.data.size; simp)
theorem nat_not (x : Nat) (h : x < 4294967296) : 4294967295 ^^^ x = 4294967295 - x := by
  have := congrArg BitVec.toNat (BitVec.allOnes_xor (x := BitVec.ofNat 32 x))
  rw [BitVec.toNat_xor, BitVec.toNat_not, BitVec.toNat_allOnes, BitVec.toNat_ofNat, Nat.mod_eq_of_lt (by omega)] at this
  exact this
theorem not32 (x : Nat) (h : x < 4294967296) : bits .xor .u32 IntKind.u32.max (x : Int) = ((4294967295 - x : Nat) : Int) := by
  rw [← nat_not x h]
  exact u32_xor_nat 4294967295 x (by omega) h
/-- The texts of a slice, in memory. -/
def StrRow (w : World) (a : Option Addr) (l : List ByteArray) : Prop :=
  ∀ j (h : j < l.length), ∃ b off, a = some ⟨b, off, none⟩ ∧ w.cell? ⟨b, off + j, none⟩ = some (.string l[j])
def sumSt (l : List ByteArray) (k : Nat) (s : List UInt8) : Nat := feed 4294967295 (flat (l.take k) ++ s)
theorem sumSt_lt (l : List ByteArray) (k : Nat) (s : List UInt8) : sumSt l k s < 4294967296 := feed_lt _ _ (by omega)

set_option maxRecDepth 100000 in
set_option maxHeartbeats 400000 in
theorem sum_full (b off cap : Nat) (l : List ByteArray) (w : World) (hl : l.length ≤ 9223372036854775807) (hs : ∀ s, s ∈ l → s.size ≤ 9223372036854775807) (hbl : l.length ≠ 0 → b < w.heap.size)
    (hc : ∀ j (h : j < l.length), w.cell? ⟨b, off + j, none⟩ = some (.string l[j])) :
    Calls Tryz.prog 90 #[.slice (some ⟨b, off, none⟩) l.length cap] w fun e w' => e = .returned (.int .u32 (smm (flat l))) ∧ Below w.heap.size w w' := by
  have hz := zero_tab
  have hst := store_tab
  obtain ⟨n, hn⟩ : ∃ n, n = l.length := ⟨_, rfl⟩
  have HN := Lib.hid hn
  rw [← hn] at hl hbl
  have HC := Lib.hid hc
  have HS := Lib.hid hs
  clear hc hs
  rw [← hn]
  clear hn
  go_enter Tryz.func90, Tryz.ntmps90
  go_wp2_with (go_at_call 126; refine (table_any _).mono ?_; rintro e w1 ⟨rfl, hb1⟩)
  have hsz := hb1.size
  go_loop [4, 11] (fun s i => ∃ k : Nat, k ≤ n ∧ i = .int .i64 k ∧ s = .int .u32 (sumSt l k [])) (fun _ i => n - (intOf i).toNat)
  case atStart => exact ⟨0, Nat.zero_le _, rfl, rfl⟩
  case round =>
    obtain ⟨k, hk, rfl, rfl⟩ := hrel
    by_cases hlt : k < n
    · have hb2 : b < w1.heap.size := by have := hbl (by omega); omega
      obtain ⟨s, hs⟩ : ∃ s, s = l[k]'(by rw [← HN.out]; exact hlt) := ⟨_, rfl⟩
      have hcell : w1.cell? ⟨b, off + k, none⟩ = some (.string s) := by rw [hb1.cell (hbl (by omega)), hs]; exact HC.out k _
      have hss : s.size ≤ 9223372036854775807 := HS.out s (by rw [hs]; exact List.getElem_mem _)
      have HE := Lib.hid hs
      clear hs
      go_wp2_with fail
      go_loop [4, 17] (fun t j => ∃ m : Nat, m ≤ s.size ∧ j = .int .i64 m ∧ t = .int .u32 (sumSt l k (s.data.toList.take m))) (fun _ j => s.size - (intOf j).toNat)
      case atStart => exact ⟨0, Nat.zero_le _, rfl, rfl⟩
      case round =>
        obtain ⟨m, hm, rfl, rfl⟩ := hrel
        have hS := sumSt_lt l k (s.data.toList.take m)
        by_cases hlt2 : m < s.size
        · have hby : s[m].toNat < 256 := s[m].toNat_lt
          have H2 := Lib.hid (show stp (sumSt l k (s.data.toList.take m)) s[m].toNat = sumSt l k (s.data.toList.take (m + 1)) by
            unfold sumSt; rw [bytes_take s m hlt2, ← List.append_assoc, feed_snoc])
          have H3 := Lib.hid (step_eq (sumSt l k (s.data.toList.take m)) s[m].toNat hS hby)
          have hlow := low_byte (sumSt l k (s.data.toList.take m)) s[m].toNat hby
          have hX : (sumSt l k (s.data.toList.take m) % 256) ^^^ s[m].toNat < 2 ^ 8 := Nat.xor_lt_two_pow (by omega) (by omega)
          generalize sumSt l k (s.data.toList.take m) = S at *
          generalize (S % 256) ^^^ s[m].toNat = X at *
          have htab : ∀ h : X < (tab 256).size, (tab 256)[X]'h = .int .u32 (ent X) := fun h => by
            have := tab_at 256 X (by omega)
            rw [if_pos (by omega), Array.getElem?_eq_getElem h] at this
            exact Option.some.inj this
          go_wp2
          go_round
          case rel => exact ⟨m + 1, by omega, by go_num, int_eq (by rw [H3.out, H2.out])⟩
          case measure => simp [intOf]; omega
        · go_wp2
          go_round
          case rel => 
            refine ⟨k + 1, by omega, by go_num, ?_⟩
            obtain rfl : m = s.size := by omega
            refine int_eq ?_
            unfold sumSt
            rw [flat_take l k (by rw [← HN.out]; exact hlt), ← HE.out, List.append_nil, take_all]
          case measure => simp [intOf]; omega
    · go_wp2
      go_ret
      obtain rfl : k = n := by omega
      refine ⟨ret_int ?_, hb1.alloc (by omega) _⟩
      rw [not32 _ (sumSt_lt _ _ _)]
      unfold sumSt smm
      rw [HN.out, List.take_length, List.append_nil]

set_option maxRecDepth 100000 in
set_option maxHeartbeats 400000 in
theorem sum_none (a : Option Addr) (cap : Nat) (w : World) :
    Calls Tryz.prog 90 #[.slice a 0 cap] w fun e w' => e = .returned (.int .u32 (smm (flat []))) ∧ Below w.heap.size w w' := by
  have hz := zero_tab
  have hst := store_tab
  go_enter Tryz.func90, Tryz.ntmps90
  go_wp2_with (go_at_call 126; refine (table_any _).mono ?_; rintro e w1 ⟨rfl, hb1⟩)
  refine wp_loop_rounds 1 ?_
  rw [rounds_succ]
  go_wp2
  go_ret
  exact ⟨ret_int (by rw [show (4294967295 : Int) = ((4294967295 : Nat) : Int) from rfl, not32 _ (by omega)]; rfl), hb1.alloc hb1.size _⟩

theorem sum_any (a : Option Addr) (cap : Nat) (l : List ByteArray) (w : World) (hl : l.length ≤ 9223372036854775807) (hs : ∀ s, s ∈ l → s.size ≤ 9223372036854775807) (hc : StrRow w a l) :
    Calls Tryz.prog 90 #[.slice a l.length cap] w fun e w' => e = .returned (.int .u32 (smm (flat l))) ∧ Below w.heap.size w w' := by
  match l, hl, hs, hc with
  | [], _, _, _ => exact sum_none a cap w
  | s :: r, hl, hs, hc =>
    obtain ⟨b, off, rfl, h0⟩ := hc 0 (by simp)
    refine sum_full b off cap (s :: r) w hl hs (fun _ => block_lt_of_cell h0) (fun j h => ?_)
    obtain ⟨b', off', e, h1⟩ := hc j h
    simp at e
    obtain ⟨rfl, rfl⟩ := e
    exact h1
end Go.Proofs.YtefknfbmphdafaaGreat
namespace Go.Proofs.YtefknfbmphdafaaGreat
open Go.RowKit CrcM

def hexV (n wide i : Nat) : Nat := (dig (n / 16 ^ (wide - 1 - i) % 16)).toNat
def hexRow (n wide k : Nat) : Array Value := ((List.range wide).map fun i => Value.int .u8 ((if wide - k ≤ i then hexV n wide i else 0 : Nat) : Int)).toArray
theorem und_bytes : Tryz.prog.underlying 109 = some (.slice 5) := by kernel_rfl
theorem und_u8 : Tryz.prog.underlying 5 = some (.int .u8) := by kernel_rfl
theorem und_string : Tryz.prog.underlying 9 = some .string := by kernel_rfl
theorem info_u8 : (Tryz.prog.info? 5).map (fun i => (i.zero, i.size, i.bytes)) = some (some (.int .u8 0), 1, 1) := by kernel_rfl

theorem hexRow_size (n wide k : Nat) : (hexRow n wide k).size = wide := by simp [hexRow]
theorem hexRow_at (n wide k i : Nat) (h : i < wide) : (hexRow n wide k)[i]? = some (.int .u8 ((if wide - k ≤ i then hexV n wide i else 0 : Nat) : Int)) := by
  simp [hexRow, h]
theorem hexRow_set (n wide k : Nat) (hk : k < wide) : (hexRow n wide k).setIfInBounds (wide - 1 - k) (.int .u8 (hexV n wide (wide - 1 - k))) = hexRow n wide (k + 1) := by
  apply Array.ext_getElem?
  intro i
  rw [Array.getElem?_setIfInBounds]
  by_cases hi : i < wide
  · by_cases e : wide - 1 - k = i
    · rw [if_pos e, e, if_pos (by rw [hexRow_size]; exact hi), hexRow_at _ _ _ _ hi, if_pos (by omega)]
    · rw [if_neg e, hexRow_at _ _ _ _ hi, hexRow_at _ _ _ _ hi]
      by_cases h : wide - k ≤ i
      · rw [if_pos h, if_pos (by omega)]
      · rw [if_neg h, if_neg (by omega)]
  · rw [if_neg (by omega), Array.getElem?_eq_none (by rw [hexRow_size]; omega), Array.getElem?_eq_none (by rw [hexRow_size]; omega)]
theorem hexRow_zero (n wide : Nat) : madeCells #[Value.int .u8 0] wide = hexRow n wide 0 := by
  apply Array.ext_getElem?
  intro i
  by_cases hi : i < wide
  · rw [hexRow_at _ _ _ _ hi, if_neg (by omega)]
    simp [madeCells, hi, Nat.mod_one]
  · rw [Array.getElem?_eq_none (by rw [size_madeCells]; omega), Array.getElem?_eq_none (by rw [hexRow_size]; omega)]
theorem hex_get (k n i : Nat) (h : i < k) : (hex k n)[i]? = some (dig (n / 16 ^ (k - 1 - i) % 16)) := by
  induction k generalizing n i with
  | zero => omega
  | succ k ih =>
    rw [hex_cons']
    match i with
    | 0 => simp
    | i + 1 =>
      rw [List.getElem?_cons_succ, ih n i (by omega)]
      congr 5
      omega
theorem sign_at (D : Nat) (h : D < 16) (hx) : ((⟨#[48, 49, 50, 51, 52, 53, 54, 55, 56, 57, 97, 98, 99, 100, 101, 102]⟩ : ByteArray)[D]'hx) = dig D := by
  have all : ∀ D, D < 16 → ∀ hx, ((⟨#[48, 49, 50, 51, 52, 53, 54, 55, 56, 57, 97, 98, 99, 100, 101, 102]⟩ : ByteArray)[D]'hx) = dig D := by
    intro D hD hx
    rcases (show D = 0 ∨ D = 1 ∨ D = 2 ∨ D = 3 ∨ D = 4 ∨ D = 5 ∨ D = 6 ∨ D = 7 ∨ D = 8 ∨ D = 9 ∨ D = 10 ∨ D = 11 ∨ D = 12 ∨ D = 13 ∨ D = 14 ∨ D = 15 from by omega) with rfl | rfl | rfl | rfl | rfl | rfl | rfl | rfl | rfl | rfl | rfl | rfl | rfl | rfl | rfl | rfl <;> rfl
  exact all D h hx
theorem nib (n k : Nat) (h : n < 9223372036854775808) : bits .and .i64 ((n : Int) / 2 ^ (4 * k)) 15 = ((n / 16 ^ k % 16 : Nat) : Int) := by
  have e : (2 : Nat) ^ (4 * k) = 16 ^ k := by rw [Nat.pow_mul]
  have h1 : n / 16 ^ k < 9223372036854775808 := Nat.lt_of_le_of_lt (Nat.div_le_self _ _) h
  have e2 : (n : Int) / 2 ^ (4 * k) = ((n / 16 ^ k : Nat) : Int) := by rw [← e]; simp
  rw [e2]
  generalize n / 16 ^ k = x at *
  have := bits_mask .i64 63 (by decide) (fun m h0 h2 => IntWalk.i64_in m (by omega)) 4 (by decide) (x : Int) (by omega) (by omega)
  exact this
theorem big_hex (n wide : Nat) (hw2 : wide ≤ 12) (hn : n < 16 ^ wide) : n < 281474976710656 := by
  have := Nat.pow_le_pow_right (n := 16) (by omega) hw2
  omega

set_option maxRecDepth 100000 in
set_option maxHeartbeats 400000 in
theorem hex_good (n wide : Nat) (w : World) (hw : 1 ≤ wide) (hw2 : wide ≤ 12) (hn : n < 16 ^ wide) :
    Calls Tryz.prog 63 #[.int .i64 n, .int .i64 wide] w fun e w' => e = .returned (.string ⟨(hex wide n).toArray⟩) ∧ Below w.heap.size w w' := by
  have hmk := run_make_row' (P := Tryz.prog) _ _ _ _ und_bytes info_u8 rfl .i64 .i64 wide (by omega) (by omega)
  have hbig := big_hex n wide hw2 hn
  have hn0 : ((n : Int) / 2 ^ (4 * wide) != 0) = false := by
    have e : (2 : Nat) ^ (4 * wide) = 16 ^ wide := by rw [Nat.pow_mul]
    have h1 : n / 2 ^ (4 * wide) = 0 := by rw [e]; exact Nat.div_eq_of_lt hn
    have : ((n / 2 ^ (4 * wide) : Nat) : Int) = 0 := by rw [h1]; rfl
    simp at this
    simp [this]
  have HN := Lib.hid hn
  clear hn
  go_enter Tryz.func63, Tryz.ntmps63
  go_wp2
  go_loopw [27] (fun i wr => ∃ k : Nat, k ≤ wide ∧ i = .int .i64 k ∧ wr.heap[w.heap.size]? = some (.cells (hexRow n wide k) 5 (0, 0)) ∧ Below w.heap.size w wr) (fun i _ => wide - (intOf i).toNat)
  case atStart =>
    refine ⟨0, Nat.zero_le _, rfl, ?_, (Below.refl _ _).alloc (Nat.le_refl _) _⟩
    rw [heap_alloc_new, hexRow_zero n wide]
  case round =>
    obtain ⟨k, hk, rfl, h0, hb⟩ := hrel
    have H0 := Lib.hid h0
    by_cases hlt : k < wide
    · have hcell : wr.cell? ⟨w.heap.size, wide - 1 - k, none⟩ = some (.int .u8 0) := by
        rw [cell_of_row _ _ _ _ _ _ h0, hexRow_at _ _ _ _ (by omega), if_neg (by omega)]; rfl
      have hfz : wr.frozen? ⟨w.heap.size, wide - 1 - k, none⟩ = false := frozen_of_row _ _ _ _ _ h0
      clear h0
      have hnib := nib n k (by omega)
      have hD : n / 16 ^ k % 16 < 16 := Nat.mod_lt _ (by omega)
      have HV := Lib.hid (show (dig (n / 16 ^ k % 16)).toNat = hexV n wide (wide - 1 - k) by unfold hexV; rw [show wide - 1 - (wide - 1 - k) = k by omega])
      generalize n / 16 ^ k % 16 = D at *
      have HG := Lib.hid (sign_at D hD)
      go_wp2
      go_roundw
      case rel =>
        refine ⟨k + 1, by omega, by go_num, ?_, hb.setCell (by simp) _⟩
        rw [HG.out, HV.out, heap_setCell_same _ _ _ _ _ _ H0.out, hexRow_set _ _ _ hlt]
      case measure => simp [intOf]; omega
    · obtain rfl : k = wide := by omega
      have hcv : (convert 109 9 (.slice (some ⟨w.heap.size, 0, none⟩) k k)).run Tryz.prog wr = .ok (.string ⟨(hex k n).toArray⟩) wr := by
        have hlen := hex_length k n
        have := run_convert_bytes_back (P := Tryz.prog) wr 109 9 _ ⟨w.heap.size, 0, none⟩ k (hex k n) und_bytes und_u8 und_string (fun j hj => by
          rw [hlen] at hj
          have hadd : (⟨w.heap.size, 0, none⟩ : Addr).add j = ⟨w.heap.size, j, none⟩ := by unfold Addr.add; split <;> simp_all
          have hg := hex_get k n j hj
          rw [List.getElem?_eq_getElem (by rw [hlen]; exact hj)] at hg
          rw [hadd, cell_of_row _ _ _ _ _ _ h0, hexRow_at _ _ _ _ hj, if_pos (by omega), Option.some.inj hg]; rfl)
        rw [hlen] at this
        exact this
      clear h0
      go_wp2
      go_ret
      exact ⟨rfl, hb⟩

set_option maxRecDepth 100000 in
set_option maxHeartbeats 400000 in
theorem hex_long (n wide : Nat) (w : World) (hw : 1 ≤ wide) (hw2 : wide ≤ 12) (hn : 16 ^ wide ≤ n) (_hn2 : n < 9223372036854775808) :
    Calls Tryz.prog 63 #[.int .i64 n, .int .i64 wide] w fun e w' => e = .returned (.string ⟨#[]⟩) ∧ w = w' := by
  have hn0 : ((n : Int) / 2 ^ (4 * wide) != 0) = true := by
    have e : (2 : Nat) ^ (4 * wide) = 16 ^ wide := by rw [Nat.pow_mul]
    have h1 : 0 < n / 2 ^ (4 * wide) := by rw [e]; exact Nat.div_pos hn (Nat.pos_of_ne_zero (by simp [Nat.pow_eq_zero]))
    have e2 : (n : Int) / 2 ^ (4 * wide) = ((n / 2 ^ (4 * wide) : Nat) : Int) := by simp
    rw [e2, bne_iff_ne]
    omega
  clear hn
  go_enter Tryz.func63, Tryz.ntmps63
  go_wp2
  go_ret
  exact ⟨rfl, rfl⟩
set_option maxRecDepth 100000 in
set_option maxHeartbeats 400000 in
theorem hex_neg (n : Int) (wide : Nat) (w : World) (hw : 1 ≤ wide) (hw2 : wide ≤ 12) (hn : n < 0) :
    Calls Tryz.prog 63 #[.int .i64 n, .int .i64 wide] w fun e w' => e = .returned (.string ⟨#[]⟩) ∧ w = w' := by
  go_enter Tryz.func63, Tryz.ntmps63
  go_wp2
  go_ret
  exact ⟨rfl, rfl⟩

theorem dig_lo (n : Nat) (h : n < 10) : dig n = UInt8.ofNat (48 + n) := by unfold dig; rw [if_pos h]
theorem dig_hi (n : Nat) (h : ¬ n < 10) : dig n = UInt8.ofNat (87 + n) := by unfold dig; rw [if_neg h]
/-- One byte, made into a text. -/
theorem conv_one (w : World) (x : Int) (c : Nat) (hx : x = c) (hc : c < 256) :
    (convert 109 9 (.slice (some ⟨w.heap.size, 0, none⟩) 1 1)).run Tryz.prog (w.alloc (.cells #[.int .u8 x] 5)) = .ok (.string ⟨#[UInt8.ofNat c]⟩) (w.alloc (.cells #[.int .u8 x] 5)) := by
  subst hx
  have := run_convert_bytes_back (P := Tryz.prog) (w.alloc (.cells #[.int .u8 c] 5)) 109 9 _ ⟨w.heap.size, 0, none⟩ 1 [UInt8.ofNat c] und_bytes und_u8 und_string (fun j hj => by
    obtain rfl : j = 0 := by simp at hj; exact hj
    have e : (UInt8.ofNat c).toNat = c := by simp; omega
    simp [Addr.add, e])
  exact this

set_option maxRecDepth 100000 in
set_option maxHeartbeats 400000 in
theorem digit_ref (n : Nat) (w : World) (hn : n < 16) :
    Calls Tryz.prog 114 #[.int .i64 n] w fun e w' => e = .returned (.string ⟨#[dig n]⟩) ∧ Below w.heap.size w w' := by
  by_cases h : n < 10
  · have hcv := conv_one w (48 + (n : Int)) (48 + n) (by omega) (by omega)
    rw [← dig_lo n h] at hcv
    go_enter Tryz.func114, Tryz.ntmps114
    go_wp2
    go_ret
    exact ⟨rfl, (Below.refl _ _).alloc (Nat.le_refl _) _⟩
  · have hcv := conv_one w (87 + (n : Int)) (87 + n) (by omega) (by omega)
    rw [← dig_hi n h] at hcv
    go_enter Tryz.func114, Tryz.ntmps114
    go_wp2
    go_ret
    exact ⟨rfl, (Below.refl _ _).alloc (Nat.le_refl _) _⟩

theorem bytes_of (s : ByteArray) : s = ⟨s.data.toList.toArray⟩ := by rfl
def hexB (k n : Nat) : ByteArray := ⟨(hex k n).toArray⟩
def hexOr (wide n : Nat) : ByteArray := if n < 16 ^ wide then hexB wide n else ByteArray.empty
theorem hexB_size (k n : Nat) : (hexB k n).size = k := by show (hex k n).toArray.size = k; simp [hex_length]
theorem hexB_next (k n : Nat) : (⟨#[dig (n / 16 ^ k % 16)]⟩ : ByteArray) ++ hexB k n = hexB (k + 1) n := by
  apply ByteArray.ext
  rw [ByteArray.data_append]
  show _ = (hex (k + 1) n).toArray
  rw [hex_cons']
  show #[_] ++ (hex k n).toArray = _
  simp

set_option maxRecDepth 100000 in
set_option maxHeartbeats 400000 in
theorem hex_ref (n wide : Nat) (w : World) (hw : 1 ≤ wide) (hw2 : wide ≤ 12) (hn : n < 9223372036854775808) :
    Calls Tryz.prog 76 #[.int .i64 n, .int .i64 wide] w fun e w' => e = .returned (.string (hexOr wide n)) ∧ Below w.heap.size w w' := by
  go_enter Tryz.func76, Tryz.ntmps76
  go_wp2
  go_loopw [0, 5, 6] (fun x o i wr => ∃ k q : Nat, k ≤ wide ∧ q = n / 16 ^ k ∧ x = .int .i64 q ∧ o = .string (hexB k n) ∧ i = .int .i64 k ∧ Below w.heap.size w wr) (fun _ _ i _ => wide - (intOf i).toNat)
  case atStart => exact ⟨0, n, Nat.zero_le _, by simp, rfl, rfl, rfl, Below.refl _ _⟩
  case round =>
    obtain ⟨k, q, hk, hq, rfl, rfl, rfl, hb⟩ := hrel
    have hqn : q ≤ n := by rw [hq]; exact Nat.div_le_self _ _
    have hsz := hexB_size k n
    have HQ := Lib.hid hq
    clear hq
    by_cases hlt : k < wide
    · have HN := Lib.hid (show (⟨#[dig (q % 16)]⟩ : ByteArray) ++ hexB k n = hexB (k + 1) n by rw [HQ.out]; exact hexB_next k n)
      have HS := Lib.hid hsz
      have hs12 : (hexB k n).size ≤ 12 := by omega
      clear hsz
      generalize hexB k n = B at *
      go_wp2_with (go_at_call 114; refine (digit_ref (q % 16) _ (by omega)).mono ?_; rintro e w' ⟨rfl, hb2⟩)
      go_roundw
      case rel => exact ⟨k + 1, q / 16, by omega, by rw [HQ.out, Nat.div_div_eq_div_mul, Nat.pow_succ], by go_num, by rw [HN.out], by go_num, hb.trans (hb2.mono hb.size)⟩
      case measure => simp [intOf]; omega
    · obtain rfl : k = wide := by omega
      by_cases h0 : 0 < q
      · go_wp2
        go_ret
        have h1 : ¬ n < 16 ^ k := fun h => by rw [HQ.out, Nat.div_eq_of_lt h] at h0; omega
        exact ⟨by unfold hexOr; rw [if_neg h1]; rfl, hb⟩
      · go_wp2
        go_ret
        have h1 : n < 16 ^ k := by
          have h2 : n / 16 ^ k = 0 := by rw [← HQ.out]; omega
          rcases Nat.div_eq_zero_iff.1 h2 with h3 | h3
          · simp [Nat.pow_eq_zero] at h3
          · exact h3
        exact ⟨by unfold hexOr; rw [if_pos h1]; rfl, hb⟩
set_option maxRecDepth 100000 in
set_option maxHeartbeats 400000 in
theorem hex_ref_neg (n : Int) (wide : Nat) (w : World) (hw : 1 ≤ wide) (hw2 : wide ≤ 12) (hn : n < 0) :
    Calls Tryz.prog 76 #[.int .i64 n, .int .i64 wide] w fun e w' => e = .returned (.string ByteArray.empty) ∧ w = w' := by
  go_enter Tryz.func76, Tryz.ntmps76
  go_wp2
  go_ret
  exact ⟨rfl, rfl⟩

/-- Hex, of a number that is not too great, in one contract. -/
theorem hex_any (n wide : Nat) (w : World) (hw : 1 ≤ wide) (hw2 : wide ≤ 12) (hn : n < 9223372036854775808) :
    Calls Tryz.prog 63 #[.int .i64 n, .int .i64 wide] w fun e w' => e = .returned (.string (hexOr wide n)) ∧ Below w.heap.size w w' := by
  by_cases h : n < 16 ^ wide
  · refine (hex_good n wide w hw hw2 h).mono ?_
    rintro e w' ⟨rfl, hb⟩
    exact ⟨by unfold hexOr; rw [if_pos h]; rfl, hb⟩
  · refine (hex_long n wide w hw hw2 (by omega) hn).mono ?_
    rintro e w' ⟨rfl, rfl⟩
    exact ⟨by unfold hexOr; rw [if_neg h]; rfl, Below.refl _ _⟩
theorem hexOr_pos (wide n : Nat) (h : n < 16 ^ wide) : hexOr wide n = hexB wide n := by unfold hexOr; rw [if_pos h]

set_option maxRecDepth 100000 in
set_option maxHeartbeats 400000 in
theorem text_any (a : Option Addr) (cap : Nat) (l : List ByteArray) (w : World) (hl : l.length ≤ 9223372036854775807) (hs : ∀ s, s ∈ l → s.size ≤ 9223372036854775807) (hc : StrRow w a l) :
    Calls Tryz.prog 64 #[.slice a l.length cap] w fun e w' => e = .returned (.string (hexB 8 (smm (flat l)))) ∧ Below w.heap.size w w' := by
  have hlt := smm_lt (flat l)
  have HO := hexOr_pos 8 (smm (flat l)) (by omega)
  have HC := Lib.hid hc
  have HS := Lib.hid hs
  clear hc hs
  go_enter Tryz.func64, Tryz.ntmps64
  go_wp2_with fail
  refine (sum_any _ _ _ _ hl HS.out HC.out).mono ?_
  rintro e w1 ⟨rfl, hb1⟩
  go_wp2_with fail
  refine (hex_any _ 8 _ (by omega) (by omega) (by omega)).mono ?_
  rintro e w2 ⟨rfl, hb2⟩
  go_wp2
  go_ret
  exact ⟨rfl, hb1.trans (hb2.mono hb1.size)⟩

set_option maxHeartbeats 400000 in
theorem sum_ref (s : ByteArray) (w : World) (hs : s.size ≤ 9223372036854775807) :
    Calls Tryz.prog 122 #[.string s] w fun e w' => e = .returned (.int .i64 (smm s.data.toList)) ∧ w = w' := by
  go_enter Tryz.func122, Tryz.ntmps122
  go_wp2
  go_loop [3, 4] (fun x i => ∃ k : Nat, k ≤ s.size ∧ i = .int .i64 k ∧ x = .int .i64 (feed 4294967295 (s.data.toList.take k))) (fun _ i => s.size - (intOf i).toNat)
  case atStart => exact ⟨0, Nat.zero_le _, rfl, rfl⟩
  case round =>
    obtain ⟨k, hk, rfl, rfl⟩ := hrel
    have hf := feed_lt (s.data.toList.take k) 4294967295 (by omega)
    by_cases hlt : k < s.size
    · have HF := Lib.hid (show stp (feed 4294967295 (s.data.toList.take k)) s[k].toNat = feed 4294967295 (s.data.toList.take (k + 1)) by rw [bytes_take s k hlt, feed_snoc])
      have hby : s[k].toNat < 256 := s[k].toNat_lt
      go_wp2_with (go_at_call 138; refine (step_ref _ _ (by omega) (by omega) _).mono ?_; rintro e w' ⟨rfl, rfl⟩)
      go_round
      case rel => exact ⟨k + 1, by omega, by go_num, int_eq (by rw [HF.out])⟩
      case measure => simp [intOf]; omega
    · obtain rfl : k = s.size := by omega
      have HF := Lib.hid (show 4294967295 - feed 4294967295 (s.data.toList.take s.size) = smm s.data.toList by rw [take_all]; rfl)
      go_wp2
      go_ret
      exact ⟨ret_int (by rw [← HF.out]; omega), rfl⟩
end Go.Proofs.YtefknfbmphdafaaGreat
namespace Go.Proofs.YtefknfbmphdafaaGreat
open Go.RowKit CrcM

theorem strRow_one (w : World) (b : Nat) (s : ByteArray) (h : w.cell? ⟨b, 0, none⟩ = some (.string s)) : StrRow w (some ⟨b, 0, none⟩) [s] := by
  intro j hj
  obtain rfl : j = 0 := by simp at hj; exact hj
  exact ⟨_, _, rfl, h⟩
theorem strRow_two (w : World) (b : Nat) (s r : ByteArray) (h : w.cell? ⟨b, 0, none⟩ = some (.string s)) (h1 : w.cell? ⟨b, 1, none⟩ = some (.string r)) : StrRow w (some ⟨b, 0, none⟩) [s, r] := by
  intro j hj
  rcases (show j = 0 ∨ j = 1 by simp at hj; omega) with rfl | rfl
  · exact ⟨_, _, rfl, h⟩
  · exact ⟨_, _, rfl, h1⟩
theorem flat_one (s : ByteArray) : flat [s] = s.data.toList := by simp [flat]
theorem flat_two (s r : ByteArray) : flat [s, r] = s.data.toList ++ r.data.toList := by simp [flat]
theorem sum_one (b : Nat) (s : ByteArray) (w : World) (hs : s.size ≤ 9223372036854775807) (h : w.cell? ⟨b, 0, none⟩ = some (.string s)) :
    Calls Tryz.prog 90 #[.slice (some ⟨b, 0, none⟩) 1 1] w fun e w' => e = .returned (.int .u32 (smm s.data.toList)) ∧ Below w.heap.size w w' := by
  have := sum_any (some ⟨b, 0, none⟩) 1 [s] w (by simp) (by simpa using hs) (strRow_one w b s h)
  rw [flat_one] at this
  exact this
theorem sum_two (b : Nat) (s r : ByteArray) (w : World) (hs : s.size ≤ 9223372036854775807) (hr : r.size ≤ 9223372036854775807) (h : w.cell? ⟨b, 0, none⟩ = some (.string s)) (h1 : w.cell? ⟨b, 1, none⟩ = some (.string r)) :
    Calls Tryz.prog 90 #[.slice (some ⟨b, 0, none⟩) 2 2] w fun e w' => e = .returned (.int .u32 (smm (s.data.toList ++ r.data.toList))) ∧ Below w.heap.size w w' := by
  have := sum_any (some ⟨b, 0, none⟩) 2 [s, r] w (by simp) (by intro x hx; simp at hx; rcases hx with rfl | rfl <;> assumption) (strRow_two w b s r h h1)
  rw [flat_two] at this
  exact this
theorem text_one (b : Nat) (s : ByteArray) (w : World) (hs : s.size ≤ 9223372036854775807) (h : w.cell? ⟨b, 0, none⟩ = some (.string s)) :
    Calls Tryz.prog 64 #[.slice (some ⟨b, 0, none⟩) 1 1] w fun e w' => e = .returned (.string (hexB 8 (smm s.data.toList))) ∧ Below w.heap.size w w' := by
  have := text_any (some ⟨b, 0, none⟩) 1 [s] w (by simp) (by simpa using hs) (strRow_one w b s h)
  rw [flat_one] at this
  exact this
/-- What is kept behind a step: a cell that was there, and all that was there. -/
theorem keep1 {W w w' : World} {p : Addr} {v : Value} (hp : p.block < W.heap.size) (h : w.cell? p = some v ∧ Below W.heap.size W w) (hb : Below W.heap.size w w') : w'.cell? p = some v ∧ Below W.heap.size W w' :=
  ⟨(hb.cell hp).trans h.1, h.2.trans hb⟩
theorem keepB {W w w' : World} {p : Addr} {v : Value} (hp : p.block < W.heap.size) (h : w.cell? p = some v ∧ Below W.heap.size W w) (hb : Below w.heap.size w w') : w'.cell? p = some v ∧ Below W.heap.size W w' :=
  keep1 hp h (hb.mono h.2.size)
theorem keepA {W w : World} {p : Addr} {v : Value} (hp : p.block < W.heap.size) (h : w.cell? p = some v ∧ Below W.heap.size W w) (o : Obj) : (w.alloc o).cell? p = some v ∧ Below W.heap.size W (w.alloc o) :=
  keepB hp h ((Below.refl _ _).alloc (Nat.le_refl _) o)
theorem held_below {W w : World} {p : Addr} {v : Value} (h : w.cell? p = some v ∧ Below W.heap.size W w) : Below W.heap.size W w := h.2
theorem below_new {W w : World} (h : Below W.heap.size W w) (o : Obj) : Below W.heap.size w (w.alloc o) := (Below.refl _ _).alloc h.size o
theorem below_draw {B : Nat} {w : World} : Below B w w.drew := (Below.refl _ _).drew

end Go.Proofs.YtefknfbmphdafaaGreat
