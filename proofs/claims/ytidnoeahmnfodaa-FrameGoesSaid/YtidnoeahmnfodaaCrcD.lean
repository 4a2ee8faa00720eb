/- The walks of Hex, of its reference, of Text, and of the reference of Sum. -/
import Derived.Test.YtidnoeahmnfodaaCrcC
import Derived.Deep.OwnRows
namespace Go.Proofs.Ytidnoeahmnfodaa
open Go.RowKit CrcM

def hexV (n wide i : Nat) : Nat := (dig (n / 16 ^ (wide - 1 - i) % 16)).toNat
def hexRow (n wide k : Nat) : Array Value := ((List.range wide).map fun i => Value.int .u8 ((if wide - k ≤ i then hexV n wide i else 0 : Nat) : Int)).toArray
theorem und_bytes : Try.prog.underlying 56 = some (.slice 5) := by kernel_rfl
theorem und_u8 : Try.prog.underlying 5 = some (.int .u8) := by kernel_rfl
theorem und_string : Try.prog.underlying 9 = some .string := by kernel_rfl
theorem info_u8 : (Try.prog.info? 5).map (fun i => (i.zero, i.size, i.bytes)) = some (some (.int .u8 0), 1, 1) := by kernel_rfl

theorem hexRow_size (n wide k : Nat) : (hexRow n wide k).size = wide := by simp [hexRow]
theorem hexRow_at (n wide k i : Nat) (h : i < wide) : (hexRow n wide k)[i]? = some (.int .u8 ((if wide - k ≤ i then hexV n wide i else 0 : Nat) : Int)) := by
  simp [hexRow, h]
theorem hexRow_set (n wide k : Nat) (hk : k < wide) : (hexRow n wide k).setIfInBounds (wide - 1 - k) (.int .u8 (hexV n wide (wide - 1 - k))) = hexRow n wide (k + 1) := by
  apply Array.ext_getElem?
  intro i
  rw [Array.getElem?_setIfInBounds]
  by_cases hi : i < wide
  · by_cases e : wide - 1 - k = i
    · rw [if_pos e, e, if_pos (by rw [hexRow_size]; exact hi), hexRow_at _ _ _ _ hi, if_pos (by omega)]
    · rw [if_neg e, hexRow_at _ _ _ _ hi, hexRow_at _ _ _ _ hi]
      by_cases h : wide - k ≤ i
      · rw [if_pos h, if_pos (by omega)]
      · rw [if_neg h, if_neg (by omega)]
  · rw [if_neg (by omega), Array.getElem?_eq_none (by rw [hexRow_size]; omega), Array.getElem?_eq_none (by rw [hexRow_size]; omega)]
theorem hexRow_zero (n wide : Nat) : madeCells #[Value.int .u8 0] wide = hexRow n wide 0 := by
  apply Array.ext_getElem?
  intro i
  by_cases hi : i < wide
  · rw [hexRow_at _ _ _ _ hi, if_neg (by omega)]
    simp [madeCells, hi, Nat.mod_one]
  · rw [Array.getElem?_eq_none (by rw [size_madeCells]; omega), Array.getElem?_eq_none (by rw [hexRow_size]; omega)]
theorem hex_get (k n i : Nat) (h : i < k) : (hex k n)[i]? = some (dig (n / 16 ^ (k - 1 - i) % 16)) := by
  induction k generalizing n i with
  | zero => omega
  | succ k ih =>
    rw [hex_cons']
    match i with
    | 0 => simp
    | i + 1 =>
      rw [List.getElem?_cons_succ, ih n i (by omega)]
      congr 5
      omega
theorem sign_at (D : Nat) (h : D < 16) (hx) : ((⟨#[48, 49, 50, 51, 52, 53, 54, 55, 56, 57, 97, 98, 99, 100, 101, 102]⟩ : ByteArray)[D]'hx) = dig D := by
  have all : ∀ D, D < 16 → ∀ hx, ((⟨#[48, 49, 50, 51, 52, 53, 54, 55, 56, 57, 97, 98, 99, 100, 101, 102]⟩ : ByteArray)[D]'hx) = dig D := by
    intro D hD hx
    rcases (show D = 0 ∨ D = 1 ∨ D = 2 ∨ D = 3 ∨ D = 4 ∨ D = 5 ∨ D = 6 ∨ D = 7 ∨ D = 8 ∨ D = 9 ∨ D = 10 ∨ D = 11 ∨ D = 12 ∨ D = 13 ∨ D = 14 ∨ D = 15 from by omega) with rfl | rfl | rfl | rfl | rfl | rfl | rfl | rfl | rfl | rfl | rfl | rfl | rfl | rfl | rfl | rfl <;> rfl
  exact all D h hx
theorem nib (n k : Nat) (h : n < 9223372036854775808) : bits .and .i64 ((n : Int) / 2 ^ (4 * k)) 15 = ((n / 16 ^ k % 16 : Nat) : Int) := by
  have e : (2 : Nat) ^ (4 * k) = 16 ^ k := by rw [Nat.pow_mul]
  have h1 : n / 16 ^ k < 9223372036854775808 := Nat.lt_of_le_of_lt (Nat.div_le_self _ _) h
  have e2 : (n : Int) / 2 ^ (4 * k) = ((n / 16 ^ k : Nat) : Int) := by rw [← e]; simp
  rw [e2]
  generalize n / 16 ^ k = x at *
  have := bits_mask .i64 63 (by decide) (fun m h0 h2 => IntWalk.i64_in m (by omega)) 4 (by decide) (x : Int) (by omega) (by omega)
  exact this
theorem big_hex (n wide : Nat) (hw2 : wide ≤ 12) (hn : n < 16 ^ wide) : n < 281474976710656 := by
  have := Nat.pow_le_pow_right (n := 16) (by omega) hw2
  omega

set_option maxRecDepth 100000 in
set_option maxHeartbeats 400000 in
theorem hex_good (n wide : Nat) (w : World) (hw : 1 ≤ wide) (hw2 : wide ≤ 12) (hn : n < 16 ^ wide) :
    Calls Try.prog 27 #[.int .i64 n, .int .i64 wide] w fun e w' => e = .returned (.string ⟨(hex wide n).toArray⟩) ∧ Below w.heap.size w w' := by
  have hmk := run_make_row' (P := Try.prog) _ _ _ _ und_bytes info_u8 rfl .i64 .i64 wide (by omega) (by omega)
  have hbig := big_hex n wide hw2 hn
  have hn0 : ((n : Int) / 2 ^ (4 * wide) != 0) = false := by
    have e : (2 : Nat) ^ (4 * wide) = 16 ^ wide := by rw [Nat.pow_mul]
    have h1 : n / 2 ^ (4 * wide) = 0 := by rw [e]; exact Nat.div_eq_of_lt hn
    have : ((n / 2 ^ (4 * wide) : Nat) : Int) = 0 := by rw [h1]; rfl
    simp at this
    simp [this]
  have HN := Lib.hid hn
  clear hn
  go_enter Try.func27, Try.ntmps27
  go_wp2
  go_loopw [27] (fun i wr => ∃ k : Nat, k ≤ wide ∧ i = .int .i64 k ∧ wr.heap[w.heap.size]? = some (.cells (hexRow n wide k) 5 (0, 0)) ∧ Below w.heap.size w wr) (fun i _ => wide - (intOf i).toNat)
  case atStart =>
    refine ⟨0, Nat.zero_le _, rfl, ?_, (Below.refl _ _).alloc (Nat.le_refl _) _⟩
    rw [heap_alloc_new, hexRow_zero n wide]
  case round =>
    obtain ⟨k, hk, rfl, h0, hb⟩ := hrel
    have H0 := Lib.hid h0
    by_cases hlt : k < wide
    · have hcell : wr.cell? ⟨w.heap.size, wide - 1 - k, none⟩ = some (.int .u8 0) := by
        rw [cell_of_row _ _ _ _ _ _ h0, hexRow_at _ _ _ _ (by omega), if_neg (by omega)]; rfl
      have hfz : wr.frozen? ⟨w.heap.size, wide - 1 - k, none⟩ = false := frozen_of_row _ _ _ _ _ h0
      clear h0
      have hnib := nib n k (by omega)
      have hD : n / 16 ^ k % 16 < 16 := Nat.mod_lt _ (by omega)
      have HV := Lib.hid (show (dig (n / 16 ^ k % 16)).toNat = hexV n wide (wide - 1 - k) by unfold hexV; rw [show wide - 1 - (wide - 1 - k) = k by omega])
      generalize n / 16 ^ k % 16 = D at *
      have HG := Lib.hid (sign_at D hD)
      go_wp2
      go_roundw
      case rel =>
        refine ⟨k + 1, by omega, by go_num, ?_, hb.setCell (by simp) _⟩
        rw [HG.out, HV.out, heap_setCell_same _ _ _ _ _ _ H0.out, hexRow_set _ _ _ hlt]
      case measure => simp [intOf]; omega
    · obtain rfl : k = wide := by omega
      have hcv : (convert 56 9 (.slice (some ⟨w.heap.size, 0, none⟩) k k)).run Try.prog wr = .ok (.string ⟨(hex k n).toArray⟩) wr := by
        have hlen := hex_length k n
        have := run_convert_bytes_back (P := Try.prog) wr 56 9 _ ⟨w.heap.size, 0, none⟩ k (hex k n) und_bytes und_u8 und_string (fun j hj => by
          rw [hlen] at hj
          have hadd : (⟨w.heap.size, 0, none⟩ : Addr).add j = ⟨w.heap.size, j, none⟩ := by unfold Addr.add; split <;> simp_all
          have hg := hex_get k n j hj
          rw [List.getElem?_eq_getElem (by rw [hlen]; exact hj)] at hg
          rw [hadd, cell_of_row _ _ _ _ _ _ h0, hexRow_at _ _ _ _ hj, if_pos (by omega), Option.some.inj hg]; rfl)
        rw [hlen] at this
        exact this
      clear h0
      go_wp2
      go_ret
      exact ⟨rfl, hb⟩

set_option maxRecDepth 100000 in
set_option maxHeartbeats 400000 in
theorem hex_long (n wide : Nat) (w : World) (hw : 1 ≤ wide) (hw2 : wide ≤ 12) (hn : 16 ^ wide ≤ n) (_hn2 : n < 9223372036854775808) :
    Calls Try.prog 27 #[.int .i64 n, .int .i64 wide] w fun e w' => e = .returned (.string ⟨#[]⟩) ∧ w = w' := by
  have hn0 : ((n : Int) / 2 ^ (4 * wide) != 0) = true := by
    have e : (2 : Nat) ^ (4 * wide) = 16 ^ wide := by rw [Nat.pow_mul]
    have h1 : 0 < n / 2 ^ (4 * wide) := by rw [e]; exact Nat.div_pos hn (Nat.pos_of_ne_zero (by simp [Nat.pow_eq_zero]))
    have e2 : (n : Int) / 2 ^ (4 * wide) = ((n / 2 ^ (4 * wide) : Nat) : Int) := by simp
    rw [e2, bne_iff_ne]
    omega
  clear hn
  go_enter Try.func27, Try.ntmps27
  go_wp2
  go_ret
  exact ⟨rfl, rfl⟩
set_option maxRecDepth 100000 in
set_option maxHeartbeats 400000 in
theorem hex_neg (n : Int) (wide : Nat) (w : World) (hw : 1 ≤ wide) (hw2 : wide ≤ 12) (hn : n < 0) :
    Calls Try.prog 27 #[.int .i64 n, .int .i64 wide] w fun e w' => e = .returned (.string ⟨#[]⟩) ∧ w = w' := by
  go_enter Try.func27, Try.ntmps27
  go_wp2
  go_ret
  exact ⟨rfl, rfl⟩

theorem dig_lo (n : Nat) (h : n < 10) : dig n = UInt8.ofNat (48 + n) := by unfold dig; rw [if_pos h]
theorem dig_hi (n : Nat) (h : ¬ n < 10) : dig n = UInt8.ofNat (87 + n) := by unfold dig; rw [if_neg h]
/-- One byte, made into a text. -/
theorem conv_one (w : World) (x : Int) (c : Nat) (hx : x = c) (hc : c < 256) :
    (convert 56 9 (.slice (some ⟨w.heap.size, 0, none⟩) 1 1)).run Try.prog (w.alloc (.cells #[.int .u8 x] 5)) = .ok (.string ⟨#[UInt8.ofNat c]⟩) (w.alloc (.cells #[.int .u8 x] 5)) := by
  subst hx
  have := run_convert_bytes_back (P := Try.prog) (w.alloc (.cells #[.int .u8 c] 5)) 56 9 _ ⟨w.heap.size, 0, none⟩ 1 [UInt8.ofNat c] und_bytes und_u8 und_string (fun j hj => by
    obtain rfl : j = 0 := by simp at hj; exact hj
    have e : (UInt8.ofNat c).toNat = c := by simp; omega
    simp [Addr.add, e])
  exact this

set_option maxRecDepth 100000 in
set_option maxHeartbeats 400000 in
theorem digit_ref (n : Nat) (w : World) (hn : n < 16) :
    Calls Try.prog 39 #[.int .i64 n] w fun e w' => e = .returned (.string ⟨#[dig n]⟩) ∧ Below w.heap.size w w' := by
  by_cases h : n < 10
  · have hcv := conv_one w (48 + (n : Int)) (48 + n) (by omega) (by omega)
    rw [← dig_lo n h] at hcv
    go_enter Try.func39, Try.ntmps39
    go_wp2
    go_ret
    exact ⟨rfl, (Below.refl _ _).alloc (Nat.le_refl _) _⟩
  · have hcv := conv_one w (87 + (n : Int)) (87 + n) (by omega) (by omega)
    rw [← dig_hi n h] at hcv
    go_enter Try.func39, Try.ntmps39
    go_wp2
    go_ret
    exact ⟨rfl, (Below.refl _ _).alloc (Nat.le_refl _) _⟩

theorem bytes_of (s : ByteArray) : s = ⟨s.data.toList.toArray⟩ := by rfl
def hexB (k n : Nat) : ByteArray := ⟨(hex k n).toArray⟩
def hexOr (wide n : Nat) : ByteArray := if n < 16 ^ wide then hexB wide n else ByteArray.empty
theorem hexB_size (k n : Nat) : (hexB k n).size = k := by show (hex k n).toArray.size = k; simp [hex_length]
theorem hexB_next (k n : Nat) : (⟨#[dig (n / 16 ^ k % 16)]⟩ : ByteArray) ++ hexB k n = hexB (k + 1) n := by
  apply ByteArray.ext
  rw [ByteArray.data_append]
  show _ = (hex (k + 1) n).toArray
  rw [hex_cons']
  show #[_] ++ (hex k n).toArray = _
  simp

set_option maxRecDepth 100000 in
set_option maxHeartbeats 400000 in
theorem hex_ref (n wide : Nat) (w : World) (hw : 1 ≤ wide) (hw2 : wide ≤ 12) (hn : n < 9223372036854775808) :
    Calls Try.prog 30 #[.int .i64 n, .int .i64 wide] w fun e w' => e = .returned (.string (hexOr wide n)) ∧ Below w.heap.size w w' := by
  go_enter Try.func30, Try.ntmps30
  go_wp2
  go_loopw [0, 5, 6] (fun x o i wr => ∃ k q : Nat, k ≤ wide ∧ q = n / 16 ^ k ∧ x = .int .i64 q ∧ o = .string (hexB k n) ∧ i = .int .i64 k ∧ Below w.heap.size w wr) (fun _ _ i _ => wide - (intOf i).toNat)
  case atStart => exact ⟨0, n, Nat.zero_le _, by simp, rfl, rfl, rfl, Below.refl _ _⟩
  case round =>
    obtain ⟨k, q, hk, hq, rfl, rfl, rfl, hb⟩ := hrel
    have hqn : q ≤ n := by rw [hq]; exact Nat.div_le_self _ _
    have hsz := hexB_size k n
    have HQ := Lib.hid hq
    clear hq
    by_cases hlt : k < wide
    · have HN := Lib.hid (show (⟨#[dig (q % 16)]⟩ : ByteArray) ++ hexB k n = hexB (k + 1) n by rw [HQ.out]; exact hexB_next k n)
      have HS := Lib.hid hsz
      have hs12 : (hexB k n).size ≤ 12 := by omega
      clear hsz
      generalize hexB k n = B at *
      go_wp2_with (go_at_call 39; refine (digit_ref (q % 16) _ (by omega)).mono ?_; rintro e w' ⟨rfl, hb2⟩)
      go_roundw
      case rel => exact ⟨k + 1, q / 16, by omega, by rw [HQ.out, Nat.div_div_eq_div_mul, Nat.pow_succ], by go_num, by rw [HN.out], by go_num, hb.trans (hb2.mono hb.size)⟩
      case measure => simp [intOf]; omega
    · obtain rfl : k = wide := by omega
      by_cases h0 : 0 < q
      · go_wp2
        go_ret
        have h1 : ¬ n < 16 ^ k := fun h => by rw [HQ.out, Nat.div_eq_of_lt h] at h0; omega
        exact ⟨by unfold hexOr; rw [if_neg h1]; rfl, hb⟩
      · go_wp2
        go_ret
        have h1 : n < 16 ^ k := by
          have h2 : n / 16 ^ k = 0 := by rw [← HQ.out]; omega
          rcases Nat.div_eq_zero_iff.1 h2 with h3 | h3
          · simp [Nat.pow_eq_zero] at h3
          · exact h3
        exact ⟨by unfold hexOr; rw [if_pos h1]; rfl, hb⟩
set_option maxRecDepth 100000 in
set_option maxHeartbeats 400000 in
theorem hex_ref_neg (n : Int) (wide : Nat) (w : World) (hw : 1 ≤ wide) (hw2 : wide ≤ 12) (hn : n < 0) :
    Calls Try.prog 30 #[.int .i64 n, .int .i64 wide] w fun e w' => e = .returned (.string ByteArray.empty) ∧ w = w' := by
  go_enter Try.func30, Try.ntmps30
  go_wp2
  go_ret
  exact ⟨rfl, rfl⟩

/-- Hex, of a number that is not too great, in one contract. -/
theorem hex_any (n wide : Nat) (w : World) (hw : 1 ≤ wide) (hw2 : wide ≤ 12) (hn : n < 9223372036854775808) :
    Calls Try.prog 27 #[.int .i64 n, .int .i64 wide] w fun e w' => e = .returned (.string (hexOr wide n)) ∧ Below w.heap.size w w' := by
  by_cases h : n < 16 ^ wide
  · refine (hex_good n wide w hw hw2 h).mono ?_
    rintro e w' ⟨rfl, hb⟩
    exact ⟨by unfold hexOr; rw [if_pos h]; rfl, hb⟩
  · refine (hex_long n wide w hw hw2 (by omega) hn).mono ?_
    rintro e w' ⟨rfl, rfl⟩
    exact ⟨by unfold hexOr; rw [if_neg h]; rfl, Below.refl _ _⟩
theorem hexOr_pos (wide n : Nat) (h : n < 16 ^ wide) : hexOr wide n = hexB wide n := by unfold hexOr; rw [if_pos h]

set_option maxRecDepth 100000 in
set_option maxHeartbeats 400000 in
theorem text_any (a : Option Addr) (cap : Nat) (l : List ByteArray) (w : World) (hl : l.length ≤ 9223372036854775807) (hs : ∀ s, s ∈ l → s.size ≤ 9223372036854775807) (hc : StrRow w a l) :
    Calls Try.prog 28 #[.slice a l.length cap] w fun e w' => e = .returned (.string (hexB 8 (smm (flat l)))) ∧ Below w.heap.size w w' := by
  have hlt := smm_lt (flat l)
  have HO := hexOr_pos 8 (smm (flat l)) (by omega)
  have HC := Lib.hid hc
  have HS := Lib.hid hs
  clear hc hs
  go_enter Try.func28, Try.ntmps28
  go_wp2_with fail
  refine (sum_any _ _ _ _ hl HS.out HC.out).mono ?_
  rintro e w1 ⟨rfl, hb1⟩
  go_wp2_with fail
  refine (hex_any _ 8 _ (by omega) (by omega) (by omega)).mono ?_
  rintro e w2 ⟨rfl, hb2⟩
  go_wp2
  go_ret
  exact ⟨rfl, hb1.trans (hb2.mono hb1.size)⟩

set_option maxHeartbeats 400000 in
theorem sum_ref (s : ByteArray) (w : World) (hs : s.size ≤ 9223372036854775807) :
    Calls Try.prog 31 #[.string s] w fun e w' => e = .returned (.int .i64 (smm s.data.toList)) ∧ w = w' := by
  go_enter Try.func31, Try.ntmps31
  go_wp2
  go_loop [3, 4] (fun x i => ∃ k : Nat, k ≤ s.size ∧ i = .int .i64 k ∧ x = .int .i64 (feed 4294967295 (s.data.toList.take k))) (fun _ i => s.size - (intOf i).toNat)
  case atStart => exact ⟨0, Nat.zero_le _, rfl, rfl⟩
  case round =>
    obtain ⟨k, hk, rfl, rfl⟩ := hrel
    have hf := feed_lt (s.data.toList.take k) 4294967295 (by omega)
    by_cases hlt : k < s.size
    · have HF := Lib.hid (show stp (feed 4294967295 (s.data.toList.take k)) s[k].toNat = feed 4294967295 (s.data.toList.take (k + 1)) by rw [bytes_take s k hlt, feed_snoc])
      have hby : s[k].toNat < 256 := s[k].toNat_lt
      go_wp2_with (go_at_call 40; refine (step_ref _ _ (by omega) (by omega) _).mono ?_; rintro e w' ⟨rfl, rfl⟩)
      go_round
      case rel => exact ⟨k + 1, by omega, by go_num, int_eq (by rw [HF.out])⟩
      case measure => simp [intOf]; omega
    · obtain rfl : k = s.size := by omega
      have HF := Lib.hid (show 4294967295 - feed 4294967295 (s.data.toList.take s.size) = smm s.data.toList by rw [take_all]; rfl)
      go_wp2
      go_ret
      exact ⟨ret_int (by rw [← HF.out]; omega), rfl⟩
end Go.Proofs.Ytidnoeahmnfodaa
