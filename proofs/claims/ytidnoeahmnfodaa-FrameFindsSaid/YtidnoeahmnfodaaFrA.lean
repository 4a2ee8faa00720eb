/- The walks of the tests on bytes, of wrong, and of Unhex. -/
import Derived.Test.YtidnoeahmnfodaaCrcD2
import Derived.Test.YtidnoeahmnfodaaFrM
import Derived.Test.YtidnoeahmnfodaaShelf
namespace Go.Proofs.Ytidnoeahmnfodaa
open Go.RowKit CrcM FrM

theorem ret_bool {a b : Bool} (h : a = b) : Ending.returned (.bool a) = .returned (.bool b) := by rw [h]

theorem kind_any (c : UInt8) (w : World) : Calls Try.prog 24 #[.int .u8 c.toNat] w fun e w' => e = .returned (.bool (isKind c)) ∧ w = w' := by
  by_cases h1 : 97 ≤ c.toNat
  · by_cases h2 : c.toNat ≤ 122
    · have H := Lib.hid (show isKind c = true by simp [isKind, h1, h2])
      go_enter Try.func24, Try.ntmps24
      go_wp2
      go_ret
      exact ⟨ret_bool (by rw [H.out]; simp <;> omega), rfl⟩
    · have H := Lib.hid (show isKind c = false by simp [isKind]; omega)
      go_enter Try.func24, Try.ntmps24
      go_wp2
      go_ret
      exact ⟨ret_bool (by rw [H.out]; simp <;> omega), rfl⟩
  · have H := Lib.hid (show isKind c = false by simp [isKind]; omega)
    go_enter Try.func24, Try.ntmps24
    go_wp2
    go_ret
    exact ⟨ret_bool (by rw [H.out]), rfl⟩
theorem plain_any (c : UInt8) (w : World) : Calls Try.prog 26 #[.int .u8 c.toNat] w fun e w' => e = .returned (.bool (isPlain c)) ∧ w = w' := by
  by_cases h1 : 32 ≤ c.toNat
  · by_cases h2 : c.toNat ≤ 126
    · have H := Lib.hid (show isPlain c = true by simp [isPlain, h1, h2])
      go_enter Try.func26, Try.ntmps26
      go_wp2
      go_ret
      exact ⟨ret_bool (by rw [H.out]; simp <;> omega), rfl⟩
    · have H := Lib.hid (show isPlain c = false by simp [isPlain]; omega)
      go_enter Try.func26, Try.ntmps26
      go_wp2
      go_ret
      exact ⟨ret_bool (by rw [H.out]; simp <;> omega), rfl⟩
  · have H := Lib.hid (show isPlain c = false by simp [isPlain]; omega)
    go_enter Try.func26, Try.ntmps26
    go_wp2
    go_ret
    exact ⟨ret_bool (by rw [H.out]), rfl⟩
theorem mark_any (c : UInt8) (w : World) : Calls Try.prog 33 #[.int .u8 c.toNat] w fun e w' => e = .returned (.bool (isMark c)) ∧ w = w' := by
  have H := Lib.hid (show ((c.toNat : Int) == 254) = isMark c by
    unfold isMark
    by_cases h : c.toNat = 254
    · simp [h]
    · rw [decide_eq_false h, beq_eq_false_iff_ne]; omega)
  go_enter Try.func33, Try.ntmps33
  go_wp2
  go_ret
  exact ⟨ret_bool H.out, rfl⟩

/-! Unhex. -/
theorem index_sign (c : UInt8) : Lib.indexByte [48, 49, 50, 51, 52, 53, 54, 55, 56, 57, 97, 98, 99, 100, 101, 102] c = if isDig c = true then ((val c : Nat) : Int) else -1 := by
  have all : ∀ n : Fin 256, Lib.indexByte [48, 49, 50, 51, 52, 53, 54, 55, 56, 57, 97, 98, 99, 100, 101, 102] (UInt8.ofNat n) = if isDig (UInt8.ofNat n) = true then ((val (UInt8.ofNat n) : Nat) : Int) else -1 := by decide +kernel
  have := all ⟨c.toNat, c.toNat_lt⟩
  simpa using this
def allDig (l : List UInt8) : Bool := l.all isDig
/-- What Unhex tells. -/
def unB (s : List UInt8) : Bool := decide (1 ≤ s.length ∧ s.length ≤ 12) && allDig s
def unR (s : List UInt8) : Nat := if unB s = true then unhex s else 0
theorem unhex_big (l : List UInt8) (k : Nat) (h : allDig l = true) (hl : l.length ≤ k) (hk : k ≤ 12) : unhex l < 16 ^ k ∧ unhex l < 281474976710656 := by
  have h1 := unhex_lt l (by simpa [allDig] using h)
  have h2 := Nat.pow_le_pow_right (n := 16) (by omega) hl
  have h3 := Nat.pow_le_pow_right (n := 16) (by omega) hk
  omega
theorem or_val (n v : Nat) (hn : n < 281474976710656) (hv : v < 16) : bits .or .i64 ((n : Int) * 16) (v : Int) = ((16 * n + v : Nat) : Int) := by
  have := bits_join .i64 63 (by decide) (fun m h0 h2 => IntWalk.i64_in m (by omega)) 4 ((n : Int) * 16) (v : Int) (by omega) (by omega) (by omega) (by omega) (by omega) (by omega)
  rw [this]
  omega
theorem size_list (s : ByteArray) : s.size = s.data.toList.length := by show s.data.size = _; simp
theorem allDig_snoc (l : List UInt8) (c : UInt8) : allDig (l ++ [c]) = (allDig l && isDig c) := by simp [allDig]

set_option maxHeartbeats 400000 in
theorem unhex_any (s : ByteArray) (w : World) (hs : s.size ≤ 9223372036854775807) :
    Calls Try.prog 35 #[.string s] w fun e w' => e = .returned (.tuple #[.int .i64 (unR s.data.toList), .bool (unB s.data.toList)]) ∧ w = w' := by
  have hsz := size_list s
  by_cases hr : 1 ≤ s.size ∧ s.size ≤ 12
  · obtain ⟨h1, h12⟩ := hr
    have HSZ := Lib.hid hsz
    clear hsz
    go_enter Try.func35, Try.ntmps35
    go_wp2
    go_loop [4, 17] (fun x i => ∃ k n : Nat, k ≤ s.size ∧ n = unhex (s.data.toList.take k) ∧ allDig (s.data.toList.take k) = true ∧ i = .int .i64 k ∧ x = .int .i64 n) (fun _ i => s.size - (intOf i).toNat)
    case atStart => exact ⟨0, 0, Nat.zero_le _, rfl, rfl, rfl, rfl⟩
    case round =>
      obtain ⟨k, n, hk, hn, hd, rfl, rfl⟩ := hrel
      have hb := (unhex_big (s.data.toList.take k) 12 hd (by rw [List.length_take]; omega) (by omega)).2
      rw [← hn] at hb
      have HN := Lib.hid hn
      have HD := Lib.hid hd
      clear hn hd
      by_cases hlt : k < s.size
      · have HI := index_sign s[k]
        have hofn : UInt8.ofNat s[k].toNat = s[k] := by simp
        by_cases hg : isDig s[k] = true
        · rw [if_pos hg] at HI
          have hv := val_lt _ hg
          have HU := Lib.hid (show 16 * n + val s[k] = unhex (s.data.toList.take (k + 1)) by rw [bytes_take s k hlt, unhex_snoc, HN.out])
          have HA := Lib.hid (show allDig (s.data.toList.take (k + 1)) = true by rw [bytes_take s k hlt, allDig_snoc, HD.out, hg]; rfl)
          have HO := Lib.hid (or_val n (val s[k]) hb hv)
          clear hg
          go_wp2_with (go_at_call 41; refine (Try.strings_IndexByte _ _ _).mono ?_; rintro e w' ⟨rfl, rfl⟩)
          go_round
          case rel => exact ⟨k + 1, 16 * n + val s[k], by omega, HU.out, HA.out, by go_num, int_eq HO.out⟩
          case measure => simp [intOf]; omega
        · rw [if_neg hg] at HI
          have HB := Lib.hid (show unB s.data.toList = false by
            have : isDig s[k] = false := by simpa using hg
            unfold unB allDig
            rw [Bool.and_eq_false_iff]
            right
            rw [List.all_eq_false]
            exact ⟨s[k], by have := Array.getElem_mem_toList (xs := s.data) (i := k) hlt; exact this, by simpa using hg⟩)
          clear hg
          go_wp2_with (go_at_call 41; refine (Try.strings_IndexByte _ _ _).mono ?_; rintro e w' ⟨rfl, rfl⟩)
          go_ret2
          exact ⟨by unfold unR; rw [HB.out]; rfl, rfl⟩
      · obtain rfl : k = s.size := by omega
        have HB := Lib.hid (show unB s.data.toList = true by
          have := HD.out
          rw [take_all] at this
          unfold unB
          rw [this, ← HSZ.out]
          simp; omega)
        have HU := Lib.hid (show n = unhex s.data.toList by rw [HN.out, take_all])
        go_wp2
        go_ret2
        exact ⟨by unfold unR; rw [HB.out, ← HU.out]; rfl, rfl⟩
  · have HB := Lib.hid (show unB s.data.toList = false by unfold unB; rw [← hsz]; simp; omega)
    clear hsz
    by_cases h1 : s.size < 1
    · go_enter Try.func35, Try.ntmps35
      go_wp2
      go_ret2
      exact ⟨by unfold unR; rw [HB.out]; rfl, rfl⟩
    · have h12 : 12 < s.size := by omega
      go_enter Try.func35, Try.ntmps35
      go_wp2
      go_ret2
      exact ⟨by unfold unR; rw [HB.out]; rfl, rfl⟩

theorem one_bytes (c : UInt8) : unB [c] = isDig c := by simp [unB, allDig]
set_option maxHeartbeats 400000 in
theorem digit_any (c : UInt8) (w : World) : Calls Try.prog 34 #[.int .u8 c.toNat] w fun e w' => e = .returned (.bool (isDig c)) ∧ Below w.heap.size w w' := by
  have hcv := conv_one w (c.toNat : Int) c.toNat rfl c.toNat_lt
  have ho : (⟨#[UInt8.ofNat c.toNat]⟩ : ByteArray) = ⟨#[c]⟩ := by simp
  rw [ho] at hcv
  obtain ⟨C, hC⟩ : ∃ C : ByteArray, C = ⟨#[c]⟩ := ⟨_, rfl⟩
  have hC1 : C.size ≤ 9223372036854775807 := by rw [hC]; show 1 ≤ 9223372036854775807; omega
  have HC2 := Lib.hid (show unB C.data.toList = isDig c by rw [hC]; exact one_bytes c)
  simp only [← hC] at hcv
  clear hC ho
  go_enter Try.func34, Try.ntmps34
  go_wp2_with fail
  refine (unhex_any C _ hC1).mono ?_
  rintro e w1 ⟨rfl, rfl⟩
  go_wp2
  go_ret
  exact ⟨ret_bool HC2.out, (Below.refl _ _).alloc (Nat.le_refl _) _⟩

/-- A test on bytes, as a function value. -/
structure Tests (f : FuncId) (p : UInt8 → Bool) : Prop where
  call : ∀ (c : UInt8) (w : World), Calls Try.prog f #[.int .u8 c.toNat] w fun e w' => e = .returned (.bool (p c)) ∧ Below w.heap.size w w'
  enters : ∀ (v : Value) (w : World), (callFunc f #[v]).run Try.prog w = .ok (.enter f #[v]) w
theorem tests_kind : Tests 24 isKind := ⟨fun c w => (kind_any c w).mono fun _ _ ⟨h1, h2⟩ => ⟨h1, h2 ▸ Below.refl _ _⟩, fun _ _ => by kernel_rfl⟩
theorem tests_plain : Tests 26 isPlain := ⟨fun c w => (plain_any c w).mono fun _ _ ⟨h1, h2⟩ => ⟨h1, h2 ▸ Below.refl _ _⟩, fun _ _ => by kernel_rfl⟩
theorem tests_mark : Tests 33 isMark := ⟨fun c w => (mark_any c w).mono fun _ _ ⟨h1, h2⟩ => ⟨h1, h2 ▸ Below.refl _ _⟩, fun _ _ => by kernel_rfl⟩
theorem tests_digit : Tests 34 isDig := ⟨digit_any, fun _ _ => by kernel_rfl⟩

set_option maxHeartbeats 400000 in
theorem wrong_any (s : ByteArray) (f : FuncId) (p : UInt8 → Bool) (hf : Tests f p) (w : World) (hs : s.size ≤ 9223372036854775807) :
    Calls Try.prog 25 #[.string s, .func (.func f) #[] #[]] w fun e w' => e = .returned (.bool (!s.data.toList.all p)) ∧ Below w.heap.size w w' := by
  have HF := Lib.hid hf.call
  have hcf := hf.enters
  clear hf
  go_enter Try.func25, Try.ntmps25
  go_wp2
  go_loopw [8] (fun i wr => ∃ k : Nat, k ≤ s.size ∧ (s.data.toList.take k).all p = true ∧ i = .int .i64 k ∧ Below w.heap.size w wr) (fun i _ => s.size - (intOf i).toNat)
  case atStart => exact ⟨0, Nat.zero_le _, rfl, rfl, Below.refl _ _⟩
  case round =>
    obtain ⟨k, hk, hd, rfl, hb⟩ := hrel
    have HD := Lib.hid hd
    clear hd
    by_cases hlt : k < s.size
    · go_wp2_with fail
      refine (HF.out s[k] _).mono ?_
      rintro e w1 ⟨rfl, hb1⟩
      by_cases hp : p s[k] = true
      · have HA := Lib.hid (show (s.data.toList.take (k + 1)).all p = true by rw [bytes_take s k hlt, List.all_append, HD.out]; simp [hp])
        go_wp2
        go_roundw
        case rel => exact ⟨k + 1, by omega, HA.out, by go_num, hb.trans (hb1.mono hb.size)⟩
        case measure => simp [intOf]; omega
      · have hp' : p s[k] = false := by simpa using hp
        have HA := Lib.hid (show s.data.toList.all p = false by
          rw [List.all_eq_false]
          exact ⟨s[k], by have := Array.getElem_mem_toList (xs := s.data) (i := k) hlt; exact this, hp⟩)
        clear hp
        go_wp2
        go_ret
        exact ⟨ret_bool (by rw [HA.out]; rfl), hb.trans (hb1.mono hb.size)⟩
    · obtain rfl : k = s.size := by omega
      have HA := Lib.hid (show s.data.toList.all p = true by have := HD.out; rw [take_all] at this; exact this)
      go_wp2
      go_ret
      exact ⟨ret_bool (by rw [HA.out]; rfl), hb⟩
end Go.Proofs.Ytidnoeahmnfodaa
