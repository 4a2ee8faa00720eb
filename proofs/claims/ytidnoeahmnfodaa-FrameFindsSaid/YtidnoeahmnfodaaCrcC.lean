/- The walk of Sum: of texts in memory, one behind the other. -/
import Derived.Test.YtidnoeahmnfodaaCrcB
namespace Go.Proofs.Ytidnoeahmnfodaa
open Go.RowKit CrcM

def flat (l : List ByteArray) : List UInt8 := l.flatMap (·.data.toList)
theorem flat_take (l : List ByteArray) (k : Nat) (h : k < l.length) : flat (l.take (k + 1)) = flat (l.take k) ++ l[k].data.toList := by
  unfold flat; rw [List.take_succ_eq_append_getElem h, List.flatMap_append]; simp
theorem bytes_take (s : ByteArray) (k : Nat) (h : k < s.size) : s.data.toList.take (k + 1) = s.data.toList.take k ++ [s[k]] := by
  rw [List.take_succ_eq_append_getElem (by simpa using h)]; rfl
theorem take_all (s : ByteArray) : s.data.toList.take s.size = s.data.toList := List.take_of_length_le (by show s.data.toList.length ≤ s.data.size; simp)
theorem nat_not (x : Nat) (h : x < 4294967296) : 4294967295 ^^^ x = 4294967295 - x := by
  have := congrArg BitVec.toNat (BitVec.allOnes_xor (x := BitVec.ofNat 32 x))
  rw [BitVec.toNat_xor, BitVec.toNat_not, BitVec.toNat_allOnes, BitVec.toNat_ofNat, Nat.mod_eq_of_lt (by omega)] at this
  exact this
theorem not32 (x : Nat) (h : x < 4294967296) : bits .xor .u32 IntKind.u32.max (x : Int) = ((4294967295 - x : Nat) : Int) := by
  rw [← nat_not x h]
  exact u32_xor_nat 4294967295 x (by omega) h
/-- The texts of a slice, in memory. -/
def StrRow (w : World) (a : Option Addr) (l : List ByteArray) : Prop :=
  ∀ j (h : j < l.length), ∃ b off, a = some ⟨b, off, none⟩ ∧ w.cell? ⟨b, off + j, none⟩ = some (.string l[j])
def sumSt (l : List ByteArray) (k : Nat) (s : List UInt8) : Nat := feed 4294967295 (flat (l.take k) ++ s)
theorem sumSt_lt (l : List ByteArray) (k : Nat) (s : List UInt8) : sumSt l k s < 4294967296 := feed_lt _ _ (by omega)

set_option maxRecDepth 100000 in
set_option maxHeartbeats 400000 in
theorem sum_full (b off cap : Nat) (l : List ByteArray) (w : World) (hl : l.length ≤ 9223372036854775807) (hs : ∀ s, s ∈ l → s.size ≤ 9223372036854775807) (hbl : l.length ≠ 0 → b < w.heap.size)
    (hc : ∀ j (h : j < l.length), w.cell? ⟨b, off + j, none⟩ = some (.string l[j])) :
    Calls Try.prog 38 #[.slice (some ⟨b, off, none⟩) l.length cap] w fun e w' => e = .returned (.int .u32 (smm (flat l))) ∧ Below w.heap.size w w' := by
  have hz := zero_tab
  have hst := store_tab
  obtain ⟨n, hn⟩ : ∃ n, n = l.length := ⟨_, rfl⟩
  have HN := Lib.hid hn
  rw [← hn] at hl hbl
  have HC := Lib.hid hc
  have HS := Lib.hid hs
  clear hc hs
  rw [← hn]
  clear hn
  go_enter Try.func38, Try.ntmps38
  go_wp2_with (go_at_call 44; refine (table_any _).mono ?_; rintro e w1 ⟨rfl, hb1⟩)
  have hsz := hb1.size
  go_loop [4, 11] (fun s i => ∃ k : Nat, k ≤ n ∧ i = .int .i64 k ∧ s = .int .u32 (sumSt l k [])) (fun _ i => n - (intOf i).toNat)
  case atStart => exact ⟨0, Nat.zero_le _, rfl, rfl⟩
  case round =>
    obtain ⟨k, hk, rfl, rfl⟩ := hrel
    by_cases hlt : k < n
    · have hb2 : b < w1.heap.size := by have := hbl (by omega); omega
      obtain ⟨s, hs⟩ : ∃ s, s = l[k]'(by rw [← HN.out]; exact hlt) := ⟨_, rfl⟩
      have hcell : w1.cell? ⟨b, off + k, none⟩ = some (.string s) := by rw [hb1.cell (hbl (by omega)), hs]; exact HC.out k _
      have hss : s.size ≤ 9223372036854775807 := HS.out s (by rw [hs]; exact List.getElem_mem _)
      have HE := Lib.hid hs
      clear hs
      go_wp2_with fail
      go_loop [4, 17] (fun t j => ∃ m : Nat, m ≤ s.size ∧ j = .int .i64 m ∧ t = .int .u32 (sumSt l k (s.data.toList.take m))) (fun _ j => s.size - (intOf j).toNat)
      case atStart => exact ⟨0, Nat.zero_le _, rfl, rfl⟩
      case round =>
        obtain ⟨m, hm, rfl, rfl⟩ := hrel
        have hS := sumSt_lt l k (s.data.toList.take m)
        by_cases hlt2 : m < s.size
        · have hby : s[m].toNat < 256 := s[m].toNat_lt
          have H2 := Lib.hid (show stp (sumSt l k (s.data.toList.take m)) s[m].toNat = sumSt l k (s.data.toList.take (m + 1)) by
            unfold sumSt; rw [bytes_take s m hlt2, ← List.append_assoc, feed_snoc])
          have H3 := Lib.hid (step_eq (sumSt l k (s.data.toList.take m)) s[m].toNat hS hby)
          have hlow := low_byte (sumSt l k (s.data.toList.take m)) s[m].toNat hby
          have hX : (sumSt l k (s.data.toList.take m) % 256) ^^^ s[m].toNat < 2 ^ 8 := Nat.xor_lt_two_pow (by omega) (by omega)
          generalize sumSt l k (s.data.toList.take m) = S at *
          generalize (S % 256) ^^^ s[m].toNat = X at *
          have htab : ∀ h : X < (tab 256).size, (tab 256)[X]'h = .int .u32 (ent X) := fun h => by
            have := tab_at 256 X (by omega)
            rw [if_pos (by omega), Array.getElem?_eq_getElem h] at this
            exact Option.some.inj this
          go_wp2
          go_round
          case rel => exact ⟨m + 1, by omega, by go_num, int_eq (by rw [H3.out, H2.out])⟩
          case measure => simp [intOf]; omega
        · go_wp2
          go_round
          case rel => 
            refine ⟨k + 1, by omega, by go_num, ?_⟩
            obtain rfl : m = s.size := by omega
            refine int_eq ?_
            unfold sumSt
            rw [flat_take l k (by rw [← HN.out]; exact hlt), ← HE.out, List.append_nil, take_all]
          case measure => simp [intOf]; omega
    · go_wp2
      go_ret
      obtain rfl : k = n := by omega
      refine ⟨ret_int ?_, hb1.alloc (by omega) _⟩
      rw [not32 _ (sumSt_lt _ _ _)]
      unfold sumSt smm
      rw [HN.out, List.take_length, List.append_nil]

set_option maxRecDepth 100000 in
set_option maxHeartbeats 400000 in
theorem sum_none (a : Option Addr) (cap : Nat) (w : World) :
    Calls Try.prog 38 #[.slice a 0 cap] w fun e w' => e = .returned (.int .u32 (smm (flat []))) ∧ Below w.heap.size w w' := by
  have hz := zero_tab
  have hst := store_tab
  go_enter Try.func38, Try.ntmps38
  go_wp2_with (go_at_call 44; refine (table_any _).mono ?_; rintro e w1 ⟨rfl, hb1⟩)
  refine wp_loop_rounds 1 ?_
  rw [rounds_succ]
  go_wp2
  go_ret
  exact ⟨ret_int (by rw [show (4294967295 : Int) = ((4294967295 : Nat) : Int) from rfl, not32 _ (by omega)]; rfl), hb1.alloc hb1.size _⟩

theorem sum_any (a : Option Addr) (cap : Nat) (l : List ByteArray) (w : World) (hl : l.length ≤ 9223372036854775807) (hs : ∀ s, s ∈ l → s.size ≤ 9223372036854775807) (hc : StrRow w a l) :
    Calls Try.prog 38 #[.slice a l.length cap] w fun e w' => e = .returned (.int .u32 (smm (flat l))) ∧ Below w.heap.size w w' := by
  match l, hl, hs, hc with
  | [], _, _, _ => exact sum_none a cap w
  | s :: r, hl, hs, hc =>
    obtain ⟨b, off, rfl, h0⟩ := hc 0 (by simp)
    refine sum_full b off cap (s :: r) w hl hs (fun _ => block_lt_of_cell h0) (fun j h => ?_)
    obtain ⟨b', off', e, h1⟩ := hc j h
    simp at e
    obtain ⟨rfl, rfl⟩ := e
    exact h1
end Go.Proofs.Ytidnoeahmnfodaa
