/- Plain arithmetic of sums and of hexadecimal digits: no program in sight. -/
import Derived.WalkKit
namespace Go.Proofs.Ytidnoeahmnfodaa
namespace CrcM

/-- One turn of a smm's bits. -/
def turn (n : Nat) : Nat := if n % 2 = 1 then (n / 2) ^^^ 2197175160 else n / 2
def turns : Nat → Nat → Nat
  | 0, n => n
  | k + 1, n => turn (turns k n)
def ent (c : Nat) : Nat := turns 8 c
def stp (s c : Nat) : Nat := (s / 256) ^^^ ent ((s % 256) ^^^ c)
def feed (s : Nat) (l : List UInt8) : Nat := l.foldl (fun a c => stp a c.toNat) s
def smm (l : List UInt8) : Nat := 4294967295 - feed 4294967295 l

def bitAt (n k : Nat) : Nat := n / 2 ^ k % 2
def dif (a b : Nat) : Nat := (a ^^^ b) % 4294967296

theorem turn_lt (n : Nat) (h : n < 4294967296) : turn n < 4294967296 := by
  unfold turn
  split
  · exact Nat.xor_lt_two_pow (n := 32) (by omega) (by omega)
  · omega
theorem turns_lt (k n : Nat) (h : n < 4294967296) : turns k n < 4294967296 := by
  induction k with
  | zero => exact h
  | succ k ih => exact turn_lt _ ih
theorem ent_lt (c : Nat) (h : c < 4294967296) : ent c < 4294967296 := turns_lt 8 c h
theorem stp_lt (s c : Nat) (h : s < 4294967296) (hc : c < 256) : stp s c < 4294967296 := by
  unfold stp
  have h1 : (s % 256) ^^^ c < 2 ^ 8 := Nat.xor_lt_two_pow (by omega) (by omega)
  have h2 := ent_lt ((s % 256) ^^^ c) (by omega)
  exact Nat.xor_lt_two_pow (n := 32) (by omega) (by omega)
theorem feed_lt (l : List UInt8) (s : Nat) (h : s < 4294967296) : feed s l < 4294967296 := by
  unfold feed
  induction l generalizing s with
  | nil => exact h
  | cons c l ih => exact ih _ (stp_lt _ _ h c.toNat_lt)
theorem feed_append (s : Nat) (a b : List UInt8) : feed s (a ++ b) = feed (feed s a) b := by
  unfold feed; rw [List.foldl_append]
theorem feed_snoc (s : Nat) (a : List UInt8) (c : UInt8) : feed s (a ++ [c]) = stp (feed s a) c.toNat := by
  rw [feed_append]; rfl
theorem feed_nil (s : Nat) : feed s [] = s := rfl
theorem smm_lt (l : List UInt8) : smm l < 4294967296 := by unfold smm; omega

theorem xor_bit (a b k : Nat) : (a ^^^ b) % 2 ^ (k + 1) = (a ^^^ b) % 2 ^ k + (if a / 2 ^ k % 2 ≠ b / 2 ^ k % 2 then 2 ^ k else 0) := by
  have h1 : (a ^^^ b) % 2 ^ (k + 1) = (a ^^^ b) % 2 ^ k + 2 ^ k * ((a ^^^ b) / 2 ^ k % 2) := by
    rw [Nat.pow_succ, Nat.mod_mul]
  have h2 : (a ^^^ b) / 2 ^ k % 2 = if a / 2 ^ k % 2 ≠ b / 2 ^ k % 2 then 1 else 0 := by
    have e : ∀ n, n / 2 ^ k % 2 = (n.testBit k).toNat := fun n => by
      rw [Nat.toNat_testBit]
    rw [e, e, e, Nat.testBit_xor]
    cases a.testBit k <;> cases b.testBit k <;> simp
  rw [h1, h2]
  split <;> simp

/-- Where a byte's bits are 32 the entries' differences add up. -/
theorem turn_xor (a b : Nat) : turn (a ^^^ b) = turn a ^^^ turn b := by
  have hd : (a ^^^ b) / 2 = a / 2 ^^^ b / 2 := by
    have := Nat.shiftRight_xor_distrib (a := a) (b := b) (i := 1)
    simpa [Nat.shiftRight_eq_div_pow] using this
  have hm : (a ^^^ b) % 2 = (a % 2) ^^^ (b % 2) := by
    have := Nat.xor_mod_two_pow (a := a) (b := b) (n := 1)
    simpa using this
  unfold turn
  rw [hm, hd]
  rcases Nat.mod_two_eq_zero_or_one a with ha | ha <;> rcases Nat.mod_two_eq_zero_or_one b with hb | hb <;> simp only [ha, hb]
  · simp
  · simp [Nat.xor_assoc]
  · simp only [Nat.xor_zero, if_true, Nat.zero_ne_one, if_false]
    rw [Nat.xor_assoc, Nat.xor_assoc, Nat.xor_comm (b / 2)]
  · simp only [Nat.xor_self, if_true, Nat.zero_ne_one, if_false]
    rw [Nat.xor_assoc, ← Nat.xor_assoc 2197175160, Nat.xor_comm 2197175160 (b / 2), Nat.xor_assoc, Nat.xor_self, Nat.xor_zero]
theorem turns_xor (k a b : Nat) : turns k (a ^^^ b) = turns k a ^^^ turns k b := by
  induction k with
  | zero => rfl
  | succ k ih => simp only [turns, ih, turn_xor]
theorem ent_xor (a b : Nat) : ent (a ^^^ b) = ent a ^^^ ent b := turns_xor 8 a b
theorem ent_zero : ent 0 = 0 := by decide +kernel

/-- A hexadecimal digit. -/
def dig (n : Nat) : UInt8 := if n < 10 then UInt8.ofNat (48 + n) else UInt8.ofNat (87 + n)
def hex : Nat → Nat → List UInt8
  | 0, _ => []
  | k + 1, n => hex k (n / 16) ++ [dig (n % 16)]
theorem hex_length (k n : Nat) : (hex k n).length = k := by
  induction k generalizing n with
  | zero => rfl
  | succ k ih => simp [hex, ih]
theorem hex_cons (k n : Nat) (h : n < 16 ^ (k + 1)) : hex (k + 1) n = dig (n / 16 ^ k % 16) :: hex k n := by
  induction k generalizing n with
  | zero => simp [hex]
  | succ k ih =>
    have e : hex (k + 2) n = hex (k + 1) (n / 16) ++ [dig (n % 16)] := rfl
    rw [e, ih (n / 16) (by rw [Nat.pow_succ] at h; omega), Nat.div_div_eq_div_mul, Nat.mul_comm 16, ← Nat.pow_succ]
    rfl
theorem hex_mod (k n : Nat) : hex k n = hex k (n % 16 ^ k) := by
  induction k generalizing n with
  | zero => rfl
  | succ k ih =>
    simp only [hex]
    rw [ih (n / 16), ih (n % 16 ^ (k + 1) / 16)]
    congr 2
    · rw [Nat.pow_succ, Nat.mul_comm, Nat.mod_mul_right_div_self, Nat.mod_mod]
    · rw [Nat.pow_succ, Nat.mul_comm, Nat.mod_mul_right_mod]
theorem hex_cons' (k n : Nat) : hex (k + 1) n = dig (n / 16 ^ k % 16) :: hex k n := by
  rw [hex_mod (k + 1), hex_cons k _ (Nat.mod_lt _ (Nat.pos_of_ne_zero (by simp [Nat.pow_eq_zero]))), hex_mod k n, hex_mod k (n % 16 ^ (k + 1))]
  congr 2
  · rw [Nat.pow_succ, Nat.mod_mul_right_div_self, Nat.mod_mod]
  · rw [Nat.pow_succ, Nat.mod_mul_right_mod]

theorem known : hex 8 (smm [49, 50, 51, 52, 53, 54, 55, 56, 57]) = [101, 51, 48, 54, 57, 50, 56, 51] := by decide +kernel
theorem known2 : smm [49, 50, 51, 52, 53, 54, 55, 56, 57] = 3808858755 := by decide +kernel
theorem known3 : ent 1 = 4067132163 := by decide +kernel
theorem known4 : stp 0 1 = 4067132163 := by decide +kernel
end CrcM
end Go.Proofs.Ytidnoeahmnfodaa
