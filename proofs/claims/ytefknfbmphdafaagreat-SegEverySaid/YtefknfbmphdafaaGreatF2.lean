/- What the log leans on: F2. -/
import Derived.Test.YtefknfbmphdafaaGreatF1
import Derived.Test.YtefknfbmphdafaaGreatShelf
import Derived.Laws.EntriesVeiled
namespace Go.Proofs.YtefknfbmphdafaaGreat
namespace FrM
open CrcM

def isKind (c : UInt8) : Bool := decide (97 ≤ c.toNat) && decide (c.toNat ≤ 122)
def isPlain (c : UInt8) : Bool := decide (32 ≤ c.toNat) && decide (c.toNat ≤ 126)
def isMark (c : UInt8) : Bool := decide (c.toNat = 254)
def isDig (c : UInt8) : Bool := (decide (48 ≤ c.toNat) && decide (c.toNat ≤ 57)) || (decide (97 ≤ c.toNat) && decide (c.toNat ≤ 102))
def val (c : UInt8) : Nat := if c.toNat < 58 then c.toNat - 48 else c.toNat - 87
def unhex (l : List UInt8) : Nat := l.foldl (fun n c => 16 * n + val c) 0

/-- Read on: 0: all may stand there; 43: there are too few; 44: one may not. -/
def sc (q : Nat → UInt8 → Bool) : Nat → Nat → List UInt8 → Nat
  | _, 0, _ => 0
  | _, _ + 1, [] => 43
  | k, n + 1, c :: r => if q k c = true then sc q (k + 1) n r else 44

theorem sc_le (q : Nat → UInt8 → Bool) (k n : Nat) (s : List UInt8) : sc q k n s = 0 ∨ sc q k n s = 43 ∨ sc q k n s = 44 := by
  induction n generalizing k s with
  | zero => left; cases s <;> rfl
  | succ n ih =>
    cases s with
    | nil => right; left; rfl
    | cons c r =>
      unfold sc
      by_cases h : q k c = true
      · rw [if_pos h]; exact ih _ _
      · rw [if_neg h]; right; right; rfl
theorem sc_add (q : Nat → UInt8 → Bool) (k n m : Nat) (s : List UInt8) : sc q k (n + m) s = if sc q k n s = 0 then sc q (k + n) m (s.drop n) else sc q k n s := by
  induction n generalizing k s with
  | zero => cases s <;> simp [sc]
  | succ n ih =>
    cases s with
    | nil => rw [show n + 1 + m = (n + m) + 1 by omega]; simp [sc]
    | cons c r =>
      have e1 : sc q k (n + 1 + m) (c :: r) = if q k c = true then sc q (k + 1) (n + m) r else 44 := by rw [show n + 1 + m = (n + m) + 1 by omega]; rfl
      have e2 : sc q k (n + 1) (c :: r) = if q k c = true then sc q (k + 1) n r else 44 := rfl
      rw [e1, e2, List.drop_succ_cons]
      by_cases h : q k c = true
      · rw [if_pos h, if_pos h, ih, show k + 1 + n = k + (n + 1) by omega]
      · rw [if_neg h, if_neg h]; simp
theorem sc_next (q : Nat → UInt8 → Bool) (k n : Nat) (s : List UInt8) (h : sc q k n s = 0) (hn : n < s.length) (hq : q (k + n) s[n] = true) : sc q k (n + 1) s = 0 := by
  rw [sc_add, if_pos h, List.drop_eq_getElem_cons hn]
  simp [sc, hq]
theorem sc_bad (q : Nat → UInt8 → Bool) (k n m : Nat) (s : List UInt8) (h : sc q k n s = 0) (hn : n < s.length) (hq : q (k + n) s[n] = false) (hm : n < m) : sc q k m s = 44 := by
  obtain ⟨j, rfl⟩ : ∃ j, m = n + (j + 1) := ⟨m - n - 1, by omega⟩
  rw [sc_add, if_pos h, List.drop_eq_getElem_cons hn]
  simp [sc, hq]
theorem sc_short (q : Nat → UInt8 → Bool) (k n m : Nat) (s : List UInt8) (h : sc q k n s = 0) (hn : s.length ≤ n) (hm : n < m) : sc q k m s = 43 := by
  obtain ⟨j, rfl⟩ : ∃ j, m = n + (j + 1) := ⟨m - n - 1, by omega⟩
  rw [sc_add, if_pos h, List.drop_of_length_le hn]
  rfl
theorem sc_zero (q : Nat → UInt8 → Bool) (k n : Nat) (s : List UInt8) (h : sc q k n s = 0) : n ≤ s.length ∧ ∀ j (hj : j < s.length), j < n → q (k + j) s[j] = true := by
  induction n generalizing k s with
  | zero => exact ⟨Nat.zero_le _, fun j _ h => absurd h (Nat.not_lt_zero _)⟩
  | succ n ih =>
    cases s with
    | nil => cases h
    | cons c r =>
      unfold sc at h
      by_cases hq : q k c = true
      · rw [if_pos hq] at h
        obtain ⟨h1, h2⟩ := ih _ _ h
        refine ⟨by simp; omega, fun j hj hjn => ?_⟩
        match j with
        | 0 => exact hq
        | j + 1 =>
          have := h2 j (by simpa using hj) (by omega)
          rw [show k + (j + 1) = k + 1 + j by omega]
          exact this
      · rw [if_neg hq] at h; cases h
theorem sc_of (q : Nat → UInt8 → Bool) (k n : Nat) (s : List UInt8) (h1 : n ≤ s.length) (h2 : ∀ j (hj : j < s.length), j < n → q (k + j) s[j] = true) : sc q k n s = 0 := by
  induction n generalizing k s with
  | zero => cases s <;> rfl
  | succ n ih =>
    cases s with
    | nil => simp at h1
    | cons c r =>
      unfold sc
      have h0 := h2 0 (by simp) (by omega)
      simp at h0
      rw [if_pos h0]
      refine ih _ _ (by simpa using h1) (fun j hj hjn => ?_)
      have := h2 (j + 1) (by simpa using hj) (by omega)
      rw [show k + 1 + j = k + (j + 1) by omega]
      exact this
theorem sc_congr (q r : Nat → UInt8 → Bool) (k k' n : Nat) (s : List UInt8) (h : ∀ j c, j < n → q (k + j) c = r (k' + j) c) : sc q k n s = sc r k' n s := by
  induction n generalizing k k' s with
  | zero => cases s <;> rfl
  | succ n ih =>
    cases s with
    | nil => rfl
    | cons c t =>
      unfold sc
      have h0 := h 0 c (by omega)
      simp at h0
      rw [h0]
      rw [ih (k + 1) (k' + 1) t (fun j c hj => by have := h (j + 1) c (by omega); rw [show k + 1 + j = k + (j + 1) by omega, show k' + 1 + j = k' + (j + 1) by omega]; exact this)]
theorem sc_take (q : Nat → UInt8 → Bool) (k n : Nat) (s t : List UInt8) (h : n ≤ s.length) : sc q k n (s ++ t) = sc q k n s := by
  induction n generalizing k s with
  | zero => cases s <;> cases t <;> rfl
  | succ n ih =>
    cases s with
    | nil => simp at h
    | cons c r =>
      show sc q k (n + 1) (c :: (r ++ t)) = _
      unfold sc
      rw [ih _ _ (by simpa using h)]

def head (k : Nat) (c : UInt8) : Bool := if k = 0 then isMark c else if k = 1 then isKind c else isDig c
def body (n : Nat) (k : Nat) (c : UInt8) : Bool := if k < 6 + n then isPlain c else isDig c
def len4 (s : List UInt8) : Nat := unhex ((s.drop 2).take 4)
/-- What is summed of a frame. -/
def inner (k : UInt8) (b : List UInt8) : List UInt8 := k :: (hex 4 b.length ++ b)
def whole (k : UInt8) (b : List UInt8) : List UInt8 := 254 :: (inner k b ++ hex 8 (smm (inner k b)))
def pkE (k : UInt8) (b : List UInt8) : Nat := if isKind k = false then 40 else if 2000 < b.length then 41 else if b.all isPlain = false then 42 else 0
def pkS (k : UInt8) (b : List UInt8) : List UInt8 := if pkE k b = 0 then whole k b else []
/-- Why there is no frame; 0: there is one. -/
def nxE (s : List UInt8) : Nat :=
  if sc head 0 6 s ≠ 0 then sc head 0 6 s
  else if 2000 < len4 s then 44
  else if sc (body (len4 s)) 6 (len4 s + 8) (s.drop 6) ≠ 0 then sc (body (len4 s)) 6 (len4 s + 8) (s.drop 6)
  else if (s.drop (6 + len4 s)).take 8 ≠ hex 8 (smm ((s.take (6 + len4 s)).drop 1)) then 45
  else 0
def nxK (s : List UInt8) : UInt8 := if nxE s = 0 then s.getD 1 0 else 0
def nxB (s : List UInt8) : List UInt8 := if nxE s = 0 then (s.take (6 + len4 s)).drop 6 else []
def nxN (s : List UInt8) : Nat := if nxE s = 0 then 14 + len4 s else 0

theorem nxE_some (s : List UInt8) : nxE s = 0 ∨ nxE s = 43 ∨ nxE s = 44 ∨ nxE s = 45 := by
  have h1 := sc_le head 0 6 s
  have h2 := sc_le (body (len4 s)) 6 (len4 s + 8) (s.drop 6)
  unfold nxE
  repeat' split
  all_goals omega
theorem isDig_dig (n : Nat) (h : n < 16) : isDig (dig n) = true := by
  have all : ∀ n, n < 16 → isDig (dig n) = true := by decide
  exact all n h
theorem val_dig (n : Nat) (h : n < 16) : val (dig n) = n := by
  have all : ∀ n, n < 16 → val (dig n) = n := by decide
  exact all n h
theorem hex_dig (k n : Nat) : ∀ c ∈ hex k n, isDig c = true := by
  induction k generalizing n with
  | zero => intro c h; cases h
  | succ k ih =>
    intro c h
    simp only [hex, List.mem_append, List.mem_singleton] at h
    rcases h with h | rfl
    · exact ih _ c h
    · exact isDig_dig _ (Nat.mod_lt _ (by omega))
theorem unhex_snoc (l : List UInt8) (c : UInt8) : unhex (l ++ [c]) = 16 * unhex l + val c := by unfold unhex; rw [List.foldl_append]; rfl
theorem unhex_hex (k n : Nat) (h : n < 16 ^ k) : unhex (hex k n) = n := by
  induction k generalizing n with
  | zero => simp at h; subst h; rfl
  | succ k ih =>
    simp only [hex]
    rw [unhex_snoc, ih _ (by rw [Nat.pow_succ] at h; omega), val_dig _ (Nat.mod_lt _ (by omega))]
    omega
theorem val_lt (c : UInt8) (h : isDig c = true) : val c < 16 := by
  unfold isDig at h
  unfold val
  simp at h
  split <;> omega
theorem unhex_lt (l : List UInt8) (h : ∀ c ∈ l, isDig c = true) : unhex l < 16 ^ l.length := by
  have gen : ∀ (l : List UInt8) (a : Nat), (∀ c ∈ l, isDig c = true) → l.foldl (fun n c => 16 * n + val c) a < (a + 1) * 16 ^ l.length := by
    intro l
    induction l with
    | nil => intro a _; simp
    | cons c r ih =>
      intro a h
      have h1 := ih (16 * a + val c) (fun x hx => h x (List.mem_cons_of_mem _ hx))
      have h2 := val_lt c (h c (List.mem_cons_self ..))
      rw [List.foldl_cons, List.length_cons, Nat.pow_succ]
      refine Nat.lt_of_lt_of_le h1 ?_
      have : (16 * a + val c + 1) * 16 ^ r.length ≤ (16 * (a + 1)) * 16 ^ r.length := Nat.mul_le_mul_right _ (by omega)
      refine Nat.le_trans this (Nat.le_of_eq ?_)
      rw [Nat.mul_comm 16 (a + 1), Nat.mul_assoc, Nat.mul_comm 16]
  have := gen l 0 h
  simpa [unhex] using this
theorem hex_unhex (l : List UInt8) (h : ∀ c ∈ l, isDig c = true) : hex l.length (unhex l) = l := by
  have dv : ∀ c, isDig c = true → dig (val c) = c := by
    intro c hc
    unfold isDig at hc
    simp at hc
    apply UInt8.toNat_inj.1
    have := c.toNat_lt
    rcases hc with ⟨h1, h2⟩ | ⟨h1, h2⟩
    · have hv : val c = c.toNat - 48 := by unfold val; rw [if_pos (by omega)]
      unfold dig
      rw [if_pos (by omega), hv]; simp; omega
    · have hv : val c = c.toNat - 87 := by unfold val; rw [if_neg (by omega)]
      unfold dig
      rw [if_neg (by omega), hv]; simp; omega
  have gen : ∀ n (l : List UInt8), l.length = n → (∀ c ∈ l, isDig c = true) → hex n (unhex l) = l := by
    intro n
    induction n with
    | zero => intro l hl _; rw [List.length_eq_zero_iff.1 hl]; rfl
    | succ n ih =>
      intro l hl h
      obtain ⟨r, c, rfl⟩ : ∃ r c, l = r ++ [c] := ⟨l.dropLast, l.getLast (by intro e; simp [e] at hl), (List.dropLast_concat_getLast _).symm⟩
      have hv := val_lt c (h c (by simp))
      rw [unhex_snoc]
      simp only [hex]
      rw [show (16 * unhex r + val c) / 16 = unhex r by omega, show (16 * unhex r + val c) % 16 = val c by omega, ih r (by simpa using hl) (fun x hx => h x (by simp [hx])), dv c (h c (by simp))]
  exact gen _ l rfl h
end FrM
end Go.Proofs.YtefknfbmphdafaaGreat
namespace Go.Proofs.YtefknfbmphdafaaGreat
open Go.RowKit CrcM FrM

theorem ret_bool {a b : Bool} (h : a = b) : Ending.returned (.bool a) = .returned (.bool b) := by rw [h]

theorem kind_any (c : UInt8) (w : World) : Calls Tryz.prog 60 #[.int .u8 c.toNat] w fun e w' => e = .returned (.bool (isKind c)) ∧ w = w' := by
  by_cases h1 : 97 ≤ c.toNat
  · by_cases h2 : c.toNat ≤ 122
    · have H := Lib.hid (show isKind c = true by simp [isKind, h1, h2])
      go_enter Tryz.func60, Tryz.ntmps60
      go_wp2
      go_ret
      exact ⟨ret_bool (by rw [H.out]; simp <;> omega), rfl⟩
    · have H := Lib.hid (show isKind c = false by simp [isKind]; omega)
      go_enter Tryz.func60, Tryz.ntmps60
      go_wp2
      go_ret
      exact ⟨ret_bool (by rw [H.out]; simp <;> omega), rfl⟩
  · have H := Lib.hid (show isKind c = false by simp [isKind]; omega)
    go_enter Tryz.func60, Tryz.ntmps60
    go_wp2
    go_ret
    exact ⟨ret_bool (by rw [H.out]), rfl⟩
theorem plain_any (c : UInt8) (w : World) : Calls Tryz.prog 62 #[.int .u8 c.toNat] w fun e w' => e = .returned (.bool (isPlain c)) ∧ w = w' := by
  by_cases h1 : 32 ≤ c.toNat
  · by_cases h2 : c.toNat ≤ 126
    · have H := Lib.hid (show isPlain c = true by simp [isPlain, h1, h2])
      go_enter Tryz.func62, Tryz.ntmps62
      go_wp2
      go_ret
      exact ⟨ret_bool (by rw [H.out]; simp <;> omega), rfl⟩
    · have H := Lib.hid (show isPlain c = false by simp [isPlain]; omega)
      go_enter Tryz.func62, Tryz.ntmps62
      go_wp2
      go_ret
      exact ⟨ret_bool (by rw [H.out]; simp <;> omega), rfl⟩
  · have H := Lib.hid (show isPlain c = false by simp [isPlain]; omega)
    go_enter Tryz.func62, Tryz.ntmps62
    go_wp2
    go_ret
    exact ⟨ret_bool (by rw [H.out]), rfl⟩
theorem mark_any (c : UInt8) (w : World) : Calls Tryz.prog 119 #[.int .u8 c.toNat] w fun e w' => e = .returned (.bool (isMark c)) ∧ w = w' := by
  have H := Lib.hid (show ((c.toNat : Int) == 254) = isMark c by
    unfold isMark
    by_cases h : c.toNat = 254
    · simp [h]
    · rw [decide_eq_false h, beq_eq_false_iff_ne]; omega)
  go_enter Tryz.func119, Tryz.ntmps119
  go_wp2
  go_ret
  exact ⟨ret_bool H.out, rfl⟩

theorem index_sign (c : UInt8) : Lib.indexByte [48, 49, 50, 51, 52, 53, 54, 55, 56, 57, 97, 98, 99, 100, 101, 102] c = if isDig c = true then ((val c : Nat) : Int) else -1 := by
  have all : ∀ n : Fin 256, Lib.indexByte [48, 49, 50, 51, 52, 53, 54, 55, 56, 57, 97, 98, 99, 100, 101, 102] (UInt8.ofNat n) = if isDig (UInt8.ofNat n) = true then ((val (UInt8.ofNat n) : Nat) : Int) else -1 := by decide +kernel
  have := all ⟨c.toNat, c.toNat_lt⟩
  simpa using this
def allDig (l : List UInt8) : Bool := l.all isDig
/-- What Unhex tells. -/
def unB (s : List UInt8) : Bool := decide (1 ≤ s.length ∧ s.length ≤ 12) && allDig s
def unR (s : List UInt8) : Nat := if unB s = true then unhex s else 0
theorem unhex_big (l : List UInt8) (k : Nat) (h : allDig l = true) (hl : l.length ≤ k) (hk : k ≤ 12) : unhex l < 16 ^ k ∧ unhex l < 281474976710656 := by
  have h1 := unhex_lt l (by simpa [allDig] using h)
  have h2 := Nat.pow_le_pow_right (n := 16) (by omega) hl
  have h3 := Nat.pow_le_pow_right (n := 16) (by omega) hk
  omega
theorem or_val (n v : Nat) (hn : n < 281474976710656) (hv : v < 16) : bits .or .i64 ((n : Int) * 16) (v : Int) = ((16 * n + v : Nat) : Int) := by
  have := bits_join .i64 63 (by decide) (fun m h0 h2 => IntWalk.i64_in m (by omega)) 4 ((n : Int) * 16) (v : Int) (by omega) (by omega) (by omega) (by omega) (by omega) (by omega)
  rw [this]
  omega
theorem size_list (s : ByteArray) : s.size = s.data.toList.length := by show s.data.size = _; simp
theorem allDig_snoc (l : List UInt8) (c : UInt8) : allDig (l ++ [c]) = (allDig l && isDig c) := by simp [allDig]

set_option maxHeartbeats 400000 in
theorem unhex_any (s : ByteArray) (w : World) (hs : s.size ≤ 9223372036854775807) :
    Calls Tryz.prog 59 #[.string s] w fun e w' => e = .returned (.tuple #[.int .i64 (unR s.data.toList), .bool (unB s.data.toList)]) ∧ w = w' := by
  have hsz := size_list s
  by_cases hr : 1 ≤ s.size ∧ s.size ≤ 12
  · obtain ⟨h1, h12⟩ := hr
    have HSZ := Lib.hid hsz
    clear hsz
    go_enter Tryz.func59, Tryz.ntmps59
    go_wp2
    go_loop [4, 17] (fun x i => ∃ k n : Nat, k ≤ s.size ∧ n = unhex (s.data.toList.take k) ∧ allDig (s.data.toList.take k) = true ∧ i = .int .i64 k ∧ x = .int .i64 n) (fun _ i => s.size - (intOf i).toNat)
    case atStart => exact ⟨0, 0, Nat.zero_le _, rfl, rfl, rfl, rfl⟩
    case round =>
      obtain ⟨k, n, hk, hn, hd, rfl, rfl⟩ := hrel
      have hb := (unhex_big (s.data.toList.take k) 12 hd (by rw [List.length_take]; omega) (by omega)).2
      rw [← hn] at hb
      have HN := Lib.hid hn
      have HD := Lib.hid hd
      clear hn hd
      by_cases hlt : k < s.size
      · have HI := index_sign s[k]
        have hofn : UInt8.ofNat s[k].toNat = s[k] := by simp
        by_cases hg : isDig s[k] = true
        · rw [if_pos hg] at HI
          have hv := val_lt _ hg
          have HU := Lib.hid (show 16 * n + val s[k] = unhex (s.data.toList.take (k + 1)) by rw [bytes_take s k hlt, unhex_snoc, HN.out])
          have HA := Lib.hid (show allDig (s.data.toList.take (k + 1)) = true by rw [bytes_take s k hlt, allDig_snoc, HD.out, hg]; rfl)
          have HO := Lib.hid (or_val n (val s[k]) hb hv)
          clear hg
          go_wp2_with (go_at_call 66; refine (Tryz.strings_IndexByte _ _ _).mono ?_; rintro e w' ⟨rfl, rfl⟩)
          go_round
          case rel => exact ⟨k + 1, 16 * n + val s[k], by omega, HU.out, HA.out, by go_num, int_eq HO.out⟩
          case measure => simp [intOf]; omega
        · rw [if_neg hg] at HI
          have HB := Lib.hid (show unB s.data.toList = false by
            have : isDig s[k] = false := by simpa using hg
            unfold unB allDig
            rw [Bool.and_eq_false_iff]
            right
            rw [List.all_eq_false]
            exact ⟨s[k], by have := Array.getElem_mem_toList (xs := s.data) (i := k) hlt; exact this, by simpa using hg⟩)
          clear hg
          go_wp2_with (go_at_call 66; refine (Tryz.strings_IndexByte _ _ _).mono ?_; rintro e w' ⟨rfl, rfl⟩)
          go_ret2
          exact ⟨by unfold unR; rw [HB.out]; rfl, rfl⟩
      · obtain rfl : k = s.size := by omega
        have HB := Lib.hid (show unB s.data.toList = true by
          have := HD.out
          rw [take_all] at this
          unfold unB
          rw [this, ← HSZ.out]
          simp; omega)
        have HU := Lib.hid (show n = unhex s.data.toList by rw [HN.out, take_all])
        go_wp2
        go_ret2
        exact ⟨by unfold unR; rw [HB.out, ← HU.out]; rfl, rfl⟩
  · have HB := Lib.hid (show unB s.data.toList = false by unfold unB; rw [← hsz]; simp; omega)
    clear hsz
    by_cases h1 : s.size < 1
    · go_enter Tryz.func59, Tryz.ntmps59
      go_wp2
      go_ret2
      exact ⟨by unfold unR; rw [HB.out]; rfl, rfl⟩
    · have h12 : 12 < s.size := by omega
      go_enter Tryz.func59, Tryz.ntmps59
      go_wp2
      go_ret2
      exact ⟨by unfold unR; rw [HB.out]; rfl, rfl⟩

theorem one_bytes (c : UInt8) : unB [c] = isDig c := by simp [unB, allDig]
set_option maxHeartbeats 400000 in
theorem digit_any (c : UInt8) (w : World) : Calls Tryz.prog 120 #[.int .u8 c.toNat] w fun e w' => e = .returned (.bool (isDig c)) ∧ Below w.heap.size w w' := by
  have hcv := conv_one w (c.toNat : Int) c.toNat rfl c.toNat_lt
  have ho : (⟨#[UInt8.ofNat c.toNat]⟩ : ByteArray) = ⟨#[c]⟩ := by simp
  rw [ho] at hcv
  obtain ⟨C, hC⟩ : ∃ C : ByteArray, C = ⟨#[c]⟩ := ⟨_, rfl⟩
  have hC1 : C.size ≤ 9223372036854775807 := by rw [hC]; show 1 ≤ 9223372036854775807; omega
  have HC2 := Lib.hid (show unB C.data.toList = isDig c by rw [hC]; exact one_bytes c)
  simp only [← hC] at hcv
  clear hC ho
  go_enter Tryz.func120, Tryz.ntmps120
  go_wp2_with fail
  refine (unhex_any C _ hC1).mono ?_
  rintro e w1 ⟨rfl, rfl⟩
  go_wp2
  go_ret
  exact ⟨ret_bool HC2.out, (Below.refl _ _).alloc (Nat.le_refl _) _⟩

/-- A test on bytes, as a function value. -/
structure Tests (f : FuncId) (p : UInt8 → Bool) : Prop where
  call : ∀ (c : UInt8) (w : World), Calls Tryz.prog f #[.int .u8 c.toNat] w fun e w' => e = .returned (.bool (p c)) ∧ Below w.heap.size w w'
  enters : ∀ (v : Value) (w : World), (callFunc f #[v]).run Tryz.prog w = .ok (.enter f #[v]) w
theorem tests_kind : Tests 60 isKind := ⟨fun c w => (kind_any c w).mono fun _ _ ⟨h1, h2⟩ => ⟨h1, h2 ▸ Below.refl _ _⟩, fun _ _ => by kernel_rfl⟩
theorem tests_plain : Tests 62 isPlain := ⟨fun c w => (plain_any c w).mono fun _ _ ⟨h1, h2⟩ => ⟨h1, h2 ▸ Below.refl _ _⟩, fun _ _ => by kernel_rfl⟩
theorem tests_mark : Tests 119 isMark := ⟨fun c w => (mark_any c w).mono fun _ _ ⟨h1, h2⟩ => ⟨h1, h2 ▸ Below.refl _ _⟩, fun _ _ => by kernel_rfl⟩
theorem tests_digit : Tests 120 isDig := ⟨digit_any, fun _ _ => by kernel_rfl⟩

set_option maxHeartbeats 400000 in
theorem wrong_any (s : ByteArray) (f : FuncId) (p : UInt8 → Bool) (hf : Tests f p) (w : World) (hs : s.size ≤ 9223372036854775807) :
    Calls Tryz.prog 61 #[.string s, .func (.func f) #[] #[]] w fun e w' => e = .returned (.bool (!s.data.toList.all p)) ∧ Below w.heap.size w w' := by
  have HF := Lib.hid hf.call
  have hcf := hf.enters
  clear hf
  go_enter Tryz.func61, Tryz.ntmps61
  go_wp2
  go_loopw [8] (fun i wr => ∃ k : Nat, k ≤ s.size ∧ (s.data.toList.take k).all p = true ∧ i = .int .i64 k ∧ Below w.heap.size w wr) (fun i _ => s.size - (intOf i).toNat)
  case atStart => exact ⟨0, Nat.zero_le _, rfl, rfl, Below.refl _ _⟩
  case round =>
    obtain ⟨k, hk, hd, rfl, hb⟩ := hrel
    have HD := Lib.hid hd
    clear hd
    by_cases hlt : k < s.size
    · go_wp2_with fail
      refine (HF.out s[k] _).mono ?_
      rintro e w1 ⟨rfl, hb1⟩
      by_cases hp : p s[k] = true
      · have HA := Lib.hid (show (s.data.toList.take (k + 1)).all p = true by rw [bytes_take s k hlt, List.all_append, HD.out]; simp [hp])
        go_wp2
        go_roundw
        case rel => exact ⟨k + 1, by omega, HA.out, by go_num, hb.trans (hb1.mono hb.size)⟩
        case measure => simp [intOf]; omega
      · have hp' : p s[k] = false := by simpa using hp
        have HA := Lib.hid (show s.data.toList.all p = false by
          rw [List.all_eq_false]
          exact ⟨s[k], by have := Array.getElem_mem_toList (xs := s.data) (i := k) hlt; exact this, hp⟩)
        clear hp
        go_wp2
        go_ret
        exact ⟨ret_bool (by rw [HA.out]; rfl), hb.trans (hb1.mono hb.size)⟩
    · obtain rfl : k = s.size := by omega
      have HA := Lib.hid (show s.data.toList.all p = true by have := HD.out; rw [take_all] at this; exact this)
      go_wp2
      go_ret
      exact ⟨ret_bool (by rw [HA.out]; rfl), hb⟩
end Go.Proofs.YtefknfbmphdafaaGreat
namespace Go.Proofs.YtefknfbmphdafaaGreat
open Go.RowKit CrcM FrM

def rdE : List UInt8 → List (Nat × (UInt8 → Bool)) → Nat
  | _, [] => 0
  | s, (n, p) :: L => if (s.take n).all p = false then 44 else if s.length < n then 43 else rdE (s.drop n) L
theorem extract_list (x : ByteArray) (a b : Nat) : (x.extract a b).data.toList = (x.data.toList.take b).drop a := by
  rw [ByteArray.data_extract]
  simp [List.drop_take]
theorem extract_size (x : ByteArray) (a b : Nat) : (x.extract a b).size = min b x.size - a := ByteArray.size_extract
/-- Places of a frame, in memory. -/
structure PlaceRow (w : World) (b : Nat) (L : List (Nat × FuncId × (UInt8 → Bool))) : Prop where
  long : ∀ j (h : j < L.length), w.cell? ⟨b, j * 2, none⟩ = some (.int .i64 (L[j].1 : Nat))
  may : ∀ j (h : j < L.length), w.cell? ⟨b, j * 2 + 1, none⟩ = some (.func (.func L[j].2.1) #[] #[])
def PlacesOk (L : List (Nat × FuncId × (UInt8 → Bool))) : Prop := ∀ x ∈ L, Tests x.2.1 x.2.2 ∧ x.1 ≤ 2000
def plc (L : List (Nat × FuncId × (UInt8 → Bool))) : List (Nat × (UInt8 → Bool)) := L.map fun x => (x.1, x.2.2)
def ReadPost (code : Nat) (w : World) (e : Ending) (w' : World) : Prop := ∃ r : ByteArray, e = .returned (.tuple #[.string r, .int .i64 code]) ∧ Below w.heap.size w w'
theorem und_func : Tryz.prog.underlying 121 = Tryz.prog.underlying 121 := rfl

set_option maxRecDepth 100000 in
set_option maxHeartbeats 1000000 in
theorem read_any (s : ByteArray) (b n : Nat) (L : List (Nat × FuncId × (UInt8 → Bool))) (hn : n = L.length) (hl : n ≤ 3) (w : World) (hs : s.size ≤ 9223372036854775807) (hL : PlacesOk L) (hp : PlaceRow w b L) (hbw : b < w.heap.size) :
    Calls Tryz.prog 118 #[.string s, .slice (some ⟨b, 0, none⟩) n n] w (ReadPost (rdE s.data.toList (plc L)) w) := by
  have HN := Lib.hid hn
  have HP := Lib.hid hp
  have HL := Lib.hid hL
  clear hn hp hL
  go_enter Tryz.func118, Tryz.ntmps118
  go_wp2
  go_loopw [0, 11] (fun x i wr => ∃ (j : Nat) (t : ByteArray), j ≤ n ∧ t.size ≤ s.size ∧ rdE s.data.toList (plc L) = rdE t.data.toList ((plc L).drop j) ∧ i = .int .i64 j ∧ x = .string t ∧ Below w.heap.size w wr) (fun _ i _ => n - (intOf i).toNat)
  case atStart => exact ⟨0, s, Nat.zero_le _, Nat.le_refl _, rfl, rfl, rfl, Below.refl _ _⟩
  case round =>
    obtain ⟨j, t, hj, hts, hrd, rfl, rfl, hb⟩ := hrel
    have HRD := Lib.hid hrd
    clear hrd
    by_cases hlt : j < n
    · have hjL : j < L.length := by rw [← HN.out]; exact hlt
      obtain ⟨m, hm⟩ : ∃ m, m = L[j].1 := ⟨_, rfl⟩
      obtain ⟨f, hf⟩ : ∃ f, f = L[j].2.1 := ⟨_, rfl⟩
      obtain ⟨p, hpp⟩ : ∃ p, p = L[j].2.2 := ⟨_, rfl⟩
      have hc0 : wr.cell? ⟨b, j * 2, none⟩ = some (.int .i64 (m : Nat)) := by rw [hb.cell hbw, hm]; exact HP.out.long j hjL
      have hc1 : wr.cell? ⟨b, j * 2 + 1, none⟩ = some (.func (.func f) #[] #[]) := by rw [hb.cell hbw, hf]; exact HP.out.may j hjL
      have hok := HL.out L[j] (List.getElem_mem _)
      rw [← hm, ← hf, ← hpp] at hok
      obtain ⟨hT, hm2⟩ := hok
      have HT := Lib.hid hT
      have HRD2 := Lib.hid (show rdE s.data.toList (plc L) = if (t.data.toList.take m).all p = false then 44 else if t.data.toList.length < m then 43 else rdE (t.data.toList.drop m) ((plc L).drop (j + 1)) by
        rw [HRD.out, List.drop_eq_getElem_cons (show j < (plc L).length by simp [plc]; exact hjL)]
        have e : (plc L)[j]'(by simp [plc]; exact hjL) = (m, p) := by simp [plc, hm, hpp]
        rw [e]; rfl)
      clear hm hf hpp hT
      have hsl := size_list t
      have HSL := Lib.hid hsl
      clear hsl
      obtain ⟨q, hq⟩ : ∃ q, q = min m t.size := ⟨_, rfl⟩
      have hmin : min (m : Int) (t.size : Int) = (q : Int) := by omega
      have hqm : q ≤ m := by omega
      have hqt : q ≤ t.size := by omega
      have HQS := Lib.hid (show q < m → t.data.toList.length < m by have := HSL.out; omega)
      have HQG := Lib.hid (show ¬ q < m → ¬ t.data.toList.length < m ∧ q = m by have := HSL.out; omega)
      have HTK := Lib.hid (show t.data.toList.take q = t.data.toList.take m by
        rw [hq, ← List.take_take, HSL.out, List.take_length])
      clear hq
      have hxs : (t.extract 0 q).size ≤ 9223372036854775807 := by rw [extract_size]; omega
      have i0 : (0 : Int) ≤ (q : Int) := by omega
      have i1 : (q : Int) ≤ (t.size : Int) := by omega
      go_wp2
      obtain ⟨W, hW⟩ : ∃ W, W = wr.alloc (.cells #[.int .i64 m, .func (.func f) #[] #[]] 169) := ⟨_, rfl⟩
      have k0 : W.cell? ⟨wr.heap.size, 0, none⟩ = some (.int .i64 m) := by rw [hW]; simp
      have k1 : W.cell? ⟨wr.heap.size, 1, none⟩ = some (.func (.func f) #[] #[]) := by rw [hW]; simp
      have hWs : wr.heap.size < W.heap.size := by rw [hW]; simp
      have hbW : Below w.heap.size w W := by rw [hW]; exact hb.alloc hb.size _
      rw [← hW]
      clear hW
      go_region_held3 (fun w' => (w'.cell? ⟨wr.heap.size, 0, none⟩ = some (.int .i64 m) ∧ w'.cell? ⟨wr.heap.size, 1, none⟩ = some (.func (.func f) #[] #[])) ∧ Below W.heap.size W w')
        (first | exact ⟨⟨k0, k1⟩, below_draw⟩ | exact ⟨⟨(hb3.cell hWs).trans k0, (hb3.cell hWs).trans k1⟩, hb3⟩ | exact (by assumption))
        (first | (go_at_call 61; refine (wrong_any (t.extract 0 q) f p HT.out _ hxs).mono ?_; rintro e w2 ⟨rfl, hb2⟩; have hb3 : Below W.heap.size W w2 := below_draw.trans hb2) | fail)
      have hbW2 := hbW.trans (hb3.mono hbW.size)
      have k2 : w2.cell? ⟨wr.heap.size, 0, none⟩ = some (.int .i64 m) := (hb3.cell hWs).trans k0
      clear hb2 hb3 k0 k1 hc0 hc1
      generalize hA : (t.data.toList.take q).all p = A
      have HA := Lib.hid hA
      clear hA
      cases A with
      | true =>
        by_cases hsh : q < m
        · have HR := Lib.hid (show rdE s.data.toList (plc L) = 43 by rw [HRD2.out, ← HTK.out, if_neg (by rw [HA.out]; decide), if_pos (HQS.out hsh)])
          go_wp2
          go_ret2
          exact ⟨_, by rw [HR.out]; rfl, hbW2⟩
        · obtain ⟨g1, g2⟩ := HQG.out hsh
          have HR := Lib.hid (show rdE s.data.toList (plc L) = rdE (t.extract m t.size).data.toList ((plc L).drop (j + 1)) by
            rw [HRD2.out, ← HTK.out, if_neg (by rw [HA.out]; decide), if_neg g1, extract_list, HSL.out, List.take_length])
          clear g1
          subst g2
          have HZ := Lib.hid (show (t.extract q t.size).size ≤ s.size by rw [extract_size]; omega)
          go_wp2
          go_roundw
          case rel => exact ⟨j + 1, t.extract q t.size, by omega, HZ.out, HR.out, by go_num, rfl, hbW2⟩
          case measure => simp [intOf]; omega
      | false =>
        have HR := Lib.hid (show rdE s.data.toList (plc L) = 44 by rw [HRD2.out, ← HTK.out, if_pos HA.out])
        go_wp2
        go_ret2
        exact ⟨_, by rw [HR.out]; rfl, hbW2⟩
    · obtain rfl : j = n := by omega
      have HR := Lib.hid (show rdE s.data.toList (plc L) = 0 by
        rw [HRD.out, List.drop_of_length_le (by simp [plc]; exact Nat.le_of_eq HN.out.symm)]
        cases t.data.toList <;> rfl)
      go_wp2
      go_ret2
      exact ⟨_, by rw [HR.out]; rfl, hb⟩
end Go.Proofs.YtefknfbmphdafaaGreat
namespace Go.Proofs.YtefknfbmphdafaaGreat
open Go.RowKit CrcM FrM

theorem sc_seg (p : UInt8 → Bool) (q : Nat → UInt8 → Bool) (k n : Nat) (s : List UInt8) (h : ∀ j c, j < n → q (k + j) c = p c) :
    sc q k n s = if (s.take n).all p = false then 44 else if s.length < n then 43 else 0 := by
  induction n generalizing k s with
  | zero => cases s <;> simp [sc]
  | succ n ih =>
    cases s with
    | nil => simp [sc]
    | cons c r =>
      have h0 := h 0 c (by omega)
      simp at h0
      have e : sc q k (n + 1) (c :: r) = if q k c = true then sc q (k + 1) n r else 44 := rfl
      rw [e, h0, ih (k + 1) r (fun j c hj => by have := h (j + 1) c (by omega); rw [show k + 1 + j = k + (j + 1) by omega]; exact this)]
      rw [List.take_succ_cons, List.all_cons]
      cases hp : p c <;> simp
theorem rdE_cons (s : List UInt8) (n : Nat) (p : UInt8 → Bool) (L : List (Nat × (UInt8 → Bool))) (q : Nat → UInt8 → Bool) (k : Nat) (h : ∀ j c, j < n → q (k + j) c = p c) :
    rdE s ((n, p) :: L) = if sc q k n s = 0 then rdE (s.drop n) L else sc q k n s := by
  rw [sc_seg p q k n s h]
  show (if (s.take n).all p = false then 44 else if s.length < n then 43 else rdE (s.drop n) L) = _
  by_cases h1 : (s.take n).all p = false
  · rw [if_pos h1, if_pos h1]; rfl
  · rw [if_neg h1, if_neg h1]
    by_cases h2 : s.length < n
    · rw [if_pos h2, if_pos h2]; rfl
    · rw [if_neg h2, if_neg h2]; rfl
theorem rdE_nil (s : List UInt8) : rdE s [] = 0 := by cases s <;> rfl
theorem rdE_head (s : List UInt8) : rdE s [(1, isMark), (1, isKind), (4, isDig)] = sc head 0 6 s := by
  have a0 : ∀ j c, j < 1 → head (0 + j) c = isMark c := fun j c hj => by rw [show 0 + j = 0 by omega]; rfl
  have a1 : ∀ j c, j < 1 → head (1 + j) c = isKind c := fun j c hj => by rw [show 1 + j = 1 by omega]; rfl
  rw [rdE_cons s 1 isMark _ head 0 a0, rdE_cons _ 1 isKind _ head 1 a1, rdE_cons _ 4 isDig _ head 2 (fun j c hj => by unfold head; rw [if_neg (by omega), if_neg (by omega)]), rdE_nil]
  rw [show (6 : Nat) = 1 + (1 + 4) from rfl, sc_add head 0 1 (1 + 4), sc_add head (0 + 1) 1 4]
  by_cases h1 : sc head 0 1 s = 0
  · rw [if_pos h1, if_pos h1]
    by_cases h2 : sc head 1 1 (s.drop 1) = 0
    · rw [if_pos h2, if_pos h2]
      by_cases h3 : sc head 2 4 ((s.drop 1).drop 1) = 0
      · rw [if_pos h3]; exact h3.symm
      · rw [if_neg h3]
    · rw [if_neg h2, if_neg h2]
  · rw [if_neg h1, if_neg h1]
theorem rdE_body (s : List UInt8) (n : Nat) : rdE s [(n, isPlain), (8, isDig)] = sc (body n) 6 (n + 8) s := by
  rw [rdE_cons s n isPlain _ (body n) 6 (fun j c hj => by unfold body; rw [if_pos (by omega)]), rdE_cons _ 8 isDig _ (body n) (6 + n) (fun j c hj => by unfold body; rw [if_neg (by omega)]), rdE_nil, sc_add (body n) 6 n 8]
  by_cases h1 : sc (body n) 6 n s = 0
  · rw [if_pos h1, if_pos h1]
    by_cases h2 : sc (body n) (6 + n) 8 (s.drop n) = 0
    · rw [if_pos h2]; exact h2.symm
    · rw [if_neg h2]
  · rw [if_neg h1, if_neg h1]
def nxBb (s : ByteArray) : ByteArray := if nxE s.data.toList = 0 then s.extract 6 (6 + len4 s.data.toList) else ByteArray.empty
theorem nxBb_list (s : ByteArray) : (nxBb s).data.toList = nxB s.data.toList := by
  unfold nxBb nxB
  split
  · rw [extract_list]
  · rfl
def frV (k : UInt8) (b : ByteArray) : Value := .agg #[.int .u8 (k.toNat : Int), .string b]
def headL : List (Nat × FuncId × (UInt8 → Bool)) := [(1, 119, isMark), (1, 60, isKind), (4, 120, isDig)]
def bodyL (n : Nat) : List (Nat × FuncId × (UInt8 → Bool)) := [(n, 62, isPlain), (8, 120, isDig)]
theorem headL_ok : PlacesOk headL := by
  intro x hx
  simp [headL] at hx
  rcases hx with rfl | rfl | rfl
  · exact ⟨tests_mark, by omega⟩
  · exact ⟨tests_kind, by omega⟩
  · exact ⟨tests_digit, by omega⟩
theorem bodyL_ok (n : Nat) (h : n ≤ 2000) : PlacesOk (bodyL n) := by
  intro x hx
  simp [bodyL] at hx
  rcases hx with rfl | rfl
  · exact ⟨tests_plain, h⟩
  · exact ⟨tests_digit, by omega⟩
theorem read_head (s : ByteArray) (b : Nat) (w : World) (hs : s.size ≤ 9223372036854775807) (hbw : b < w.heap.size)
    (h0 : w.cell? ⟨b, 0, none⟩ = some (.int .i64 1)) (h1 : w.cell? ⟨b, 1, none⟩ = some (.func (.func 119) #[] #[])) (h2 : w.cell? ⟨b, 2, none⟩ = some (.int .i64 1))
    (h3 : w.cell? ⟨b, 3, none⟩ = some (.func (.func 60) #[] #[])) (h4 : w.cell? ⟨b, 4, none⟩ = some (.int .i64 4)) (h5 : w.cell? ⟨b, 5, none⟩ = some (.func (.func 120) #[] #[])) :
    Calls Tryz.prog 118 #[.string s, .slice (some ⟨b, 0, none⟩) 3 3] w (ReadPost (sc head 0 6 s.data.toList) w) := by
  rw [← rdE_head]
  refine read_any s b 3 headL rfl (by omega) w hs headL_ok ⟨fun j hj => ?_, fun j hj => ?_⟩ hbw
  all_goals
    rcases (show j = 0 ∨ j = 1 ∨ j = 2 by simp [headL] at hj; omega) with rfl | rfl | rfl
  · exact h0
  · exact h2
  · exact h4
  · exact h1
  · exact h3
  · exact h5
theorem read_body (s : ByteArray) (n b : Nat) (hn : n ≤ 2000) (w : World) (hs : s.size ≤ 9223372036854775807) (hbw : b < w.heap.size)
    (h0 : w.cell? ⟨b, 0, none⟩ = some (.int .i64 n)) (h1 : w.cell? ⟨b, 1, none⟩ = some (.func (.func 62) #[] #[])) (h2 : w.cell? ⟨b, 2, none⟩ = some (.int .i64 8))
    (h3 : w.cell? ⟨b, 3, none⟩ = some (.func (.func 120) #[] #[])) :
    Calls Tryz.prog 118 #[.string s, .slice (some ⟨b, 0, none⟩) 2 2] w (ReadPost (sc (body n) 6 (n + 8) s.data.toList) w) := by
  rw [← rdE_body]
  refine read_any s b 2 (bodyL n) rfl (by omega) w hs (bodyL_ok n hn) ⟨fun j hj => ?_, fun j hj => ?_⟩ hbw
  all_goals
    rcases (show j = 0 ∨ j = 1 by simp [bodyL] at hj; omega) with rfl | rfl
  · exact h0
  · exact h2
  · exact h1
  · exact h3

/-- What Next leaves. -/
def NextPost (s : ByteArray) (w : World) (e : Ending) (w' : World) : Prop :=
  e = .returned (.tuple #[frV (nxK s.data.toList) (nxBb s), .int .i64 (nxN s.data.toList), .int .i64 (nxE s.data.toList)]) ∧ Below w.heap.size w w'
theorem nextPost_bad (s : ByteArray) (c : Nat) (w w' : World) (h : nxE s.data.toList = c) (hc : c ≠ 0) (hb : Below w.heap.size w w') :
    NextPost s w (.returned (.tuple #[.agg #[.int .u8 0, .string ⟨#[]⟩], .int .i64 0, .int .i64 c])) w' := by
  refine ⟨?_, hb⟩
  have hn : ¬ nxE s.data.toList = 0 := by omega
  unfold frV nxK nxBb nxN
  rw [if_neg hn, if_neg hn, if_neg hn, h]
  rfl

theorem nxE_head (s : List UInt8) (h : sc head 0 6 s ≠ 0) : nxE s = sc head 0 6 s := by unfold nxE; rw [if_pos h]
theorem nxE_long (s : List UInt8) (h : sc head 0 6 s = 0) (h2 : 2000 < len4 s) : nxE s = 44 := by unfold nxE; rw [if_neg (by omega), if_pos h2]
theorem nxE_body (s : List UInt8) (h : sc head 0 6 s = 0) (h2 : ¬ 2000 < len4 s) (h3 : sc (body (len4 s)) 6 (len4 s + 8) (s.drop 6) ≠ 0) : nxE s = sc (body (len4 s)) 6 (len4 s + 8) (s.drop 6) := by
  unfold nxE; rw [if_neg (by omega), if_neg h2, if_pos h3]
theorem nxE_sum (s : List UInt8) (h : sc head 0 6 s = 0) (h2 : ¬ 2000 < len4 s) (h3 : sc (body (len4 s)) 6 (len4 s + 8) (s.drop 6) = 0)
    (h4 : (s.drop (6 + len4 s)).take 8 ≠ hex 8 (smm ((s.take (6 + len4 s)).drop 1))) : nxE s = 45 := by
  unfold nxE; rw [if_neg (by omega), if_neg h2, if_neg (by omega), if_pos h4]
theorem nxE_ok (s : List UInt8) (h : sc head 0 6 s = 0) (h2 : ¬ 2000 < len4 s) (h3 : sc (body (len4 s)) 6 (len4 s + 8) (s.drop 6) = 0)
    (h4 : (s.drop (6 + len4 s)).take 8 = hex 8 (smm ((s.take (6 + len4 s)).drop 1))) : nxE s = 0 := by
  unfold nxE; rw [if_neg (by omega), if_neg h2, if_neg (by omega), if_neg (by simpa using h4)]
theorem head_digs (s : List UInt8) (h : sc head 0 6 s = 0) : 6 ≤ s.length ∧ unB ((s.drop 2).take 4) = true ∧ unR ((s.drop 2).take 4) = len4 s ∧ len4 s < 65536 := by
  obtain ⟨h1, h2⟩ := sc_zero head 0 6 s h
  have hd : allDig ((s.drop 2).take 4) = true := by
    unfold allDig
    rw [List.all_eq_true]
    intro x hx
    obtain ⟨i, hi, rfl⟩ := List.mem_iff_getElem.1 hx
    have hi4 : i < 4 := by simp at hi; omega
    have := h2 (2 + i) (by omega) (by omega)
    unfold head at this
    rw [if_neg (by omega), if_neg (by omega)] at this
    simpa [Nat.zero_add] using this
  have hl : ((s.drop 2).take 4).length = 4 := by simp; omega
  have hB : unB ((s.drop 2).take 4) = true := by unfold unB; rw [hd, hl]; rfl
  refine ⟨h1, hB, by unfold unR; rw [hB]; rfl, ?_⟩
  have := (unhex_big _ 4 hd (by omega) (by omega)).1
  exact this

/-- The result's own block is there as it was made, and all that was there before. -/
structure HasRes (T : TypeId) (w w1 : World) : Prop where
  block : w1.heap[w.heap.size]? = some (.cells #[.int .u8 0, .string ⟨#[]⟩] T (0, 0))
  below : Below w.heap.size w w1
theorem HasRes.start (T : TypeId) (w : World) : HasRes T w (w.alloc (.cells #[.int .u8 0, .string ⟨#[]⟩] T)) := ⟨heap_alloc_new _ _, (Below.refl _ _).alloc (Nat.le_refl _) _⟩
theorem HasRes.lt {T : TypeId} {w w1 : World} (h : HasRes T w w1) : w.heap.size < w1.heap.size := by
  have hb := h.block
  by_cases hlt : w.heap.size < w1.heap.size
  · exact hlt
  · rw [Array.getElem?_eq_none (by omega)] at hb; cases hb
theorem HasRes.step {T : TypeId} {w w1 w2 : World} (h : HasRes T w w1) (hb : Below w1.heap.size w1 w2) : HasRes T w w2 :=
  ⟨(hb.block _ h.lt).trans h.block, h.below.trans (hb.mono h.below.size)⟩
theorem HasRes.alloc {T : TypeId} {w w1 : World} (h : HasRes T w w1) (o : Obj) : HasRes T w (w1.alloc o) := h.step ((Below.refl _ _).alloc (Nat.le_refl _) o)
theorem HasRes.cells {T : TypeId} {w w1 : World} (h : HasRes T w w1) : w1.cell? ⟨w.heap.size, 0, none⟩ = some (.int .u8 0) ∧ w1.cell? ⟨w.heap.size, 1, none⟩ = some (.string ⟨#[]⟩) ∧ w1.frozen? ⟨w.heap.size, 0, none⟩ = false ∧ w1.frozen? ⟨w.heap.size, 1, none⟩ = false :=
  ⟨by rw [cell_of_row _ _ _ _ _ _ h.block]; rfl, by rw [cell_of_row _ _ _ _ _ _ h.block]; rfl, frozen_of_row _ _ _ _ _ h.block, frozen_of_row _ _ _ _ _ h.block⟩

theorem HasRes.put {T : TypeId} {w w1 : World} (h : HasRes T w w1) (a b : Value) : ((w1.setCell ⟨w.heap.size, 0, none⟩ a).setCell ⟨w.heap.size, 1, none⟩ b).heap[w.heap.size]? = some (.cells #[a, b] T (0, 0)) ∧
    Below w.heap.size w ((w1.setCell ⟨w.heap.size, 0, none⟩ a).setCell ⟨w.heap.size, 1, none⟩ b) := by
  refine ⟨?_, (h.below.setCell (Nat.le_refl _) _).setCell (Nat.le_refl _) _⟩
  rw [heap_setCell_same _ _ _ _ _ _ (heap_setCell_same _ _ _ _ _ _ h.block)]
  rfl
/-- Three results, the first of which is a struct in a block of its own. -/
theorem results_row3 {P : Program} {fn : Func} {p a b : Tmp} {ty : TypeId} (h : fn.results = #[.cell p ty, .tmp a, .tmp b]) (tmps : Array Value) (w : World) (g : Nat) (t : TypeId) (cs : Array Value) (fr : Nat × Nat) (d : TypeDesc)
    (hp : tmps.getD p undef = .pointer (some ⟨g, 0, none⟩)) (hg : w.heap[g]? = some (.cells cs t fr))
    (hu : P.underlying ty = some d) (hd : (match d with | .struct _ | .array _ _ => true | _ => false) = true) (hi : (P.info? ty).map (·.size) = some cs.size) :
    (results fn tmps).run P w = .ok (.tuple #[.agg cs, tmps.getD a undef, tmps.getD b undef]) w := by
  have hp' : tmps[p]?.getD undef = .pointer (some ⟨g, 0, none⟩) := by simpa using hp
  simp [results, h, hp', asAddr, run_loadVar_row w g t ty cs fr d hg hu hd hi]
theorem info_frame : (Tryz.prog.info? 50).map (·.size) = some 2 := by kernel_rfl

set_option maxRecDepth 100000 in
set_option maxHeartbeats 1000000 in
theorem next_bad1 (s : ByteArray) (w : World) (hs : s.size ≤ 9223372036854775807) (g1 : sc head 0 6 s.data.toList ≠ 0) :
    Calls Tryz.prog 81 #[.string s] w (NextPost s w) := by
  have hE := nxE_head _ g1
  have HP := Lib.hid (nextPost_bad s _ w (h := hE) (hc := g1))
  have RH := Lib.hid (read_head s)
  obtain ⟨e1, he1⟩ : ∃ e1, e1 = sc head 0 6 s.data.toList := ⟨_, rfl⟩
  rw [← he1] at RH HP g1
  clear hE he1
  have ht : ((e1 : Int) != 0) = true := by rw [bne_iff_ne]; omega
  go_enter Tryz.func81, Tryz.ntmps81
  go_wp2_with fail
  refine (RH.out _ _ hs (by simp) (by simp) (by simp) (by simp) (by simp) (by simp) (by simp)).mono ?_
  rintro e w1 ⟨r, rfl, hb1⟩
  have hr := ((HasRes.start 50 w).alloc _).step hb1
  clear hb1
  obtain ⟨c0, c1, f0, f1⟩ := hr.cells
  go_wp2
  obtain ⟨p1, p2⟩ := hr.put (.int .u8 0) (.string ⟨#[]⟩)
  exact bodyPost_ret (results_row3 (p := 2) (a := 3) (b := 4) rfl _ _ _ _ _ _ _ rfl p1 Tryz.underlying50 rfl info_frame) rfl (HP.out _ p2)

theorem extract_rest (x : ByteArray) (a : Nat) : (x.extract a x.size).data.toList = x.data.toList.drop a := by rw [extract_list, take_all]
theorem len6 (s : ByteArray) (h : 6 ≤ s.data.toList.length) : 6 ≤ s.size := by rw [size_list]; exact h

set_option maxRecDepth 100000 in
set_option maxHeartbeats 1000000 in
theorem next_bad2 (s : ByteArray) (w : World) (hs : s.size ≤ 9223372036854775807) (g1 : sc head 0 6 s.data.toList = 0) (g2 : 2000 < len4 s.data.toList) :
    Calls Tryz.prog 81 #[.string s] w (NextPost s w) := by
  have hE := nxE_long _ g1 g2
  have HP := Lib.hid (nextPost_bad s _ w (h := hE) (hc := by omega))
  have RH := read_head s
  rw [g1] at RH
  have RH := Lib.hid RH
  obtain ⟨d1, d2, d3, d4⟩ := head_digs _ g1
  have h6 := len6 s d1
  have UN := unhex_any (s.extract 2 6)
  rw [extract_list, List.drop_take, show (6 : Nat) - 2 = 4 from rfl, d2, d3] at UN
  have UN := Lib.hid UN
  have hxs : (s.extract 2 6).size ≤ 9223372036854775807 := by rw [extract_size]; omega
  obtain ⟨n, hn⟩ : ∃ n, n = len4 s.data.toList := ⟨_, rfl⟩
  rw [← hn] at UN g2 d4
  clear hE d1 d2 d3 g1 hn
  go_enter Tryz.func81, Tryz.ntmps81
  go_wp2_with fail
  refine (RH.out _ _ hs (by simp) (by simp) (by simp) (by simp) (by simp) (by simp) (by simp)).mono ?_
  rintro e w1 ⟨r, rfl, hb1⟩
  have hr := ((HasRes.start 50 w).alloc _).step hb1
  clear hb1
  obtain ⟨c0, c1, f0, f1⟩ := hr.cells
  go_wp2_with fail
  refine (UN.out _ hxs).mono ?_
  rintro e w2 ⟨rfl, rfl⟩
  go_wp2
  obtain ⟨p1, p2⟩ := hr.put (.int .u8 0) (.string ⟨#[]⟩)
  exact bodyPost_ret (results_row3 (p := 2) (a := 3) (b := 4) rfl _ _ _ _ _ _ _ rfl p1 Tryz.underlying50 rfl info_frame) rfl (HP.out _ p2)

set_option maxRecDepth 100000 in
set_option maxHeartbeats 1000000 in
theorem next_bad3 (s : ByteArray) (w : World) (hs : s.size ≤ 9223372036854775807) (g1 : sc head 0 6 s.data.toList = 0) (g2 : ¬ 2000 < len4 s.data.toList)
    (g3 : sc (body (len4 s.data.toList)) 6 (len4 s.data.toList + 8) (s.data.toList.drop 6) ≠ 0) :
    Calls Tryz.prog 81 #[.string s] w (NextPost s w) := by
  have hE := nxE_body _ g1 g2 g3
  have HP := Lib.hid (nextPost_bad s _ w (h := hE) (hc := g3))
  have RH := read_head s
  rw [g1] at RH
  have RH := Lib.hid RH
  obtain ⟨d1, d2, d3, d4⟩ := head_digs _ g1
  have h6 := len6 s d1
  have UN := unhex_any (s.extract 2 6)
  rw [extract_list, List.drop_take, show (6 : Nat) - 2 = 4 from rfl, d2, d3] at UN
  have UN := Lib.hid UN
  have hxs : (s.extract 2 6).size ≤ 9223372036854775807 := by rw [extract_size]; omega
  have RB := read_body (s.extract 6 s.size)
  rw [extract_rest] at RB
  have hys : (s.extract 6 s.size).size ≤ 9223372036854775807 := by rw [extract_size]; omega
  obtain ⟨n, hn⟩ : ∃ n, n = len4 s.data.toList := ⟨_, rfl⟩
  have RB := RB n
  rw [← hn] at UN g2 d4 g3 HP
  generalize sc (body n) 6 (n + 8) (s.data.toList.drop 6) = e2 at *
  have RB := Lib.hid RB
  clear hE d1 d2 d3 g1 hn
  have ht : ((e2 : Int) != 0) = true := by rw [bne_iff_ne]; omega
  go_enter Tryz.func81, Tryz.ntmps81
  go_wp2_with fail
  refine (RH.out _ _ hs (by simp) (by simp) (by simp) (by simp) (by simp) (by simp) (by simp)).mono ?_
  rintro e w1 ⟨r, rfl, hb1⟩
  have hr := ((HasRes.start 50 w).alloc _).step hb1
  clear hb1
  go_wp2_with fail
  refine (UN.out _ hxs).mono ?_
  rintro e w2 ⟨rfl, rfl⟩
  go_wp2_with fail
  refine (RB.out _ (by omega) _ hys (by simp) (by simp) (by simp) (by simp) (by simp)).mono ?_
  rintro e w2 ⟨r2, rfl, hb2⟩
  have hr2 := (hr.alloc _).step hb2
  clear hb2 hr
  obtain ⟨c0, c1, f0, f1⟩ := hr2.cells
  go_wp2
  obtain ⟨p1, p2⟩ := hr2.put (.int .u8 0) (.string ⟨#[]⟩)
  exact bodyPost_ret (results_row3 (p := 2) (a := 3) (b := 4) rfl _ _ _ _ _ _ _ rfl p1 Tryz.underlying50 rfl info_frame) rfl (HP.out _ p2)
end Go.Proofs.YtefknfbmphdafaaGreat
