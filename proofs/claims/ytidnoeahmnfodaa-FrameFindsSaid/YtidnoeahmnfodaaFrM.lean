/- Plain facts on frames: no program in sight. -/
import Derived.Test.YtidnoeahmnfodaaMath
namespace Go.Proofs.Ytidnoeahmnfodaa
namespace FrM
open CrcM

def isKind (c : UInt8) : Bool := decide (97 ≤ c.toNat) && decide (c.toNat ≤ 122)
def isPlain (c : UInt8) : Bool := decide (32 ≤ c.toNat) && decide (c.toNat ≤ 126)
def isMark (c : UInt8) : Bool := decide (c.toNat = 254)
def isDig (c : UInt8) : Bool := (decide (48 ≤ c.toNat) && decide (c.toNat ≤ 57)) || (decide (97 ≤ c.toNat) && decide (c.toNat ≤ 102))
def val (c : UInt8) : Nat := if c.toNat < 58 then c.toNat - 48 else c.toNat - 87
def unhex (l : List UInt8) : Nat := l.foldl (fun n c => 16 * n + val c) 0

/-- Read on: 0: all may stand there; 43: there are too few; 44: one may not. -/
def sc (q : Nat → UInt8 → Bool) : Nat → Nat → List UInt8 → Nat
  | _, 0, _ => 0
  | _, _ + 1, [] => 43
  | k, n + 1, c :: r => if q k c = true then sc q (k + 1) n r else 44

theorem sc_le (q : Nat → UInt8 → Bool) (k n : Nat) (s : List UInt8) : sc q k n s = 0 ∨ sc q k n s = 43 ∨ sc q k n s = 44 := by
  induction n generalizing k s with
  | zero => left; cases s <;> rfl
  | succ n ih =>
    cases s with
    | nil => right; left; rfl
    | cons c r =>
      unfold sc
      by_cases h : q k c = true
      · rw [if_pos h]; exact ih _ _
      · rw [if_neg h]; right; right; rfl
theorem sc_add (q : Nat → UInt8 → Bool) (k n m : Nat) (s : List UInt8) : sc q k (n + m) s = if sc q k n s = 0 then sc q (k + n) m (s.drop n) else sc q k n s := by
  induction n generalizing k s with
  | zero => cases s <;> simp [sc]
  | succ n ih =>
    cases s with
    | nil => rw [show n + 1 + m = (n + m) + 1 by omega]; simp [sc]
    | cons c r =>
      have e1 : sc q k (n + 1 + m) (c :: r) = if q k c = true then sc q (k + 1) (n + m) r else 44 := by rw [show n + 1 + m = (n + m) + 1 by omega]; rfl
      have e2 : sc q k (n + 1) (c :: r) = if q k c = true then sc q (k + 1) n r else 44 := rfl
      rw [e1, e2, List.drop_succ_cons]
      by_cases h : q k c = true
      · rw [if_pos h, if_pos h, ih, show k + 1 + n = k + (n + 1) by omega]
      · rw [if_neg h, if_neg h]; simp
theorem sc_next (q : Nat → UInt8 → Bool) (k n : Nat) (s : List UInt8) (h : sc q k n s = 0) (hn : n < s.length) (hq : q (k + n) s[n] = true) : sc q k (n + 1) s = 0 := by
  rw [sc_add, if_pos h, List.drop_eq_getElem_cons hn]
  simp [sc, hq]
theorem sc_bad (q : Nat → UInt8 → Bool) (k n m : Nat) (s : List UInt8) (h : sc q k n s = 0) (hn : n < s.length) (hq : q (k + n) s[n] = false) (hm : n < m) : sc q k m s = 44 := by
  obtain ⟨j, rfl⟩ : ∃ j, m = n + (j + 1) := ⟨m - n - 1, by omega⟩
  rw [sc_add, if_pos h, List.drop_eq_getElem_cons hn]
  simp [sc, hq]
theorem sc_short (q : Nat → UInt8 → Bool) (k n m : Nat) (s : List UInt8) (h : sc q k n s = 0) (hn : s.length ≤ n) (hm : n < m) : sc q k m s = 43 := by
  obtain ⟨j, rfl⟩ : ∃ j, m = n + (j + 1) := ⟨m - n - 1, by omega⟩
  rw [sc_add, if_pos h, List.drop_of_length_le hn]
  rfl
theorem sc_zero (q : Nat → UInt8 → Bool) (k n : Nat) (s : List UInt8) (h : sc q k n s = 0) : n ≤ s.length ∧ ∀ j (hj : j < s.length), j < n → q (k + j) s[j] = true := by
  induction n generalizing k s with
  | zero => exact ⟨Nat.zero_le _, fun j _ h => absurd h (Nat.not_lt_zero _)⟩
  | succ n ih =>
    cases s with
    | nil => cases h
    | cons c r =>
      unfold sc at h
      by_cases hq : q k c = true
      · rw [if_pos hq] at h
        obtain ⟨h1, h2⟩ := ih _ _ h
        refine ⟨by simp; omega, fun j hj hjn => ?_⟩
        match j with
        | 0 => exact hq
        | j + 1 =>
          have := h2 j (by simpa using hj) (by omega)
          rw [show k + (j + 1) = k + 1 + j by omega]
          exact this
      · rw [if_neg hq] at h; cases h
theorem sc_of (q : Nat → UInt8 → Bool) (k n : Nat) (s : List UInt8) (h1 : n ≤ s.length) (h2 : ∀ j (hj : j < s.length), j < n → q (k + j) s[j] = true) : sc q k n s = 0 := by
  induction n generalizing k s with
  | zero => cases s <;> rfl
  | succ n ih =>
    cases s with
    | nil => simp at h1
    | cons c r =>
      unfold sc
      have h0 := h2 0 (by simp) (by omega)
      simp at h0
      rw [if_pos h0]
      refine ih _ _ (by simpa using h1) (fun j hj hjn => ?_)
      have := h2 (j + 1) (by simpa using hj) (by omega)
      rw [show k + 1 + j = k + (j + 1) by omega]
      exact this
theorem sc_congr (q r : Nat → UInt8 → Bool) (k k' n : Nat) (s : List UInt8) (h : ∀ j c, j < n → q (k + j) c = r (k' + j) c) : sc q k n s = sc r k' n s := by
  induction n generalizing k k' s with
  | zero => cases s <;> rfl
  | succ n ih =>
    cases s with
    | nil => rfl
    | cons c t =>
      unfold sc
      have h0 := h 0 c (by omega)
      simp at h0
      rw [h0]
      rw [ih (k + 1) (k' + 1) t (fun j c hj => by have := h (j + 1) c (by omega); rw [show k + 1 + j = k + (j + 1) by omega, show k' + 1 + j = k' + (j + 1) by omega]; exact this)]
theorem sc_take (q : Nat → UInt8 → Bool) (k n : Nat) (s t : List UInt8) (h : n ≤ s.length) : sc q k n (s ++ t) = sc q k n s := by
  induction n generalizing k s with
  | zero => cases s <;> cases t <;> rfl
  | succ n ih =>
    cases s with
    | nil => simp at h
    | cons c r =>
      show sc q k (n + 1) (c :: (r ++ t)) = _
      unfold sc
      rw [ih _ _ (by simpa using h)]

def head (k : Nat) (c : UInt8) : Bool := if k = 0 then isMark c else if k = 1 then isKind c else isDig c
def body (n : Nat) (k : Nat) (c : UInt8) : Bool := if k < 6 + n then isPlain c else isDig c
def len4 (s : List UInt8) : Nat := unhex ((s.drop 2).take 4)
/-- What is summed of a frame. -/
def inner (k : UInt8) (b : List UInt8) : List UInt8 := k :: (hex 4 b.length ++ b)
def whole (k : UInt8) (b : List UInt8) : List UInt8 := 254 :: (inner k b ++ hex 8 (smm (inner k b)))
def pkE (k : UInt8) (b : List UInt8) : Nat := if isKind k = false then 40 else if 2000 < b.length then 41 else if b.all isPlain = false then 42 else 0
def pkS (k : UInt8) (b : List UInt8) : List UInt8 := if pkE k b = 0 then whole k b else []
/-- Why there is no frame; 0: there is one. -/
def nxE (s : List UInt8) : Nat :=
  if sc head 0 6 s ≠ 0 then sc head 0 6 s
  else if 2000 < len4 s then 44
  else if sc (body (len4 s)) 6 (len4 s + 8) (s.drop 6) ≠ 0 then sc (body (len4 s)) 6 (len4 s + 8) (s.drop 6)
  else if (s.drop (6 + len4 s)).take 8 ≠ hex 8 (smm ((s.take (6 + len4 s)).drop 1)) then 45
  else 0
def nxK (s : List UInt8) : UInt8 := if nxE s = 0 then s.getD 1 0 else 0
def nxB (s : List UInt8) : List UInt8 := if nxE s = 0 then (s.take (6 + len4 s)).drop 6 else []
def nxN (s : List UInt8) : Nat := if nxE s = 0 then 14 + len4 s else 0

theorem nxE_some (s : List UInt8) : nxE s = 0 ∨ nxE s = 43 ∨ nxE s = 44 ∨ nxE s = 45 := by
  have h1 := sc_le head 0 6 s
  have h2 := sc_le (body (len4 s)) 6 (len4 s + 8) (s.drop 6)
  unfold nxE
  repeat' split
  all_goals omega
theorem isDig_dig (n : Nat) (h : n < 16) : isDig (dig n) = true := by
  have all : ∀ n, n < 16 → isDig (dig n) = true := by decide
  exact all n h
theorem val_dig (n : Nat) (h : n < 16) : val (dig n) = n := by
  have all : ∀ n, n < 16 → val (dig n) = n := by decide
  exact all n h
theorem hex_dig (k n : Nat) : ∀ c ∈ hex k n, isDig c = true := by
  induction k generalizing n with
  | zero => intro c h; cases h
  | succ k ih =>
    intro c h
    simp only [hex, List.mem_append, List.mem_singleton] at h
    rcases h with h | rfl
    · exact ih _ c h
    · exact isDig_dig _ (Nat.mod_lt _ (by omega))
theorem unhex_snoc (l : List UInt8) (c : UInt8) : unhex (l ++ [c]) = 16 * unhex l + val c := by unfold unhex; rw [List.foldl_append]; rfl
theorem unhex_hex (k n : Nat) (h : n < 16 ^ k) : unhex (hex k n) = n := by
  induction k generalizing n with
  | zero => simp at h; subst h; rfl
  | succ k ih =>
    simp only [hex]
    rw [unhex_snoc, ih _ (by rw [Nat.pow_succ] at h; omega), val_dig _ (Nat.mod_lt _ (by omega))]
    omega
theorem val_lt (c : UInt8) (h : isDig c = true) : val c < 16 := by
  unfold isDig at h
  unfold val
  simp at h
  split <;> omega
theorem unhex_lt (l : List UInt8) (h : ∀ c ∈ l, isDig c = true) : unhex l < 16 ^ l.length := by
  have gen : ∀ (l : List UInt8) (a : Nat), (∀ c ∈ l, isDig c = true) → l.foldl (fun n c => 16 * n + val c) a < (a + 1) * 16 ^ l.length := by
    intro l
    induction l with
    | nil => intro a _; simp
    | cons c r ih =>
      intro a h
      have h1 := ih (16 * a + val c) (fun x hx => h x (List.mem_cons_of_mem _ hx))
      have h2 := val_lt c (h c (List.mem_cons_self ..))
      rw [List.foldl_cons, List.length_cons, Nat.pow_succ]
      refine Nat.lt_of_lt_of_le h1 ?_
      have : (16 * a + val c + 1) * 16 ^ r.length ≤ (16 * (a + 1)) * 16 ^ r.length := Nat.mul_le_mul_right _ (by omega)
      refine Nat.le_trans this (Nat.le_of_eq ?_)
      rw [Nat.mul_comm 16 (a + 1), Nat.mul_assoc, Nat.mul_comm 16]
  have := gen l 0 h
  simpa [unhex] using this
theorem hex_unhex (l : List UInt8) (h : ∀ c ∈ l, isDig c = true) : hex l.length (unhex l) = l := by
  have dv : ∀ c, isDig c = true → dig (val c) = c := by
    intro c hc
    unfold isDig at hc
    simp at hc
    apply UInt8.toNat_inj.1
    have := c.toNat_lt
    rcases hc with ⟨h1, h2⟩ | ⟨h1, h2⟩
    · have hv : val c = c.toNat - 48 := by unfold val; rw [if_pos (by omega)]
      unfold dig
      rw [if_pos (by omega), hv]; simp; omega
    · have hv : val c = c.toNat - 87 := by unfold val; rw [if_neg (by omega)]
      unfold dig
      rw [if_neg (by omega), hv]; simp; omega
  have gen : ∀ n (l : List UInt8), l.length = n → (∀ c ∈ l, isDig c = true) → hex n (unhex l) = l := by
    intro n
    induction n with
    | zero => intro l hl _; rw [List.length_eq_zero_iff.1 hl]; rfl
    | succ n ih =>
      intro l hl h
      obtain ⟨r, c, rfl⟩ : ∃ r c, l = r ++ [c] := ⟨l.dropLast, l.getLast (by intro e; simp [e] at hl), (List.dropLast_concat_getLast _).symm⟩
      have hv := val_lt c (h c (by simp))
      rw [unhex_snoc]
      simp only [hex]
      rw [show (16 * unhex r + val c) / 16 = unhex r by omega, show (16 * unhex r + val c) % 16 = val c by omega, ih r (by simpa using hl) (fun x hx => h x (by simp [hx])), dv c (h c (by simp))]
  exact gen _ l rfl h
end FrM
end Go.Proofs.Ytidnoeahmnfodaa
