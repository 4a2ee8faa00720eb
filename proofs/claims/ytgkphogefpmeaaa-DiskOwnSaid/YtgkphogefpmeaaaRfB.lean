/- The walks of the reference's New, At, Used, Bytes. -/
import Derived.Test.YtgkphogefpmeaaaRfA
namespace Go.Proofs.Ytgkphogefpmeaaa
open Go.RowKit Go.Maps DkM

set_option maxHeartbeats 1000000 in
theorem rnew_any (lim : Int) (w : World) :
    Calls Try.prog 14 #[.int .i64 lim] w fun e w' => e = .returned (rfV (.slice none 0 0) (newS lim)) ∧ Below w.heap.size w w' := by
  by_cases h0 : lim < 0
  · have hN := Lib.hid (show newS lim = { newS 0 with lim := 0 } by unfold newS; congr 1; omega)
    go_enter Try.func14, Try.ntmps14
    go_wp2_with fail
    rw [hN.out]
    exact bodyPost_ret (v := rfV (.slice none 0 0) { newS 0 with lim := 0 }) (by simp [results, Try.results14, go_sem, newS]) rfl ⟨rfl, (Below.refl _ _).alloc (Nat.le_refl _) _⟩
  · have h0' : 0 ≤ lim := by omega
    by_cases h1 : 1073741824 < lim
    · have hN := Lib.hid (show newS lim = { newS 0 with lim := 1073741824 } by unfold newS; congr 1; omega)
      go_enter Try.func14, Try.ntmps14
      go_wp2_with fail
      rw [hN.out]
      exact bodyPost_ret (v := rfV (.slice none 0 0) { newS 0 with lim := 1073741824 }) (by simp [results, Try.results14, go_sem, newS]) rfl ⟨rfl, (Below.refl _ _).alloc (Nat.le_refl _) _⟩
    · have h1' : lim ≤ 1073741824 := by omega
      have hN := Lib.hid (show newS lim = { newS 0 with lim := lim } by unfold newS; congr 1; omega)
      clear h0 h1
      go_enter Try.func14, Try.ntmps14
      go_wp2_with fail
      rw [hN.out]
      exact bodyPost_ret (v := rfV (.slice none 0 0) { newS 0 with lim := lim }) (by simp [results, Try.results14, go_sem, newS]) rfl ⟨rfl, (Below.refl _ _).alloc (Nat.le_refl _) _⟩

set_option maxHeartbeats 400000 in
theorem rbytes_any (f : Fl) (w : World) (h : f.s.size + f.l.size ≤ 9223372036854775807) :
    Calls Try.prog 27 #[flV f] w fun e w' => e = .returned (.string (f.s ++ f.l)) ∧ Below w.heap.size w w' := by
  go_enter Try.func27, Try.ntmps27
  go_wp2_with fail
  go_ret
  exact ⟨rfl, (Below.refl _ _).alloc (Nat.le_refl _) _⟩

/-- Where a file stands. -/
def idx : List Fl → ByteArray → Int
  | [], _ => -1
  | f :: r, n => if eqN f.n n then 0 else if idx r n < 0 then -1 else idx r n + 1
theorem idx_none {L : List Fl} {n : ByteArray} : lkF L n = none → idx L n = -1 := by
  induction L with
  | nil => intro _; rfl
  | cons f r ih =>
    intro h
    unfold lkF at h
    rw [List.find?_cons] at h
    cases hq : eqN f.n n with
    | true => rw [hq] at h; cases h
    | false =>
      rw [hq] at h
      have := ih h
      unfold idx
      rw [hq, this]
      rfl
theorem idx_some {L : List Fl} {n : ByteArray} {f : Fl} : lkF L n = some f → ∃ k : Nat, idx L n = k ∧ ∃ h : k < L.length, L[k] = f := by
  induction L with
  | nil => intro h; cases h
  | cons g r ih =>
    intro h
    unfold lkF at h
    rw [List.find?_cons] at h
    cases hq : eqN g.n n with
    | true =>
      rw [hq] at h
      refine ⟨0, by unfold idx; rw [hq]; rfl, by simp, by simpa using h⟩
    | false =>
      rw [hq] at h
      obtain ⟨k, h1, h2, h3⟩ := ih h
      refine ⟨k + 1, ?_, by simp; omega, by simpa using h3⟩
      unfold idx
      rw [hq, h1]
      simp only [Bool.false_eq_true, if_false]
      rw [if_neg (by omega)]
      omega
theorem idx_at {L : List Fl} {n : ByteArray} {k : Nat} (hk : k < L.length) (hb : ∀ j (h : j < k), eqN (L[j]'(by omega)).n n = false) (he : eqN L[k].n n = true) : idx L n = k := by
  induction L generalizing k with
  | nil => simp at hk
  | cons g r ih =>
    cases k with
    | zero => unfold idx; rw [if_pos (by simpa using he)]; rfl
    | succ k =>
      have h0 := hb 0 (by omega)
      have := ih (k := k) (by simpa using hk) (fun j hj => by have := hb (j + 1) (by omega); simpa using this) (by simpa using he)
      unfold idx
      rw [if_neg (by simp at h0; simp [h0]), this, if_neg (by omega)]
      omega
theorem idx_end {L : List Fl} {n : ByteArray} (hb : ∀ j (h : j < L.length), eqN L[j].n n = false) : idx L n = -1 := by
  refine idx_none (lkF_eq_none.2 fun f hf => ?_)
  obtain ⟨j, hj, rfl⟩ := List.mem_iff_getElem.1 hf
  exact eqN_no.1 (hb j hj)

set_option maxRecDepth 100000 in
set_option maxHeartbeats 1000000 in
theorem at_any {w : World} {lo : Nat} {sl : Value} {S : Dk} (h : FsAt w lo sl S.L) (n : ByteArray) (hl : S.L.length ≤ 9223372036854775807) :
    Calls Try.prog 23 #[rfV sl S, .string n] w fun e w' => e = .returned (.int .i64 (idx S.L n)) ∧ Below w.heap.size w w' := by
  obtain ⟨A, cap, rfl, hcap, hA⟩ := h
  have HA := Lib.hid hA
  clear hA
  go_enter Try.func23, Try.ntmps23
  go_wp2_with fail
  go_loop [5] (fun i => ∃ k : Nat, k ≤ S.L.length ∧ (∀ j (_ : j < k) (h' : j < S.L.length), eqN S.L[j].n n = false) ∧ i = .int .i64 k) (fun i => S.L.length - (intOf i).toNat)
  case atStart => exact ⟨0, Nat.zero_le _, fun j h => absurd h (by omega), rfl⟩
  case round =>
    obtain ⟨k, hk, hno, rfl⟩ := hrel
    have HN := Lib.hid hno
    clear hno
    by_cases hlt : k < S.L.length
    · obtain ⟨g, off, rfl, hg1, hg2, hc⟩ := HA.out (by omega)
      have q0 := (hc k hlt).1
      clear hc
      have hse := seq_eq S.L[k].n n
      cases hq : eqN S.L[k].n n with
      | true =>
        rw [hq] at hse
        have HE := Lib.hid (show idx S.L n = k from idx_at hlt (fun j hj => HN.out j hj (by omega)) hq)
        clear hq
        go_wp2_with fail
        go_ret
        exact ⟨by rw [HE.out]; rfl, (Below.refl _ _).alloc (Nat.le_refl _) _⟩
      | false =>
        rw [hq] at hse
        have HE := Lib.hid (show ∀ j (_ : j < k + 1) (h' : j < S.L.length), eqN S.L[j].n n = false from fun j hj h' => by
          by_cases he : j = k
          · subst he; exact hq
          · exact HN.out j (by omega) h')
        clear hq
        go_wp2_with fail
        go_round
        case rel => exact ⟨k + 1, by omega, HE.out, by go_num⟩
        case measure => simp [intOf]; omega
    · obtain rfl : k = S.L.length := by omega
      have HE := Lib.hid (show idx S.L n = -1 from idx_end fun j hj => HN.out j hj hj)
      go_wp2_with fail
      go_ret
      exact ⟨by rw [HE.out]; rfl, (Below.refl _ _).alloc (Nat.le_refl _) _⟩
end Go.Proofs.Ytgkphogefpmeaaa
