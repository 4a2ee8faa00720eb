/- Plain laws: what is packed is read as it was, and the other way round. -/
import Derived.Test.YtidnoeahmnfodaaFrJ
namespace Go.Proofs.Ytidnoeahmnfodaa
open Go.RowKit CrcM FrM

theorem whole_length (k : UInt8) (b : List UInt8) : (whole k b).length = 14 + b.length := by simp [whole, inner, hex_length]; omega
theorem pkE_zero {k : UInt8} {b : List UInt8} (h : pkE k b = 0) : isKind k = true ∧ b.length ≤ 2000 ∧ b.all isPlain = true := by
  unfold pkE at h
  split at h
  · omega
  · split at h
    · omega
    · split at h
      · omega
      · rename_i h1 h2 h3
        exact ⟨by simpa using h1, by omega, by simpa using h3⟩
theorem pkE_of {k : UInt8} {b : List UInt8} (h1 : isKind k = true) (h2 : b.length ≤ 2000) (h3 : b.all isPlain = true) : pkE k b = 0 := by
  unfold pkE
  rw [if_neg (by rw [h1]; decide), if_neg (by omega), if_neg (by rw [h3]; decide)]
theorem all_hex (k n : Nat) : (hex k n).all isDig = true := by rw [List.all_eq_true]; exact hex_dig k n
theorem sc_ok (p : UInt8 → Bool) (q : Nat → UInt8 → Bool) (k : Nat) (a t : List UInt8) (h : ∀ j c, j < a.length → q (k + j) c = p c) (ha : a.all p = true) : sc q k a.length (a ++ t) = 0 := by
  rw [sc_take _ _ _ _ _ (Nat.le_refl _), sc_seg p q k a.length a h, List.take_length, ha, if_neg (by decide), if_neg (by omega)]
theorem whole_shape (k : UInt8) (b t : List UInt8) : whole k b ++ t = 254 :: k :: (hex 4 b.length ++ (b ++ (hex 8 (smm (inner k b)) ++ t))) := by simp [whole, inner, List.append_assoc]
theorem whole_head {k : UInt8} {b : List UInt8} (t : List UInt8) (h : isKind k = true) : sc head 0 6 (whole k b ++ t) = 0 := by
  rw [whole_shape]
  show (if head 0 254 = true then (if head 1 k = true then sc head 2 4 (hex 4 b.length ++ _) else 44) else 44) = 0
  rw [if_pos (by decide), if_pos (by unfold head; rw [if_neg (by omega), if_pos rfl]; exact h)]
  have := sc_ok isDig head 2 (hex 4 b.length) (b ++ (hex 8 (smm (inner k b)) ++ t)) (fun j c _ => by unfold head; rw [if_neg (by omega), if_neg (by omega)]) (all_hex _ _)
  rw [hex_length] at this
  exact this
theorem whole_len4 (k : UInt8) (b t : List UInt8) (h : b.length ≤ 2000) : len4 (whole k b ++ t) = b.length := by
  unfold len4
  rw [whole_shape]
  show unhex ((hex 4 b.length ++ _).take 4) = _
  have e : (hex 4 b.length ++ (b ++ (hex 8 (smm (inner k b)) ++ t))).take 4 = hex 4 b.length := by
    have := List.take_left (l₁ := hex 4 b.length) (l₂ := b ++ (hex 8 (smm (inner k b)) ++ t))
    rwa [hex_length] at this
  rw [e]
  exact unhex_hex 4 _ (by omega)
theorem drop_hex4 (n : Nat) (x : List UInt8) : (hex 4 n ++ x).drop 4 = x := by
  have := List.drop_left (l₁ := hex 4 n) (l₂ := x)
  rwa [hex_length] at this
theorem whole_drop6 (k : UInt8) (b t : List UInt8) : (whole k b ++ t).drop 6 = b ++ (hex 8 (smm (inner k b)) ++ t) := by
  rw [whole_shape]
  exact drop_hex4 b.length _
theorem whole_body {k : UInt8} {b : List UInt8} (t : List UInt8) (h : b.all isPlain = true) : sc (body b.length) 6 (b.length + 8) ((whole k b ++ t).drop 6) = 0 := by
  rw [whole_drop6, sc_add]
  rw [if_pos (sc_ok isPlain (body b.length) 6 b _ (fun j c hj => by unfold body; rw [if_pos (by omega)]) h), List.drop_left]
  have := sc_ok isDig (body b.length) (6 + b.length) (hex 8 (smm (inner k b))) t (fun j c _ => by unfold body; rw [if_neg (by omega)]) (all_hex _ _)
  rw [hex_length] at this
  exact this
theorem whole_take (k : UInt8) (b t : List UInt8) : (whole k b ++ t).take (6 + b.length) = 254 :: inner k b := by
  rw [show whole k b ++ t = (254 :: inner k b) ++ (hex 8 (smm (inner k b)) ++ t) by simp [whole, List.append_assoc]]
  have := List.take_left (l₁ := (254 :: inner k b)) (l₂ := hex 8 (smm (inner k b)) ++ t)
  rw [show ((254 : UInt8) :: inner k b).length = 6 + b.length by simp [inner, hex_length]; omega] at this
  exact this
/-- What is packed is read as it was, whatever is behind it. -/
theorem pk_nx {k : UInt8} {b : List UInt8} (t : List UInt8) (h : pkE k b = 0) :
    nxE (whole k b ++ t) = 0 ∧ nxK (whole k b ++ t) = k ∧ nxB (whole k b ++ t) = b ∧ nxN (whole k b ++ t) = 14 + b.length := by
  obtain ⟨h1, h2, h3⟩ := pkE_zero h
  have hl := whole_len4 k b t h2
  have ht := whole_take k b t
  have he : nxE (whole k b ++ t) = 0 := by
    refine nxE_ok _ (whole_head t h1) (by omega) (by rw [hl]; exact whole_body t h3) ?_
    rw [hl, ht, show (6 : Nat) + b.length = 6 + b.length from rfl, ← List.drop_drop, whole_drop6, List.drop_left]
    show _ = hex 8 (smm (inner k b))
    have := List.take_left (l₁ := hex 8 (smm (inner k b))) (l₂ := t)
    rwa [hex_length] at this
  refine ⟨he, ?_, ?_, ?_⟩
  · unfold nxK; rw [if_pos he, whole_shape]; rfl
  · unfold nxB; rw [if_pos he, hl, ht]; exact drop_hex4 b.length b
  · unfold nxN; rw [if_pos he, hl]
/-- What is read, packed, is that beginning. -/
theorem nx_pk {s : List UInt8} (h : nxE s = 0) : pkE (nxK s) (nxB s) = 0 ∧ whole (nxK s) (nxB s) = s.take (nxN s) := by
  have hall : sc head 0 6 s = 0 ∧ len4 s ≤ 2000 ∧ sc (body (len4 s)) 6 (len4 s + 8) (s.drop 6) = 0 ∧ (s.drop (6 + len4 s)).take 8 = hex 8 (smm ((s.take (6 + len4 s)).drop 1)) := by
    unfold nxE at h
    split at h
    · omega
    · split at h
      · omega
      · split at h
        · omega
        · split at h
          · omega
          · rename_i h1 h2 h3 h4
            exact ⟨by omega, by omega, by omega, by simpa using h4⟩
  obtain ⟨h1, h2, h3, h4⟩ := hall
  obtain ⟨a1, a2⟩ := sc_zero head 0 6 s h1
  obtain ⟨b1, b2⟩ := sc_zero _ _ _ _ h3
  rw [List.length_drop] at b1
  have hin := inner_of s h1 (by omega) (by omega)
  have hK : nxK s = s[1] := by unfold nxK; rw [if_pos h, List.getD_eq_getElem?_getD, List.getElem?_eq_getElem (by omega)]; rfl
  have hB : nxB s = (s.take (6 + len4 s)).drop 6 := by unfold nxB; rw [if_pos h]
  have hN : nxN s = 14 + len4 s := by unfold nxN; rw [if_pos h]
  have hBl : ((s.take (6 + len4 s)).drop 6).length = len4 s := by simp; omega
  rw [hK, hB, hN]
  refine ⟨pkE_of ?_ (by omega) ?_, ?_⟩
  · have := a2 1 (by omega) (by omega)
    unfold head at this
    rwa [if_neg (by omega), if_pos (by omega)] at this
  · rw [List.all_eq_true]
    intro x hx
    obtain ⟨i, hi, rfl⟩ := List.mem_iff_getElem.1 hx
    rw [hBl] at hi
    have := b2 i (by rw [List.length_drop]; omega) (by omega)
    unfold body at this
    rw [if_pos (by omega)] at this
    rw [List.getElem_drop, List.getElem_take]
    rw [List.getElem_drop] at this
    exact this
  · unfold whole
    rw [← hin, ← h4]
    have h0 : s[0] = 254 := by
      have := a2 0 (by omega) (by omega)
      unfold head isMark at this
      rw [if_pos rfl] at this
      apply UInt8.toNat_inj.1
      simpa using this
    have e1 : s.take (6 + len4 s) = 254 :: (s.take (6 + len4 s)).drop 1 := by
      have := List.drop_eq_getElem_cons (l := s.take (6 + len4 s)) (i := 0) (by simp; omega)
      rw [List.drop_zero, List.getElem_take, h0] at this
      exact this
    have e2 : s.take (14 + len4 s) = s.take (6 + len4 s) ++ (s.drop (6 + len4 s)).take 8 := by
      rw [show 14 + len4 s = 6 + len4 s + 8 by omega, List.take_add]
    rw [e2]
    conv => rhs; rw [e1]
    rfl
theorem nxB_len {s : List UInt8} (h : nxE s = 0) : (nxB s).length ≤ 2000 := (pkE_zero (nx_pk h).1).2.1
theorem sc_le_of (q : Nat → UInt8 → Bool) (k n m : Nat) (s : List UInt8) (h : sc q k n s = 0) (hm : m ≤ n) : sc q k m s = 0 := by
  obtain ⟨j, rfl⟩ : ∃ j, n = m + j := ⟨n - m, by omega⟩
  rw [sc_add] at h
  split at h
  · assumption
  · rename_i hx; exact absurd h hx
theorem len4_take (s t : List UInt8) (c : Nat) (h : 6 ≤ c) (hs : c ≤ s.length) : len4 (s.take c ++ t) = len4 s := by
  unfold len4
  congr 1
  have : s.take 6 = (s.take c ++ t).take 6 := by rw [List.take_append_of_le_length (by simp; omega), List.take_take, Nat.min_eq_left h]
  have h2 : ∀ l : List UInt8, (l.drop 2).take 4 = (l.take 6).drop 2 := by intro l; rw [List.drop_take]
  rw [h2, h2, this]
/-- Of a text that is packed each beginning may go on. -/
theorem inv_cut {k : UInt8} {b : List UInt8} (h : pkE k b = 0) (c : Nat) (hc : c < 14 + b.length) (t : List UInt8) : ∃ L, Inv ((whole k b).take c ++ t) c L ∧ c < 14 + L := by
  obtain ⟨h1, h2, h3⟩ := pkE_zero h
  have hw := whole_length k b
  have w1 := whole_head (b := b) [] h1
  have w2 := whole_body (k := k) [] h3
  have w3 := whole_len4 k b [] h2
  rw [List.append_nil] at w1 w2 w3
  have hl : ((whole k b).take c).length = c := by rw [List.length_take]; omega
  by_cases h5 : c ≤ 5
  · refine ⟨0, Or.inl ⟨h5, rfl, ?_⟩, by omega⟩
    rw [sc_take _ _ _ _ _ (by omega)]
    rw [← sc_take head 0 c _ ((whole k b).drop c) (by omega), List.take_append_drop]
    exact sc_le_of _ _ _ _ _ w1 (by omega)
  · refine ⟨b.length, Or.inr ⟨by omega, by omega, ?_, h2, ?_, ?_⟩, hc⟩
    · rw [len4_take _ _ _ (by omega) (by omega), w3]
    · rw [sc_take _ _ _ _ _ (by omega)]
      rw [← sc_take head 0 6 _ ((whole k b).drop c) (by omega), List.take_append_drop]
      exact w1
    · have e : ∀ x : List UInt8, ((whole k b).take c ++ x).drop 6 = ((whole k b).take c).drop 6 ++ x := fun x => List.drop_append_of_le_length (by omega)
      rw [e, sc_take _ _ _ _ _ (by rw [List.length_drop]; omega)]
      rw [← sc_take (body b.length) 6 (c - 6) _ ((whole k b).drop c) (by rw [List.length_drop]; omega), ← e, List.take_append_drop]
      exact sc_le_of _ _ _ _ _ w2 (by omega)
theorem cut_short {k : UInt8} {b : List UInt8} (h : pkE k b = 0) (c : Nat) (hc : c < 14 + b.length) : nxE ((whole k b).take c) = 43 := by
  obtain ⟨L, h1, h2⟩ := inv_cut h c hc []
  rw [List.append_nil] at h1
  exact inv_short h1 (by rw [List.length_take]; omega) h2
theorem zero_not (c L : Nat) : mayB c L 0 = false := by
  unfold mayB
  split
  · rfl
  · split
    · rfl
    · split <;> rfl
theorem cut_zero {k : UInt8} {b : List UInt8} (h : pkE k b = 0) (c : Nat) (hc : c < 14 + b.length) (t : List UInt8) : nxE ((whole k b).take c ++ 0 :: t) = 44 := by
  obtain ⟨L, h1, h2⟩ := inv_cut h c hc (0 :: t)
  have hw := whole_length k b
  have hl : ((whole k b).take c).length = c := by rw [List.length_take]; omega
  refine inv_bad h1 (by rw [List.length_append, hl]; simp) h2 ?_
  rw [List.getElem_append_right (by omega)]
  simp only [hl, Nat.sub_self, List.getElem_cons_zero]
  exact zero_not c L
theorem not_mark_dig {c : UInt8} (h : isDig c = true) : c ≠ 254 := by rintro rfl; exact absurd h (by decide)
theorem not_mark_plain {c : UInt8} (h : isPlain c = true) : c ≠ 254 := by rintro rfl; exact absurd h (by decide)
theorem not_mark_kind {c : UInt8} (h : isKind c = true) : c ≠ 254 := by rintro rfl; exact absurd h (by decide)
theorem whole_tail {k : UInt8} {b : List UInt8} (h : pkE k b = 0) : ∀ c ∈ (whole k b).drop 1, c ≠ 254 := by
  obtain ⟨h1, h2, h3⟩ := pkE_zero h
  intro c hc
  have : c ∈ inner k b ++ hex 8 (smm (inner k b)) := hc
  rw [List.mem_append, inner, List.mem_cons, List.mem_append] at this
  rcases this with (rfl | h | h) | h
  · exact not_mark_kind h1
  · exact not_mark_dig (hex_dig _ _ c h)
  · exact not_mark_plain (List.all_eq_true.1 h3 c h)
  · exact not_mark_dig (hex_dig _ _ c h)
theorem count_none (l : List UInt8) (h : ∀ c ∈ l, c ≠ 254) : l.countP (fun c => decide (c = 254)) = 0 := by
  rw [List.countP_eq_zero]
  intro a ha
  simpa using h a ha
theorem whole_count {k : UInt8} {b : List UInt8} (h : pkE k b = 0) : (whole k b).countP (fun c => decide (c = 254)) = 1 := by
  have h1 : (whole k b) = 254 :: (whole k b).drop 1 := rfl
  rw [h1, List.countP_cons, count_none _ (whole_tail h)]
  rfl
end Go.Proofs.Ytidnoeahmnfodaa
