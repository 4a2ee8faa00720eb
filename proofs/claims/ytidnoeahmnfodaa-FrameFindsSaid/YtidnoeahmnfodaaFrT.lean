/- Plain laws on frames, one behind the other. -/
import Derived.Test.YtidnoeahmnfodaaFrS
namespace Go.Proofs.Ytidnoeahmnfodaa
open Go.RowKit CrcM FrM

def wh1 (f : Fr) : List UInt8 := whole f.1 f.2.data.toList
def okF (f : Fr) : Prop := pkE f.1 f.2.data.toList = 0
def catL (l : List Fr) : List UInt8 := l.flatMap wh1
def En (l : List Fr) (j : Nat) : Nat := (catL (l.take j)).length
theorem catL_cons (f : Fr) (l : List Fr) : catL (f :: l) = wh1 f ++ catL l := rfl
theorem catL_append (l m : List Fr) : catL (l ++ m) = catL l ++ catL m := by unfold catL; rw [List.flatMap_append]
theorem catL_snoc (l : List Fr) (j : Nat) (h : j < l.length) : catL (l.take (j + 1)) = catL (l.take j) ++ wh1 l[j] := by
  rw [frC_take l j h, catL_append]
  show _ ++ (wh1 l[j] ++ []) = _
  rw [List.append_nil]
theorem En_zero (l : List Fr) : En l 0 = 0 := rfl
theorem En_next (l : List Fr) (j : Nat) (h : j < l.length) : En l (j + 1) = En l j + (wh1 l[j]).length := by unfold En; rw [catL_snoc l j h, List.length_append]
theorem wh1_length (f : Fr) : (wh1 f).length = 14 + f.2.data.toList.length := whole_length _ _
theorem En_all (l : List Fr) : En l l.length = (catL l).length := by unfold En; rw [List.take_length]
theorem En_le (l : List Fr) (j : Nat) : En l j ≤ (catL l).length := by
  unfold En
  conv => rhs; rw [← List.take_append_drop j l, catL_append, List.length_append]
  omega
theorem catL_drop (l : List Fr) (j : Nat) (h : j < l.length) : (catL l).drop (En l j) = wh1 l[j] ++ catL (l.drop (j + 1)) := by
  have e : catL l = catL (l.take j) ++ (wh1 l[j] ++ catL (l.drop (j + 1))) := by
    conv => lhs; rw [← List.take_append_drop j l, catL_append, List.drop_eq_getElem_cons h, catL_cons]
  rw [e]
  exact List.drop_left
/-- What lies behind the j-th frame's beginning, of a text that is cut off behind that frame's end. -/
theorem cut_drop (l : List Fr) (j c : Nat) (h : j < l.length) (hc : En l (j + 1) ≤ c) : ∃ t, ((catL l).take c).drop (En l j) = wh1 l[j] ++ t := by
  rw [List.drop_take, catL_drop l j h, List.take_append]
  rw [En_next l j h] at hc
  rw [List.take_of_length_le (by omega)]
  exact ⟨_, rfl⟩
theorem cut_drop_short (l : List Fr) (j c : Nat) (h : j < l.length) (hc : c < En l (j + 1)) : ((catL l).take c).drop (En l j) = (wh1 l[j]).take (c - En l j) := by
  rw [List.drop_take, catL_drop l j h]
  rw [En_next l j h] at hc
  exact List.take_append_of_le_length (by omega)
theorem nxE_nil : nxE [] = 43 := by decide +kernel
theorem nxE_not_mark (c : UInt8) (t : List UInt8) (h : c ≠ 254) : nxE (c :: t) ≠ 0 := by
  have e : sc head 0 6 (c :: t) = 44 := by
    show (if head 0 c = true then _ else 44) = 44
    rw [if_neg]
    unfold head isMark
    rw [if_pos rfl]
    intro h2
    apply h
    apply UInt8.toNat_inj.1
    simpa using h2
  rw [nxE_head _ (by omega), e]
  omega
/-- At a frame that is whole, it is read. -/
theorem at_frame {s : ByteArray} {f : Fr} {a : Nat} {t : List UInt8} (hf : okF f) (h : s.data.toList.drop a = wh1 f ++ t) : errAt s a = 0 ∧ frAt s a = f ∧ lenAt s a = (wh1 f).length := by
  obtain ⟨h1, h2, h3, h4⟩ := pk_nx t hf
  have e : (s.extract a s.size).data.toList = wh1 f ++ t := by rw [extract_rest, h]
  refine ⟨?_, ?_, ?_⟩
  · unfold errAt; rw [e]; exact h1
  · unfold frAt
    have hb : nxBb (s.extract a s.size) = f.2 := ba_ext (by rw [nxBb_list, e]; exact h3)
    rw [hb, e]
    show (nxK (wh1 f ++ t), f.2) = f
    rw [show nxK (wh1 f ++ t) = f.1 from h2]
  · unfold lenAt; rw [e, wh1_length]; exact h4
/-- Where a torn one begins, or nothing, nothing is read. -/
theorem at_torn {s : ByteArray} {f : Fr} {a c : Nat} (hf : okF f) (hc : c < (wh1 f).length) (h : s.data.toList.drop a = (wh1 f).take c) : errAt s a ≠ 0 := by
  rw [errAt_list, h]
  rw [wh1_length] at hc
  have := cut_short hf c hc
  show nxE ((whole f.1 f.2.data.toList).take c) ≠ 0
  omega
theorem at_end {s : ByteArray} {a : Nat} (h : s.size ≤ a) : errAt s a ≠ 0 := by
  rw [errAt_list, List.drop_of_length_le (by rw [← size_list]; exact h), nxE_nil]
  omega
/-- The number of frames that end within the cut. -/
structure Cut (l : List Fr) (k c wh : Nat) : Prop where
  le : wh ≤ k
  fits : En l wh ≤ c
  more : wh = k ∨ c < En l (wh + 1)
theorem Cut.zero (l : List Fr) (c : Nat) : Cut l 0 c 0 := ⟨Nat.le_refl _, by rw [En_zero]; omega, Or.inl rfl⟩
theorem Cut.yes {l : List Fr} {k c wh : Nat} (_h : Cut l k c wh) (hc : En l (k + 1) ≤ c) : Cut l (k + 1) c (k + 1) := ⟨Nat.le_refl _, hc, Or.inl rfl⟩
theorem Cut.no {l : List Fr} {k c wh : Nat} (h : Cut l k c wh) (hc : c < En l (k + 1)) : Cut l (k + 1) c wh := by
  obtain ⟨h1, h2, h3⟩ := h
  refine ⟨by omega, h2, ?_⟩
  rcases h3 with rfl | h3
  · exact Or.inr hc
  · exact Or.inr h3
theorem En_mono (l : List Fr) (i j : Nat) (h : i ≤ j) : En l i ≤ En l j := by
  have := En_le (l.take j) i
  unfold En at *
  rw [List.take_take, Nat.min_eq_left h] at this
  exact this
theorem cut_err {l : List Fr} (hok : ∀ f ∈ l, okF f) {s : ByteArray} {c wh : Nat} (hc : Cut l l.length c wh) (hcs : c ≤ (catL l).length) (hs : s.data.toList = (catL l).take c) : errAt s (En l wh) ≠ 0 := by
  have hsz : s.size = c := by rw [size_list, hs, List.length_take]; omega
  rcases hc.more with h | h
  · apply at_end
    rw [hsz]
    subst h
    rw [En_all]
    exact hcs
  · by_cases hw : wh < l.length
    · refine at_torn (hok _ (List.getElem_mem hw)) (c := c - En l wh) ?_ (by rw [hs]; exact cut_drop_short l wh c hw h)
      have := En_next l wh hw
      have := hc.fits
      omega
    · have : wh = l.length := by have := hc.le; omega
      apply at_end
      rw [hsz]
      subst this
      rw [En_all]
      exact hcs
theorem cut_steps {l : List Fr} (hok : ∀ f ∈ l, okF f) {s : ByteArray} {c wh : Nat} (hc : Cut l l.length c wh) (hs : s.data.toList = (catL l).take c) (j : Nat) (hj : j ≤ wh) : StepTo s j (En l j) (l.take j) := by
  induction j with
  | zero => exact StepTo.zero s
  | succ j ih =>
    have hjl : j < l.length := by have := hc.le; omega
    have h1 := ih (by omega)
    have hE : En l (j + 1) ≤ c := Nat.le_trans (En_mono l (j + 1) wh hj) hc.fits
    obtain ⟨t, ht⟩ := cut_drop l j c hjl hE
    obtain ⟨a1, a2, a3⟩ := at_frame (s := s) (hok _ (List.getElem_mem hjl)) (by rw [hs]; exact ht)
    have := h1.next a1
    rw [a2, a3, ← En_next l j hjl, ← frC_take l j hjl] at this
    exact this
/-- Scan tells just those that are whole. -/
theorem torn_scan {l : List Fr} (hok : ∀ f ∈ l, okF f) {s : ByteArray} {c wh : Nat} (hc : Cut l l.length c wh) (hcs : c ≤ (catL l).length) (hs : s.data.toList = (catL l).take c)
    {k A : Nat} {m : List Fr} (h : StepTo s k A m) (he : errAt s A ≠ 0) : A = En l wh ∧ m = l.take wh :=
  h.unique he (cut_steps hok hc hs wh (Nat.le_refl _)) (cut_err hok hc hcs hs)
theorem fnd_skip (s : ByteArray) (a n : Nat) (h : ∀ i, i < n → errAt s (a + i) ≠ 0) : fnd s (a + n) = fnd s a := by
  induction n with
  | zero => rfl
  | succ n ih =>
    have e : fnd s (a + (n + 1)) = if errAt s (a + n) = 0 then fnd s (a + n) ++ [frAt s (a + n)] else fnd s (a + n) := rfl
    rw [e, if_neg (h n (by omega)), ih (fun i hi => h i (by omega))]
theorem errAt_byte (s : ByteArray) (a : Nat) (c : UInt8) (t : List UInt8) (h : s.data.toList.drop a = c :: t) (hc : c ≠ 254) : errAt s a ≠ 0 := by rw [errAt_list, h]; exact nxE_not_mark c t hc
/-- Within a frame, behind its Mark, none begins. -/
theorem within {s : ByteArray} {f : Fr} {a : Nat} {t x : List UInt8} (hf : okF f) (hx : s.data.toList.drop a = x ++ t) (hp : ∃ n, x = (wh1 f).take n) (i : Nat) (h0 : 0 < i) (hi : i < x.length) : errAt s (a + i) ≠ 0 := by
  have hd : s.data.toList.drop (a + i) = x[i] :: (x.drop (i + 1) ++ t) := by
    rw [← List.drop_drop, hx, List.drop_append_of_le_length (by omega), List.drop_eq_getElem_cons hi]
    rfl
  refine errAt_byte s _ _ _ hd ?_
  obtain ⟨n, rfl⟩ := hp
  rw [List.getElem_take]
  have hiw : i < (wh1 f).length := by rw [List.length_take] at hi; omega
  refine whole_tail hf _ ?_
  have : (wh1 f)[i] = ((wh1 f).drop 1)[i - 1]'(by rw [List.length_drop]; omega) := by
    rw [List.getElem_drop]
    simp only [show 1 + (i - 1) = i by omega]
  rw [this]
  exact List.getElem_mem _
theorem torn_find {l : List Fr} (hok : ∀ f ∈ l, okF f) {s : ByteArray} {c wh : Nat} (hc : Cut l l.length c wh) (hcs : c ≤ (catL l).length) (hs : s.data.toList = (catL l).take c) : fnd s s.size = l.take wh := by
  have hsz : s.size = c := by rw [size_list, hs, List.length_take]; omega
  have steps : ∀ j, j ≤ wh → fnd s (En l j) = l.take j := by
    intro j
    induction j with
    | zero => intro _; rfl
    | succ j ih =>
      intro hj
      have hjl : j < l.length := by have := hc.le; omega
      have hE : En l (j + 1) ≤ c := Nat.le_trans (En_mono l (j + 1) wh hj) hc.fits
      obtain ⟨t, ht⟩ := cut_drop l j c hjl hE
      rw [← hs] at ht
      have hf := hok _ (List.getElem_mem hjl)
      obtain ⟨a1, a2, a3⟩ := at_frame (s := s) hf ht
      have hl := wh1_length l[j]
      rw [En_next l j hjl, show En l j + (wh1 l[j]).length = (En l j + 1) + ((wh1 l[j]).length - 1) by omega, fnd_skip]
      · show (if errAt s (En l j) = 0 then _ else _) = _
        rw [if_pos a1, a2, ih (by omega), ← frC_take l j hjl]
      · intro i hi
        rw [show En l j + 1 + i = En l j + (1 + i) by omega]
        exact within hf ht ⟨_, List.take_length.symm⟩ (1 + i) (by omega) (by omega)
  have hend := cut_err hok hc hcs hs
  have hfit := hc.fits
  rw [hsz, show c = En l wh + (c - En l wh) by omega, fnd_skip, steps wh (Nat.le_refl _)]
  intro i hi
  by_cases h0 : i = 0
  · subst h0; exact hend
  · rcases hc.more with h | h
    · exfalso
      subst h
      rw [En_all] at hi
      omega
    · by_cases hw : wh < l.length
      · have hd := cut_drop_short l wh c hw h
        rw [← hs] at hd
        have hn := En_next l wh hw
        refine within (t := []) (x := (wh1 l[wh]).take (c - En l wh)) (hok _ (List.getElem_mem hw)) (by rw [List.append_nil]; exact hd) ⟨_, rfl⟩ i (by omega) ?_
        rw [List.length_take]
        omega
      · exfalso
        have : wh = l.length := by have := hc.le; omega
        subst this
        rw [En_all] at hi
        omega
/-- One text, one row of frames. -/
theorem catL_inj {l m : List Fr} (hl : ∀ f ∈ l, okF f) (hm : ∀ f ∈ m, okF f) (h : catL l = catL m) : l = m := by
  induction l generalizing m with
  | nil =>
    cases m with
    | nil => rfl
    | cons g m =>
      have := congrArg List.length h
      rw [catL_cons, List.length_append, wh1_length] at this
      simp [catL] at this <;> omega
  | cons f l ih =>
    cases m with
    | nil =>
      have := congrArg List.length h
      rw [catL_cons, List.length_append, wh1_length] at this
      simp [catL] at this <;> omega
    | cons g m =>
      rw [catL_cons, catL_cons] at h
      obtain ⟨_, a2, a3, a4⟩ := pk_nx (catL l) (hl f (List.mem_cons_self ..))
      obtain ⟨_, b2, b3, b4⟩ := pk_nx (catL m) (hm g (List.mem_cons_self ..))
      have h' : whole f.1 f.2.data.toList ++ catL l = whole g.1 g.2.data.toList ++ catL m := h
      rw [h'] at a2 a3 a4
      have e1 : f.1 = g.1 := a2.symm.trans b2
      have e2 : f.2 = g.2 := ba_ext (a3.symm.trans b3)
      have e : f = g := Prod.ext e1 e2
      subst e
      rw [ih (fun x hx => hl x (List.mem_cons_of_mem _ hx)) (fun x hx => hm x (List.mem_cons_of_mem _ hx)) (List.append_cancel_left h)]
end Go.Proofs.Ytidnoeahmnfodaa
