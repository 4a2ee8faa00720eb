/- Plain laws of a crash; a slice of numbers in memory. -/
import Derived.Test.YtgkphogefpmeaaaDkI
namespace Go.Proofs.Ytgkphogefpmeaaa
open Go.RowKit Go.Maps DkM

/-- How many loose bytes are kept. -/
def clK (n : Nat) (x : Int) : Nat := min x.toNat n
def crO (f : Fl) (x : Int) : Fl := ⟨f.n, f.s ++ f.l.extract 0 (clK f.l.size x), nul⟩
def crF : List Fl → List Int → List Fl
  | [], _ => []
  | f :: r, ks => if f.l.size = 0 then f :: crF r ks else crO f (ks.headD 0) :: crF r ks.tail
theorem crF_len (L : List Fl) (ks : List Int) : (crF L ks).length = L.length := by
  induction L generalizing ks with
  | nil => rfl
  | cons f r ih =>
    unfold crF
    split <;> simp [ih]
def doCr (S : Dk) (ks : List Int) : Dk := { S with L := crF S.L ks, used := (usd (crF S.L ks) : Nat), down := false, fuse := -1 }
theorem ext_sz (x : ByteArray) (m : Nat) (h : m ≤ x.size) : (x.extract 0 m).size = m := by rw [ext_size]; omega
theorem crO_size (f : Fl) (x : Int) : (crO f x).s.size + (crO f x).l.size = f.s.size + clK f.l.size x := by
  unfold crO
  simp only [app_size]
  rw [ext_sz _ _ (by unfold clK; omega)]
  rfl
theorem usd_app (A B : List Fl) : usd (A ++ B) = usd A + usd B := by
  induction A with
  | nil => simp [usd]
  | cons f r ih => simp only [List.cons_append, usd, ih]; omega
theorem cut_app (a b : ByteArray) (m : Nat) : (a ++ b).extract 0 (a.size + m) = a ++ b.extract 0 m := by
  refine ba_ext ?_
  rw [ext_list, app_list, app_list, ext_list]
  simp only [List.drop_zero]
  rw [sz_list, List.take_append, List.take_of_length_le (by omega)]
  simp

theorem file_cr {f : Fl} {x : Int} {m : Nat} (hm : m = clK f.l.size x) : (Value.agg #[.string ((f.s ++ f.l).extract 0 (f.s.size + m)), .int .i64 ((f.s.size : Nat) + (m : Nat))]) = fileV (crO f x) := by
  have hml : m ≤ f.l.size := by rw [hm]; unfold clK; omega
  unfold fileV crO
  simp only [app_nul, app_size]
  rw [← hm, ext_sz _ _ hml, cut_app]
  rfl
theorem file_cr0 {f : Fl} : (Value.agg #[.string ((f.s ++ f.l).extract 0 f.s.size), .int .i64 (f.s.size : Nat)]) = fileV (crO f 0) :=
  file_cr (m := 0) (by unfold clK; simp)
/-- A slice of numbers, in block kb. -/
def IntsAt (w : World) (kb : Nat) (ks : List Int) (v : Value) : Prop :=
  ∃ A cap, v = .slice A ks.length cap ∧ ks.length ≤ cap ∧ (0 < ks.length → ∃ ko, A = some ⟨kb, ko, none⟩ ∧ ∀ k (h : k < ks.length), w.cell? ⟨kb, ko + k, none⟩ = some (.int .i64 ks[k]))
theorem IntsAt.none_ (w : World) (kb : Nat) (A : Option Addr) (cap : Nat) : IntsAt w kb [] (.slice A 0 cap) := ⟨A, cap, rfl, Nat.zero_le _, fun h => absurd h (by simp)⟩
theorem IntsAt.keep {w w' : World} {kb : Nat} {ks : List Int} {v : Value} (h : IntsAt w kb ks v) (hk : 0 < ks.length → w'.heap[kb]? = w.heap[kb]?) : IntsAt w' kb ks v := by
  obtain ⟨A, cap, h1, h2, h3⟩ := h
  refine ⟨A, cap, h1, h2, fun hl => ?_⟩
  obtain ⟨ko, e, hc⟩ := h3 hl
  exact ⟨ko, e, fun k hk' => (World.cell?_of_block (w := w) (hk hl)).trans (hc k hk')⟩
theorem IntsAt.tail {w : World} {kb ko cap : Nat} {x : Int} {ks : List Int} (hl : (x :: ks).length ≤ cap) (hc : ∀ k (h : k < (x :: ks).length), w.cell? ⟨kb, ko + k, none⟩ = some (.int .i64 (x :: ks)[k])) (A : Option Addr) (hA : 1 < cap → A = some ⟨kb, ko + 1, none⟩) :
    IntsAt w kb ks (.slice A ks.length (cap - 1)) := by
  refine ⟨A, cap - 1, rfl, by simp at hl; omega, fun h => ⟨ko + 1, hA (by simp at hl; omega), fun k hk => ?_⟩⟩
  have := hc (k + 1) (by simp; omega)
  rw [show ko + (k + 1) = ko + 1 + k by omega] at this
  simpa using this

/-- Between two files of a crash. -/
structure CrAt (L0 : List Fl) (ks0 : List Int) (j : Nat) (A : List Fl) (ks : List Int) : Prop where
  eq : crF L0 ks0 = A ++ crF (L0.drop j) ks
  len : A.length = j
  rise : Rise (A ++ L0.drop j)
  less : usd (A ++ L0.drop j) ≤ usd L0
theorem CrAt.start {L0 : List Fl} {ks0 : List Int} (h : Rise L0) : CrAt L0 ks0 0 [] ks0 := ⟨rfl, rfl, h, Nat.le_refl _⟩
theorem CrAt.skip {L0 : List Fl} {ks0 : List Int} {j : Nat} {A : List Fl} {ks : List Int} (h : CrAt L0 ks0 j A ks) (hj : j < L0.length) (h0 : L0[j].l.size = 0) : CrAt L0 ks0 (j + 1) (A ++ [L0[j]]) ks := by
  obtain ⟨h1, h2, h3, h4⟩ := h
  rw [List.drop_eq_getElem_cons hj] at h1 h3 h4
  refine ⟨?_, by simp [h2], by simpa using h3, by simpa using h4⟩
  rw [h1]
  have e : crF (L0[j] :: L0.drop (j + 1)) ks = L0[j] :: crF (L0.drop (j + 1)) ks := by
    show (if L0[j].l.size = 0 then _ else _) = _
    rw [if_pos h0]
  rw [e]; simp
theorem CrAt.next {L0 : List Fl} {ks0 : List Int} {j : Nat} {A : List Fl} {ks : List Int} (h : CrAt L0 ks0 j A ks) (hj : j < L0.length) (h0 : L0[j].l.size ≠ 0) : CrAt L0 ks0 (j + 1) (A ++ [crO L0[j] (ks.headD 0)]) ks.tail ∧ putF (A ++ L0.drop j) (crO L0[j] (ks.headD 0)) = (A ++ [crO L0[j] (ks.headD 0)]) ++ L0.drop (j + 1) ∧
      usd ((A ++ [crO L0[j] (ks.headD 0)]) ++ L0.drop (j + 1)) + L0[j].l.size = usd (A ++ L0.drop j) + clK L0[j].l.size (ks.headD 0) := by
  obtain ⟨h1, h2, h3, h4⟩ := h
  rw [List.drop_eq_getElem_cons hj] at h1 h3 h4 ⊢
  have hp := put_at (g := crO L0[j] (ks.headD 0)) h3 rfl
  have hR := Rise.put h3 (crO L0[j] (ks.headD 0))
  rw [hp] at hR
  have hz := crO_size L0[j] (ks.headD 0)
  have hm : clK L0[j].l.size (ks.headD 0) ≤ L0[j].l.size := by unfold clK; omega
  have hu : usd ((A ++ [crO L0[j] (ks.headD 0)]) ++ L0.drop (j + 1)) + L0[j].l.size = usd (A ++ L0[j] :: L0.drop (j + 1)) + clK L0[j].l.size (ks.headD 0) := by
    rw [usd_app, usd_app, usd_app]
    simp only [usd]
    omega
  refine ⟨⟨?_, by simp [h2], by simpa using hR, by omega⟩, by rw [hp]; simp, hu⟩
  rw [h1]
  have e : crF (L0[j] :: L0.drop (j + 1)) ks = crO L0[j] (ks.headD 0) :: crF (L0.drop (j + 1)) ks.tail := by
    show (if L0[j].l.size = 0 then _ else _) = _
    rw [if_neg h0]
  rw [e]; simp
theorem CrAt.look {L0 : List Fl} {ks0 : List Int} {j : Nat} {A : List Fl} {ks : List Int} (h : CrAt L0 ks0 j A ks) (hj : j < L0.length) : lkF (A ++ L0.drop j) L0[j].n = some L0[j] := by
  have h3 := h.rise
  rw [List.drop_eq_getElem_cons hj] at h3 ⊢
  exact lkF_mem h3 (List.mem_append_right _ (List.mem_cons_self))
theorem CrAt.done {L0 : List Fl} {ks0 : List Int} {j : Nat} {A : List Fl} {ks : List Int} (h : CrAt L0 ks0 j A ks) (hj : j = L0.length) : A ++ L0.drop j = crF L0 ks0 := by
  rw [h.eq, hj, List.drop_length]; rfl
theorem CrAt.lenL {L0 : List Fl} {ks0 : List Int} {j : Nat} {A : List Fl} {ks : List Int} (h : CrAt L0 ks0 j A ks) (hj : j ≤ L0.length) : (A ++ L0.drop j).length = L0.length := by
  rw [List.length_append, h.len, List.length_drop]; omega
end Go.Proofs.Ytgkphogefpmeaaa
