/- The laws of names, and of the number behind all: the plain side. -/
import Derived.Test.YtefknfbmphdafaaGreatSgH
namespace Go.Proofs.YtefknfbmphdafaaGreat
namespace SgM
open Go Go.RowKit CrcM FrM
open Ds (Blk)

theorem mem_segs {L : List Sg} {o : Option Sg} {s : Sg} : s ∈ segsL L o ↔ s ∈ L ∧ segF o s = true := by unfold segsL; rw [List.mem_filter]
theorem segs_up {L : List Sg} (h : Up L) (o : Option Sg) : Up (segsL L o) := List.Pairwise.filter _ h
theorem segs_ge {L : List Sg} {t s : Sg} (h : s ∈ segsL L (some t)) : t.n ≤ s.n := by
  have h2 := (mem_segs.1 h).2
  unfold segF geS at h2
  rw [Bool.and_eq_true, Bool.and_eq_true, decide_eq_true_eq] at h2
  exact h2.2.2
theorem segs_len (L : List Sg) (o : Option Sg) : (segsL L o).length ≤ L.length := List.length_filter_le _ _
theorem nxt_gt {has : Bool} {n0 : Int} {l : List Sg} {s : Sg} (h : s ∈ l) : s.n < nxt has n0 l := by
  unfold nxt; exact (max_fold l _).2 s h
theorem nxt_ge (has : Bool) (n0 : Int) (l : List Sg) : (if has = true ∧ l = [] then n0 else 0) ≤ nxt has n0 l := by
  unfold nxt; exact (max_fold l _).1
theorem nxt_up {n : Int} {l : List Sg} (h : ∀ s ∈ l, okS s = true) : ∀ n0 : Int, n0 ≤ n → 4294967296 ≤ n → l.foldl (fun n s => max n (s.n + 1)) n0 ≤ n := by
  induction l with
  | nil => intro n0 h0 _; exact h0
  | cons g r ih =>
    intro n0 h0 hn
    rw [List.foldl_cons]
    have := (okS_iff.1 (h g (by simp))).2
    exact ih (fun s hs => h s (by simp [hs])) _ (by omega) hn
theorem nm_ne {a b : Sg} (ha : okS a = true) (h : a.n ≠ b.n) : nmB a ≠ nmB b := by
  intro e
  have e2 : nmL a = nmL b := by rw [← nmB_list, ← nmB_list, e]
  cases hb : okS b with
  | true => exact h (by rw [nm_inj ha hb e2])
  | false => rw [nm_no hb, nm_ok ha] at e2; cases e2
theorem cmp_lt {a b : Sg} (h : lt a b = true) : cmpS a b = -1 := by unfold cmpS; rw [if_pos h]
/-- What the law of the number behind all wants of a layout. -/
structure FreshOk (o : Option Sg) (l : List Sg) : Prop where
  ok : ∀ x ∈ l, okS x = true
  up : ∀ k (h : k + 1 < l.length), cmpS l[k] l[k + 1] = -1
  ge : ∀ t, o = some t → ∀ x ∈ l, t.n ≤ x.n
  snap : ∀ t, o = some t → 0 ≤ t.n ∧ t.n ≤ 4294967295
theorem fresh_of {L : List Sg} (hu : Up L) (hok : ∀ x ∈ L, okS x = true) : FreshOk (snp L) (segsL L (snp L)) := by
  refine ⟨fun x hx => hok x (mem_segs.1 hx).1, fun k h => ?_, fun t ht x hx => segs_ge (by rw [ht] at hx; exact hx), fun t ht => ?_⟩
  · exact cmp_lt (List.pairwise_iff_getElem.1 (segs_up hu (snp L)) k (k + 1) (by omega) h (by omega))
  · have h1 := snp_top L hu
    rw [ht] at h1
    have := (okS_iff.1 (hok t h1.1)).2
    omega
theorem fresh_n {o : Option Sg} {l : List Sg} (h : FreshOk o l) : 0 ≤ nxt o.isSome (o.getD zS).n l ∧ nxt o.isSome (o.getD zS).n l ≤ 4294967296 := by
  have h0 : 0 ≤ (if o.isSome = true ∧ l = [] then (o.getD zS).n else 0) ∧ (if o.isSome = true ∧ l = [] then (o.getD zS).n else 0) ≤ 4294967296 := by
    split
    · rename_i h1
      cases o with
      | none => cases h1.1
      | some t => have := h.snap t rfl; show 0 ≤ t.n ∧ t.n ≤ 4294967296; omega
    · omega
  refine ⟨Int.le_trans h0.1 (nxt_ge _ _ _), ?_⟩
  unfold nxt
  exact nxt_up h.ok _ h0.2 (Int.le_refl _)
theorem fresh_snap {t : Sg} {l : List Sg} (h : FreshOk (some t) l) : t.n ≤ nxt true t.n l := by
  cases l with
  | nil => exact Int.le_refl _
  | cons g r =>
    have h1 := h.ge t rfl g (by simp)
    have h2 : g.n < nxt true t.n (g :: r) := nxt_gt (by simp)
    omega

/-! ### the law of names -/
def nmC (a b : Sg) : Int := if lt b a = true then 1 else if lt a b = true then -1 else 0
theorem nmC_eq (a b : Sg) : nmC a b = cmpS a b := by
  unfold nmC cmpS
  by_cases h1 : lt b a = true
  · rw [if_pos h1, if_neg (by rw [lt_asym h1]; decide), if_pos h1]
  · rw [if_neg h1]
    by_cases h2 : lt a b = true
    · rw [if_pos h2, if_pos h2]
    · rw [if_neg h2, if_neg h2, if_neg h1]
theorem nm_back (s : Sg) : ofB (nmB s).data.toList = okS s := by
  rw [nmB_list]
  cases h : okS s with
  | true => exact (of_nm h).1
  | false => rw [nm_no h]; rfl
theorem nm_back2 {s : Sg} (h : okS s = true) : ofS (nmB s).data.toList = s := by rw [nmB_list]; exact (of_nm h).2
theorem nm_size (s : Sg) : (nmB s).size = if okS s = true then 9 else 0 := by
  rw [size_list, nmB_list]
  cases h : okS s with
  | true => rw [if_pos rfl, nm_len h]
  | false => rw [if_neg (by decide), nm_no h]; rfl
theorem nm_name {s : ByteArray} (h : ofB s.data.toList = true) : nmB (ofS s.data.toList) = s := ba_ext (by rw [nmB_list]; exact (nm_of h).2)
end SgM
end Go.Proofs.YtefknfbmphdafaaGreat
