/- The law of the layout: the plain side. -/
import Derived.Test.YtefknfbmphdafaaGreatSgN
namespace Go.Proofs.YtefknfbmphdafaaGreat
namespace SgM
open Go Go.RowKit CrcM FrM
open Ds (Blk)

def putN (s : List UInt8) : List (List UInt8) → List (List UInt8)
  | [] => [s]
  | g :: r => if bytesBefore s g = true then s :: g :: r else if bytesBefore g s = true then g :: putN s r else g :: r
theorem bb_ne {a b : List UInt8} (h : bytesBefore a b = true) : a ≠ b := fun e => by rw [e, bb_irr] at h; cases h
theorem putN_perm {s : List UInt8} : ∀ {T : List (List UInt8)}, s ∉ T → (putN s T).Perm (s :: T)
  | [], _ => List.Perm.refl _
  | g :: r, h => by
    unfold putN
    by_cases h1 : bytesBefore s g = true
    · rw [if_pos h1]
    · rw [if_neg h1]
      by_cases h2 : bytesBefore g s = true
      · rw [if_pos h2]
        exact (List.Perm.cons g (putN_perm (fun hh => h (List.mem_cons_of_mem _ hh)))).trans (List.Perm.swap s g r)
      · exfalso
        have hne : s ≠ g := fun e => h (by rw [e]; simp)
        rcases WideAt.bytes_total s g hne with h3 | h3
        · exact h1 h3
        · exact h2 h3
theorem mem_putN {s x : List UInt8} : ∀ {T : List (List UInt8)}, x ∈ putN s T → x = s ∨ x ∈ T
  | [], h => by simp [putN] at h; exact Or.inl h
  | g :: r, h => by
    unfold putN at h
    split at h
    · rcases List.mem_cons.1 h with h | h
      · exact Or.inl h
      · exact Or.inr h
    · split at h
      · rcases List.mem_cons.1 h with h | h
        · exact Or.inr (by rw [h]; simp)
        · rcases mem_putN h with h | h
          · exact Or.inl h
          · exact Or.inr (List.mem_cons_of_mem _ h)
      · exact Or.inr h
theorem upN_putN {s : List UInt8} : ∀ {T : List (List UInt8)}, UpN T → UpN (putN s T)
  | [], _ => by simp [putN, UpN]
  | g :: r, h => by
    obtain ⟨h1, h2⟩ := List.pairwise_cons.1 h
    unfold putN
    by_cases a1 : bytesBefore s g = true
    · rw [if_pos a1]
      refine List.pairwise_cons.2 ⟨fun x hx => ?_, h⟩
      rcases List.mem_cons.1 hx with rfl | hr
      · exact a1
      · exact WideShapes.bytes_trans _ _ _ a1 (h1 x hr)
    · rw [if_neg a1]
      by_cases a2 : bytesBefore g s = true
      · rw [if_pos a2]
        refine List.pairwise_cons.2 ⟨fun x hx => ?_, upN_putN h2⟩
        rcases mem_putN hx with rfl | hr
        · exact a2
        · exact h1 x hr
      · rw [if_neg a2]; exact h
def rTr (M : List (List UInt8)) : List (List UInt8) := M.foldl (fun T s => putN s T) []
theorem rTr_gen : ∀ (M T : List (List UInt8)), UpN T → (M ++ T).Nodup → UpN (M.foldl (fun T s => putN s T) T) ∧ (M.foldl (fun T s => putN s T) T).Perm (M ++ T)
  | [], T, h, _ => ⟨h, List.Perm.refl _⟩
  | s :: r, T, h, hn => by
    rw [List.cons_append] at hn
    obtain ⟨n1, n2⟩ := List.nodup_cons.1 hn
    have hs : s ∉ T := fun hh => n1 (List.mem_append_right _ hh)
    have hp := putN_perm hs
    have hp2 : (r ++ putN s T).Perm (s :: (r ++ T)) := (List.Perm.append_left r hp).trans List.perm_middle
    obtain ⟨h1, h2⟩ := rTr_gen r (putN s T) (upN_putN h) (hp2.nodup_iff.2 hn)
    exact ⟨h1, h2.trans hp2⟩
theorem rTr_snoc (M : List (List UInt8)) (s : List UInt8) : rTr (M ++ [s]) = putN s (rTr M) := by unfold rTr; rw [List.foldl_append]; rfl
theorem rTr_sort {M : List (List UInt8)} (h : M.Nodup) : M.mergeSort leB = rTr M := by
  obtain ⟨h1, h2⟩ := rTr_gen M [] List.Pairwise.nil (by rw [List.append_nil]; exact h)
  rw [List.append_nil] at h2
  have e2 : M.mergeSort leB = (rTr M).mergeSort leB := Go.mergeSort_of_perm h2.symm
  rw [e2]
  refine List.mergeSort_of_pairwise (h1.imp fun {a b} hab => ?_)
  unfold leB
  rw [decide_eq_true_eq]
  exact List.le_of_lt (Ds.DkM.bb_lt hab)
theorem trN_nodup {L : List Sg} (hu : Up L) (hok : ∀ x ∈ L, okS x = true) (o : Option Sg) : (trN L o).Nodup := by
  unfold trN List.Nodup
  rw [List.pairwise_map]
  refine List.Pairwise.imp_of_mem ?_ (List.Pairwise.filter (traF o) hu)
  intro a b ha hb hab e
  exact lt_ne hab (nm_inj (hok a (List.mem_filter.1 ha).1) (hok b (List.mem_filter.1 hb).1) e)
theorem trN_sort {L : List Sg} (hu : Up L) (hok : ∀ x ∈ L, okS x = true) (o : Option Sg) : (trN L o).mergeSort leB = rTr (trN L o) := rTr_sort (trN_nodup hu hok o)

/-! ### without the trash -/
def inT (T : List (List UInt8)) (s : ByteArray) : Bool := T.any fun t => t == s.data.toList
theorem inT_iff {T : List (List UInt8)} {s : ByteArray} : inT T s = true ↔ s.data.toList ∈ T := by
  unfold inT
  rw [List.any_eq_true]
  constructor
  · rintro ⟨t, ht, he⟩; rw [beq_iff_eq] at he; rw [← he]; exact ht
  · intro h; exact ⟨_, h, by simp⟩
def lefts (F : List ByteArray) (T : List (List UInt8)) : List ByteArray := F.filter fun s => !inT T s
theorem pk_mem {F : List ByteArray} {s : ByteArray} (h : s ∈ F) (hb : ofB s.data.toList = true) : ofS s.data.toList ∈ pkS F := by
  unfold pkS; exact List.mem_map.2 ⟨s, List.mem_filter.2 ⟨h, hb⟩, rfl⟩
theorem pk_lefts (F : List ByteArray) : pkS (lefts F ((trN (uq (pkS F)) (snp (uq (pkS F)))).mergeSort leB)) = (pkS F).filter fun s => !traF (snp (uq (pkS F))) s := by
  obtain ⟨o, ho⟩ : ∃ o, o = snp (uq (pkS F)) := ⟨_, rfl⟩
  rw [← ho]
  have key : ∀ s ∈ F, ofB s.data.toList = true → inT ((trN (uq (pkS F)) o).mergeSort leB) s = traF o (ofS s.data.toList) := by
    intro s hs hb
    rw [Bool.eq_iff_iff, inT_iff, List.mem_mergeSort]
    unfold trN trasL
    rw [List.mem_map]
    constructor
    · rintro ⟨x, hx, he⟩
      obtain ⟨h1, h2⟩ := List.mem_filter.1 hx
      have hok := pkS_ok (mem_uq.1 h1)
      rw [← he, (of_nm hok).2]
      exact h2
    · intro h
      exact ⟨_, List.mem_filter.2 ⟨mem_uq.2 (pk_mem hs hb), h⟩, (nm_of hb).2⟩
  generalize (trN (uq (pkS F)) o).mergeSort leB = TR at key ⊢
  unfold pkS lefts
  rw [List.filter_filter, List.filter_map, List.filter_filter]
  congr 1
  apply List.filter_congr
  intro s hs
  cases hb : ofB s.data.toList with
  | false => simp
  | true =>
    have := key s hs hb
    simp [this]
theorem kept_lefts (F : List ByteArray) : uq (pkS (lefts F ((trN (uq (pkS F)) (snp (uq (pkS F)))).mergeSort leB))) = kept (uq (pkS F)) := by
  refine up_ext (uq_up _) (List.Pairwise.filter _ (uq_up _)) fun x => ?_
  rw [mem_uq, pk_lefts]
  unfold kept
  rw [List.mem_filter, List.mem_filter, mem_uq]

/-! ### the document's way -/
theorem uq_snoc (l : List Sg) (s : Sg) : uq (l ++ [s]) = putS s (uq l) := by unfold uq; rw [List.foldl_append]; rfl
theorem segs_snoc (L : List Sg) (o : Option Sg) (x : Sg) : segsL (L ++ [x]) o = segsL L o ++ (if segF o x = true then [x] else []) := by
  unfold segsL; rw [List.filter_append]; congr 1
  by_cases h : segF o x = true
  · rw [if_pos h]; simp [h]
  · rw [if_neg h]; simp [h]
theorem trn_snoc (L : List Sg) (o : Option Sg) (x : Sg) : trN (L ++ [x]) o = trN L o ++ (if traF o x = true then [nmL x] else []) := by
  unfold trN trasL; rw [List.filter_append, List.map_append]; congr 1
  by_cases h : traF o x = true
  · rw [if_pos h]; simp [h]
  · rw [if_neg h]; simp [h]
theorem putS_len (s : Sg) : ∀ L : List Sg, (putS s L).length ≤ L.length + 1
  | [] => by simp [putS]
  | g :: r => by
    have ih := putS_len s r
    unfold putS
    split
    · simp
    · split
      · simp; exact ih
      · simp
theorem uq_len (l : List Sg) : (uq l).length ≤ l.length := by
  have : ∀ (l L : List Sg), (l.foldl (fun L s => putS s L) L).length ≤ l.length + L.length := by
    intro l
    induction l with
    | nil => intro L; simp
    | cons s r ih =>
      intro L
      rw [List.foldl_cons, List.length_cons]
      have h1 := ih (putS s L)
      have h2 := putS_len s L
      omega
  have h := this l []
  rw [List.length_nil, Nat.add_zero] at h
  exact h
theorem putN_len (s : List UInt8) : ∀ L : List (List UInt8), (putN s L).length ≤ L.length + 1
  | [] => by simp [putN]
  | g :: r => by
    have ih := putN_len s r
    unfold putN
    split
    · simp
    · split
      · simp; exact ih
      · simp
theorem rTr_len (M : List (List UInt8)) : (rTr M).length ≤ M.length := by
  have : ∀ (l L : List (List UInt8)), (l.foldl (fun L s => putN s L) L).length ≤ l.length + L.length := by
    intro l
    induction l with
    | nil => intro L; simp
    | cons s r ih =>
      intro L
      rw [List.foldl_cons, List.length_cons]
      have h1 := ih (putN s L)
      have h2 := putN_len s L
      omega
  have h := this M []
  rw [List.length_nil, Nat.add_zero] at h
  exact h
/-- Between two rounds of the document's put. -/
structure PutG {α : Type} (ins : α → List α → List α) (s : α) (M : List α) (k : Nat) (d : Bool) (X : List α) : Prop where
  eq : ins s M = X ++ (if d = true then M.drop k else ins s (M.drop k))
  len : X.length ≤ k + 1
  len0 : d = false → X.length ≤ k
theorem PutG.start {α : Type} (ins : α → List α → List α) (s : α) (M : List α) : PutG ins s M 0 false [] := ⟨rfl, by simp, fun _ => by simp⟩
theorem PutG.late {α : Type} {ins : α → List α → List α} {s : α} {M X : List α} {k : Nat} (h : PutG ins s M k true X) (hk : k < M.length) : PutG ins s M (k + 1) true (X ++ [M[k]]) := by
  obtain ⟨h1, h2, _⟩ := h
  refine ⟨?_, by simp; omega, fun h => by cases h⟩
  rw [h1, if_pos rfl, if_pos rfl, List.drop_eq_getElem_cons hk]; simp
theorem PutG.here {α : Type} {ins : α → List α → List α} {s : α} {M X : List α} {k : Nat} (h : PutG ins s M k false X) (hk : k < M.length) (hi : ∀ r, ins s (M[k] :: r) = s :: M[k] :: r) : PutG ins s M (k + 1) true (X ++ [s] ++ [M[k]]) := by
  obtain ⟨h1, h2, h3⟩ := h
  have := h3 rfl
  refine ⟨?_, by simp; omega, fun h => by cases h⟩
  rw [h1, if_neg (by decide), if_pos rfl, List.drop_eq_getElem_cons hk, hi]; simp
theorem PutG.not {α : Type} {ins : α → List α → List α} {s : α} {M X : List α} {k : Nat} (h : PutG ins s M k false X) (hk : k < M.length) (hi : ∀ r, ins s (M[k] :: r) = M[k] :: ins s r) : PutG ins s M (k + 1) false (X ++ [M[k]]) := by
  obtain ⟨h1, h2, h3⟩ := h
  have := h3 rfl
  refine ⟨?_, by simp; omega, fun _ => by simp; omega⟩
  rw [h1, if_neg (by decide), if_neg (by decide), List.drop_eq_getElem_cons hk, hi]; simp
theorem PutG.same {α : Type} {ins : α → List α → List α} {s : α} {M X : List α} {k : Nat} (h : PutG ins s M k false X) (hk : k < M.length) (hi : ∀ r, ins s (M[k] :: r) = M[k] :: r) : PutG ins s M (k + 1) true (X ++ [M[k]]) := by
  obtain ⟨h1, h2, h3⟩ := h
  have := h3 rfl
  refine ⟨?_, by simp; omega, fun h => by cases h⟩
  rw [h1, if_neg (by decide), if_pos rfl, List.drop_eq_getElem_cons hk, hi]; simp
theorem PutG.done {α : Type} {ins : α → List α → List α} {s : α} {M X : List α} {d : Bool} (h : PutG ins s M M.length d X) (h0 : ins s [] = [s]) : ins s M = X ++ (if d = true then [] else [s]) := by
  rw [h.eq, List.drop_length, h0]
theorem putS_lt {s g : Sg} (h : lt s g = true) (r : List Sg) : putS s (g :: r) = s :: g :: r := by unfold putS; rw [if_pos h]
theorem putS_gt {s g : Sg} (h : lt g s = true) (r : List Sg) : putS s (g :: r) = g :: putS s r := by
  conv => lhs; unfold putS
  rw [if_neg (by rw [lt_asym h]; decide), if_pos h]
theorem putS_eq (g : Sg) (r : List Sg) : putS g (g :: r) = g :: r := by unfold putS; rw [if_neg (by rw [lt_irr]; decide), if_neg (by rw [lt_irr]; decide)]
end SgM
end Go.Proofs.YtefknfbmphdafaaGreat
