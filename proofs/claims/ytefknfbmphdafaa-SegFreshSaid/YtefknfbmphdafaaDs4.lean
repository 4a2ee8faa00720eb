/- What the log leans on: Ds4. -/
import Derived.Test.YtefknfbmphdafaaDs3
import Derived.Deep.RegionHeld3
import Derived.IntWalk
namespace Go.Proofs.Ytefknfbmphdafaa.Ds
open Go.RowKit Go.Maps DkM

def flC (f : Fl) : List Value := [.string f.n, .string f.s, .string f.l]
def fsC (L : List Fl) : List Value := L.flatMap flC
theorem fsC_len (L : List Fl) : (fsC L).length = L.length * 3 := by
  induction L with
  | nil => rfl
  | cons f r ih => simp only [fsC, List.flatMap_cons, List.length_append] at ih ⊢; rw [ih]; simp [flC]; omega
theorem fsC_snoc (L : List Fl) (f : Fl) : fsC (L ++ [f]) = fsC L ++ [.string f.n, .string f.s, .string f.l] := by simp [fsC, flC]
theorem fsC_at : ∀ (L : List Fl) (j : Nat) (h : j < L.length), (fsC L)[j * 3]? = some (.string L[j].n) ∧ (fsC L)[j * 3 + 1]? = some (.string L[j].s) ∧ (fsC L)[j * 3 + 2]? = some (.string L[j].l)
  | f :: r, 0, _ => by simp [fsC, flC]
  | f :: r, j + 1, h => by
    have ih := fsC_at r j (by simpa using h)
    have e : fsC (f :: r) = .string f.n :: .string f.s :: .string f.l :: fsC r := by simp [fsC, flC]
    rw [e, show (j + 1) * 3 = j * 3 + 1 + 1 + 1 by omega]
    simpa using ih
/-- A slice of the reference's files, in a block from lo on. -/
def FsAt (w : World) (lo : Nat) (v : Value) (L : List Fl) : Prop :=
  ∃ A cap, v = .slice A L.length cap ∧ L.length ≤ cap ∧ (0 < L.length → ∃ g off, A = some ⟨g, off, none⟩ ∧ lo ≤ g ∧ g < w.heap.size ∧ ∀ k (h : k < L.length), w.cell? ⟨g, off + k * 3, none⟩ = some (.string L[k].n) ∧ w.cell? ⟨g, off + k * 3 + 1, none⟩ = some (.string L[k].s) ∧ w.cell? ⟨g, off + k * 3 + 2, none⟩ = some (.string L[k].l))
theorem FsAt.nil (w : World) (lo : Nat) (A : Option Addr) (cap : Nat) : FsAt w lo (.slice A 0 cap) [] := ⟨A, cap, rfl, Nat.zero_le _, fun h => absurd h (by simp)⟩
theorem FsAt.keep {w w' : World} {lo : Nat} {v : Value} {L : List Fl} (h : FsAt w lo v L) (hs : w.heap.size ≤ w'.heap.size) (hk : ∀ g, lo ≤ g → g < w.heap.size → w'.heap[g]? = w.heap[g]?) : FsAt w' lo v L := by
  obtain ⟨A, cap, h1, h2, h3⟩ := h
  refine ⟨A, cap, h1, h2, fun hl => ?_⟩
  obtain ⟨g, off, e, hlo, hg, hc⟩ := h3 hl
  have hb := hk g hlo hg
  refine ⟨g, off, e, hlo, by omega, fun k hk' => ?_⟩
  obtain ⟨q0, q1, q2⟩ := hc k hk'
  exact ⟨(World.cell?_of_block (w := w) hb).trans q0, (World.cell?_of_block (w := w) hb).trans q1, (World.cell?_of_block (w := w) hb).trans q2⟩
theorem FsAt.below {w w' : World} {lo : Nat} {v : Value} {L : List Fl} (h : FsAt w lo v L) (hb : Below w.heap.size w w') : FsAt w' lo v L := h.keep hb.size (fun g _ hg => hb.block g hg)
theorem FsAt.alloc {w : World} {lo : Nat} {v : Value} {L : List Fl} (h : FsAt w lo v L) (o : Obj) : FsAt (w.alloc o) lo v L := h.below ((Below.refl _ _).alloc (Nat.le_refl _) _)
theorem FsAt.kp {w w' : World} {lo p b : Nat} {v : Value} {L : List Fl} (h : FsAt w lo v L) (hk : Kp p b w w') (hp : p < lo) (hb : b < lo) : FsAt w' lo v L := h.keep hk.size (fun g h1 hg => hk.block g hg (by omega) (by omega))
theorem FsAt.mono {w : World} {lo lo' : Nat} {v : Value} {L : List Fl} (h : FsAt w lo v L) (hl : lo' ≤ lo) : FsAt w lo' v L := by
  obtain ⟨A, cap, h1, h2, h3⟩ := h
  refine ⟨A, cap, h1, h2, fun h0 => ?_⟩
  obtain ⟨g, off, e, hlo, r⟩ := h3 h0
  exact ⟨g, off, e, by omega, r⟩
abbrev rfV (sl : Value) (S : Dk) : Value := .agg #[sl, .int .i64 S.lim, .int .i64 S.fuse, .int .i64 S.ops, .int .i64 S.reads, .bool S.down]
abbrev flV (f : Fl) : Value := .agg #[.string f.n, .string f.s, .string f.l]

theorem bf_split {a b : ByteArray} {k : Nat} (ha : k < a.size) (hb : k < b.size) (h : a.data.toList.take k = b.data.toList.take k) : (a[k].toNat < b[k].toNat → bf a b = true) ∧ (b[k].toNat < a[k].toNat → bf a b = false) := by
  have key : ∀ (p x y : List UInt8) (c d : UInt8), (c.toNat < d.toNat → bytesBefore (p ++ c :: x) (p ++ d :: y) = true) ∧ (d.toNat < c.toNat → bytesBefore (p ++ c :: x) (p ++ d :: y) = false) := by
    intro p x y c d
    induction p with
    | nil =>
      have e : bytesBefore (c :: x) (d :: y) = (decide (c < d) || (c == d && bytesBefore x y)) := rfl
      rw [List.nil_append, List.nil_append, e]
      refine ⟨fun hl => by rw [show decide (c < d) = true from decide_eq_true (UInt8.lt_iff_toNat_lt.2 hl)]; rfl, fun hl => ?_⟩
      have h1 : decide (c < d) = false := decide_eq_false (fun h => by have := UInt8.lt_iff_toNat_lt.1 h; omega)
      have h2 : (c == d) = false := by rw [beq_eq_false_iff_ne]; rintro rfl; omega
      rw [h1, h2]; rfl
    | cons z p ih =>
      have e : bytesBefore (z :: (p ++ c :: x)) (z :: (p ++ d :: y)) = (decide (z < z) || (z == z && bytesBefore (p ++ c :: x) (p ++ d :: y))) := rfl
      rw [List.cons_append, List.cons_append, e]
      have h1 : decide (z < z) = false := decide_eq_false (fun h => by have := UInt8.lt_iff_toNat_lt.1 h; omega)
      simp only [h1, beq_self_eq_true, Bool.false_or, Bool.true_and]
      exact ih
  have ea : a.data.toList = a.data.toList.take k ++ a[k] :: a.data.toList.drop (k + 1) := by
    have := List.take_append_drop k a.data.toList
    rw [List.drop_eq_getElem_cons (by simpa using ha)] at this
    exact this.symm
  have eb : b.data.toList = b.data.toList.take k ++ b[k] :: b.data.toList.drop (k + 1) := by
    have := List.take_append_drop k b.data.toList
    rw [List.drop_eq_getElem_cons (by simpa using hb)] at this
    exact this.symm
  unfold bf
  rw [ea, eb, h]
  exact key _ _ _ _ _
theorem bf_ends {a b : ByteArray} (h : a.data.toList.take (min a.size b.size) = b.data.toList.take (min a.size b.size)) : bf a b = decide (a.size < b.size) := by
  have key : ∀ (x y : List UInt8), x.take (min x.length y.length) = y.take (min x.length y.length) → bytesBefore x y = decide (x.length < y.length) := by
    intro x
    induction x with
    | nil => intro y _; cases y <;> simp [bytesBefore]
    | cons c x ih =>
      intro y hh
      cases y with
      | nil => simp [bytesBefore]
      | cons d y =>
        simp only [List.length_cons, Nat.succ_min_succ, List.take_succ_cons, List.cons.injEq] at hh
        obtain ⟨rfl, hh⟩ := hh
        have e : bytesBefore (c :: x) (c :: y) = (decide (c < c) || (c == c && bytesBefore x y)) := rfl
        have h1 : decide (c < c) = false := decide_eq_false (fun h => by have := UInt8.lt_iff_toNat_lt.1 h; omega)
        rw [e, h1, ih y hh]
        simp
  unfold bf
  have := key a.data.toList b.data.toList (by rw [← sz_list, ← sz_list]; exact h)
  rw [this, sz_list, sz_list]

def cmpI (a b : ByteArray) : Int := if bf a b = true then -1 else if bf b a = true then 1 else 0
theorem cmpI_yes {a b : ByteArray} (h : bf a b = true) : cmpI a b = -1 := by unfold cmpI; rw [if_pos h]
theorem cmpI_more {a b : ByteArray} (h : bf b a = true) : cmpI a b = 1 := by unfold cmpI; rw [if_neg (by rw [bf_asym h]; decide), if_pos h]
theorem cmpI_zero {a b : ByteArray} (h : bf a b = false) (h' : bf b a = false) : cmpI a b = 0 := by unfold cmpI; rw [if_neg (by rw [h]; decide), if_neg (by rw [h']; decide)]
theorem cmpI_no {a b : ByteArray} (h : bf a b = false) : 0 ≤ cmpI a b := by unfold cmpI; rw [if_neg (by rw [h]; decide)]; split <;> omega
def CmpPost (a b : ByteArray) (w : World) (e : Ending) (w' : World) : Prop := e = .returned (.int .i64 (cmpI a b)) ∧ ∃ n : Nat, w' = w.drewN n
end Go.Proofs.Ytefknfbmphdafaa.Ds
namespace Go.Proofs.Ytefknfbmphdafaa.Ds
open Go.RowKit Go.Maps DkM

/-- Where a file stands. -/
def idx : List Fl → ByteArray → Int
  | [], _ => -1
  | f :: r, n => if eqN f.n n then 0 else if idx r n < 0 then -1 else idx r n + 1
theorem idx_none {L : List Fl} {n : ByteArray} : lkF L n = none → idx L n = -1 := by
  induction L with
  | nil => intro _; rfl
  | cons f r ih =>
    intro h
    unfold lkF at h
    rw [List.find?_cons] at h
    cases hq : eqN f.n n with
    | true => rw [hq] at h; cases h
    | false =>
      rw [hq] at h
      have := ih h
      unfold idx
      rw [hq, this]
      rfl
theorem idx_some {L : List Fl} {n : ByteArray} {f : Fl} : lkF L n = some f → ∃ k : Nat, idx L n = k ∧ ∃ h : k < L.length, L[k] = f := by
  induction L with
  | nil => intro h; cases h
  | cons g r ih =>
    intro h
    unfold lkF at h
    rw [List.find?_cons] at h
    cases hq : eqN g.n n with
    | true =>
      rw [hq] at h
      refine ⟨0, by unfold idx; rw [hq]; rfl, by simp, by simpa using h⟩
    | false =>
      rw [hq] at h
      obtain ⟨k, h1, h2, h3⟩ := ih h
      refine ⟨k + 1, ?_, by simp; omega, by simpa using h3⟩
      unfold idx
      rw [hq, h1]
      simp only [Bool.false_eq_true, if_false]
      rw [if_neg (by omega)]
      omega
theorem idx_at {L : List Fl} {n : ByteArray} {k : Nat} (hk : k < L.length) (hb : ∀ j (h : j < k), eqN (L[j]'(by omega)).n n = false) (he : eqN L[k].n n = true) : idx L n = k := by
  induction L generalizing k with
  | nil => simp at hk
  | cons g r ih =>
    cases k with
    | zero => unfold idx; rw [if_pos (by simpa using he)]; rfl
    | succ k =>
      have h0 := hb 0 (by omega)
      have := ih (k := k) (by simpa using hk) (fun j hj => by have := hb (j + 1) (by omega); simpa using this) (by simpa using he)
      unfold idx
      rw [if_neg (by simp at h0; simp [h0]), this, if_neg (by omega)]
      omega
theorem idx_end {L : List Fl} {n : ByteArray} (hb : ∀ j (h : j < L.length), eqN L[j].n n = false) : idx L n = -1 := by
  refine idx_none (lkF_eq_none.2 fun f hf => ?_)
  obtain ⟨j, hj, rfl⟩ := List.mem_iff_getElem.1 hf
  exact eqN_no.1 (hb j hj)

end Go.Proofs.Ytefknfbmphdafaa.Ds
namespace Go.Proofs.Ytefknfbmphdafaa.Ds
open Go.RowKit Go.Maps DkM

theorem usd_take (L : List Fl) (k : Nat) (h : k < L.length) : usd (L.take (k + 1)) = usd (L.take k) + L[k].s.size + L[k].l.size := by
  rw [List.take_succ_eq_append_getElem h, usd_app]; simp only [usd]; omega
theorem usd_take_le (L : List Fl) (k : Nat) : usd (L.take k) ≤ usd L := by
  have : usd L = usd (L.take k) + usd (L.drop k) := by rw [← usd_app, List.take_append_drop]
  omega
theorem new_three (W : World) (T : TypeId) (a b c : Value) (g : Nat) (hg : g = W.heap.size) : ∀ (j : Nat) (u : Value), [a, b, c][j]? = some u → (W.alloc (.cells #[a, b, c] T)).cell? ((⟨g, 0, none⟩ : Addr).add j) = some u := by
  subst hg
  intro j u h
  match j with
  | 0 => simp at h; subst h; simp [Addr.add]
  | 1 => simp at h; subst h; simp [Addr.add]
  | 2 => simp at h; subst h; simp [Addr.add]
  | j + 3 => simp at h
theorem one_three (a b c : ByteArray) : ∀ u ∈ [Value.string a, .string b, .string c], u.oneCell' = true := by
  intro u hu
  simp at hu
  rcases hu with rfl | rfl | rfl <;> rfl
theorem below_grown {w wr w' : World} {T : TypeId} {size n : Nat} {v : Value} {xs : List Value} {o : Obj} (h : Below w.heap.size w wr) (ho : wr.ownsRow w.heap.size T size v n xs) (hg : (wr.alloc o).grownBy w' v.ownBlock) : Below w.heap.size w w' := by
  have hs := h.size
  exact Below.grown (h.alloc hs _) hg (by simp; omega) (fun k hk => (ho.lt k hk).1)
theorem wo_take (L : List Fl) (n : ByteArray) (k : Nat) (h : k < L.length) : wo (L.take (k + 1)) n = wo (L.take k) n ++ (if eqN L[k].n n then [] else [L[k]]) := by
  unfold wo
  rw [List.take_succ_eq_append_getElem h, List.filter_append]
  congr 1
  cases hq : eqN L[k].n n <;> simp [hq]
end Go.Proofs.Ytefknfbmphdafaa.Ds
namespace Go.Proofs.Ytefknfbmphdafaa.Ds
open Go.RowKit Go.Maps DkM

/-- Between two rounds of put. -/
structure PutAt (f : Fl) (M : List Fl) (k : Nat) (d : Bool) (X : List Fl) : Prop where
  eq : insF f M = X ++ (if d = true then M.drop k else insF f (M.drop k))
  len : X.length ≤ k + 1
theorem PutAt.start (f : Fl) (M : List Fl) : PutAt f M 0 false [] := ⟨rfl, by simp⟩
theorem PutAt.late {f : Fl} {M X : List Fl} {k : Nat} (h : PutAt f M k true X) (hk : k < M.length) : PutAt f M (k + 1) true (X ++ [M[k]]) := by
  obtain ⟨h1, h2⟩ := h
  refine ⟨?_, by simp; omega⟩
  rw [h1, if_pos rfl, if_pos rfl, List.drop_eq_getElem_cons hk]; simp
theorem PutAt.here {f : Fl} {M X : List Fl} {k : Nat} (h : PutAt f M k false X) (hl : X.length ≤ k) (hk : k < M.length) (hb : bf f.n M[k].n = true) : PutAt f M (k + 1) true (X ++ [f] ++ [M[k]]) := by
  obtain ⟨h1, h2⟩ := h
  refine ⟨?_, by simp; omega⟩
  rw [h1, if_neg (by decide), if_pos rfl, List.drop_eq_getElem_cons hk]
  have e : insF f (M[k] :: M.drop (k + 1)) = if bf f.n M[k].n then f :: M[k] :: M.drop (k + 1) else M[k] :: insF f (M.drop (k + 1)) := rfl
  rw [e, if_pos hb]; simp
theorem PutAt.not {f : Fl} {M X : List Fl} {k : Nat} (h : PutAt f M k false X) (hk : k < M.length) (hb : bf f.n M[k].n = false) : PutAt f M (k + 1) false (X ++ [M[k]]) := by
  obtain ⟨h1, h2⟩ := h
  refine ⟨?_, by simp; omega⟩
  rw [h1, if_neg (by decide), if_neg (by decide), List.drop_eq_getElem_cons hk]
  have e : insF f (M[k] :: M.drop (k + 1)) = if bf f.n M[k].n then f :: M[k] :: M.drop (k + 1) else M[k] :: insF f (M.drop (k + 1)) := rfl
  rw [e, if_neg (by rw [hb]; decide)]; simp
theorem PutAt.done {f : Fl} {M X : List Fl} {d : Bool} (h : PutAt f M M.length d X) : insF f M = X ++ (if d = true then [] else [f]) := by
  rw [h.eq, List.drop_length]; rfl

theorem own_base {w : World} {base base' : Nat} {e : TypeId} {size n : Nat} {v : Value} {xs : List Value} (h : w.ownsRow base e size v n xs) (hb : base' ≤ base) : w.ownsRow base' e size v n xs := by
  refine ⟨h.1, ?_⟩
  rcases h.2 with hn | ⟨g, cap, cur, hv, hg, r⟩
  · exact Or.inl hn
  · exact Or.inr ⟨g, cap, cur, hv, by omega, r⟩
theorem own_drewN {w : World} {base : Nat} {e : TypeId} {size n : Nat} {v : Value} {xs : List Value} (h : w.ownsRow base e size v n xs) (q : Nat) : (w.drewN q).ownsRow base e size v n xs := h
end Go.Proofs.Ytefknfbmphdafaa.Ds
namespace Go.Proofs.Ytefknfbmphdafaa.Ds
open Go.RowKit Go.Maps DkM

def DBox (w : World) (D : Nat) (sl : Value) (S : Dk) : Prop :=
  w.cell? ⟨D, 0, none⟩ = some sl ∧ w.cell? ⟨D, 1, none⟩ = some (.int .i64 S.lim) ∧ w.cell? ⟨D, 2, none⟩ = some (.int .i64 S.fuse) ∧ w.cell? ⟨D, 3, none⟩ = some (.int .i64 S.ops) ∧ w.cell? ⟨D, 4, none⟩ = some (.int .i64 S.reads) ∧ w.cell? ⟨D, 5, none⟩ = some (.bool S.down)
def OBox (w : World) (O : Nat) (o : Op5) : Prop :=
  w.cell? ⟨O, 0, none⟩ = some (.int .i64 o.k) ∧ w.cell? ⟨O, 1, none⟩ = some (.string o.a) ∧ w.cell? ⟨O, 2, none⟩ = some (.string o.b) ∧ w.cell? ⟨O, 3, none⟩ = some (.int .i64 o.n)
theorem DBox.lt {w : World} {D : Nat} {sl : Value} {S : Dk} (h : DBox w D sl S) : D < w.heap.size := cell_lt h.1
theorem OBox.lt {w : World} {O : Nat} {o : Op5} (h : OBox w O o) : O < w.heap.size := cell_lt h.1
theorem DBox.keep {w w' : World} {D : Nat} {sl : Value} {S : Dk} (h : DBox w D sl S) (hb : w'.heap[D]? = w.heap[D]?) : DBox w' D sl S := by
  have k : ∀ i, w'.cell? ⟨D, i, none⟩ = w.cell? ⟨D, i, none⟩ := fun i => World.cell?_of_block (w := w) hb
  unfold DBox; rw [k, k, k, k, k, k]; exact h
theorem OBox.keep {w w' : World} {O : Nat} {o : Op5} (h : OBox w O o) (hb : w'.heap[O]? = w.heap[O]?) : OBox w' O o := by
  have k : ∀ i, w'.cell? ⟨O, i, none⟩ = w.cell? ⟨O, i, none⟩ := fun i => World.cell?_of_block (w := w) hb
  unfold OBox; rw [k, k, k, k]; exact h
theorem DBox.below {w w' : World} {D : Nat} {sl : Value} {S : Dk} (h : DBox w D sl S) (hb : Below w.heap.size w w') : DBox w' D sl S := h.keep (hb.block D h.lt)
theorem OBox.below {w w' : World} {O : Nat} {o : Op5} (h : OBox w O o) (hb : Below w.heap.size w w') : OBox w' O o := h.keep (hb.block O h.lt)
theorem below_one (w : World) (o : Obj) : Below w.heap.size w (w.alloc o) := (Below.refl _ _).alloc (Nat.le_refl _) _
theorem below_draw' {w : World} : Below w.heap.size w w.drew := ⟨rfl, rfl, rfl, Nat.le_refl _, fun _ _ => rfl⟩
theorem boxes_keep {w1 w2 : World} {D O : Nat} {sl : Value} {S : Dk} {o : Op5} (hD : DBox w1 D sl S) (hO : OBox w1 O o) (hk : o.k = 1) (hb : Below w1.drew.heap.size w1.drew w2) :
    (w2.cell? ⟨D, 0, none⟩ = some sl ∧ w2.cell? ⟨D, 1, none⟩ = some (.int .i64 S.lim) ∧ w2.cell? ⟨D, 2, none⟩ = some (.int .i64 S.fuse) ∧ w2.cell? ⟨D, 3, none⟩ = some (.int .i64 S.ops) ∧ w2.cell? ⟨D, 4, none⟩ = some (.int .i64 S.reads) ∧ w2.cell? ⟨D, 5, none⟩ = some (.bool S.down)) ∧ (w2.cell? ⟨O, 0, none⟩ = some (.int .i64 1) ∧ w2.cell? ⟨O, 2, none⟩ = some (.string o.b)) := by
  have h2 := hO.below (below_undrew hb)
  exact ⟨hD.below (below_undrew hb), by rw [← hk]; exact h2.1, h2.2.2.1⟩
theorem boxes_o0 {w1 w2 : World} {O : Nat} {o : Op5} (hO : OBox w1 O o) (hk : o.k = 1) (hb : Below w1.drew.heap.size w1.drew w2) : w2.cell? ⟨O, 0, none⟩ = some (.int .i64 1) := by
  have h2 := hO.below (below_undrew hb)
  rw [← hk]; exact h2.1

def whyO (S : Dk) (o : Op5) : Nat := if o.k = 0 then whyC S.L o.a else if o.k = 1 then whyA S o.a o.b else if o.k = 3 then whyR S o.a o.b else thr S.L o.a
/-- What the reference asks of a disk. -/
structure RfAt (w : World) (lo : Nat) (sl : Value) (S : Dk) : Prop where
  fs : FsAt w lo sl S.L
  len : S.L.length ≤ 1000000
  usd : usd S.L ≤ 1073741824
  used : S.used = (DkM.usd S.L : Nat)
  names : ∀ f ∈ S.L, f.n.size ≤ 9223372036854775807
theorem RfAt.below {w w' : World} {lo : Nat} {sl : Value} {S : Dk} (h : RfAt w lo sl S) (hb : Below w.heap.size w w') : RfAt w' lo sl S := ⟨h.fs.below hb, h.len, h.usd, h.used, h.names⟩

end Go.Proofs.Ytefknfbmphdafaa.Ds
