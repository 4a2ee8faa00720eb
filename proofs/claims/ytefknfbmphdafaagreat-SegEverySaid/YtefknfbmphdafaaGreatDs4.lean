/- What the log leans on: Ds4. -/
import Derived.Test.YtefknfbmphdafaaGreatDs3
import Derived.Deep.RegionHeld3
import Derived.IntWalk
namespace Go.Proofs.YtefknfbmphdafaaGreat.Ds
open Go.RowKit Go.Maps DkM

def flC (f : Fl) : List Value := [.string f.n, .string f.s, .string f.l]
def fsC (L : List Fl) : List Value := L.flatMap flC
theorem fsC_len (L : List Fl) : (fsC L).length = L.length * 3 := by
  induction L with
  | nil => rfl
  | cons f r ih => simp only [fsC, List.flatMap_cons, List.length_append] at ih ⊢; rw [ih]; simp [flC]; omega
theorem fsC_snoc (L : List Fl) (f : Fl) : fsC (L ++ [f]) = fsC L ++ [.string f.n, .string f.s, .string f.l] := by simp [fsC, flC]
theorem fsC_at : ∀ (L : List Fl) (j : Nat) (h : j < L.length), (fsC L)[j * 3]? = some (.string L[j].n) ∧ (fsC L)[j * 3 + 1]? = some (.string L[j].s) ∧ (fsC L)[j * 3 + 2]? = some (.string L[j].l)
  | f :: r, 0, _ => by simp [fsC, flC]
  | f :: r, j + 1, h => by
    have ih := fsC_at r j (by simpa using h)
    have e : fsC (f :: r) = .string f.n :: .string f.s :: .string f.l :: fsC r := by simp [fsC, flC]
    rw [e, show (j + 1) * 3 = j * 3 + 1 + 1 + 1 by omega]
    simpa using ih
/-- A slice of the reference's files, in a block from lo on. -/
def FsAt (w : World) (lo : Nat) (v : Value) (L : List Fl) : Prop :=
  ∃ A cap, v = .slice A L.length cap ∧ L.length ≤ cap ∧ (0 < L.length → ∃ g off, A = some ⟨g, off, none⟩ ∧ lo ≤ g ∧ g < w.heap.size ∧ ∀ k (h : k < L.length), w.cell? ⟨g, off + k * 3, none⟩ = some (.string L[k].n) ∧ w.cell? ⟨g, off + k * 3 + 1, none⟩ = some (.string L[k].s) ∧ w.cell? ⟨g, off + k * 3 + 2, none⟩ = some (.string L[k].l))
theorem FsAt.nil (w : World) (lo : Nat) (A : Option Addr) (cap : Nat) : FsAt w lo (.slice A 0 cap) [] := ⟨A, cap, rfl, Nat.zero_le _, fun h => absurd h (by simp)⟩
theorem FsAt.keep {w w' : World} {lo : Nat} {v : Value} {L : List Fl} (h : FsAt w lo v L) (hs : w.heap.size ≤ w'.heap.size) (hk : ∀ g, lo ≤ g → g < w.heap.size → w'.heap[g]? = w.heap[g]?) : FsAt w' lo v L := by
  obtain ⟨A, cap, h1, h2, h3⟩ := h
  refine ⟨A, cap, h1, h2, fun hl => ?_⟩
  obtain ⟨g, off, e, hlo, hg, hc⟩ := h3 hl
  have hb := hk g hlo hg
  refine ⟨g, off, e, hlo, by omega, fun k hk' => ?_⟩
  obtain ⟨q0, q1, q2⟩ := hc k hk'
  exact ⟨(World.cell?_of_block (w := w) hb).trans q0, (World.cell?_of_block (w := w) hb).trans q1, (World.cell?_of_block (w := w) hb).trans q2⟩
theorem FsAt.below {w w' : World} {lo : Nat} {v : Value} {L : List Fl} (h : FsAt w lo v L) (hb : Below w.heap.size w w') : FsAt w' lo v L := h.keep hb.size (fun g _ hg => hb.block g hg)
theorem FsAt.alloc {w : World} {lo : Nat} {v : Value} {L : List Fl} (h : FsAt w lo v L) (o : Obj) : FsAt (w.alloc o) lo v L := h.below ((Below.refl _ _).alloc (Nat.le_refl _) _)
theorem FsAt.kp {w w' : World} {lo p b : Nat} {v : Value} {L : List Fl} (h : FsAt w lo v L) (hk : Kp p b w w') (hp : p < lo) (hb : b < lo) : FsAt w' lo v L := h.keep hk.size (fun g h1 hg => hk.block g hg (by omega) (by omega))
theorem FsAt.mono {w : World} {lo lo' : Nat} {v : Value} {L : List Fl} (h : FsAt w lo v L) (hl : lo' ≤ lo) : FsAt w lo' v L := by
  obtain ⟨A, cap, h1, h2, h3⟩ := h
  refine ⟨A, cap, h1, h2, fun h0 => ?_⟩
  obtain ⟨g, off, e, hlo, r⟩ := h3 h0
  exact ⟨g, off, e, by omega, r⟩
theorem FsAt.own {w : World} {lo base : Nat} {v : Value} {L : List Fl} (h : w.ownsRow base 89 3 v L.length (fsC L)) (hb : lo ≤ base) : FsAt w lo v L := by
  have h' := h
  rcases h.2 with ⟨rfl, h0⟩ | ⟨g, cap, cur, rfl, hg, hh, h1, h2, h3, h4⟩
  · have : L = [] := List.eq_nil_of_length_eq_zero h0
    subst this
    exact FsAt.nil _ _ _ _
  · refine ⟨_, _, rfl, ?_, fun _ => ⟨g, 0, rfl, by omega, (Array.getElem?_eq_some_iff.1 hh).1, fun k hk => ?_⟩⟩
    · exact h1
    · obtain ⟨q0, q1, q2⟩ := fsC_at L k hk
      have c := h'.cells (g := g) rfl
      have e : ∀ j, (⟨g, 0, none⟩ : Addr).add j = ⟨g, 0 + j, none⟩ := fun j => add_plain g 0 j
      have r0 := c _ _ q0
      have r1 := c _ _ q1
      have r2 := c _ _ q2
      rw [e] at r0 r1 r2
      rw [← Nat.add_assoc] at r1 r2
      exact ⟨r0, r1, r2⟩

abbrev rfV (sl : Value) (S : Dk) : Value := .agg #[sl, .int .i64 S.lim, .int .i64 S.fuse, .int .i64 S.ops, .int .i64 S.reads, .bool S.down]
abbrev flV (f : Fl) : Value := .agg #[.string f.n, .string f.s, .string f.l]

theorem bf_split {a b : ByteArray} {k : Nat} (ha : k < a.size) (hb : k < b.size) (h : a.data.toList.take k = b.data.toList.take k) : (a[k].toNat < b[k].toNat → bf a b = true) ∧ (b[k].toNat < a[k].toNat → bf a b = false) := by
  have key : ∀ (p x y : List UInt8) (c d : UInt8), (c.toNat < d.toNat → bytesBefore (p ++ c :: x) (p ++ d :: y) = true) ∧ (d.toNat < c.toNat → bytesBefore (p ++ c :: x) (p ++ d :: y) = false) := by
    intro p x y c d
    induction p with
    | nil =>
      have e : bytesBefore (c :: x) (d :: y) = (decide (c < d) || (c == d && bytesBefore x y)) := rfl
      rw [List.nil_append, List.nil_append, e]
      refine ⟨fun hl => by rw [show decide (c < d) = true from decide_eq_true (UInt8.lt_iff_toNat_lt.2 hl)]; rfl, fun hl => ?_⟩
      have h1 : decide (c < d) = false := decide_eq_false (fun h => by have := UInt8.lt_iff_toNat_lt.1 h; omega)
      have h2 : (c == d) = false := by rw [beq_eq_false_iff_ne]; rintro rfl; omega
      rw [h1, h2]; rfl
    | cons z p ih =>
      have e : bytesBefore (z :: (p ++ c :: x)) (z :: (p ++ d :: y)) = (decide (z < z) || (z == z && bytesBefore (p ++ c :: x) (p ++ d :: y))) := rfl
      rw [List.cons_append, List.cons_append, e]
      have h1 : decide (z < z) = false := decide_eq_false (fun h => by have := UInt8.lt_iff_toNat_lt.1 h; omega)
      simp only [h1, beq_self_eq_true, Bool.false_or, Bool.true_and]
      exact ih
  have ea : a.data.toList = a.data.toList.take k ++ a[k] :: a.data.toList.drop (k + 1) := by
    have := List.take_append_drop k a.data.toList
    rw [List.drop_eq_getElem_cons (by simpa using ha)] at this
    exact this.symm
  have eb : b.data.toList = b.data.toList.take k ++ b[k] :: b.data.toList.drop (k + 1) := by
    have := List.take_append_drop k b.data.toList
    rw [List.drop_eq_getElem_cons (by simpa using hb)] at this
    exact this.symm
  unfold bf
  rw [ea, eb, h]
  exact key _ _ _ _ _
theorem bf_ends {a b : ByteArray} (h : a.data.toList.take (min a.size b.size) = b.data.toList.take (min a.size b.size)) : bf a b = decide (a.size < b.size) := by
  have key : ∀ (x y : List UInt8), x.take (min x.length y.length) = y.take (min x.length y.length) → bytesBefore x y = decide (x.length < y.length) := by
    intro x
    induction x with
    | nil => intro y _; cases y <;> simp [bytesBefore]
    | cons c x ih =>
      intro y hh
      cases y with
      | nil => simp [bytesBefore]
      | cons d y =>
        simp only [List.length_cons, Nat.succ_min_succ, List.take_succ_cons, List.cons.injEq] at hh
        obtain ⟨rfl, hh⟩ := hh
        have e : bytesBefore (c :: x) (c :: y) = (decide (c < c) || (c == c && bytesBefore x y)) := rfl
        have h1 : decide (c < c) = false := decide_eq_false (fun h => by have := UInt8.lt_iff_toNat_lt.1 h; omega)
        rw [e, h1, ih y hh]
        simp
  unfold bf
  have := key a.data.toList b.data.toList (by rw [← sz_list, ← sz_list]; exact h)
  rw [this, sz_list, sz_list]

def cmpI (a b : ByteArray) : Int := if bf a b = true then -1 else if bf b a = true then 1 else 0
theorem cmpI_yes {a b : ByteArray} (h : bf a b = true) : cmpI a b = -1 := by unfold cmpI; rw [if_pos h]
theorem cmpI_more {a b : ByteArray} (h : bf b a = true) : cmpI a b = 1 := by unfold cmpI; rw [if_neg (by rw [bf_asym h]; decide), if_pos h]
theorem cmpI_zero {a b : ByteArray} (h : bf a b = false) (h' : bf b a = false) : cmpI a b = 0 := by unfold cmpI; rw [if_neg (by rw [h]; decide), if_neg (by rw [h']; decide)]
theorem cmpI_no {a b : ByteArray} (h : bf a b = false) : 0 ≤ cmpI a b := by unfold cmpI; rw [if_neg (by rw [h]; decide)]; split <;> omega
def CmpPost (a b : ByteArray) (w : World) (e : Ending) (w' : World) : Prop := e = .returned (.int .i64 (cmpI a b)) ∧ ∃ n : Nat, w' = w.drewN n
set_option maxRecDepth 100000 in
set_option maxHeartbeats 1000000 in
theorem cmp_any (a b : ByteArray) (w : World) (ha : a.size ≤ 9223372036854775807) (_hb : b.size ≤ 9223372036854775807) :
    Calls Tryz.prog 75 #[.string a, .string b] w (CmpPost a b w) := by
  go_enter Tryz.func75, Tryz.ntmps75
  go_wp2_with fail
  go_loopw [5] (fun i wr => ∃ k n : Nat, k ≤ a.size ∧ k ≤ b.size ∧ a.data.toList.take k = b.data.toList.take k ∧ i = .int .i64 k ∧ wr = w.drewN n) (fun i _ => a.size - (intOf i).toNat)
  case atStart => exact ⟨0, 0, Nat.zero_le _, Nat.zero_le _, rfl, rfl, rfl⟩
  case round =>
    obtain ⟨k, n, hka, hkb, ht, rfl, rfl⟩ := hrel
    have HT := Lib.hid ht
    clear ht
    by_cases hlt : k < a.size ∧ k < b.size
    · obtain ⟨la, lb⟩ := hlt
      have HS := Lib.hid (bf_split la lb HT.out)
      have HS2 := Lib.hid (bf_split lb la HT.out.symm)
      have i0 : (0 : Int) ≤ (k : Int) := by omega
      have i1 : (k : Int) < (a.size : Int) := by omega
      have i2 : (k : Int) < (b.size : Int) := by omega
      by_cases h1 : a[k].toNat < b[k].toNat
      · have h1' : (a[k].toNat : Int) < (b[k].toNat : Int) := by omega
        go_wp2_with fail
        go_quiet (fail)
        go_wp2_with fail
        go_ret
        exact ⟨by rw [cmpI_yes (HS.out.1 h1)]; rfl, _, World.drewN_drewN ..⟩
      · by_cases h2 : b[k].toNat < a[k].toNat
        · have h1' : (b[k].toNat : Int) ≤ (a[k].toNat : Int) := by omega
          have h2' : (b[k].toNat : Int) < (a[k].toNat : Int) := by omega
          go_wp2_with fail
          go_quiet (fail)
          go_wp2_with fail
          go_quiet (fail)
          go_wp2_with fail
          go_ret
          exact ⟨by rw [cmpI_more (HS2.out.1 h2)]; rfl, _, by rw [World.drewN_drewN, World.drewN_drewN]⟩
        · have heq : a[k].toNat = b[k].toNat := by omega
          have hq : a[k] = b[k] := UInt8.toNat_inj.1 heq
          have HN := Lib.hid (show a.data.toList.take (k + 1) = b.data.toList.take (k + 1) by rw [bytes_take a k la, bytes_take b k lb, HT.out, hq])
          clear hq h1 h2
          have h1' : (b[k].toNat : Int) ≤ (a[k].toNat : Int) := by omega
          have h2' : (a[k].toNat : Int) ≤ (b[k].toNat : Int) := by omega
          clear heq
          go_wp2_with fail
          go_quiet (fail)
          go_wp2_with fail
          go_quiet (fail)
          go_wp2_with fail
          go_roundw
          case rel => exact ⟨k + 1, _, by omega, by omega, HN.out, by go_num, rfl⟩
          case measure => simp [intOf]; omega
    · have hmin : k = min a.size b.size := by omega
      have HE := Lib.hid (bf_ends (a := a) (b := b) (by rw [← hmin]; exact HT.out))
      have HF := Lib.hid (bf_ends (a := b) (b := a) (by rw [Nat.min_comm, ← hmin]; exact HT.out.symm))
      by_cases hl1 : k < a.size
      · have HE2 : Hid (bf b a = true) := Lib.hid (by rw [HF.out]; simp; omega)
        have h2 : b.size ≤ k := by omega
        have h3 : (b.size : Int) < (a.size : Int) := by omega
        have h4 : (b.size : Int) ≤ (a.size : Int) := by omega
        clear hlt hmin
        go_wp2_with fail
        go_ret
        exact ⟨by rw [cmpI_more HE2.out]; rfl, n, rfl⟩
      · by_cases hl2 : a.size < b.size
        · have HE2 : Hid (bf a b = true) := Lib.hid (by rw [HE.out]; simp; omega)
          have h3 : a.size ≤ k := by omega
          clear hlt hmin hl1
          go_wp2_with fail
          go_ret
          exact ⟨by rw [cmpI_yes HE2.out]; rfl, n, rfl⟩
        · have HE2 : Hid (bf a b = false) := Lib.hid (by rw [HE.out]; simp; omega)
          have HF2 : Hid (bf b a = false) := Lib.hid (by rw [HF.out]; simp; omega)
          have h3 : a.size ≤ k := by omega
          have h5 : a.size = b.size := by omega
          have h6 : (b.size : Int) ≤ (a.size : Int) := by omega
          have h7 : (a.size : Int) ≤ (b.size : Int) := by omega
          clear hlt hmin hl1 hl2 h5
          go_wp2_with fail
          go_ret
          exact ⟨by rw [cmpI_zero HE2.out HF2.out]; rfl, n, rfl⟩
end Go.Proofs.YtefknfbmphdafaaGreat.Ds
namespace Go.Proofs.YtefknfbmphdafaaGreat.Ds
open Go.RowKit Go.Maps DkM

set_option maxHeartbeats 1000000 in
theorem rnew_any (lim : Int) (w : World) :
    Calls Tryz.prog 40 #[.int .i64 lim] w fun e w' => e = .returned (rfV (.slice none 0 0) (newS lim)) ∧ Below w.heap.size w w' := by
  by_cases h0 : lim < 0
  · have hN := Lib.hid (show newS lim = { newS 0 with lim := 0 } by unfold newS; congr 1; omega)
    go_enter Tryz.func40, Tryz.ntmps40
    go_wp2_with fail
    rw [hN.out]
    exact bodyPost_ret (v := rfV (.slice none 0 0) { newS 0 with lim := 0 }) (by simp [results, Tryz.results40, go_sem, newS]) rfl ⟨rfl, (Below.refl _ _).alloc (Nat.le_refl _) _⟩
  · have h0' : 0 ≤ lim := by omega
    by_cases h1 : 1073741824 < lim
    · have hN := Lib.hid (show newS lim = { newS 0 with lim := 1073741824 } by unfold newS; congr 1; omega)
      go_enter Tryz.func40, Tryz.ntmps40
      go_wp2_with fail
      rw [hN.out]
      exact bodyPost_ret (v := rfV (.slice none 0 0) { newS 0 with lim := 1073741824 }) (by simp [results, Tryz.results40, go_sem, newS]) rfl ⟨rfl, (Below.refl _ _).alloc (Nat.le_refl _) _⟩
    · have h1' : lim ≤ 1073741824 := by omega
      have hN := Lib.hid (show newS lim = { newS 0 with lim := lim } by unfold newS; congr 1; omega)
      clear h0 h1
      go_enter Tryz.func40, Tryz.ntmps40
      go_wp2_with fail
      rw [hN.out]
      exact bodyPost_ret (v := rfV (.slice none 0 0) { newS 0 with lim := lim }) (by simp [results, Tryz.results40, go_sem, newS]) rfl ⟨rfl, (Below.refl _ _).alloc (Nat.le_refl _) _⟩

set_option maxHeartbeats 400000 in
theorem rbytes_any (f : Fl) (w : World) (h : f.s.size + f.l.size ≤ 9223372036854775807) :
    Calls Tryz.prog 44 #[flV f] w fun e w' => e = .returned (.string (f.s ++ f.l)) ∧ Below w.heap.size w w' := by
  go_enter Tryz.func44, Tryz.ntmps44
  go_wp2_with fail
  go_ret
  exact ⟨rfl, (Below.refl _ _).alloc (Nat.le_refl _) _⟩

/-- Where a file stands. -/
def idx : List Fl → ByteArray → Int
  | [], _ => -1
  | f :: r, n => if eqN f.n n then 0 else if idx r n < 0 then -1 else idx r n + 1
theorem idx_none {L : List Fl} {n : ByteArray} : lkF L n = none → idx L n = -1 := by
  induction L with
  | nil => intro _; rfl
  | cons f r ih =>
    intro h
    unfold lkF at h
    rw [List.find?_cons] at h
    cases hq : eqN f.n n with
    | true => rw [hq] at h; cases h
    | false =>
      rw [hq] at h
      have := ih h
      unfold idx
      rw [hq, this]
      rfl
theorem idx_some {L : List Fl} {n : ByteArray} {f : Fl} : lkF L n = some f → ∃ k : Nat, idx L n = k ∧ ∃ h : k < L.length, L[k] = f := by
  induction L with
  | nil => intro h; cases h
  | cons g r ih =>
    intro h
    unfold lkF at h
    rw [List.find?_cons] at h
    cases hq : eqN g.n n with
    | true =>
      rw [hq] at h
      refine ⟨0, by unfold idx; rw [hq]; rfl, by simp, by simpa using h⟩
    | false =>
      rw [hq] at h
      obtain ⟨k, h1, h2, h3⟩ := ih h
      refine ⟨k + 1, ?_, by simp; omega, by simpa using h3⟩
      unfold idx
      rw [hq, h1]
      simp only [Bool.false_eq_true, if_false]
      rw [if_neg (by omega)]
      omega
theorem idx_at {L : List Fl} {n : ByteArray} {k : Nat} (hk : k < L.length) (hb : ∀ j (h : j < k), eqN (L[j]'(by omega)).n n = false) (he : eqN L[k].n n = true) : idx L n = k := by
  induction L generalizing k with
  | nil => simp at hk
  | cons g r ih =>
    cases k with
    | zero => unfold idx; rw [if_pos (by simpa using he)]; rfl
    | succ k =>
      have h0 := hb 0 (by omega)
      have := ih (k := k) (by simpa using hk) (fun j hj => by have := hb (j + 1) (by omega); simpa using this) (by simpa using he)
      unfold idx
      rw [if_neg (by simp at h0; simp [h0]), this, if_neg (by omega)]
      omega
theorem idx_end {L : List Fl} {n : ByteArray} (hb : ∀ j (h : j < L.length), eqN L[j].n n = false) : idx L n = -1 := by
  refine idx_none (lkF_eq_none.2 fun f hf => ?_)
  obtain ⟨j, hj, rfl⟩ := List.mem_iff_getElem.1 hf
  exact eqN_no.1 (hb j hj)

set_option maxRecDepth 100000 in
set_option maxHeartbeats 1000000 in
theorem at_any {w : World} {lo : Nat} {sl : Value} {S : Dk} (h : FsAt w lo sl S.L) (n : ByteArray) (hl : S.L.length ≤ 9223372036854775807) :
    Calls Tryz.prog 58 #[rfV sl S, .string n] w fun e w' => e = .returned (.int .i64 (idx S.L n)) ∧ Below w.heap.size w w' := by
  obtain ⟨A, cap, rfl, hcap, hA⟩ := h
  have HA := Lib.hid hA
  clear hA
  go_enter Tryz.func58, Tryz.ntmps58
  go_wp2_with fail
  go_loop [5] (fun i => ∃ k : Nat, k ≤ S.L.length ∧ (∀ j (_ : j < k) (h' : j < S.L.length), eqN S.L[j].n n = false) ∧ i = .int .i64 k) (fun i => S.L.length - (intOf i).toNat)
  case atStart => exact ⟨0, Nat.zero_le _, fun j h => absurd h (by omega), rfl⟩
  case round =>
    obtain ⟨k, hk, hno, rfl⟩ := hrel
    have HN := Lib.hid hno
    clear hno
    by_cases hlt : k < S.L.length
    · obtain ⟨g, off, rfl, hg1, hg2, hc⟩ := HA.out (by omega)
      have q0 := (hc k hlt).1
      clear hc
      have hse := seq_eq S.L[k].n n
      cases hq : eqN S.L[k].n n with
      | true =>
        rw [hq] at hse
        have HE := Lib.hid (show idx S.L n = k from idx_at hlt (fun j hj => HN.out j hj (by omega)) hq)
        clear hq
        go_wp2_with fail
        go_ret
        exact ⟨by rw [HE.out]; rfl, (Below.refl _ _).alloc (Nat.le_refl _) _⟩
      | false =>
        rw [hq] at hse
        have HE := Lib.hid (show ∀ j (_ : j < k + 1) (h' : j < S.L.length), eqN S.L[j].n n = false from fun j hj h' => by
          by_cases he : j = k
          · subst he; exact hq
          · exact HN.out j (by omega) h')
        clear hq
        go_wp2_with fail
        go_round
        case rel => exact ⟨k + 1, by omega, HE.out, by go_num⟩
        case measure => simp [intOf]; omega
    · obtain rfl : k = S.L.length := by omega
      have HE := Lib.hid (show idx S.L n = -1 from idx_end fun j hj => HN.out j hj hj)
      go_wp2_with fail
      go_ret
      exact ⟨by rw [HE.out]; rfl, (Below.refl _ _).alloc (Nat.le_refl _) _⟩
end Go.Proofs.YtefknfbmphdafaaGreat.Ds
namespace Go.Proofs.YtefknfbmphdafaaGreat.Ds
open Go.RowKit Go.Maps DkM

theorem usd_take (L : List Fl) (k : Nat) (h : k < L.length) : usd (L.take (k + 1)) = usd (L.take k) + L[k].s.size + L[k].l.size := by
  rw [List.take_succ_eq_append_getElem h, usd_app]; simp only [usd]; omega
theorem usd_take_le (L : List Fl) (k : Nat) : usd (L.take k) ≤ usd L := by
  have : usd L = usd (L.take k) + usd (L.drop k) := by rw [← usd_app, List.take_append_drop]
  omega
theorem rf_box (w : World) (sl : Value) (a b c d : Int) (e : Bool) :
    (w.alloc (.cells #[sl, .int .i64 a, .int .i64 b, .int .i64 c, .int .i64 d, .bool e] 43)).cell? ⟨w.heap.size, 0, none⟩ = some sl := by simp

set_option maxRecDepth 100000 in
set_option maxHeartbeats 1000000 in
theorem rused_any {w : World} {lo : Nat} {sl : Value} {S : Dk} (h : FsAt w lo sl S.L) (hl : S.L.length ≤ 9223372036854775807) (hu : usd S.L ≤ 1073741824) :
    Calls Tryz.prog 86 #[rfV sl S] w fun e w' => e = .returned (.int .i64 (usd S.L : Nat)) ∧ Below w.heap.size w w' := by
  have HF := Lib.hid h
  obtain ⟨A, cap, rfl, hcap, hA⟩ := h
  clear hA
  go_enter Tryz.func86, Tryz.ntmps86
  go_wp2_with fail
  obtain ⟨W, hW⟩ : ∃ W, W = w.alloc (.cells #[.slice A S.L.length cap, .int .i64 S.lim, .int .i64 S.fuse, .int .i64 S.ops, .int .i64 S.reads, .bool S.down] 43) := ⟨_, rfl⟩
  rw [← hW]
  have b0 : W.cell? ⟨w.heap.size, 0, none⟩ = some (.slice A S.L.length cap) := by rw [hW]; exact rf_box _ _ _ _ _ _ _
  have FW : FsAt W lo (.slice A S.L.length cap) S.L := by rw [hW]; exact HF.out.alloc _
  have hbW : Below w.heap.size w W := by rw [hW]; exact (Below.refl _ _).alloc (Nat.le_refl _) _
  obtain ⟨A', cap', hq, _, hA⟩ := FW
  cases hq
  have HA := Lib.hid hA
  clear hA hW
  go_loopw [3, 4] (fun n i wr => ∃ k q : Nat, k ≤ S.L.length ∧ n = .int .i64 (usd (S.L.take k) : Nat) ∧ i = .int .i64 k ∧ wr = W.drewN q) (fun _ i _ => S.L.length - (intOf i).toNat)
  case atStart => exact ⟨0, 0, Nat.zero_le _, rfl, rfl, rfl⟩
  case round =>
    obtain ⟨k, q, hk, rfl, rfl, rfl⟩ := hrel
    by_cases hlt : k < S.L.length
    · obtain ⟨g, off, rfl, hg1, hg2, hc⟩ := HA.out (by omega)
      obtain ⟨_, q1, q2⟩ := hc k hlt
      have hn := Lib.hid (usd_take S.L k hlt)
      have hle := usd_take_le S.L (k + 1)
      rw [hn.out] at hle
      clear hc
      obtain ⟨T, hT⟩ : ∃ T, T = usd (S.L.take k) := ⟨_, rfl⟩
      rw [← hT] at hn hle
      rw [← hT]
      have i0 : (0 : Int) ≤ (k : Int) := by omega
      have i1 : (k : Int) < (S.L.length : Int) := by omega
      have HT := Lib.hid hT
      clear hT
      go_wp2_with fail
      go_quiet (fail)
      go_wp2_with fail
      go_roundw
      case rel => exact ⟨k + 1, _, by omega, int_eq (by rw [hn.out]; omega), by go_num, rfl⟩
      case measure => simp [intOf]; omega
    · obtain rfl : k = S.L.length := by omega
      rw [List.take_length]
      go_wp2_with fail
      go_ret
      exact ⟨rfl, hbW.trans ⟨rfl, rfl, rfl, Nat.le_refl _, fun _ _ => rfl⟩⟩

theorem info_file : (Tryz.prog.info? 89).map (fun i => (i.zero, i.size, i.bytes)) = some (some (.agg #[.string ⟨#[]⟩, .string ⟨#[]⟩, .string ⟨#[]⟩]), 3, 48) := by kernel_rfl
theorem new_three (W : World) (T : TypeId) (a b c : Value) (g : Nat) (hg : g = W.heap.size) : ∀ (j : Nat) (u : Value), [a, b, c][j]? = some u → (W.alloc (.cells #[a, b, c] T)).cell? ((⟨g, 0, none⟩ : Addr).add j) = some u := by
  subst hg
  intro j u h
  match j with
  | 0 => simp at h; subst h; simp [Addr.add]
  | 1 => simp at h; subst h; simp [Addr.add]
  | 2 => simp at h; subst h; simp [Addr.add]
  | j + 3 => simp at h
theorem one_three (a b c : ByteArray) : ∀ u ∈ [Value.string a, .string b, .string c], u.oneCell' = true := by
  intro u hu
  simp at hu
  rcases hu with rfl | rfl | rfl <;> rfl
theorem below_grown {w wr w' : World} {T : TypeId} {size n : Nat} {v : Value} {xs : List Value} {o : Obj} (h : Below w.heap.size w wr) (ho : wr.ownsRow w.heap.size T size v n xs) (hg : (wr.alloc o).grownBy w' v.ownBlock) : Below w.heap.size w w' := by
  have hs := h.size
  exact Below.grown (h.alloc hs _) hg (by simp; omega) (fun k hk => (ho.lt k hk).1)
theorem wo_take (L : List Fl) (n : ByteArray) (k : Nat) (h : k < L.length) : wo (L.take (k + 1)) n = wo (L.take k) n ++ (if eqN L[k].n n then [] else [L[k]]) := by
  unfold wo
  rw [List.take_succ_eq_append_getElem h, List.filter_append]
  congr 1
  cases hq : eqN L[k].n n <;> simp [hq]
/-- What is handed back is a slice of its own. -/
def FsPost (L : List Fl) (w : World) (e : Ending) (w' : World) : Prop := ∃ v, e = .returned v ∧ w'.ownsRow w.heap.size 89 3 v L.length (fsC L) ∧ Below w.heap.size w w'

set_option maxRecDepth 100000 in
set_option maxHeartbeats 1000000 in
theorem without_any {w : World} {lo : Nat} {sl : Value} {L : List Fl} (h : FsAt w lo sl L) (hl : L.length ≤ 1048576) (n : ByteArray) :
    Calls Tryz.prog 88 #[sl, .string n] w (FsPost (wo L n) w) := by
  have HF := Lib.hid h
  obtain ⟨i0, hi, hz0, hz1, hz2⟩ := info_parts info_file
  obtain ⟨A, cap, rfl, hcap, hA⟩ := h
  have HA := Lib.hid hA
  clear hA
  go_enter Tryz.func88, Tryz.ntmps88
  go_wp2_with fail
  go_loopw [5, 6] (fun v i wr => ∃ k m, k ≤ L.length ∧ m = (wo (L.take k) n).length ∧ m ≤ k ∧ i = .int .i64 (k : Nat) ∧ wr.ownsRow w.heap.size 89 3 v m (fsC (wo (L.take k) n)) ∧ Below w.heap.size w wr) (fun _ i _ => L.length - (intOf i).toNat)
  case atStart => exact ⟨0, 0, Nat.zero_le _, rfl, Nat.le_refl _, rfl, World.ownsRow_nil _ _ _ _, Below.refl _ _⟩
  case round =>
    obtain ⟨k, m, hk, hm, hmk, rfl, hown, hb⟩ := hrel
    have HM := Lib.hid hm
    clear hm
    by_cases hlt : k < L.length
    · obtain ⟨g, off, rfl, hg1, hg2, hc⟩ := HA.out (by omega)
      obtain ⟨q0, q1, q2⟩ := hc k hlt
      replace q0 := (hb.cell (by exact hg2)).trans q0
      replace q1 := (hb.cell (by exact hg2)).trans q1
      replace q2 := (hb.cell (by exact hg2)).trans q2
      have hgr : g < wr.heap.size := Nat.lt_of_lt_of_le hg2 hb.size
      have HW := Lib.hid (wo_take L n k hlt)
      clear hc
      have hse := seq_eq L[k].n n
      cases hq : eqN L[k].n n with
      | true =>
        rw [hq] at hse
        have HE := Lib.hid (show wo (L.take (k + 1)) n = wo (L.take k) n by rw [HW.out, hq]; simp)
        clear hq
        go_wp2_with fail
        go_roundw
        case rel => exact ⟨k + 1, m, by omega, by rw [HE.out]; exact HM.out, by omega, by go_num, by rw [HE.out]; exact hown, hb⟩
        case measure => simp [intOf]; omega
      | false =>
        rw [hq] at hse
        obtain ⟨f, hf⟩ : ∃ f, f = L[k] := ⟨_, rfl⟩
        have HE := Lib.hid (show wo (L.take (k + 1)) n = wo (L.take k) n ++ [f] by rw [HW.out, hq, hf]; simp)
        rw [← hf] at q0 q1 q2 hse
        clear hq hf
        go_wp2_with (at_builtin; refine wpList_append_own _ rfl _ _ 40 rfl w.heap.size 89 i0 (.agg #[.string ⟨#[]⟩, .string ⟨#[]⟩, .string ⟨#[]⟩]) 3 48 Tryz.underlying40 hi hz0 hz1 hz2 rfl (by decide) _ _ _ rfl (hown.alloc _) ⟨wr.heap.size, 0, none⟩ 1 1 [.string f.n, .string f.s, .string f.l] rfl rfl (new_three wr _ _ _ _ _ (by simp)) (one_three _ _ _) (by unfold maxLen; omega) (by omega) (by have := hb.size; simp; omega) ?_; intro v' w' hown' hgrow _; have hbw' := below_grown hb hown hgrow; clear hgrow)
        go_roundw
        case rel => exact ⟨k + 1, m + 1, by omega, by rw [HE.out, List.length_append, ← HM.out]; rfl, by omega, by go_num, by rw [HE.out, fsC_snoc]; exact hown', hbw'⟩
        case measure => simp [intOf]; omega
    · obtain rfl : k = L.length := by omega
      rw [List.take_length] at hown
      have HM2 := Lib.hid (show m = (wo L n).length by have := HM.out; rw [List.take_length] at this; exact this)
      go_wp2_with fail
      go_ret
      exact ⟨_, rfl, by rw [← HM2.out]; exact hown, hb⟩
end Go.Proofs.YtefknfbmphdafaaGreat.Ds
namespace Go.Proofs.YtefknfbmphdafaaGreat.Ds
open Go.RowKit Go.Maps DkM

/-- Between two rounds of put. -/
structure PutAt (f : Fl) (M : List Fl) (k : Nat) (d : Bool) (X : List Fl) : Prop where
  eq : insF f M = X ++ (if d = true then M.drop k else insF f (M.drop k))
  len : X.length ≤ k + 1
theorem PutAt.start (f : Fl) (M : List Fl) : PutAt f M 0 false [] := ⟨rfl, by simp⟩
theorem PutAt.late {f : Fl} {M X : List Fl} {k : Nat} (h : PutAt f M k true X) (hk : k < M.length) : PutAt f M (k + 1) true (X ++ [M[k]]) := by
  obtain ⟨h1, h2⟩ := h
  refine ⟨?_, by simp; omega⟩
  rw [h1, if_pos rfl, if_pos rfl, List.drop_eq_getElem_cons hk]; simp
theorem PutAt.here {f : Fl} {M X : List Fl} {k : Nat} (h : PutAt f M k false X) (hl : X.length ≤ k) (hk : k < M.length) (hb : bf f.n M[k].n = true) : PutAt f M (k + 1) true (X ++ [f] ++ [M[k]]) := by
  obtain ⟨h1, h2⟩ := h
  refine ⟨?_, by simp; omega⟩
  rw [h1, if_neg (by decide), if_pos rfl, List.drop_eq_getElem_cons hk]
  have e : insF f (M[k] :: M.drop (k + 1)) = if bf f.n M[k].n then f :: M[k] :: M.drop (k + 1) else M[k] :: insF f (M.drop (k + 1)) := rfl
  rw [e, if_pos hb]; simp
theorem PutAt.not {f : Fl} {M X : List Fl} {k : Nat} (h : PutAt f M k false X) (hk : k < M.length) (hb : bf f.n M[k].n = false) : PutAt f M (k + 1) false (X ++ [M[k]]) := by
  obtain ⟨h1, h2⟩ := h
  refine ⟨?_, by simp; omega⟩
  rw [h1, if_neg (by decide), if_neg (by decide), List.drop_eq_getElem_cons hk]
  have e : insF f (M[k] :: M.drop (k + 1)) = if bf f.n M[k].n then f :: M[k] :: M.drop (k + 1) else M[k] :: insF f (M.drop (k + 1)) := rfl
  rw [e, if_neg (by rw [hb]; decide)]; simp
theorem PutAt.done {f : Fl} {M X : List Fl} {d : Bool} (h : PutAt f M M.length d X) : insF f M = X ++ (if d = true then [] else [f]) := by
  rw [h.eq, List.drop_length]; rfl

theorem own_base {w : World} {base base' : Nat} {e : TypeId} {size n : Nat} {v : Value} {xs : List Value} (h : w.ownsRow base e size v n xs) (hb : base' ≤ base) : w.ownsRow base' e size v n xs := by
  refine ⟨h.1, ?_⟩
  rcases h.2 with hn | ⟨g, cap, cur, hv, hg, r⟩
  · exact Or.inl hn
  · exact Or.inr ⟨g, cap, cur, hv, by omega, r⟩
theorem own_drewN {w : World} {base : Nat} {e : TypeId} {size n : Nat} {v : Value} {xs : List Value} (h : w.ownsRow base e size v n xs) (q : Nat) : (w.drewN q).ownsRow base e size v n xs := h
theorem cmp_quiet {a b : ByteArray} {w : World} {n : Nat} {r : Int} (h : cmpI a b = r) (ha : a.size ≤ 9223372036854775807) (hb : b.size ≤ 9223372036854775807) :
    Calls Tryz.prog 75 #[.string a, .string b] (w.drewN n) fun e w'' => e = .returned (.int .i64 r) ∧ ∃ m, w'' = w.drewN m :=
  Calls.quiet_of (by have := cmp_any a b (w.drewN n) ha hb; unfold CmpPost at this; rw [h] at this; exact this)
set_option maxRecDepth 100000 in
set_option maxHeartbeats 4000000 in
theorem put_any {w : World} {lo : Nat} {sl : Value} {L : List Fl} (h : FsAt w lo sl L) (hl : L.length ≤ 1000000) (f : Fl) (hf : f.n.size ≤ 9223372036854775807) (hnm : ∀ g ∈ L, g.n.size ≤ 9223372036854775807) :
    Calls Tryz.prog 87 #[sl, flV f] w (FsPost (putF L f) w) := by
  obtain ⟨i0, hi, hz0, hz1, hz2⟩ := info_parts info_file
  have hml := len_wo L f.n
  have HWO := Lib.hid (without_any (h.alloc (.cells #[.string f.n, .string f.s, .string f.l] 89)) (by omega) f.n)
  have HNM := Lib.hid (show ∀ g ∈ wo L f.n, g.n.size ≤ 9223372036854775807 from fun g hg => hnm g (mem_wo.1 hg).1)
  have HP : Hid (putF L f = insF f (wo L f.n)) := Lib.hid rfl
  clear h hnm
  go_enter Tryz.func87, Tryz.ntmps87
  go_wp2_with fail
  refine HWO.out.mono ?_
  rintro e w1 ⟨v, rfl, ho, hb1⟩
  obtain ⟨M, hM⟩ : ∃ M, M = wo L f.n := ⟨_, rfl⟩
  rw [← hM] at ho HNM HP hml
  have HO := Lib.hid (FsAt.own ho (Nat.le_refl _))
  have hbx : Below w.heap.size w (w.alloc (.cells #[.string f.n, .string f.s, .string f.l] 89)) := (Below.refl _ _).alloc (Nat.le_refl _) _
  have hB1 : Below w.heap.size w w1 := hbx.trans (hb1.mono hbx.size)
  have x0 : w1.cell? ⟨w.heap.size, 0, none⟩ = some (.string f.n) := by rw [hb1.cell (by simp)]; simp
  have x1 : w1.cell? ⟨w.heap.size, 1, none⟩ = some (.string f.s) := by rw [hb1.cell (by simp)]; simp
  have x2 : w1.cell? ⟨w.heap.size, 2, none⟩ = some (.string f.l) := by rw [hb1.cell (by simp)]; simp
  have hx : w.heap.size < w1.heap.size := cell_lt x0
  obtain ⟨A, cap, rfl, hcap, hA⟩ := HO.out
  have HA := Lib.hid hA
  clear hA hbx hM HWO ho HO
  go_wp2_with fail
  go_loopw [5, 6, 7] (fun v d i wr => ∃ (k m : Nat) (D : Bool) (X : List Fl), k ≤ M.length ∧ m = X.length ∧ (D = false → X.length ≤ k) ∧ PutAt f M k D X ∧ d = .bool D ∧ i = .int .i64 (k : Nat) ∧ wr.ownsRow w1.heap.size 89 3 v m (fsC X) ∧ Below w1.heap.size w1 wr) (fun _ _ i _ => M.length - (intOf i).toNat)
  case atStart => exact ⟨0, 0, false, [], Nat.zero_le _, rfl, fun _ => Nat.le_refl _, PutAt.start _ _, rfl, rfl, World.ownsRow_nil _ _ _ _, Below.refl _ _⟩
  case round =>
    obtain ⟨k, m, D, X, hk, hm, hDl, hP, rfl, rfl, hown, hb⟩ := hrel
    have HM := Lib.hid hm
    have HPA := Lib.hid hP
    have HDL := Lib.hid hDl
    have hml2 : m ≤ k + 1 := by rw [hm]; exact hP.len
    have y0 := (hb.cell (p := ⟨w.heap.size, 0, none⟩) hx).trans x0
    have y1 := (hb.cell (p := ⟨w.heap.size, 1, none⟩) hx).trans x1
    have y2 := (hb.cell (p := ⟨w.heap.size, 2, none⟩) hx).trans x2
    have hxr : w.heap.size < wr.heap.size := Nat.lt_of_lt_of_le hx hb.size
    clear hm hP hDl
    by_cases hlt : k < M.length
    · obtain ⟨g, off, rfl, hg1, hg2, hc⟩ := HA.out (by omega)
      obtain ⟨q0, q1, q2⟩ := hc k hlt
      replace q0 := (hb.cell (by exact hg2)).trans q0
      replace q1 := (hb.cell (by exact hg2)).trans q1
      replace q2 := (hb.cell (by exact hg2)).trans q2
      have hgr : g < wr.heap.size := Nat.lt_of_lt_of_le hg2 hb.size
      have HMn := Lib.hid (HNM.out M[k] (List.getElem_mem _))
      have i0' : (0 : Int) ≤ (k : Int) := by omega
      have i1' : (k : Int) < (M.length : Int) := by omega
      cases D with
      | true =>
        have HN := Lib.hid (HPA.out.late hlt)
        obtain ⟨G, hG⟩ : ∃ G, G = M[k] := ⟨_, rfl⟩
        rw [← hG] at q0 q1 q2 HN
        clear hG
        go_wp2_with fail
        go_quiet (fail)
        obtain ⟨V, hV⟩ : ∃ V, V = wr.drewN nq := ⟨_, rfl⟩
        have ownV := own_drewN hown nq
        rw [← hV] at ownV
        have hbV : Below w1.heap.size w1 V := by rw [hV]; exact hb.trans ⟨rfl, rfl, rfl, Nat.le_refl _, fun _ _ => rfl⟩
        rw [← hV]
        have z0 : V.cell? ⟨w.heap.size, 0, none⟩ = some (.string f.n) := by rw [hV]; exact y0
        have z1 : V.cell? ⟨w.heap.size, 1, none⟩ = some (.string f.s) := by rw [hV]; exact y1
        have z2 : V.cell? ⟨w.heap.size, 2, none⟩ = some (.string f.l) := by rw [hV]; exact y2
        have p0 : V.cell? ⟨g, off + k * 3, none⟩ = some (.string G.n) := by rw [hV]; exact q0
        have p1 : V.cell? ⟨g, off + k * 3 + 1, none⟩ = some (.string G.s) := by rw [hV]; exact q1
        have p2 : V.cell? ⟨g, off + k * 3 + 2, none⟩ = some (.string G.l) := by rw [hV]; exact q2
        have hgV : g < V.heap.size := Nat.lt_of_lt_of_le hg2 hbV.size
        have hxV : w.heap.size < V.heap.size := Nat.lt_of_lt_of_le hx hbV.size
        clear hV q0 q1 q2 y0 y1 y2 hown
        go_wp2_with (at_builtin; refine wpList_append_own _ rfl (.tmp 35) (.tmp 40) 40 rfl w1.heap.size 89 i0 (.agg #[.string ⟨#[]⟩, .string ⟨#[]⟩, .string ⟨#[]⟩]) 3 48 Tryz.underlying40 hi hz0 hz1 hz2 rfl (by decide) _ _ _ rfl (ownV.alloc _) ⟨V.heap.size, 0, none⟩ 1 1 [.string G.n, .string G.s, .string G.l] rfl rfl (new_three V _ _ _ _ _ (by simp)) (one_three _ _ _) (by unfold maxLen; omega) (by omega) (by have := hbV.size; simp; omega) ?_; intro v' w2 own2 hgrow _; have hb2 := below_grown (w := w1) hbV ownV hgrow; clear hgrow)
        go_roundw
        case rel => exact ⟨k + 1, m + 1, true, X ++ [G], by omega, by rw [List.length_append, ← HM.out]; rfl, fun h => (by cases h), HN.out, rfl, by go_num, by rw [fsC_snoc]; exact own2, hb2⟩
        case measure => simp [intOf]; omega
      | false =>
        have hXk := HDL.out rfl
        have hmk : m ≤ k := by rw [HM.out]; exact hXk
        clear hXk
        cases hbf : bf f.n M[k].n with
        | true =>
          have HN := Lib.hid (HPA.out.here (HDL.out rfl) hlt hbf)
          have HQ := Lib.hid (hc k hlt)
          have HCI := Lib.hid (cmpI_yes hbf)
          obtain ⟨G, hG⟩ : ∃ G, G = M[k] := ⟨_, rfl⟩
          rw [← hG] at q0 q1 q2 HN HCI HMn HQ
          clear hG hbf hc
          go_wp2_with fail
          go_quiet ((go_at_call 75; exact cmp_quiet HCI.out hf HMn.out))
          obtain ⟨V, hV⟩ : ∃ V, V = wr.drewN nq := ⟨_, rfl⟩
          have ownV := own_drewN hown nq
          rw [← hV] at ownV
          have hbV : Below w1.heap.size w1 V := by rw [hV]; exact hb.trans ⟨rfl, rfl, rfl, Nat.le_refl _, fun _ _ => rfl⟩
          rw [← hV]
          have z0 : V.cell? ⟨w.heap.size, 0, none⟩ = some (.string f.n) := by rw [hV]; exact y0
          have z1 : V.cell? ⟨w.heap.size, 1, none⟩ = some (.string f.s) := by rw [hV]; exact y1
          have z2 : V.cell? ⟨w.heap.size, 2, none⟩ = some (.string f.l) := by rw [hV]; exact y2
          have p0 : V.cell? ⟨g, off + k * 3, none⟩ = some (.string G.n) := by rw [hV]; exact q0
          have p1 : V.cell? ⟨g, off + k * 3 + 1, none⟩ = some (.string G.s) := by rw [hV]; exact q1
          have p2 : V.cell? ⟨g, off + k * 3 + 2, none⟩ = some (.string G.l) := by rw [hV]; exact q2
          have hgV : g < V.heap.size := Nat.lt_of_lt_of_le hg2 hbV.size
          have hxV : w.heap.size < V.heap.size := Nat.lt_of_lt_of_le hx hbV.size
          clear hV q0 q1 q2 y0 y1 y2 hown
          go_wp2_with (first | (at_builtin; refine wpList_append_own _ rfl (.tmp 31) (.tmp 33) 40 rfl w1.heap.size 89 i0 (.agg #[.string ⟨#[]⟩, .string ⟨#[]⟩, .string ⟨#[]⟩]) 3 48 Tryz.underlying40 hi hz0 hz1 hz2 rfl (by decide) _ _ _ rfl (ownV.alloc _) ⟨V.heap.size, 0, none⟩ 1 1 [.string f.n, .string f.s, .string f.l] rfl rfl (new_three V _ _ _ _ _ (by simp)) (one_three _ _ _) (by unfold maxLen; omega) (by omega) (by have := hbV.size; simp; omega) ?_; intro v' V2 own2 hgrow _; have hb2 := below_grown (w := w1) hbV ownV hgrow; clear hgrow; have r0 := (hb2.cell (p := ⟨g, off + k * 3, none⟩) hg2).trans HQ.out.1; have r1 := (hb2.cell (p := ⟨g, off + k * 3 + 1, none⟩) hg2).trans HQ.out.2.1; have r2 := (hb2.cell (p := ⟨g, off + k * 3 + 2, none⟩) hg2).trans HQ.out.2.2; have hgV2 : g < V2.heap.size := Nat.lt_of_lt_of_le hg2 hb2.size) | (at_builtin; refine wpList_append_own _ rfl (.tmp 35) (.tmp 40) 40 rfl w1.heap.size 89 i0 (.agg #[.string ⟨#[]⟩, .string ⟨#[]⟩, .string ⟨#[]⟩]) 3 48 Tryz.underlying40 hi hz0 hz1 hz2 rfl (by decide) _ _ _ rfl (own2.alloc _) ⟨V2.heap.size, 0, none⟩ 1 1 [.string G.n, .string G.s, .string G.l] rfl rfl (new_three V2 _ _ _ _ _ (by simp)) (one_three _ _ _) (by unfold maxLen; omega) (by omega) (by have := hb2.size; simp; omega) ?_; intro v'' V3 own3 hgrow _; have hb3 := below_grown (w := w1) hb2 own2 hgrow; clear hgrow))
          go_roundw
          case rel => exact ⟨k + 1, m + 1 + 1, true, X ++ [f] ++ [G], by omega, by rw [List.length_append, List.length_append, ← HM.out]; rfl, fun h => (by cases h), HN.out, rfl, by go_num, by rw [fsC_snoc, fsC_snoc]; exact own3, hb3⟩
          case measure => simp [intOf]; omega
        | false =>
          have HN := Lib.hid (HPA.out.not hlt hbf)
          have HCI := Lib.hid (rfl : cmpI f.n M[k].n = cmpI f.n M[k].n)
          have hcn := cmpI_no hbf
          obtain ⟨G, hG⟩ : ∃ G, G = M[k] := ⟨_, rfl⟩
          rw [← hG] at q0 q1 q2 HN HCI HMn hcn
          clear hG hbf
          obtain ⟨R, hR⟩ : ∃ R, R = cmpI f.n G.n := ⟨_, rfl⟩
          rw [← hR] at hcn
          have HR := Lib.hid hR.symm
          clear hR
          go_wp2_with fail
          go_quiet ((go_at_call 75; exact cmp_quiet HR.out hf HMn.out))
          obtain ⟨V, hV⟩ : ∃ V, V = wr.drewN nq := ⟨_, rfl⟩
          have ownV := own_drewN hown nq
          rw [← hV] at ownV
          have hbV : Below w1.heap.size w1 V := by rw [hV]; exact hb.trans ⟨rfl, rfl, rfl, Nat.le_refl _, fun _ _ => rfl⟩
          rw [← hV]
          have z0 : V.cell? ⟨w.heap.size, 0, none⟩ = some (.string f.n) := by rw [hV]; exact y0
          have z1 : V.cell? ⟨w.heap.size, 1, none⟩ = some (.string f.s) := by rw [hV]; exact y1
          have z2 : V.cell? ⟨w.heap.size, 2, none⟩ = some (.string f.l) := by rw [hV]; exact y2
          have p0 : V.cell? ⟨g, off + k * 3, none⟩ = some (.string G.n) := by rw [hV]; exact q0
          have p1 : V.cell? ⟨g, off + k * 3 + 1, none⟩ = some (.string G.s) := by rw [hV]; exact q1
          have p2 : V.cell? ⟨g, off + k * 3 + 2, none⟩ = some (.string G.l) := by rw [hV]; exact q2
          have hgV : g < V.heap.size := Nat.lt_of_lt_of_le hg2 hbV.size
          have hxV : w.heap.size < V.heap.size := Nat.lt_of_lt_of_le hx hbV.size
          clear hV q0 q1 q2 y0 y1 y2 hown
          go_wp2_with (at_builtin; refine wpList_append_own _ rfl (.tmp 35) (.tmp 40) 40 rfl w1.heap.size 89 i0 (.agg #[.string ⟨#[]⟩, .string ⟨#[]⟩, .string ⟨#[]⟩]) 3 48 Tryz.underlying40 hi hz0 hz1 hz2 rfl (by decide) _ _ _ rfl (ownV.alloc _) ⟨V.heap.size, 0, none⟩ 1 1 [.string G.n, .string G.s, .string G.l] rfl rfl (new_three V _ _ _ _ _ (by simp)) (one_three _ _ _) (by unfold maxLen; omega) (by omega) (by have := hbV.size; simp; omega) ?_; intro v' V2 own2 hgrow _; have hb2 := below_grown (w := w1) hbV ownV hgrow; clear hgrow)
          go_roundw
          case rel => exact ⟨k + 1, m + 1, false, X ++ [G], by omega, by rw [List.length_append, ← HM.out]; rfl, fun _ => by rw [List.length_append, ← HM.out]; simp; omega, HN.out, rfl, by go_num, by rw [fsC_snoc]; exact own2, hb2⟩
          case measure => simp [intOf]; omega
    · obtain rfl : k = M.length := by omega
      cases D with
      | true =>
        have HE := Lib.hid (show putF L f = X by rw [HP.out, HPA.out.done]; simp)
        go_wp2_with fail
        go_ret
        refine ⟨_, rfl, ?_, hB1.trans (hb.mono hB1.size)⟩
        rw [HE.out, ← HM.out]
        exact own_base hown hB1.size
      | false =>
        have HE := Lib.hid (show putF L f = X ++ [f] by rw [HP.out, HPA.out.done]; simp)
        have hmk : m ≤ M.length := by rw [HM.out]; exact HDL.out rfl
        go_wp2_with (at_builtin; refine wpList_append_own _ rfl (.tmp 44) (.tmp 46) 40 rfl w1.heap.size 89 i0 (.agg #[.string ⟨#[]⟩, .string ⟨#[]⟩, .string ⟨#[]⟩]) 3 48 Tryz.underlying40 hi hz0 hz1 hz2 rfl (by decide) _ _ _ rfl (hown.alloc _) ⟨wr.heap.size, 0, none⟩ 1 1 [.string f.n, .string f.s, .string f.l] rfl rfl (new_three wr _ _ _ _ _ (by simp)) (one_three _ _ _) (by unfold maxLen; omega) (by omega) (by have := hb.size; simp; omega) ?_; intro v' V2 own2 hgrow _; have hb2 := below_grown (w := w1) hb hown hgrow; clear hgrow)
        go_ret
        refine ⟨_, rfl, ?_, hB1.trans (hb2.mono hB1.size)⟩
        rw [HE.out, fsC_snoc, List.length_append, ← HM.out]
        exact own_base own2 hB1.size
end Go.Proofs.YtefknfbmphdafaaGreat.Ds
namespace Go.Proofs.YtefknfbmphdafaaGreat.Ds
open Go.RowKit Go.Maps DkM

def DBox (w : World) (D : Nat) (sl : Value) (S : Dk) : Prop :=
  w.cell? ⟨D, 0, none⟩ = some sl ∧ w.cell? ⟨D, 1, none⟩ = some (.int .i64 S.lim) ∧ w.cell? ⟨D, 2, none⟩ = some (.int .i64 S.fuse) ∧ w.cell? ⟨D, 3, none⟩ = some (.int .i64 S.ops) ∧ w.cell? ⟨D, 4, none⟩ = some (.int .i64 S.reads) ∧ w.cell? ⟨D, 5, none⟩ = some (.bool S.down)
def OBox (w : World) (O : Nat) (o : Op5) : Prop :=
  w.cell? ⟨O, 0, none⟩ = some (.int .i64 o.k) ∧ w.cell? ⟨O, 1, none⟩ = some (.string o.a) ∧ w.cell? ⟨O, 2, none⟩ = some (.string o.b) ∧ w.cell? ⟨O, 3, none⟩ = some (.int .i64 o.n)
theorem DBox.lt {w : World} {D : Nat} {sl : Value} {S : Dk} (h : DBox w D sl S) : D < w.heap.size := cell_lt h.1
theorem OBox.lt {w : World} {O : Nat} {o : Op5} (h : OBox w O o) : O < w.heap.size := cell_lt h.1
theorem DBox.keep {w w' : World} {D : Nat} {sl : Value} {S : Dk} (h : DBox w D sl S) (hb : w'.heap[D]? = w.heap[D]?) : DBox w' D sl S := by
  have k : ∀ i, w'.cell? ⟨D, i, none⟩ = w.cell? ⟨D, i, none⟩ := fun i => World.cell?_of_block (w := w) hb
  unfold DBox; rw [k, k, k, k, k, k]; exact h
theorem OBox.keep {w w' : World} {O : Nat} {o : Op5} (h : OBox w O o) (hb : w'.heap[O]? = w.heap[O]?) : OBox w' O o := by
  have k : ∀ i, w'.cell? ⟨O, i, none⟩ = w.cell? ⟨O, i, none⟩ := fun i => World.cell?_of_block (w := w) hb
  unfold OBox; rw [k, k, k, k]; exact h
theorem DBox.below {w w' : World} {D : Nat} {sl : Value} {S : Dk} (h : DBox w D sl S) (hb : Below w.heap.size w w') : DBox w' D sl S := h.keep (hb.block D h.lt)
theorem OBox.below {w w' : World} {O : Nat} {o : Op5} (h : OBox w O o) (hb : Below w.heap.size w w') : OBox w' O o := h.keep (hb.block O h.lt)
theorem DBox.new (w : World) (sl : Value) (S : Dk) : DBox (w.alloc (.cells #[sl, .int .i64 S.lim, .int .i64 S.fuse, .int .i64 S.ops, .int .i64 S.reads, .bool S.down] 43)) w.heap.size sl S := by unfold DBox; simp
theorem OBox.new (w : World) (o : Op5) : OBox (w.alloc (.cells #[.int .i64 o.k, .string o.a, .string o.b, .int .i64 o.n] 64)) w.heap.size o := op_box _ _ _ _ _
theorem below_one (w : World) (o : Obj) : Below w.heap.size w (w.alloc o) := (Below.refl _ _).alloc (Nat.le_refl _) _
/-- The two boxes with which most of the reference's functions begin. -/
theorem two_boxes (w : World) (sl : Value) (S : Dk) (o : Op5) : ∃ W, W = (w.alloc (.cells #[sl, .int .i64 S.lim, .int .i64 S.fuse, .int .i64 S.ops, .int .i64 S.reads, .bool S.down] 43)).alloc (.cells #[.int .i64 o.k, .string o.a, .string o.b, .int .i64 o.n] 64) ∧
    DBox W w.heap.size sl S ∧ OBox W (w.heap.size + 1) o ∧ Below w.heap.size w W := by
  refine ⟨_, rfl, (DBox.new w sl S).below (below_one _ _), ?_, below_two _ _ _⟩
  have := OBox.new (w.alloc (.cells #[sl, .int .i64 S.lim, .int .i64 S.fuse, .int .i64 S.ops, .int .i64 S.reads, .bool S.down] 43)) o
  simpa using this

theorem below_draw' {w : World} : Below w.heap.size w w.drew := ⟨rfl, rfl, rfl, Nat.le_refl _, fun _ _ => rfl⟩
theorem boxes_keep {w1 w2 : World} {D O : Nat} {sl : Value} {S : Dk} {o : Op5} (hD : DBox w1 D sl S) (hO : OBox w1 O o) (hk : o.k = 1) (hb : Below w1.drew.heap.size w1.drew w2) :
    (w2.cell? ⟨D, 0, none⟩ = some sl ∧ w2.cell? ⟨D, 1, none⟩ = some (.int .i64 S.lim) ∧ w2.cell? ⟨D, 2, none⟩ = some (.int .i64 S.fuse) ∧ w2.cell? ⟨D, 3, none⟩ = some (.int .i64 S.ops) ∧ w2.cell? ⟨D, 4, none⟩ = some (.int .i64 S.reads) ∧ w2.cell? ⟨D, 5, none⟩ = some (.bool S.down)) ∧ (w2.cell? ⟨O, 0, none⟩ = some (.int .i64 1) ∧ w2.cell? ⟨O, 2, none⟩ = some (.string o.b)) := by
  have h2 := hO.below (below_undrew hb)
  exact ⟨hD.below (below_undrew hb), by rw [← hk]; exact h2.1, h2.2.2.1⟩
theorem boxes_o0 {w1 w2 : World} {O : Nat} {o : Op5} (hO : OBox w1 O o) (hk : o.k = 1) (hb : Below w1.drew.heap.size w1.drew w2) : w2.cell? ⟨O, 0, none⟩ = some (.int .i64 1) := by
  have h2 := hO.below (below_undrew hb)
  rw [← hk]; exact h2.1

def whyO (S : Dk) (o : Op5) : Nat := if o.k = 0 then whyC S.L o.a else if o.k = 1 then whyA S o.a o.b else if o.k = 3 then whyR S o.a o.b else thr S.L o.a
/-- What the reference asks of a disk. -/
structure RfAt (w : World) (lo : Nat) (sl : Value) (S : Dk) : Prop where
  fs : FsAt w lo sl S.L
  len : S.L.length ≤ 1000000
  usd : usd S.L ≤ 1073741824
  used : S.used = (DkM.usd S.L : Nat)
  names : ∀ f ∈ S.L, f.n.size ≤ 9223372036854775807
theorem RfAt.below {w w' : World} {lo : Nat} {sl : Value} {S : Dk} (h : RfAt w lo sl S) (hb : Below w.heap.size w w') : RfAt w' lo sl S := ⟨h.fs.below hb, h.len, h.usd, h.used, h.names⟩

set_option maxRecDepth 100000 in
set_option maxHeartbeats 4000000 in
theorem why_any {w : World} {lo : Nat} {sl : Value} {S : Dk} (h : RfAt w lo sl S) {o : Op5} (ho : OkOp o) (_hk0 : 0 ≤ o.k) (_hk4 : o.k ≤ 4) (hlim : S.lim ≤ 1073741824) :
    Calls Tryz.prog 51 #[rfV sl S, opV o] w fun e w' => e = .returned (.int .i64 (whyO S o : Nat)) ∧ Below w.heap.size w w' := by
  have hlen := h.len
  have husd := h.usd
  have hused := h.used
  have ha1 := ho.a1
  have hb1 := ho.b1
  have hs : o.b.size ≤ 9223372036854775807 := by omega
  have hs' : o.a.size ≤ 9223372036854775807 := by omega
  obtain ⟨W, hW, hD, hO, hbW⟩ := two_boxes w sl S o
  have HW := Lib.hid hW
  have hRW : RfAt W lo sl S := h.below hbW
  have HAT := Lib.hid (at_any hRW.fs o.a (by omega))
  have HDB := Lib.hid hD
  have HOB := Lib.hid hO
  have HRW := Lib.hid hRW
  obtain ⟨d0, d1, d2, d3, d4, d5⟩ := hD
  obtain ⟨o0, o1, o2, o3⟩ := hO
  clear h hW hRW ho
  cases hl : lkF S.L o.a with
  | none =>
    have hix := Lib.hid (idx_none hl)
    by_cases k0 : o.k = 0
    · rw [k0] at o0
      cases hr : Rgt o.a with
      | false =>
        have HR := Lib.hid hr
        have HE := Lib.hid (show whyO S o = 51 by unfold whyO; rw [if_pos k0]; unfold whyC; rw [if_neg (by rw [hr, hl]; simp)])
        replace k0 := Lib.hid k0
        clear hl hr
        go_enter Tryz.func51, Tryz.ntmps51
        go_wp2_with fail
        rw [← HW.out]
        refine HAT.out.mono ?_
        rw [hix.out]
        rintro e w1 ⟨rfl, hb1⟩
        have hD1 := HDB.out.below hb1
        have hO1 := HOB.out.below hb1
        obtain ⟨d0, d1, d2, d3, d4, d5⟩ := hD1
        obtain ⟨o0, o1, o2, o3⟩ := hO1
        rw [k0.out] at o0
        have hbw := hbW.trans (hb1.mono hbW.size)
        go_wp2_with (go_at_call 85; refine (right_ref o.a _ hs').mono ?_; rw [HR.out]; rintro e wz ⟨rfl, rfl⟩)
        go_ret
        exact ⟨by rw [HE.out]; rfl, hbw⟩
      | true =>
        have HR := Lib.hid hr
        have HE := Lib.hid (show whyO S o = 0 by unfold whyO; rw [if_pos k0]; unfold whyC; rw [if_pos (by rw [hr, hl]; simp)])
        replace k0 := Lib.hid k0
        clear hl hr
        go_enter Tryz.func51, Tryz.ntmps51
        go_wp2_with fail
        rw [← HW.out]
        refine HAT.out.mono ?_
        rw [hix.out]
        rintro e w1 ⟨rfl, hb1⟩
        have hD1 := HDB.out.below hb1
        have hO1 := HOB.out.below hb1
        obtain ⟨d0, d1, d2, d3, d4, d5⟩ := hD1
        obtain ⟨o0, o1, o2, o3⟩ := hO1
        rw [k0.out] at o0
        have hbw := hbW.trans (hb1.mono hbW.size)
        go_wp2_with (go_at_call 85; refine (right_ref o.a _ hs').mono ?_; rw [HR.out]; rintro e wz ⟨rfl, rfl⟩)
        go_quiet (fail)
        go_wp2_with fail
        go_ret
        exact ⟨by rw [HE.out]; rfl, hbw.trans ⟨rfl, rfl, rfl, Nat.le_refl _, fun _ _ => rfl⟩⟩
    · have kne : (o.k == 0) = false := by simpa using k0
      have kneq : (o.k != 0) = true := by simpa using k0
      have HE := Lib.hid (show whyO S o = 51 by
        have ht : thr S.L o.a = 51 := thr_none (by rw [hl]; rfl)
        unfold whyO; rw [if_neg k0]
        split
        · unfold whyA; rw [if_pos (by rw [hl]; rfl)]
        split
        · unfold whyR; rw [ht]; split <;> rfl
        · exact ht)
      clear k0 hl
      go_enter Tryz.func51, Tryz.ntmps51
      go_wp2_with fail
      rw [← HW.out]
      refine HAT.out.mono ?_
      rw [hix.out]
      rintro e w1 ⟨rfl, hb1⟩
      have hD1 := HDB.out.below hb1
      have hO1 := HOB.out.below hb1
      obtain ⟨d0, d1, d2, d3, d4, d5⟩ := hD1
      obtain ⟨o0, o1, o2, o3⟩ := hO1
      have hbw := hbW.trans (hb1.mono hbW.size)
      go_wp2_with fail
      go_ret
      exact ⟨by rw [HE.out]; rfl, hbw⟩
  | some f =>
    obtain ⟨j, hj, hjl, _⟩ := idx_some hl
    have hix := Lib.hid hj
    have hsome : (lkF S.L o.a).isSome = true := by rw [hl]; rfl
    have HT := Lib.hid (thr_some hsome)
    have hs2 := Lib.hid hsome
    clear hl hj hsome
    by_cases k0 : o.k = 0
    · have HE := Lib.hid (show whyO S o = 51 by unfold whyO; rw [if_pos k0]; unfold whyC; rw [if_neg (by rw [hs2.out]; simp)])
      replace k0 := Lib.hid k0
      go_enter Tryz.func51, Tryz.ntmps51
      go_wp2_with fail
      rw [← HW.out]
      refine HAT.out.mono ?_
      rw [hix.out]
      rintro e w1 ⟨rfl, hb1⟩
      have hD1 := HDB.out.below hb1
      have hO1 := HOB.out.below hb1
      obtain ⟨d0, d1, d2, d3, d4, d5⟩ := hD1
      obtain ⟨o0, o1, o2, o3⟩ := hO1
      rw [k0.out] at o0
      have hbw := hbW.trans (hb1.mono hbW.size)
      go_wp2_with fail
      go_ret
      exact ⟨by rw [HE.out]; rfl, hbw⟩
    · have kne : (o.k == 0) = false := by simpa using k0
      have kneq : (o.k != 0) = true := by simpa using k0
      have kn0 := Lib.hid k0
      clear k0
      by_cases k1 : o.k = 1
      · by_cases hbig : S.lim - S.used < (o.b.size : Nat)
        · have HE := Lib.hid (show whyO S o = 52 by unfold whyO; rw [if_neg kn0.out, if_pos k1]; unfold whyA; rw [if_neg (by rw [hs2.out]; simp), if_pos hbig])
          have hbg : S.lim < (usd S.L : Int) + (o.b.size : Int) := by omega
          have HU := Lib.hid (fun W' hb => rused_any (w := W') (hb : FsAt W' lo sl S.L) (by omega) husd)
          replace k1 := Lib.hid k1
          clear hbig hused
          go_enter Tryz.func51, Tryz.ntmps51
          go_wp2_with fail
          rw [← HW.out]
          refine HAT.out.mono ?_
          rw [hix.out]
          rintro e w1 ⟨rfl, hb1⟩
          have hF1 := HRW.out.fs.below hb1
          have hD1 := HDB.out.below hb1
          have hO1x := HOB.out.below hb1
          have hD1l := hD1.lt
          have hO1l := hO1x.lt
          have hO1 := HOB.out.below hb1
          obtain ⟨d0, d1, d2, d3, d4, d5⟩ := hD1
          obtain ⟨o0, o1, o2, o3⟩ := hO1
          rw [k1.out] at o0
          have hbw := hbW.trans (hb1.mono hbW.size)
          have HF1 := Lib.hid hF1
          have HD1 := Lib.hid (HDB.out.below hb1)
          have HO1 := Lib.hid (HOB.out.below hb1)
          clear hF1 hO1x
          go_wp2_with fail
          have hwr : IntKind.i64.wrap ((usd S.L : Int) + (o.b.size : Int)) = (usd S.L : Int) + (o.b.size : Int) := IntWalk.i64_in _ (by omega)
          go_region_held3 (fun w' => (w'.cell? ⟨w.heap.size, 0, none⟩ = some sl ∧ w'.cell? ⟨w.heap.size, 1, none⟩ = some (.int .i64 S.lim) ∧ w'.cell? ⟨w.heap.size, 2, none⟩ = some (.int .i64 S.fuse) ∧ w'.cell? ⟨w.heap.size, 3, none⟩ = some (.int .i64 S.ops) ∧ w'.cell? ⟨w.heap.size, 4, none⟩ = some (.int .i64 S.reads) ∧ w'.cell? ⟨w.heap.size, 5, none⟩ = some (.bool S.down)) ∧ (w'.cell? ⟨w.heap.size + 1, 0, none⟩ = some (.int .i64 1) ∧ w'.cell? ⟨w.heap.size + 1, 2, none⟩ = some (.string o.b)))
            (first | exact ⟨⟨d0, d1, d2, d3, d4, d5⟩, ⟨o0, o2⟩⟩ | exact boxes_keep HD1.out HO1.out k1.out hb3)
            (first | (go_at_call 86; refine (HU.out _ (HF1.out.below below_draw')).mono ?_; rintro e w2 ⟨rfl, hb3⟩))
          all_goals
            have hbe := hbw.trans ((below_undrew hb3).mono hbw.size)
            have o0' := boxes_o0 HO1.out k1.out hb3
            try rw [hwr]
            clear hwr
            go_wp2_with fail
            go_ret
            exact ⟨by rw [HE.out]; rfl, hbe⟩
        · have HE := Lib.hid (show whyO S o = 0 by unfold whyO; rw [if_neg kn0.out, if_pos k1]; unfold whyA; rw [if_neg (by rw [hs2.out]; simp), if_neg hbig])
          have hbg : (usd S.L : Int) + (o.b.size : Int) ≤ S.lim := by omega
          have HU := Lib.hid (fun W' hb => rused_any (w := W') (hb : FsAt W' lo sl S.L) (by omega) husd)
          replace k1 := Lib.hid k1
          clear hbig hused
          go_enter Tryz.func51, Tryz.ntmps51
          go_wp2_with fail
          rw [← HW.out]
          refine HAT.out.mono ?_
          rw [hix.out]
          rintro e w1 ⟨rfl, hb1⟩
          have hF1 := HRW.out.fs.below hb1
          have hD1 := HDB.out.below hb1
          have hO1x := HOB.out.below hb1
          have hD1l := hD1.lt
          have hO1l := hO1x.lt
          have hO1 := HOB.out.below hb1
          obtain ⟨d0, d1, d2, d3, d4, d5⟩ := hD1
          obtain ⟨o0, o1, o2, o3⟩ := hO1
          rw [k1.out] at o0
          have hbw := hbW.trans (hb1.mono hbW.size)
          have HF1 := Lib.hid hF1
          have HD1 := Lib.hid (HDB.out.below hb1)
          have HO1 := Lib.hid (HOB.out.below hb1)
          clear hF1 hO1x
          go_wp2_with fail
          have hwr : IntKind.i64.wrap ((usd S.L : Int) + (o.b.size : Int)) = (usd S.L : Int) + (o.b.size : Int) := IntWalk.i64_in _ (by omega)
          go_region_held3 (fun w' => (w'.cell? ⟨w.heap.size, 0, none⟩ = some sl ∧ w'.cell? ⟨w.heap.size, 1, none⟩ = some (.int .i64 S.lim) ∧ w'.cell? ⟨w.heap.size, 2, none⟩ = some (.int .i64 S.fuse) ∧ w'.cell? ⟨w.heap.size, 3, none⟩ = some (.int .i64 S.ops) ∧ w'.cell? ⟨w.heap.size, 4, none⟩ = some (.int .i64 S.reads) ∧ w'.cell? ⟨w.heap.size, 5, none⟩ = some (.bool S.down)) ∧ (w'.cell? ⟨w.heap.size + 1, 0, none⟩ = some (.int .i64 1) ∧ w'.cell? ⟨w.heap.size + 1, 2, none⟩ = some (.string o.b)))
            (first | exact ⟨⟨d0, d1, d2, d3, d4, d5⟩, ⟨o0, o2⟩⟩ | exact boxes_keep HD1.out HO1.out k1.out hb3)
            (first | (go_at_call 86; refine (HU.out _ (HF1.out.below below_draw')).mono ?_; rintro e w2 ⟨rfl, hb3⟩))
          all_goals
            have hbe := hbw.trans ((below_undrew hb3).mono hbw.size)
            have o0' := boxes_o0 HO1.out k1.out hb3
            try rw [hwr]
            clear hwr
            go_wp2_with fail
            go_ret
            exact ⟨by rw [HE.out]; rfl, hbe⟩
      · have kn1 : (o.k == 1) = false := by simpa using k1
        have kk1 := Lib.hid k1
        clear k1
        by_cases k3 : o.k = 3
        · cases hr : Rgt o.b with
          | false =>
            have HR := Lib.hid hr
            have HE := Lib.hid (show whyO S o = 51 by unfold whyO; rw [if_neg kn0.out, if_neg kk1.out, if_pos k3]; unfold whyR; rw [if_neg (by rw [hr]; decide)])
            replace k3 := Lib.hid k3
            clear hr
            go_enter Tryz.func51, Tryz.ntmps51
            go_wp2_with fail
            rw [← HW.out]
            refine HAT.out.mono ?_
            rw [hix.out]
            rintro e w1 ⟨rfl, hb1⟩
            have hD1 := HDB.out.below hb1
            have hO1 := HOB.out.below hb1
            obtain ⟨d0, d1, d2, d3, d4, d5⟩ := hD1
            obtain ⟨o0, o1, o2, o3⟩ := hO1
            rw [k3.out] at o0
            have hbw := hbW.trans (hb1.mono hbW.size)
            go_wp2_with fail
            go_quiet (fail)
            go_wp2_with (go_at_call 85; refine (right_ref o.b _ hs).mono ?_; rw [HR.out]; rintro e wz ⟨rfl, rfl⟩)
            go_ret
            exact ⟨by rw [HE.out]; rfl, hbw.trans ⟨rfl, rfl, rfl, Nat.le_refl _, fun _ _ => rfl⟩⟩
          | true =>
            have HR := Lib.hid hr
            have HE := Lib.hid (show whyO S o = 0 by unfold whyO; rw [if_neg kn0.out, if_neg kk1.out, if_pos k3]; unfold whyR; rw [if_pos hr]; exact HT.out)
            replace k3 := Lib.hid k3
            clear hr
            go_enter Tryz.func51, Tryz.ntmps51
            go_wp2_with fail
            rw [← HW.out]
            refine HAT.out.mono ?_
            rw [hix.out]
            rintro e w1 ⟨rfl, hb1⟩
            have hD1 := HDB.out.below hb1
            have hO1 := HOB.out.below hb1
            obtain ⟨d0, d1, d2, d3, d4, d5⟩ := hD1
            obtain ⟨o0, o1, o2, o3⟩ := hO1
            rw [k3.out] at o0
            have hbw := hbW.trans (hb1.mono hbW.size)
            go_wp2_with fail
            go_quiet (fail)
            go_wp2_with (go_at_call 85; refine (right_ref o.b _ hs).mono ?_; rw [HR.out]; rintro e wz ⟨rfl, rfl⟩)
            go_ret
            exact ⟨by rw [HE.out]; rfl, hbw.trans ⟨rfl, rfl, rfl, Nat.le_refl _, fun _ _ => rfl⟩⟩
        · have kn3 : (o.k == 3) = false := by simpa using k3
          have HE := Lib.hid (show whyO S o = 0 by unfold whyO; rw [if_neg kn0.out, if_neg kk1.out, if_neg k3]; exact HT.out)
          clear k3
          go_enter Tryz.func51, Tryz.ntmps51
          go_wp2_with fail
          rw [← HW.out]
          refine HAT.out.mono ?_
          rw [hix.out]
          rintro e w1 ⟨rfl, hb1⟩
          have hD1 := HDB.out.below hb1
          have hO1 := HOB.out.below hb1
          obtain ⟨d0, d1, d2, d3, d4, d5⟩ := hD1
          obtain ⟨o0, o1, o2, o3⟩ := hO1
          have hbw := hbW.trans (hb1.mono hbW.size)
          go_wp2_with fail
          go_quiet (fail)
          go_wp2_with fail
          go_ret
          exact ⟨by rw [HE.out]; rfl, hbw.trans ⟨rfl, rfl, rfl, Nat.le_refl _, fun _ _ => rfl⟩⟩
end Go.Proofs.YtefknfbmphdafaaGreat.Ds
