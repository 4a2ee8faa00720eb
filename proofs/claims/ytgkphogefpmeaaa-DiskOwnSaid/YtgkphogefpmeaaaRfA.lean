/- The reference's disk in memory; the walks of its small functions. -/
import Derived.Test.YtgkphogefpmeaaaDkF
import Derived.Deep.RegionHeld3
namespace Go.Proofs.Ytgkphogefpmeaaa
open Go.RowKit Go.Maps DkM

def flC (f : Fl) : List Value := [.string f.n, .string f.s, .string f.l]
def fsC (L : List Fl) : List Value := L.flatMap flC
theorem fsC_len (L : List Fl) : (fsC L).length = L.length * 3 := by
  induction L with
  | nil => rfl
  | cons f r ih => simp only [fsC, List.flatMap_cons, List.length_append] at ih ⊢; rw [ih]; simp [flC]; omega
theorem fsC_snoc (L : List Fl) (f : Fl) : fsC (L ++ [f]) = fsC L ++ [.string f.n, .string f.s, .string f.l] := by simp [fsC, flC]
theorem fsC_at : ∀ (L : List Fl) (j : Nat) (h : j < L.length), (fsC L)[j * 3]? = some (.string L[j].n) ∧ (fsC L)[j * 3 + 1]? = some (.string L[j].s) ∧ (fsC L)[j * 3 + 2]? = some (.string L[j].l)
  | f :: r, 0, _ => by simp [fsC, flC]
  | f :: r, j + 1, h => by
    have ih := fsC_at r j (by simpa using h)
    have e : fsC (f :: r) = .string f.n :: .string f.s :: .string f.l :: fsC r := by simp [fsC, flC]
    rw [e, show (j + 1) * 3 = j * 3 + 1 + 1 + 1 by omega]
    simpa using ih
/-- A slice of the reference's files, in a block from lo on. -/
def FsAt (w : World) (lo : Nat) (v : Value) (L : List Fl) : Prop :=
  ∃ A cap, v = .slice A L.length cap ∧ L.length ≤ cap ∧ (0 < L.length → ∃ g off, A = some ⟨g, off, none⟩ ∧ lo ≤ g ∧ g < w.heap.size ∧ ∀ k (h : k < L.length), w.cell? ⟨g, off + k * 3, none⟩ = some (.string L[k].n) ∧ w.cell? ⟨g, off + k * 3 + 1, none⟩ = some (.string L[k].s) ∧ w.cell? ⟨g, off + k * 3 + 2, none⟩ = some (.string L[k].l))
theorem FsAt.nil (w : World) (lo : Nat) (A : Option Addr) (cap : Nat) : FsAt w lo (.slice A 0 cap) [] := ⟨A, cap, rfl, Nat.zero_le _, fun h => absurd h (by simp)⟩
theorem FsAt.keep {w w' : World} {lo : Nat} {v : Value} {L : List Fl} (h : FsAt w lo v L) (hs : w.heap.size ≤ w'.heap.size) (hk : ∀ g, lo ≤ g → g < w.heap.size → w'.heap[g]? = w.heap[g]?) : FsAt w' lo v L := by
  obtain ⟨A, cap, h1, h2, h3⟩ := h
  refine ⟨A, cap, h1, h2, fun hl => ?_⟩
  obtain ⟨g, off, e, hlo, hg, hc⟩ := h3 hl
  have hb := hk g hlo hg
  refine ⟨g, off, e, hlo, by omega, fun k hk' => ?_⟩
  obtain ⟨q0, q1, q2⟩ := hc k hk'
  exact ⟨(World.cell?_of_block (w := w) hb).trans q0, (World.cell?_of_block (w := w) hb).trans q1, (World.cell?_of_block (w := w) hb).trans q2⟩
theorem FsAt.below {w w' : World} {lo : Nat} {v : Value} {L : List Fl} (h : FsAt w lo v L) (hb : Below w.heap.size w w') : FsAt w' lo v L := h.keep hb.size (fun g _ hg => hb.block g hg)
theorem FsAt.alloc {w : World} {lo : Nat} {v : Value} {L : List Fl} (h : FsAt w lo v L) (o : Obj) : FsAt (w.alloc o) lo v L := h.below ((Below.refl _ _).alloc (Nat.le_refl _) _)
theorem FsAt.kp {w w' : World} {lo p b : Nat} {v : Value} {L : List Fl} (h : FsAt w lo v L) (hk : Kp p b w w') (hp : p < lo) (hb : b < lo) : FsAt w' lo v L := h.keep hk.size (fun g h1 hg => hk.block g hg (by omega) (by omega))
theorem FsAt.mono {w : World} {lo lo' : Nat} {v : Value} {L : List Fl} (h : FsAt w lo v L) (hl : lo' ≤ lo) : FsAt w lo' v L := by
  obtain ⟨A, cap, h1, h2, h3⟩ := h
  refine ⟨A, cap, h1, h2, fun h0 => ?_⟩
  obtain ⟨g, off, e, hlo, r⟩ := h3 h0
  exact ⟨g, off, e, by omega, r⟩
theorem FsAt.own {w : World} {lo base : Nat} {v : Value} {L : List Fl} (h : w.ownsRow base 54 3 v L.length (fsC L)) (hb : lo ≤ base) : FsAt w lo v L := by
  have h' := h
  rcases h.2 with ⟨rfl, h0⟩ | ⟨g, cap, cur, rfl, hg, hh, h1, h2, h3, h4⟩
  · have : L = [] := List.eq_nil_of_length_eq_zero h0
    subst this
    exact FsAt.nil _ _ _ _
  · refine ⟨_, _, rfl, ?_, fun _ => ⟨g, 0, rfl, by omega, (Array.getElem?_eq_some_iff.1 hh).1, fun k hk => ?_⟩⟩
    · exact h1
    · obtain ⟨q0, q1, q2⟩ := fsC_at L k hk
      have c := h'.cells (g := g) rfl
      have e : ∀ j, (⟨g, 0, none⟩ : Addr).add j = ⟨g, 0 + j, none⟩ := fun j => add_plain g 0 j
      have r0 := c _ _ q0
      have r1 := c _ _ q1
      have r2 := c _ _ q2
      rw [e] at r0 r1 r2
      rw [← Nat.add_assoc] at r1 r2
      exact ⟨r0, r1, r2⟩

abbrev rfV (sl : Value) (S : Dk) : Value := .agg #[sl, .int .i64 S.lim, .int .i64 S.fuse, .int .i64 S.ops, .int .i64 S.reads, .bool S.down]
abbrev flV (f : Fl) : Value := .agg #[.string f.n, .string f.s, .string f.l]

theorem bf_split {a b : ByteArray} {k : Nat} (ha : k < a.size) (hb : k < b.size) (h : a.data.toList.take k = b.data.toList.take k) : (a[k].toNat < b[k].toNat → bf a b = true) ∧ (b[k].toNat < a[k].toNat → bf a b = false) := by
  have key : ∀ (p x y : List UInt8) (c d : UInt8), (c.toNat < d.toNat → bytesBefore (p ++ c :: x) (p ++ d :: y) = true) ∧ (d.toNat < c.toNat → bytesBefore (p ++ c :: x) (p ++ d :: y) = false) := by
    intro p x y c d
    induction p with
    | nil =>
      have e : bytesBefore (c :: x) (d :: y) = (decide (c < d) || (c == d && bytesBefore x y)) := rfl
      rw [List.nil_append, List.nil_append, e]
      refine ⟨fun hl => by rw [show decide (c < d) = true from decide_eq_true (UInt8.lt_iff_toNat_lt.2 hl)]; rfl, fun hl => ?_⟩
      have h1 : decide (c < d) = false := decide_eq_false (fun h => by have := UInt8.lt_iff_toNat_lt.1 h; omega)
      have h2 : (c == d) = false := by rw [beq_eq_false_iff_ne]; rintro rfl; omega
      rw [h1, h2]; rfl
    | cons z p ih =>
      have e : bytesBefore (z :: (p ++ c :: x)) (z :: (p ++ d :: y)) = (decide (z < z) || (z == z && bytesBefore (p ++ c :: x) (p ++ d :: y))) := rfl
      rw [List.cons_append, List.cons_append, e]
      have h1 : decide (z < z) = false := decide_eq_false (fun h => by have := UInt8.lt_iff_toNat_lt.1 h; omega)
      simp only [h1, beq_self_eq_true, Bool.false_or, Bool.true_and]
      exact ih
  have ea : a.data.toList = a.data.toList.take k ++ a[k] :: a.data.toList.drop (k + 1) := by
    have := List.take_append_drop k a.data.toList
    rw [List.drop_eq_getElem_cons (by simpa using ha)] at this
    exact this.symm
  have eb : b.data.toList = b.data.toList.take k ++ b[k] :: b.data.toList.drop (k + 1) := by
    have := List.take_append_drop k b.data.toList
    rw [List.drop_eq_getElem_cons (by simpa using hb)] at this
    exact this.symm
  unfold bf
  rw [ea, eb, h]
  exact key _ _ _ _ _
theorem bf_ends {a b : ByteArray} (h : a.data.toList.take (min a.size b.size) = b.data.toList.take (min a.size b.size)) : bf a b = decide (a.size < b.size) := by
  have key : ∀ (x y : List UInt8), x.take (min x.length y.length) = y.take (min x.length y.length) → bytesBefore x y = decide (x.length < y.length) := by
    intro x
    induction x with
    | nil => intro y _; cases y <;> simp [bytesBefore]
    | cons c x ih =>
      intro y hh
      cases y with
      | nil => simp [bytesBefore]
      | cons d y =>
        simp only [List.length_cons, Nat.succ_min_succ, List.take_succ_cons, List.cons.injEq] at hh
        obtain ⟨rfl, hh⟩ := hh
        have e : bytesBefore (c :: x) (c :: y) = (decide (c < c) || (c == c && bytesBefore x y)) := rfl
        have h1 : decide (c < c) = false := decide_eq_false (fun h => by have := UInt8.lt_iff_toNat_lt.1 h; omega)
        rw [e, h1, ih y hh]
        simp
  unfold bf
  have := key a.data.toList b.data.toList (by rw [← sz_list, ← sz_list]; exact h)
  rw [this, sz_list, sz_list]

def cmpI (a b : ByteArray) : Int := if bf a b = true then -1 else if bf b a = true then 1 else 0
theorem cmpI_yes {a b : ByteArray} (h : bf a b = true) : cmpI a b = -1 := by unfold cmpI; rw [if_pos h]
theorem cmpI_more {a b : ByteArray} (h : bf b a = true) : cmpI a b = 1 := by unfold cmpI; rw [if_neg (by rw [bf_asym h]; decide), if_pos h]
theorem cmpI_zero {a b : ByteArray} (h : bf a b = false) (h' : bf b a = false) : cmpI a b = 0 := by unfold cmpI; rw [if_neg (by rw [h]; decide), if_neg (by rw [h']; decide)]
theorem cmpI_no {a b : ByteArray} (h : bf a b = false) : 0 ≤ cmpI a b := by unfold cmpI; rw [if_neg (by rw [h]; decide)]; split <;> omega
def CmpPost (a b : ByteArray) (w : World) (e : Ending) (w' : World) : Prop := e = .returned (.int .i64 (cmpI a b)) ∧ ∃ n : Nat, w' = w.drewN n
set_option maxRecDepth 100000 in
set_option maxHeartbeats 1000000 in
theorem cmp_any (a b : ByteArray) (w : World) (ha : a.size ≤ 9223372036854775807) (_hb : b.size ≤ 9223372036854775807) :
    Calls Try.prog 66 #[.string a, .string b] w (CmpPost a b w) := by
  go_enter Try.func66, Try.ntmps66
  go_wp2_with fail
  go_loopw [5] (fun i wr => ∃ k n : Nat, k ≤ a.size ∧ k ≤ b.size ∧ a.data.toList.take k = b.data.toList.take k ∧ i = .int .i64 k ∧ wr = w.drewN n) (fun i _ => a.size - (intOf i).toNat)
  case atStart => exact ⟨0, 0, Nat.zero_le _, Nat.zero_le _, rfl, rfl, rfl⟩
  case round =>
    obtain ⟨k, n, hka, hkb, ht, rfl, rfl⟩ := hrel
    have HT := Lib.hid ht
    clear ht
    by_cases hlt : k < a.size ∧ k < b.size
    · obtain ⟨la, lb⟩ := hlt
      have HS := Lib.hid (bf_split la lb HT.out)
      have HS2 := Lib.hid (bf_split lb la HT.out.symm)
      have i0 : (0 : Int) ≤ (k : Int) := by omega
      have i1 : (k : Int) < (a.size : Int) := by omega
      have i2 : (k : Int) < (b.size : Int) := by omega
      by_cases h1 : a[k].toNat < b[k].toNat
      · have h1' : (a[k].toNat : Int) < (b[k].toNat : Int) := by omega
        go_wp2_with fail
        go_quiet (fail)
        go_wp2_with fail
        go_ret
        exact ⟨by rw [cmpI_yes (HS.out.1 h1)]; rfl, _, World.drewN_drewN ..⟩
      · by_cases h2 : b[k].toNat < a[k].toNat
        · have h1' : (b[k].toNat : Int) ≤ (a[k].toNat : Int) := by omega
          have h2' : (b[k].toNat : Int) < (a[k].toNat : Int) := by omega
          go_wp2_with fail
          go_quiet (fail)
          go_wp2_with fail
          go_quiet (fail)
          go_wp2_with fail
          go_ret
          exact ⟨by rw [cmpI_more (HS2.out.1 h2)]; rfl, _, by rw [World.drewN_drewN, World.drewN_drewN]⟩
        · have heq : a[k].toNat = b[k].toNat := by omega
          have hq : a[k] = b[k] := UInt8.toNat_inj.1 heq
          have HN := Lib.hid (show a.data.toList.take (k + 1) = b.data.toList.take (k + 1) by rw [bytes_take a k la, bytes_take b k lb, HT.out, hq])
          clear hq h1 h2
          have h1' : (b[k].toNat : Int) ≤ (a[k].toNat : Int) := by omega
          have h2' : (a[k].toNat : Int) ≤ (b[k].toNat : Int) := by omega
          clear heq
          go_wp2_with fail
          go_quiet (fail)
          go_wp2_with fail
          go_quiet (fail)
          go_wp2_with fail
          go_roundw
          case rel => exact ⟨k + 1, _, by omega, by omega, HN.out, by go_num, rfl⟩
          case measure => simp [intOf]; omega
    · have hmin : k = min a.size b.size := by omega
      have HE := Lib.hid (bf_ends (a := a) (b := b) (by rw [← hmin]; exact HT.out))
      have HF := Lib.hid (bf_ends (a := b) (b := a) (by rw [Nat.min_comm, ← hmin]; exact HT.out.symm))
      by_cases hl1 : k < a.size
      · have HE2 : Hid (bf b a = true) := Lib.hid (by rw [HF.out]; simp; omega)
        have h2 : b.size ≤ k := by omega
        have h3 : (b.size : Int) < (a.size : Int) := by omega
        have h4 : (b.size : Int) ≤ (a.size : Int) := by omega
        clear hlt hmin
        go_wp2_with fail
        go_ret
        exact ⟨by rw [cmpI_more HE2.out]; rfl, n, rfl⟩
      · by_cases hl2 : a.size < b.size
        · have HE2 : Hid (bf a b = true) := Lib.hid (by rw [HE.out]; simp; omega)
          have h3 : a.size ≤ k := by omega
          clear hlt hmin hl1
          go_wp2_with fail
          go_ret
          exact ⟨by rw [cmpI_yes HE2.out]; rfl, n, rfl⟩
        · have HE2 : Hid (bf a b = false) := Lib.hid (by rw [HE.out]; simp; omega)
          have HF2 : Hid (bf b a = false) := Lib.hid (by rw [HF.out]; simp; omega)
          have h3 : a.size ≤ k := by omega
          have h5 : a.size = b.size := by omega
          have h6 : (b.size : Int) ≤ (a.size : Int) := by omega
          have h7 : (a.size : Int) ≤ (b.size : Int) := by omega
          clear hlt hmin hl1 hl2 h5
          go_wp2_with fail
          go_ret
          exact ⟨by rw [cmpI_zero HE2.out HF2.out]; rfl, n, rfl⟩
end Go.Proofs.Ytgkphogefpmeaaa
