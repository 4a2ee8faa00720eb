/- All bytes of a file: the walk. -/
import Derived.Test.YtefknfbmphdafaaGreatSgW
import Derived.Test.YtefknfbmphdafaaGreatSgG
import Derived.Test.YtefknfbmphdafaaGreatDs3
namespace Go.Proofs.YtefknfbmphdafaaGreat
namespace SgM
open Go Go.RowKit CrcM FrM
open Ds (Blk DiskAt Kp Bd rdS doRd ReadPost flB nul ptr Dk)
open Ds.DkM (Fl lkF usd)

theorem isB_kept {T U : TypeId} {B u : Nat} {bs : List Value} {w w' : World} (h : Lib.IsBuilder T U B u bs w) (hk : ∀ k, B ≤ k → k < w.heap.size → w'.heap[k]? = w.heap[k]?) : Lib.IsBuilder T U B u bs w' := by
  have key : ∀ p, Lib.BuilderAt T U B u p bs w → Lib.BuilderAt T U B u p bs w' := by
    rintro p ⟨hB, v, hb, hown, hne⟩
    have hlt : ∀ {g o}, w.heap[g]? = some o → g < w.heap.size := fun h => (Array.getElem?_eq_some_iff.1 h).1
    refine ⟨hB, v, (hk u hB (hlt hb)).trans hb, ⟨hown.1, ?_⟩, hne⟩
    rcases hown.2 with h2 | ⟨g, cap, cur, h1, h2, h3, h4⟩
    · exact Or.inl h2
    · exact Or.inr ⟨g, cap, cur, h1, h2, (hk g h2 (hlt h3)).trans h3, h4⟩
  exact h.elim (fun x => Or.inl (key _ x)) (fun x => Or.inr (key _ x))
theorem isB_kp {T U : TypeId} {B u p b : Nat} {bs : List Value} {w w' : World} (h : Lib.IsBuilder T U B u bs w) (hk : Kp p b w w') (hp : p < B) (hb : b < B) : Lib.IsBuilder T U B u bs w' :=
  isB_kept h fun k hB hlt => hk.block k hlt (by omega) (by omega)
theorem isB_below {T U : TypeId} {B u : Nat} {bs : List Value} {w w' : World} (h : Lib.IsBuilder T U B u bs w) (hk : Below w.heap.size w w') : Lib.IsBuilder T U B u bs w' :=
  isB_kept h fun k _ hlt => hk.block k hlt
theorem kp_below {p b B : Nat} {w0 w w' : World} (h : Kp p b w0 w) (hb : Below B w w') (hB : w0.heap.size ≤ B) (_hs : B ≤ w.heap.size) : Kp p b w0 w' :=
  ⟨hb.os.trans h.os, hb.tape.trans h.tape, hb.output.trans h.output, Nat.le_trans h.size hb.size, fun k hk h1 h2 => (hb.block k (by omega)).trans (h.block k hk h1 h2)⟩
theorem size_le_below {B : Nat} {w w' : World} (h : Below B w w') : w.heap.size ≤ w'.heap.size := h.size

/-- Why a file's bytes are not told. -/
def whE (S : Dk) (n : ByteArray) : Nat := if S.down = true then 50 else if (lkF S.L n).isSome then 0 else 51
def whX (S : Dk) (n : ByteArray) : ByteArray := match lkF S.L n with | none => nul | some f => f.s ++ f.l
/-- How many reads it takes. -/
def whN (S : Dk) (n : ByteArray) : Nat := if whE S n = 0 then max 1 (((whX S n).size + 63) / 64) else 0
def WholePost (S : Dk) (n : ByteArray) (p b : Nat) (w : World) (e : Ending) (w' : World) : Prop :=
  e = .returned (.tuple #[.string (if whE S n = 0 then whX S n else nul), .int .i64 (whE S n : Nat)]) ∧ DiskAt w' p b { S with reads := S.reads + whN S n } ∧ Kp p b w w'
theorem rd_err {S : Dk} {n : ByteArray} (h : whE S n ≠ 0) : rdS S n 0 = (nul, whE S n) := by
  unfold whE at h ⊢
  unfold rdS
  cases hd : S.down with
  | true => simp
  | false =>
    rw [hd] at h
    cases hl : lkF S.L n with
    | none => simp
    | some f => rw [hl] at h; simp at h
theorem rd_ok {S : Dk} {n : ByteArray} (h : whE S n = 0) (r : Int) (k : Nat) (hk : k ≤ (whX S n).size) : rdS { S with reads := r } n (k : Nat) = ((whX S n).extract k (min (whX S n).size (k + 64)), 0) := by
  unfold whE at h
  unfold rdS whX at *
  cases hd : S.down with
  | true => rw [hd] at h; simp at h
  | false =>
    cases hl : lkF S.L n with
    | none => rw [hd, hl] at h; simp at h
    | some f =>
      rw [hl] at hk
      simp only at hk ⊢
      rw [if_neg (by decide), if_neg (by omega)]
      simp

theorem bd_reads {S : Dk} (h : Bd S) (r : Int) (h0 : 0 ≤ r) (h1 : r ≤ 1099511627776) : Bd { S with reads := r } := { h with reads0 := h0, reads1 := h1 }
theorem take_ext (X : ByteArray) (a c : Nat) (hc : a ≤ c) : X.data.toList.take a ++ (X.extract a c).data.toList = X.data.toList.take c := by
  rw [extract_list, List.drop_take]
  rw [← List.take_append_drop a (X.data.toList.take c), List.take_take, show min a c = a by omega, List.drop_take]
theorem take_all (X : ByteArray) (a : Nat) (h : X.size ≤ a) : X.data.toList.take a = X.data.toList := List.take_of_length_le (by rw [← size_list]; omega)
theorem take_len (X : ByteArray) (a : Nat) : (X.data.toList.take a).length = min a X.size := by rw [List.length_take, ← size_list]
set_option maxRecDepth 100000 in
set_option maxHeartbeats 4000000 in
theorem whole_any {w : World} {p b : Nat} {S : Dk} (hD : DiskAt w p b S) (hB : Bd S) (hr : S.reads ≤ 1000000) {n : ByteArray} (hn : n.size ≤ maxLen) :
    Calls Tryz.prog 23 #[ptr p, .string n] w (WholePost S n p b w) := by
  have hpl := hD.blk.lt
  have hbl := hD.own.lt
  have HM := Lib.hid hn
  have HBd := Lib.hid hB
  obtain ⟨W, hW⟩ : ∃ W, W = w.alloc (.cells #[.pointer none, .slice none 0 0] 111) := ⟨_, rfl⟩
  have HW := Lib.hid hW
  have HI := Lib.hid (show Lib.IsBuilder 111 5 w.heap.size w.heap.size [] W by rw [hW]; exact Lib.fresh_isBuilder _ _ _)
  have HDW := Lib.hid (show DiskAt W p b S by rw [hW]; exact hD.alloc _)
  have HKW := Lib.hid (show Kp p b w W by rw [hW]; exact Kp.alloc _ _)
  have hsW : w.heap.size < W.heap.size := by rw [hW]; simp
  clear hW hD hB
  by_cases hE : whE S n = 0
  · have hX1 : (whX S n).size ≤ 1073741824 := by
      unfold whX
      cases hl : lkF S.L n with
      | none => exact Nat.zero_le _
      | some f =>
        have h1 := HBd.out.used1
        have h2 := Ds.DkM.usd_le (Ds.DkM.lkF_some hl).1
        simp only [ByteArray.size_append]
        omega
    have HSZ := Lib.hid (show flB (lkF S.L n) = whX S n by unfold whX flB; cases lkF S.L n <;> rfl)
    have hr0 := HBd.out.reads0
    have HRD := Lib.hid (rd_ok hE)
    have HP := Lib.hid (show WholePost S n p b w = fun e w' => e = .returned (.tuple #[.string (whX S n), .int .i64 0]) ∧ DiskAt w' p b { S with reads := S.reads + (max 1 (((whX S n).size + 63) / 64) : Nat) } ∧ Kp p b w w' by
      unfold WholePost whN; rw [if_pos hE, if_pos hE, hE]; rfl)
    rw [HP.out]
    clear hE HP
    obtain ⟨X, hX⟩ : ∃ X, X = whX S n := ⟨_, rfl⟩
    rw [← hX] at hX1 HRD HSZ ⊢
    clear hX
    go_enter Tryz.func23, Tryz.ntmps23
    go_wp2_with fail
    rw [← HW.out]
    go_loopg [7] (X.size + 1) (fun g _ wr => ∃ k : Nat, (k = 0 ∨ 64 * k < X.size) ∧ X.size + 1 - k ≤ g ∧ Lib.IsBuilder 111 5 w.heap.size w.heap.size (Lib.byteCells (X.data.toList.take (64 * k))) wr ∧ DiskAt wr p b { S with reads := S.reads + (k : Nat) } ∧ Kp p b w wr)
    case atStart => exact ⟨0, Or.inl rfl, by omega, by simpa [Lib.byteCells] using HI.out, by simpa using HDW.out, HKW.out⟩
    case round =>
      obtain ⟨k, hk, hg, hIB, hDk, hKk⟩ := hrel
      have hk2 : 64 * k ≤ X.size := by omega
      have HL1 := Lib.hid (show ((Lib.byteCells (X.data.toList.take (64 * k))).length : Int) = ((64 * k : Nat) : Int) by rw [Lib.byteCells_length, take_len]; omega)
      have RD := Ds.read_any hDk (bd_reads HBd.out _ (by omega) (by omega)) HM.out ((64 * k : Nat) : Int) (by omega) (by omega)
      have HRk := HRD.out (S.reads + (k : Nat)) (64 * k) hk2
      obtain ⟨c, hc⟩ : ∃ c, c = min X.size (64 * k + 64) := ⟨_, rfl⟩
      rw [← hc] at HRk
      have hck : 64 * k ≤ c := by omega
      have hcX : c ≤ X.size := by omega
      have HTE := Lib.hid (take_ext X (64 * k) c hck)
      have hYs : (X.extract (64 * k) c).size ≤ 64 := by rw [ByteArray.size_extract]; omega
      generalize X.extract (64 * k) c = Y at HRk HTE hYs
      have RD2 := Lib.hid (show Calls Tryz.prog 53 #[ptr p, .string n, .int .i64 ((64 * k : Nat) : Int)] wr fun e w' => e = .returned (.tuple #[.string Y, .int .i64 0]) ∧ DiskAt w' p b { S with reads := S.reads + ((k + 1 : Nat) : Int) } ∧ Kp p b wr w' by
        refine RD.mono ?_
        rintro e w' ⟨h1, h2, h3⟩
        unfold doRd at h2
        rw [HRk] at h1 h2
        rw [if_pos rfl] at h2
        refine ⟨h1, ?_, h3⟩
        have e3 : S.reads + (k : Int) + 1 = S.reads + ((k + 1 : Nat) : Int) := by omega
        rw [← e3]
        exact h2)
      have HIB := Lib.hid hIB
      have HKk := Lib.hid hKk
      have HCC := Lib.hid hc
      have hsr : W.heap.size ≤ wr.heap.size ∨ w.heap.size ≤ wr.heap.size := Or.inr hKk.size
      have hswr : w.heap.size ≤ wr.heap.size := hKk.size
      clear hIB hDk hKk HRk hc RD hsr
      have hbl3 : (Lib.byteCells (X.data.toList.take (64 * k))).length + Y.size ≤ 140737488355328 := by rw [Lib.byteCells_length, take_len]; omega
      by_cases hlast : X.size ≤ 64 * k + 64
      · have hcX2 : c = X.size := by have := HCC.out; omega
        have HN1 := Lib.hid (show ((max 1 ((X.size + 63) / 64) : Nat)) = k + 1 by rcases hk with rfl | h <;> omega)
        subst hcX2
        go_wp2_with (first | (go_at_call 54; first | (refine (Tryz.Builder_Len _ _ _ _ HI4.out).mono ?_; rw [HL4.out]; rintro e w5 ⟨rfl, rfl⟩) | (refine (Tryz.Builder_Len _ _ _ _ HIB.out).mono ?_; rw [HL1.out]; rintro e w1 ⟨rfl, rfl⟩)) | (go_at_call 53; refine RD2.out.mono ?_; rintro e w2 ⟨rfl, hD2, hK2⟩; have HI2 := Lib.hid (isB_kp HIB.out hK2 hpl hbl); have HD2 := Lib.hid hD2; have HK2 := Lib.hid (HKk.out.trans hK2); have hs2 := hK2.size; clear hD2 hK2) | (go_at_call 55; refine (write_any _ _ _ Y _ HI2.out hbl3 (by omega)).mono ?_; rintro e w3 ⟨rfl, hI3, hb3⟩; have HD3 := Lib.hid (HD2.out.below hb3 hpl hbl); have HK3 := Lib.hid (kp_below HK2.out hb3 (Nat.le_refl _) (by omega)); have HI3 := Lib.hid hI3; have hs3 := hb3.size; clear hI3 hb3) | (go_at_call 56; refine (Ds.size_any HD3.out HM.out).mono ?_; rw [HSZ.out]; rintro e w4 ⟨rfl, hb4⟩; have HD4 := Lib.hid (HD3.out.belowS hb4); have HK4 := Lib.hid (HK3.out.trans (Kp.of_below hb4)); have hI4 : Lib.IsBuilder 111 5 w.heap.size w.heap.size (Lib.byteCells (X.data.toList.take X.size)) w4 := (by have := isB_below (Or.inr HI3.out) hb4; rw [Lib.strCells_eq, ← Lib.byteCells_append, HTE.out] at this; exact this); have HL4 := Lib.hid (show ((Lib.byteCells (X.data.toList.take X.size)).length : Int) = (X.size : Int) by rw [Lib.byteCells_length, take_len]; omega); have HI4 := Lib.hid hI4; have hs4 := hb4.size; clear hI4 hb4) | (go_at_call 57; refine (Tryz.Builder_String_any _ _ _ _ HI4.out (by omega)).mono ?_; rintro e w6 ⟨rfl, hb6⟩))
        go_ret2
        refine ⟨?_, by rw [HN1.out]; exact HD4.out.below hb6 hpl hbl, kp_below HK4.out hb6 (Nat.le_refl _) (by omega)⟩
        rw [show (⟨(X.data.toList.take X.size).toArray⟩ : ByteArray) = X from ba_ext (by rw [take_all X X.size (Nat.le_refl _)])]
        rfl
      · have hc2 : c = 64 * k + 64 := by have := HCC.out; omega
        subst hc2
        go_wp2_with (first | (go_at_call 54; first | (refine (Tryz.Builder_Len _ _ _ _ HI4.out).mono ?_; rw [HL4.out]; rintro e w5 ⟨rfl, rfl⟩) | (refine (Tryz.Builder_Len _ _ _ _ HIB.out).mono ?_; rw [HL1.out]; rintro e w1 ⟨rfl, rfl⟩)) | (go_at_call 53; refine RD2.out.mono ?_; rintro e w2 ⟨rfl, hD2, hK2⟩; have HI2 := Lib.hid (isB_kp HIB.out hK2 hpl hbl); have HD2 := Lib.hid hD2; have HK2 := Lib.hid (HKk.out.trans hK2); have hs2 := hK2.size; clear hD2 hK2) | (go_at_call 55; refine (write_any _ _ _ Y _ HI2.out hbl3 (by omega)).mono ?_; rintro e w3 ⟨rfl, hI3, hb3⟩; have HD3 := Lib.hid (HD2.out.below hb3 hpl hbl); have HK3 := Lib.hid (kp_below HK2.out hb3 (Nat.le_refl _) (by omega)); have HI3 := Lib.hid hI3; have hs3 := hb3.size; clear hI3 hb3) | (go_at_call 56; refine (Ds.size_any HD3.out HM.out).mono ?_; rw [HSZ.out]; rintro e w4 ⟨rfl, hb4⟩; have HD4 := Lib.hid (HD3.out.belowS hb4); have HK4 := Lib.hid (HK3.out.trans (Kp.of_below hb4)); have hI4 : Lib.IsBuilder 111 5 w.heap.size w.heap.size (Lib.byteCells (X.data.toList.take (64 * k + 64))) w4 := (by have := isB_below (Or.inr HI3.out) hb4; rw [Lib.strCells_eq, ← Lib.byteCells_append, HTE.out] at this; exact this); have HL4 := Lib.hid (show ((Lib.byteCells (X.data.toList.take (64 * k + 64))).length : Int) = ((64 * k + 64 : Nat) : Int) by rw [Lib.byteCells_length, take_len]; omega); have HI4 := Lib.hid hI4; have hs4 := hb4.size; clear hI4 hb4))
        go_roundg (X.size + 1 - (k + 1))
        case measure => omega
        case rel => exact ⟨k + 1, Or.inr (by omega), Nat.le_refl _, by rw [show 64 * (k + 1) = 64 * k + 64 by omega]; exact HI4.out, HD4.out, HK4.out⟩
  · have HR := Lib.hid (Ds.read_any HDW.out HBd.out HM.out 0 (by omega) (by omega))
    have HX := Lib.hid (rd_err hE)
    have HP := Lib.hid (show WholePost S n p b w = fun e w' => e = .returned (.tuple #[.string nul, .int .i64 (whE S n : Nat)]) ∧ DiskAt w' p b S ∧ Kp p b w w' by
      unfold WholePost whN; rw [if_neg hE, if_neg hE]; simp)
    rw [HP.out]
    have hne : ((whE S n : Int) != 0) = true := by rw [bne_iff_ne]; omega
    have HR2 := Lib.hid (show Calls Tryz.prog 53 #[ptr p, .string n, .int .i64 0] W fun e w' => e = .returned (.tuple #[.string nul, .int .i64 (whE S n : Nat)]) ∧ DiskAt w' p b S ∧ Kp p b W w' by
      refine HR.out.mono ?_
      rintro e w' ⟨h1, h2, h3⟩
      unfold doRd at h2
      rw [HX.out] at h1 h2
      rw [if_neg hE] at h2
      exact ⟨h1, h2, h3⟩)
    clear HR
    generalize whE S n = E at *
    go_enter Tryz.func23, Tryz.ntmps23
    go_wp2_with fail
    rw [← HW.out]
    go_loopg [7] 1 (fun g _ wr => wr = W)
    case atStart => rfl
    case round =>
      subst hrel
      go_wp2_with (first | (go_at_call 54; refine (Tryz.Builder_Len _ _ _ _ HI.out).mono ?_; rintro e w1 ⟨rfl, rfl⟩) | (go_at_call 53; refine HR2.out.mono ?_; rintro e w2 ⟨rfl, hD2, hK2⟩))
      go_ret2
      exact ⟨rfl, hD2, HKW.out.trans hK2⟩
end SgM
end Go.Proofs.YtefknfbmphdafaaGreat
