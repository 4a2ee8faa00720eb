/- The walks of a file's name, and of how two files compare. -/
import Derived.Test.YtefknfbmphdafaaGreatSgM
import Derived.Test.YtefknfbmphdafaaGreatF3
import Derived.Test.YtefknfbmphdafaaGreatDs1
import Derived.Test.YtefknfbmphdafaaGreatShelf
namespace Go.Proofs.YtefknfbmphdafaaGreat
namespace SgM
open Go Go.RowKit CrcM FrM
open Ds (Blk)

def sgV (s : Sg) : Value := .agg #[.int .u8 (s.k.toNat : Nat), .int .i64 s.n]
def nmB (s : Sg) : ByteArray := bytesOf (nmL s)
theorem nmB_list (s : Sg) : (nmB s).data.toList = nmL s := bytesOf_list _
def In64 (n : Int) : Prop := -9223372036854775808 ≤ n ∧ n ≤ 9223372036854775807
theorem index_kind (k : UInt8) : Lib.indexByte [115, 114, 99, 116] k = if k = 115 then 0 else if k = 114 then 1 else if k = 99 then 2 else if k = 116 then 3 else -1 := by
  by_cases h1 : k = 115
  · subst h1; decide
  by_cases h2 : k = 114
  · subst h2; decide
  by_cases h3 : k = 99
  · subst h3; decide
  by_cases h4 : k = 116
  · subst h4; decide
  rw [if_neg h1, if_neg h2, if_neg h3, if_neg h4]
  simp [Lib.indexByte, Ne.symm h1, Ne.symm h2, Ne.symm h3, Ne.symm h4]
theorem okK_k {k : UInt8} : okK k = true ↔ k = 115 ∨ k = 114 ∨ k = 99 ∨ k = 116 := by
  unfold okK
  rw [Bool.or_eq_true, Bool.or_eq_true, Bool.or_eq_true, decide_eq_true_eq, decide_eq_true_eq, decide_eq_true_eq, decide_eq_true_eq]
  rw [← UInt8.toNat_inj, ← UInt8.toNat_inj, ← UInt8.toNat_inj, ← UInt8.toNat_inj]
  simp [or_assoc]
theorem index_ok (k : UInt8) : decide (Lib.indexByte [115, 114, 99, 116] k < 0) = !okK k := by
  rw [index_kind]
  by_cases h : okK k = true
  · rw [h]
    rcases okK_k.1 h with rfl | rfl | rfl | rfl <;> decide
  · have h' := h
    rw [okK_k] at h'
    simp only [not_or] at h'
    rw [if_neg h'.1, if_neg h'.2.1, if_neg h'.2.2.1, if_neg h'.2.2.2]
    have : okK k = false := by simpa using h
    rw [this]; decide
theorem nat_u8 (k : UInt8) : ((k.toNat : Nat) : Int).toNat.toUInt8 = k := by simp

theorem name_any (s : Sg) (w : World) (hn : In64 s.n) :
    Calls Tryz.prog 30 #[sgV s] w fun e w' => e = .returned (.string (nmB s)) ∧ Below w.heap.size w w' := by
  obtain ⟨k, n⟩ := s
  obtain ⟨hn1, hn2⟩ := hn
  simp only at hn1 hn2
  by_cases hneg : n < 0
  · have HF := Lib.hid (show nmB ⟨k, n⟩ = ⟨#[]⟩ by
      have : okS ⟨k, n⟩ = false := by rw [← Bool.not_eq_true, okS_iff]; simp only; omega
      unfold nmB; rw [nm_no this]; rfl)
    go_enter Tryz.func30, Tryz.ntmps30
    unfold sgV
    go_wp2_with (go_at_call 63; refine (hex_neg n 8 _ (by omega) (by omega) hneg).mono ?_; rintro e w2 ⟨rfl, rfl⟩)
    go_ret
    exact ⟨by rw [HF.out]; rfl, below_box _ _⟩
  obtain ⟨m, rfl⟩ : ∃ m : Nat, n = m := ⟨n.toNat, by omega⟩
  by_cases hbig : 4294967296 ≤ m
  · have HF := Lib.hid (show nmB ⟨k, (m : Int)⟩ = ⟨#[]⟩ by
      have : okS ⟨k, (m : Int)⟩ = false := by rw [← Bool.not_eq_true, okS_iff]; simp only; omega
      unfold nmB; rw [nm_no this]; rfl)
    go_enter Tryz.func30, Tryz.ntmps30
    unfold sgV
    go_wp2_with (go_at_call 63; refine (hex_long m 8 _ (by omega) (by omega) hbig (by omega)).mono ?_; rintro e w2 ⟨rfl, rfl⟩)
    go_ret
    exact ⟨by rw [HF.out]; rfl, below_box _ _⟩
  · have hm : m < 16 ^ 8 := by omega
    have HL := Lib.hid (hex_length 8 m)
    have HI := Lib.hid (index_ok k)
    by_cases hk : okK k = true
    · have HF := Lib.hid (show nmB ⟨k, (m : Int)⟩ = ⟨#[k]⟩ ++ ⟨(hex 8 m).toArray⟩ by
        have : okS ⟨k, (m : Int)⟩ = true := by rw [okS_iff]; exact ⟨hk, by simp only; omega, by simp only; omega⟩
        unfold nmB; rw [nm_ok this]; apply ba_ext; rw [append_list, bytesOf_list]; simp)
      obtain ⟨C, hC⟩ : ∃ C : ByteArray, C = ⟨#[k]⟩ := ⟨_, rfl⟩
      have hcv := conv_at k
      rw [← hC] at HF hcv
      have hC1 : C.size ≤ 1 := by rw [hC]; exact Nat.le_refl 1
      have hE : (hex 8 m).isEmpty = false := by cases h : hex 8 m with | nil => rw [h] at HL; cases HL.out | cons => rfl
      have hH1 : (hex 8 m).length ≤ 8 := by rw [HL.out]; exact Nat.le_refl 8
      have hI2 : decide (Lib.indexByte [115, 114, 99, 116] k < 0) = false := by rw [HI.out, hk]; rfl
      clear hC hk
      go_enter Tryz.func30, Tryz.ntmps30
      unfold sgV
      go_wp2_with (first | (go_at_call 63; refine (hex_good m 8 _ (by omega) (by omega) hm).mono ?_; rintro e w2 ⟨rfl, hb2⟩; have d0 : w2.cell? ⟨w.heap.size, 0, none⟩ = some (.int .u8 (k.toNat : Nat)) := (hb2.cell (by simp)).trans (by simp); have hb3 : Below w.heap.size w w2 := (below_box _ _).trans (hb2.mono (by simp)); have hs2 : w.heap.size < w2.heap.size := (by have := hb2.size; simp at this; omega); clear hb2) | (go_at_call 66; refine (Tryz.strings_IndexByte _ _ _).mono ?_; rintro e w3 ⟨rfl, rfl⟩))
      go_ret
      exact ⟨by rw [HF.out]; rfl, by first | exact hb3 | exact hb3.alloc (by omega) _⟩
    · have HF := Lib.hid (show nmB ⟨k, (m : Int)⟩ = ⟨#[]⟩ by
        have : okS ⟨k, (m : Int)⟩ = false := by rw [← Bool.not_eq_true, okS_iff]; exact fun h => hk h.1
        unfold nmB; rw [nm_no this]; rfl)
      have hE : (hex 8 m).isEmpty = false := by cases h : hex 8 m with | nil => rw [h] at HL; cases HL.out | cons => rfl
      have hI2 : decide (Lib.indexByte [115, 114, 99, 116] k < 0) = true := by rw [HI.out]; simp [hk]
      clear hk
      go_enter Tryz.func30, Tryz.ntmps30
      unfold sgV
      go_wp2_with (first | (go_at_call 63; refine (hex_good m 8 _ (by omega) (by omega) hm).mono ?_; rintro e w2 ⟨rfl, hb2⟩; have d0 : w2.cell? ⟨w.heap.size, 0, none⟩ = some (.int .u8 (k.toNat : Nat)) := (hb2.cell (by simp)).trans (by simp); have hb3 : Below w.heap.size w w2 := (below_box _ _).trans (hb2.mono (by simp)); have hs2 : w.heap.size < w2.heap.size := (by have := hb2.size; simp at this; omega); clear hb2) | (go_at_call 66; refine (Tryz.strings_IndexByte _ _ _).mono ?_; rintro e w3 ⟨rfl, rfl⟩))
      go_ret
      exact ⟨by rw [HF.out]; rfl, hb3⟩

/-! ### the file of a name -/
theorem of_size {s : ByteArray} (h : s.size ≠ 9) : ofB s.data.toList = false := by
  rw [← Bool.not_eq_true, ofB_iff, ← size_list]; exact fun x => h x.1
/-- Whether a file with the number that is read has the name. -/
theorem name_is {s : ByteArray} (h : s.size = 9) : nmB ⟨s.data.toList.getD 0 0, (unR (s.data.toList.drop 1) : Nat)⟩ = s ↔ ofB s.data.toList = true := by
  have hl : s.data.toList.length = 9 := by rw [← size_list]; exact h
  have hl' : (s.data.toList.drop 1).length = 8 := by simp [hl]
  constructor
  · intro e
    have e2 : nmL ⟨s.data.toList.getD 0 0, (unR (s.data.toList.drop 1) : Nat)⟩ = s.data.toList := by rw [← nmB_list, e]
    have hok : okS ⟨s.data.toList.getD 0 0, (unR (s.data.toList.drop 1) : Nat)⟩ = true := by
      cases ho : okS ⟨s.data.toList.getD 0 0, (unR (s.data.toList.drop 1) : Nat)⟩ with
      | true => rfl
      | false => rw [nm_no ho] at e2; rw [← e2] at hl; cases hl
    rw [← e2]; exact (of_nm hok).1
  · intro e
    obtain ⟨_, h2, h3⟩ := ofB_iff.1 e
    have hu : unR (s.data.toList.drop 1) = unhex (s.data.toList.drop 1) := by
      unfold unR unB allDig; rw [if_pos (by rw [h3, hl']; decide)]
    apply ba_ext
    rw [nmB_list, hu, ← of_ok e]
    exact (nm_of e).2
def ofP (s : ByteArray) : Value := .tuple #[sgV (ofS s.data.toList), .bool (ofB s.data.toList)]
theorem un8_lt (l : List UInt8) : unR l < 281474976710656 := by
  unfold unR
  by_cases h : unB l = true
  · rw [if_pos h]
    unfold unB at h
    rw [Bool.and_eq_true, decide_eq_true_eq] at h
    exact (unhex_big l 12 h.2 h.1.2 (Nat.le_refl _)).2
  · rw [if_neg h]; omega
theorem results_row2 {P : Program} {fn : Func} {p a : Tmp} {ty : TypeId} (h : fn.results = #[.cell p ty, .tmp a]) (tmps : Array Value) (w : World) (g : Nat) (t : TypeId) (cs : Array Value) (fr : Nat × Nat) (d : TypeDesc)
    (hp : tmps.getD p undef = .pointer (some ⟨g, 0, none⟩)) (hg : w.heap[g]? = some (.cells cs t fr))
    (hu : P.underlying ty = some d) (hd : (match d with | .struct _ | .array _ _ => true | _ => false) = true) (hi : (P.info? ty).map (·.size) = some cs.size) :
    (results fn tmps).run P w = .ok (.tuple #[.agg cs, tmps.getD a undef]) w := by
  have hp' : tmps[p]?.getD undef = .pointer (some ⟨g, 0, none⟩) := by simpa using hp
  simp [results, h, hp', asAddr, run_loadVar_row w g t ty cs fr d hg hu hd hi]
theorem info_sg : (Tryz.prog.info? 25).map (·.size) = some 2 := by kernel_rfl
set_option maxRecDepth 100000 in
set_option maxHeartbeats 1000000 in
theorem of_any (s : ByteArray) (w : World) :
    Calls Tryz.prog 26 #[.string s] w fun e w' => e = .returned (ofP s) ∧ Below w.heap.size w w' := by
  by_cases h9 : s.size = 9
  · have hU := unhex_any (s.extract 1 9)
    have hd : (s.extract 1 9).data.toList = s.data.toList.drop 1 := by
      rw [extract_list, List.take_of_length_le (by rw [← size_list]; omega)]
    have hz : (s.extract 1 9).size ≤ 9223372036854775807 := by rw [ByteArray.size_extract]; omega
    rw [hd] at hU
    have hr := un8_lt (s.data.toList.drop 1)
    obtain ⟨r, hr2⟩ : ∃ r, r = unR (s.data.toList.drop 1) := ⟨_, rfl⟩
    have HW := Lib.hid (name_is h9)
    rw [← hr2] at hU hr HW
    obtain ⟨c, hc⟩ : ∃ c, c = s.data.toList.getD 0 0 := ⟨_, rfl⟩
    rw [← hc] at HW
    replace hU := Lib.hid hU
    have HC := Lib.hid hc
    have HR := Lib.hid hr2
    clear hd hc hr2
    have hg : s[0].toNat = c.toNat := by
      rw [HC.out, List.getD_eq_getElem?_getD, List.getElem?_eq_getElem (by rw [← size_list]; omega)]
      rfl
    by_cases hb : ofB s.data.toList = true
    · have HN := Lib.hid (HW.out.2 hb)
      have HB := Lib.hid hb
      have HR8 := Lib.hid (show r = unhex (s.data.toList.drop 1) by
        rw [HR.out]; unfold unR unB allDig; rw [if_pos (by rw [(ofB_iff.1 hb).2.2, List.length_drop, ← size_list, h9]; decide)])
      clear hb
      go_enter Tryz.func26, Tryz.ntmps26
      go_wp2_with (first | (go_at_call 59; refine (hU.out _ hz).mono ?_; rintro e w2 ⟨rfl, rfl⟩) | (go_at_call 30; go_loud (refine (name_any ⟨c, (r : Int)⟩ _ ⟨by simp only; omega, by simp only; omega⟩).mono ?_; rw [HN.out]; rintro e w3 ⟨rfl, hb3⟩; have BR : Blk w3 w.heap.size 25 #[.int .u8 0, .int .i64 0] := (hb3.block _ (by simp; omega)).trans ((Blk.new w _ _).alloc _); have hb4 : Below w.heap.size w w3 := ((below_box w _).alloc (by simp) _).trans (hb3.mono (by simp; omega)); have d0 : w3.cell? ⟨w.heap.size + 1, 0, none⟩ = some (.int .u8 (c.toNat : Nat)) := (hb3.cell (by simp)).trans (by simp); have d1 : w3.cell? ⟨w.heap.size + 1, 1, none⟩ = some (.int .i64 (r : Nat)) := (hb3.cell (by simp)).trans (by simp); have c0 := BR.cell 0; have c1 := BR.cell 1; have f0 := BR.frozen 0; have f1 := BR.frozen 1; clear hb3)))
      refine bodyPost_ret (results_row2 (p := 2) (a := 3) rfl _ _ _ _ _ _ _ rfl ((BR.set_ 0 _).set_ 1 _) Tryz.underlying25 rfl info_sg) rfl ⟨?_, (hb4.setCell (by simp) _).setCell (by simp) _⟩
      unfold ofP; rw [of_ok HB.out, HB.out, ← HC.out, ← HR8.out]; rfl
    · obtain ⟨N, hN⟩ : ∃ N, N = nmB ⟨c, (r : Int)⟩ := ⟨_, rfl⟩
      have hne : N ≠ s := by rw [hN]; exact fun h => hb (HW.out.1 h)
      have hne2 := str_ne N s (fun h => hne (ba_ext h))
      have HN := Lib.hid hN
      have HB := Lib.hid (show ofB s.data.toList = false by simpa using hb)
      clear hN hne hb
      go_enter Tryz.func26, Tryz.ntmps26
      go_wp2_with (first | (go_at_call 59; refine (hU.out _ hz).mono ?_; rintro e w2 ⟨rfl, rfl⟩) | (go_at_call 30; refine (name_any ⟨c, (r : Int)⟩ _ ⟨by simp only; omega, by simp only; omega⟩).mono ?_; rw [← HN.out]; rintro e w3 ⟨rfl, hb3⟩; have BR : Blk w3 w.heap.size 25 #[.int .u8 0, .int .i64 0] := (hb3.block _ (by simp; omega)).trans ((Blk.new w _ _).alloc _); have hb4 : Below w.heap.size w w3 := ((below_box w _).alloc (by simp) _).trans (hb3.mono (by simp; omega)); have d0 : w3.cell? ⟨w.heap.size + 1, 0, none⟩ = some (.int .u8 (c.toNat : Nat)) := (hb3.cell (by simp)).trans (by simp); have d1 : w3.cell? ⟨w.heap.size + 1, 1, none⟩ = some (.int .i64 (r : Nat)) := (hb3.cell (by simp)).trans (by simp); have c0 := BR.cell 0; have c1 := BR.cell 1; have f0 := BR.frozen 0; have f1 := BR.frozen 1; clear hb3))
      refine bodyPost_ret (results_row2 (p := 2) (a := 3) rfl _ _ _ _ _ _ _ rfl ((BR.set_ 0 _).set_ 1 _) Tryz.underlying25 rfl info_sg) rfl ⟨?_, (hb4.setCell (by simp) _).setCell (by simp) _⟩
      unfold ofP; rw [of_no HB.out, HB.out]; rfl
  · have HF := Lib.hid (of_size h9)
    go_enter Tryz.func26, Tryz.ntmps26
    go_wp2
    refine bodyPost_ret (results_row2 (p := 2) (a := 3) rfl _ _ _ _ _ _ _ rfl (Blk.new _ _ _) Tryz.underlying25 rfl info_sg) rfl ⟨?_, below_box _ _⟩
    unfold ofP; rw [of_no HF.out, HF.out]; rfl
end SgM
end Go.Proofs.YtefknfbmphdafaaGreat
