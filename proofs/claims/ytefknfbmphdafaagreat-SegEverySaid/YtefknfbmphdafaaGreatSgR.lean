/- The document's Name, Of, Ahead: the walks. -/
import Derived.Test.YtefknfbmphdafaaGreatSgZ
import Derived.Test.YtefknfbmphdafaaGreatDs5
namespace Go.Proofs.YtefknfbmphdafaaGreat
namespace SgM
open Go Go.RowKit CrcM FrM
open Ds (Blk)

theorem hexOr_ok {m : Nat} (h : m < 4294967296) : hexOr 8 m = ⟨(hex 8 m).toArray⟩ := by unfold hexOr; rw [if_pos (by omega)]; rfl
theorem hexOr_no {m : Nat} (h : ¬ m < 4294967296) : hexOr 8 m = ⟨#[]⟩ := by unfold hexOr; rw [if_neg (by omega)]; rfl
theorem hexR (m : Nat) (w : World) (hm : m < 9223372036854775808) : Calls Tryz.prog 76 #[.int .i64 m, .int .i64 8] w fun e w' => e = .returned (.string (hexOr 8 m)) ∧ Below w.heap.size w w' :=
  hex_ref m 8 w (by omega) (by omega) hm

set_option maxRecDepth 100000 in
set_option maxHeartbeats 4000000 in
theorem rname_any (s : Sg) (w : World) (hn : In64 s.n) :
    Calls Tryz.prog 39 #[sgV s] w fun e w' => e = .returned (.string (nmB s)) ∧ Below w.heap.size w w' := by
  obtain ⟨k, n⟩ := s
  obtain ⟨hn1, hn2⟩ := hn
  simp only at hn1 hn2
  by_cases hk : okK k = true
  · rcases okK_k.1 hk with rfl | rfl | rfl | rfl
    · obtain ⟨C, hC⟩ : ∃ C : ByteArray, C = ⟨#[115]⟩ := ⟨_, rfl⟩
      have hcv := conv_at 115
      rw [← hC] at hcv
      rw [show ((115 : UInt8).toNat : Int) = 115 from rfl] at hcv
      have hC1 : C.size ≤ 1 := by rw [hC]; exact Nat.le_refl 1
      by_cases hneg : n < 0
      · have HF := Lib.hid (show nmB ⟨115, n⟩ = ⟨#[]⟩ by
          have : okS ⟨115, n⟩ = false := by rw [← Bool.not_eq_true, okS_iff]; simp only; omega
          unfold nmB; rw [nm_no this]; rfl)
        go_enter Tryz.func39, Tryz.ntmps39
        unfold sgV
        go_wp2_with (go_at_call 76; refine (hex_ref_neg n 8 _ (by omega) (by omega) hneg).mono ?_; rintro e w2 ⟨rfl, rfl⟩)
        go_ret
        exact ⟨by rw [HF.out]; rfl, below_box _ _⟩
      obtain ⟨m, rfl⟩ : ∃ m : Nat, n = m := ⟨n.toNat, by omega⟩
      have HR := hexR m
      by_cases hbig : m < 4294967296
      · rw [hexOr_ok hbig] at HR
        have HL := Lib.hid (hex_length 8 m)
        have HF := Lib.hid (show nmB ⟨115, (m : Int)⟩ = C ++ ⟨(hex 8 m).toArray⟩ by
          have : okS ⟨115, (m : Int)⟩ = true := by rw [okS_iff]; exact ⟨hk, by simp only; omega, by simp only; omega⟩
          unfold nmB; rw [nm_ok this, hC]; apply ba_ext; rw [append_list, bytesOf_list]; simp)
        have hE : (hex 8 m).isEmpty = false := by cases h : hex 8 m with | nil => rw [h] at HL; cases HL.out | cons => rfl
        have hH1 : (hex 8 m).length ≤ 8 := by rw [HL.out]; exact Nat.le_refl 8
        replace HR := Lib.hid HR
        clear hC
        go_enter Tryz.func39, Tryz.ntmps39
        unfold sgV
        go_wp2_with (go_at_call 76; refine (HR.out _ (by omega)).mono ?_; rintro e w2 ⟨rfl, hb2⟩; have d0 : w2.cell? ⟨w.heap.size, 0, none⟩ = some (.int .u8 115) := (hb2.cell (by simp)).trans (by simp); have hb3 : Below w.heap.size w w2 := (below_box _ _).trans (hb2.mono (by simp)); have hs2 : w.heap.size < w2.heap.size := (by have := hb2.size; simp at this; omega); clear hb2)
        go_ret
        exact ⟨by rw [HF.out]; rfl, by first | exact hb3 | exact hb3.alloc (by omega) _⟩
      · rw [hexOr_no hbig] at HR
        have HF := Lib.hid (show nmB ⟨115, (m : Int)⟩ = ⟨#[]⟩ by
          have : okS ⟨115, (m : Int)⟩ = false := by rw [← Bool.not_eq_true, okS_iff]; simp only; omega
          unfold nmB; rw [nm_no this]; rfl)
        replace HR := Lib.hid HR
        go_enter Tryz.func39, Tryz.ntmps39
        unfold sgV
        go_wp2_with (go_at_call 76; refine (HR.out _ (by omega)).mono ?_; rintro e w2 ⟨rfl, hb2⟩; have hb3 : Below w.heap.size w w2 := (below_box _ _).trans (hb2.mono (by simp)); clear hb2)
        go_ret
        exact ⟨by rw [HF.out]; rfl, hb3⟩
    · obtain ⟨C, hC⟩ : ∃ C : ByteArray, C = ⟨#[114]⟩ := ⟨_, rfl⟩
      have hcv := conv_at 114
      rw [← hC] at hcv
      rw [show ((114 : UInt8).toNat : Int) = 114 from rfl] at hcv
      have hC1 : C.size ≤ 1 := by rw [hC]; exact Nat.le_refl 1
      by_cases hneg : n < 0
      · have HF := Lib.hid (show nmB ⟨114, n⟩ = ⟨#[]⟩ by
          have : okS ⟨114, n⟩ = false := by rw [← Bool.not_eq_true, okS_iff]; simp only; omega
          unfold nmB; rw [nm_no this]; rfl)
        go_enter Tryz.func39, Tryz.ntmps39
        unfold sgV
        go_wp2_with (go_at_call 76; refine (hex_ref_neg n 8 _ (by omega) (by omega) hneg).mono ?_; rintro e w2 ⟨rfl, rfl⟩)
        go_ret
        exact ⟨by rw [HF.out]; rfl, below_box _ _⟩
      obtain ⟨m, rfl⟩ : ∃ m : Nat, n = m := ⟨n.toNat, by omega⟩
      have HR := hexR m
      by_cases hbig : m < 4294967296
      · rw [hexOr_ok hbig] at HR
        have HL := Lib.hid (hex_length 8 m)
        have HF := Lib.hid (show nmB ⟨114, (m : Int)⟩ = C ++ ⟨(hex 8 m).toArray⟩ by
          have : okS ⟨114, (m : Int)⟩ = true := by rw [okS_iff]; exact ⟨hk, by simp only; omega, by simp only; omega⟩
          unfold nmB; rw [nm_ok this, hC]; apply ba_ext; rw [append_list, bytesOf_list]; simp)
        have hE : (hex 8 m).isEmpty = false := by cases h : hex 8 m with | nil => rw [h] at HL; cases HL.out | cons => rfl
        have hH1 : (hex 8 m).length ≤ 8 := by rw [HL.out]; exact Nat.le_refl 8
        replace HR := Lib.hid HR
        clear hC
        go_enter Tryz.func39, Tryz.ntmps39
        unfold sgV
        go_wp2_with (go_at_call 76; refine (HR.out _ (by omega)).mono ?_; rintro e w2 ⟨rfl, hb2⟩; have d0 : w2.cell? ⟨w.heap.size, 0, none⟩ = some (.int .u8 114) := (hb2.cell (by simp)).trans (by simp); have hb3 : Below w.heap.size w w2 := (below_box _ _).trans (hb2.mono (by simp)); have hs2 : w.heap.size < w2.heap.size := (by have := hb2.size; simp at this; omega); clear hb2)
        go_ret
        exact ⟨by rw [HF.out]; rfl, by first | exact hb3 | exact hb3.alloc (by omega) _⟩
      · rw [hexOr_no hbig] at HR
        have HF := Lib.hid (show nmB ⟨114, (m : Int)⟩ = ⟨#[]⟩ by
          have : okS ⟨114, (m : Int)⟩ = false := by rw [← Bool.not_eq_true, okS_iff]; simp only; omega
          unfold nmB; rw [nm_no this]; rfl)
        replace HR := Lib.hid HR
        go_enter Tryz.func39, Tryz.ntmps39
        unfold sgV
        go_wp2_with (go_at_call 76; refine (HR.out _ (by omega)).mono ?_; rintro e w2 ⟨rfl, hb2⟩; have hb3 : Below w.heap.size w w2 := (below_box _ _).trans (hb2.mono (by simp)); clear hb2)
        go_ret
        exact ⟨by rw [HF.out]; rfl, hb3⟩
    · obtain ⟨C, hC⟩ : ∃ C : ByteArray, C = ⟨#[99]⟩ := ⟨_, rfl⟩
      have hcv := conv_at 99
      rw [← hC] at hcv
      rw [show ((99 : UInt8).toNat : Int) = 99 from rfl] at hcv
      have hC1 : C.size ≤ 1 := by rw [hC]; exact Nat.le_refl 1
      by_cases hneg : n < 0
      · have HF := Lib.hid (show nmB ⟨99, n⟩ = ⟨#[]⟩ by
          have : okS ⟨99, n⟩ = false := by rw [← Bool.not_eq_true, okS_iff]; simp only; omega
          unfold nmB; rw [nm_no this]; rfl)
        go_enter Tryz.func39, Tryz.ntmps39
        unfold sgV
        go_wp2_with (go_at_call 76; refine (hex_ref_neg n 8 _ (by omega) (by omega) hneg).mono ?_; rintro e w2 ⟨rfl, rfl⟩)
        go_ret
        exact ⟨by rw [HF.out]; rfl, below_box _ _⟩
      obtain ⟨m, rfl⟩ : ∃ m : Nat, n = m := ⟨n.toNat, by omega⟩
      have HR := hexR m
      by_cases hbig : m < 4294967296
      · rw [hexOr_ok hbig] at HR
        have HL := Lib.hid (hex_length 8 m)
        have HF := Lib.hid (show nmB ⟨99, (m : Int)⟩ = C ++ ⟨(hex 8 m).toArray⟩ by
          have : okS ⟨99, (m : Int)⟩ = true := by rw [okS_iff]; exact ⟨hk, by simp only; omega, by simp only; omega⟩
          unfold nmB; rw [nm_ok this, hC]; apply ba_ext; rw [append_list, bytesOf_list]; simp)
        have hE : (hex 8 m).isEmpty = false := by cases h : hex 8 m with | nil => rw [h] at HL; cases HL.out | cons => rfl
        have hH1 : (hex 8 m).length ≤ 8 := by rw [HL.out]; exact Nat.le_refl 8
        replace HR := Lib.hid HR
        clear hC
        go_enter Tryz.func39, Tryz.ntmps39
        unfold sgV
        go_wp2_with (go_at_call 76; refine (HR.out _ (by omega)).mono ?_; rintro e w2 ⟨rfl, hb2⟩; have d0 : w2.cell? ⟨w.heap.size, 0, none⟩ = some (.int .u8 99) := (hb2.cell (by simp)).trans (by simp); have hb3 : Below w.heap.size w w2 := (below_box _ _).trans (hb2.mono (by simp)); have hs2 : w.heap.size < w2.heap.size := (by have := hb2.size; simp at this; omega); clear hb2)
        go_ret
        exact ⟨by rw [HF.out]; rfl, by first | exact hb3 | exact hb3.alloc (by omega) _⟩
      · rw [hexOr_no hbig] at HR
        have HF := Lib.hid (show nmB ⟨99, (m : Int)⟩ = ⟨#[]⟩ by
          have : okS ⟨99, (m : Int)⟩ = false := by rw [← Bool.not_eq_true, okS_iff]; simp only; omega
          unfold nmB; rw [nm_no this]; rfl)
        replace HR := Lib.hid HR
        go_enter Tryz.func39, Tryz.ntmps39
        unfold sgV
        go_wp2_with (go_at_call 76; refine (HR.out _ (by omega)).mono ?_; rintro e w2 ⟨rfl, hb2⟩; have hb3 : Below w.heap.size w w2 := (below_box _ _).trans (hb2.mono (by simp)); clear hb2)
        go_ret
        exact ⟨by rw [HF.out]; rfl, hb3⟩
    · obtain ⟨C, hC⟩ : ∃ C : ByteArray, C = ⟨#[116]⟩ := ⟨_, rfl⟩
      have hcv := conv_at 116
      rw [← hC] at hcv
      rw [show ((116 : UInt8).toNat : Int) = 116 from rfl] at hcv
      have hC1 : C.size ≤ 1 := by rw [hC]; exact Nat.le_refl 1
      by_cases hneg : n < 0
      · have HF := Lib.hid (show nmB ⟨116, n⟩ = ⟨#[]⟩ by
          have : okS ⟨116, n⟩ = false := by rw [← Bool.not_eq_true, okS_iff]; simp only; omega
          unfold nmB; rw [nm_no this]; rfl)
        go_enter Tryz.func39, Tryz.ntmps39
        unfold sgV
        go_wp2_with (go_at_call 76; refine (hex_ref_neg n 8 _ (by omega) (by omega) hneg).mono ?_; rintro e w2 ⟨rfl, rfl⟩)
        go_ret
        exact ⟨by rw [HF.out]; rfl, below_box _ _⟩
      obtain ⟨m, rfl⟩ : ∃ m : Nat, n = m := ⟨n.toNat, by omega⟩
      have HR := hexR m
      by_cases hbig : m < 4294967296
      · rw [hexOr_ok hbig] at HR
        have HL := Lib.hid (hex_length 8 m)
        have HF := Lib.hid (show nmB ⟨116, (m : Int)⟩ = C ++ ⟨(hex 8 m).toArray⟩ by
          have : okS ⟨116, (m : Int)⟩ = true := by rw [okS_iff]; exact ⟨hk, by simp only; omega, by simp only; omega⟩
          unfold nmB; rw [nm_ok this, hC]; apply ba_ext; rw [append_list, bytesOf_list]; simp)
        have hE : (hex 8 m).isEmpty = false := by cases h : hex 8 m with | nil => rw [h] at HL; cases HL.out | cons => rfl
        have hH1 : (hex 8 m).length ≤ 8 := by rw [HL.out]; exact Nat.le_refl 8
        replace HR := Lib.hid HR
        clear hC
        go_enter Tryz.func39, Tryz.ntmps39
        unfold sgV
        go_wp2_with (go_at_call 76; refine (HR.out _ (by omega)).mono ?_; rintro e w2 ⟨rfl, hb2⟩; have d0 : w2.cell? ⟨w.heap.size, 0, none⟩ = some (.int .u8 116) := (hb2.cell (by simp)).trans (by simp); have hb3 : Below w.heap.size w w2 := (below_box _ _).trans (hb2.mono (by simp)); have hs2 : w.heap.size < w2.heap.size := (by have := hb2.size; simp at this; omega); clear hb2)
        go_ret
        exact ⟨by rw [HF.out]; rfl, by first | exact hb3 | exact hb3.alloc (by omega) _⟩
      · rw [hexOr_no hbig] at HR
        have HF := Lib.hid (show nmB ⟨116, (m : Int)⟩ = ⟨#[]⟩ by
          have : okS ⟨116, (m : Int)⟩ = false := by rw [← Bool.not_eq_true, okS_iff]; simp only; omega
          unfold nmB; rw [nm_no this]; rfl)
        replace HR := Lib.hid HR
        go_enter Tryz.func39, Tryz.ntmps39
        unfold sgV
        go_wp2_with (go_at_call 76; refine (HR.out _ (by omega)).mono ?_; rintro e w2 ⟨rfl, hb2⟩; have hb3 : Below w.heap.size w w2 := (below_box _ _).trans (hb2.mono (by simp)); clear hb2)
        go_ret
        exact ⟨by rw [HF.out]; rfl, hb3⟩
  · have HF := Lib.hid (show nmB ⟨k, n⟩ = ⟨#[]⟩ by
      have : okS ⟨k, n⟩ = false := by rw [← Bool.not_eq_true, okS_iff]; exact fun h => hk h.1
      unfold nmB; rw [nm_no this]; rfl)
    have hk' := hk
    rw [okK_k, ← UInt8.toNat_inj, ← UInt8.toNat_inj, ← UInt8.toNat_inj, ← UInt8.toNat_inj] at hk'
    simp only [not_or] at hk'
    obtain ⟨k1, k2, k3, k4⟩ := hk'
    have e1 : ((k.toNat : Int) != 115) = true := by rw [bne_iff_ne]; intro h; apply k1; show k.toNat = 115; omega
    have e2 : ((k.toNat : Int) != 114) = true := by rw [bne_iff_ne]; intro h; apply k2; show k.toNat = 114; omega
    have e3 : ((k.toNat : Int) != 99) = true := by rw [bne_iff_ne]; intro h; apply k3; show k.toNat = 99; omega
    have e4 : ((k.toNat : Int) != 116) = true := by rw [bne_iff_ne]; intro h; apply k4; show k.toNat = 116; omega
    clear hk
    go_enter Tryz.func39, Tryz.ntmps39
    unfold sgV
    go_wp2
    go_ret
    exact ⟨by rw [HF.out]; rfl, below_box _ _⟩
theorem info_rg : (Tryz.prog.info? 30).map (·.size) = some 2 := by kernel_rfl
theorem list_of_ba {s : ByteArray} (h : s.size = 9) : s.toList ≠ [] := by
  rw [ByteArray.toList_eq]
  intro e
  have := size_list s
  rw [e, h] at this
  cases this
set_option maxRecDepth 100000 in
set_option maxHeartbeats 4000000 in
theorem rof_any (s : ByteArray) (w : World) :
    Calls Tryz.prog 36 #[.string s] w fun e w' => e = .returned (ofP s) ∧ Below w.heap.size w w' := by
  by_cases h9 : s.size = 9
  · have hU := unhex_ref (s.extract 1 9)
    have hd : (s.extract 1 9).data.toList = s.data.toList.drop 1 := by
      rw [extract_list, List.take_of_length_le (by rw [← size_list]; omega)]
    have hz : (s.extract 1 9).size ≤ 9223372036854775807 := by rw [ByteArray.size_extract]; omega
    have hl' : (s.data.toList.drop 1).length = 8 := by rw [List.length_drop, ← size_list]; omega
    rw [hd] at hU
    have hr := un8_lt (s.data.toList.drop 1)
    have hub : unB (s.data.toList.drop 1) = (s.data.toList.drop 1).all isDig := by unfold unB allDig; rw [hl']; rfl
    obtain ⟨r, hr2⟩ : ∃ r, r = unR (s.data.toList.drop 1) := ⟨_, rfl⟩
    have HW := Lib.hid (name_is h9)
    rw [← hr2] at hU hr HW
    obtain ⟨c, hc⟩ : ∃ c, c = s.data.toList.getD 0 0 := ⟨_, rfl⟩
    rw [← hc] at HW
    have HC := Lib.hid hc
    have HR := Lib.hid hr2
    have hg : s[0].toNat = c.toNat := by
      rw [HC.out, List.getD_eq_getElem?_getD, List.getElem?_eq_getElem (by rw [← size_list]; omega)]
      rfl
    have hne := list_of_ba h9
    clear hd hc hr2
    by_cases hb : ofB s.data.toList = true
    · have HN := Lib.hid (HW.out.2 hb)
      have HB := Lib.hid hb
      have HR8 := Lib.hid (show r = unhex (s.data.toList.drop 1) by
        rw [HR.out]; unfold unR; rw [if_pos (by rw [hub, (ofB_iff.1 hb).2.2])])
      rw [show unB (s.data.toList.drop 1) = true by rw [hub, (ofB_iff.1 hb).2.2]] at hU
      replace hU := Lib.hid hU
      have n1 : (s.toList == []) = false := by rw [beq_eq_false_iff_ne]; exact hne
      have n2 : decide (s.toList = []) = false := decide_eq_false hne
      have n3 : s.toList.isEmpty = false := by cases h : s.toList with | nil => exact absurd h hne | cons => rfl
      clear hb hub hl'
      go_enter Tryz.func36, Tryz.ntmps36
      go_wp2_with (first | (go_at_call 73; refine (hU.out _ hz).mono ?_; rintro e w2 ⟨rfl, rfl⟩) | (go_at_call 39; refine (rname_any ⟨c, (r : Int)⟩ _ ⟨by simp only; omega, by simp only; omega⟩).mono ?_; rw [HN.out]; rintro e w3 ⟨rfl, hb3⟩; have BR : Blk w3 w.heap.size 30 #[.int .u8 0, .int .i64 0] := (hb3.block _ (by simp; omega)).trans ((Blk.new w _ _).alloc _); have hb4 : Below w.heap.size w w3 := ((below_box w _).alloc (by simp) _).trans (hb3.mono (by simp; omega)); have d0 : w3.cell? ⟨w.heap.size + 1, 0, none⟩ = some (.int .u8 (c.toNat : Nat)) := (hb3.cell (by simp)).trans (by simp); have d1 : w3.cell? ⟨w.heap.size + 1, 1, none⟩ = some (.int .i64 (r : Nat)) := (hb3.cell (by simp)).trans (by simp); have c0 := BR.cell 0; have c1 := BR.cell 1; have f0 := BR.frozen 0; have f1 := BR.frozen 1; clear hb3))
      refine bodyPost_ret (results_row2 (p := 2) (a := 3) rfl _ _ _ _ _ _ _ rfl ((BR.set_ 0 _).set_ 1 _) Tryz.underlying30 rfl info_rg) rfl ⟨?_, (hb4.setCell (by simp) _).setCell (by simp) _⟩
      unfold ofP; rw [of_ok HB.out, HB.out, ← HC.out, ← HR8.out]; rfl
    · have hb' : ofB s.data.toList = false := by simpa using hb
      have HB := Lib.hid hb'
      by_cases hu : unB (s.data.toList.drop 1) = true
      · have hkc : okK c = false := by
          cases hk : okK c
          · rfl
          · exfalso; apply hb; exact ofB_iff.2 ⟨by rw [← size_list]; exact h9, by rw [← HC.out]; exact hk, by rw [← hub]; exact hu⟩
        have HN := Lib.hid (show nmB ⟨c, (r : Int)⟩ = ⟨#[]⟩ by
          have : okS ⟨c, (r : Int)⟩ = false := by rw [← Bool.not_eq_true, okS_iff]; intro h; rw [hkc] at h; cases h.1
          unfold nmB; rw [nm_no this]; rfl)
        rw [hu] at hU
        replace hU := Lib.hid hU
        clear hb hb' hub hu hl' hkc
        go_enter Tryz.func36, Tryz.ntmps36
        go_wp2_with (first | (go_at_call 73; refine (hU.out _ hz).mono ?_; rintro e w2 ⟨rfl, rfl⟩) | (go_at_call 39; refine (rname_any ⟨c, (r : Int)⟩ _ ⟨by simp only; omega, by simp only; omega⟩).mono ?_; rw [HN.out]; rintro e w3 ⟨rfl, hb3⟩; have BR : Blk w3 w.heap.size 30 #[.int .u8 0, .int .i64 0] := (hb3.block _ (by simp; omega)).trans ((Blk.new w _ _).alloc _); have hb4 : Below w.heap.size w w3 := ((below_box w _).alloc (by simp) _).trans (hb3.mono (by simp; omega)); have d0 : w3.cell? ⟨w.heap.size + 1, 0, none⟩ = some (.int .u8 (c.toNat : Nat)) := (hb3.cell (by simp)).trans (by simp); have d1 : w3.cell? ⟨w.heap.size + 1, 1, none⟩ = some (.int .i64 (r : Nat)) := (hb3.cell (by simp)).trans (by simp); have c0 := BR.cell 0; have c1 := BR.cell 1; have f0 := BR.frozen 0; have f1 := BR.frozen 1; clear hb3))
        refine bodyPost_ret (results_row2 (p := 2) (a := 3) rfl _ _ _ _ _ _ _ rfl ((BR.set_ 0 _).set_ 1 _) Tryz.underlying30 rfl info_rg) rfl ⟨?_, (hb4.setCell (by simp) _).setCell (by simp) _⟩
        unfold ofP; rw [of_no HB.out, HB.out]; rfl
      · have hu' : unB (s.data.toList.drop 1) = false := by simpa using hu
        rw [hu'] at hU
        replace hU := Lib.hid hU
        clear hb hb' hub hu hl' hu'
        go_enter Tryz.func36, Tryz.ntmps36
        go_wp2_with (go_at_call 73; refine (hU.out _ hz).mono ?_; rintro e w2 ⟨rfl, rfl⟩)
        refine bodyPost_ret (results_row2 (p := 2) (a := 3) rfl _ _ _ _ _ _ _ rfl (((Blk.new w _ _).alloc _)) Tryz.underlying30 rfl info_rg) rfl ⟨?_, (below_box w _).alloc (by simp) _⟩
        unfold ofP; rw [of_no HB.out, HB.out]; rfl
  · have HF := Lib.hid (of_size h9)
    go_enter Tryz.func36, Tryz.ntmps36
    go_wp2
    refine bodyPost_ret (results_row2 (p := 2) (a := 3) rfl _ _ _ _ _ _ _ rfl (Blk.new _ _ _) Tryz.underlying30 rfl info_rg) rfl ⟨?_, below_box _ _⟩
    unfold ofP; rw [of_no HF.out, HF.out]; rfl
end SgM
end Go.Proofs.YtefknfbmphdafaaGreat
