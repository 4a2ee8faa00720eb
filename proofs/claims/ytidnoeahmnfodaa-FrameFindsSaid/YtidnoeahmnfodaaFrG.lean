/- The walks of the reference's text and Pack. -/
import Derived.Test.YtidnoeahmnfodaaFrF
namespace Go.Proofs.Ytidnoeahmnfodaa
open Go.RowKit CrcM FrM

set_option maxRecDepth 100000 in
set_option maxHeartbeats 1000000 in
theorem text04_any (k : UInt8) (b : ByteArray) (w : World) (hb : b.size ≤ 2000) :
    Calls Try.prog 29 #[frV k b] w fun e w' => e = .returned (.string (innerB k b)) ∧ Below w.heap.size w w' := by
  unfold frV
  obtain ⟨C, hC⟩ : ∃ C : ByteArray, C = ⟨#[k]⟩ := ⟨_, rfl⟩
  obtain ⟨H, hH⟩ : ∃ H : ByteArray, H = hexB 4 b.size := ⟨_, rfl⟩
  obtain ⟨I, hI⟩ : ∃ I : ByteArray, I = innerB k b := ⟨_, rfl⟩
  have hcv := conv_at k
  rw [← hC] at hcv
  have hC1 : C.size ≤ 1 := by rw [hC]; exact Nat.le_refl 1
  have hH1 : H.size ≤ 4 := by rw [hH, hexB_size]; exact Nat.le_refl 4
  have HX := hex_ref b.size 4
  rw [hexOr_pos 4 b.size (by omega), ← hH] at HX
  replace HX := Lib.hid HX
  have EI := Lib.hid (show C ++ H ++ b = I by rw [hC, hH, hI]; exact inner_is k b)
  rw [← hI]
  clear hC hH hI
  go_enter Try.func29, Try.ntmps29
  go_wp2_with fail
  obtain ⟨w1, hw1⟩ : ∃ w1, w1 = w.alloc (.cells #[.int .u8 k.toNat, .string b] 23) := ⟨_, rfl⟩
  have k0 : w1.cell? ⟨w.heap.size, 0, none⟩ = some (.int .u8 k.toNat) := by rw [hw1]; simp
  have k1 : w1.cell? ⟨w.heap.size, 1, none⟩ = some (.string b) := by rw [hw1]; simp
  have hs1 : w.heap.size < w1.heap.size := by rw [hw1]; simp
  have hbw : Below w.heap.size w w1 := by rw [hw1]; exact below_box _ _
  rw [← hw1]
  clear hw1
  refine wp_region_noPanic ?_
  refine wp_region_held_drew (S := fun w' => ((Below w1.heap.size w1 w') ∧ w'.cell? ⟨w.heap.size, 0, none⟩ = some (.int .u8 k.toNat)) ∧ w'.cell? ⟨w.heap.size, 1, none⟩ = some (.string b)) (by kernel_rfl) ⟨⟨below_draw, k0⟩, k1⟩ (fun hS => ?_)
  refine wpAnyH_take (i := 0) (v := .pointer (some ⟨w.heap.size, 0, none⟩)) rfl (by kernel_rfl) (by kernel_rfl) (by kernel_rfl) (fun _ _ _ h => h) (Or.inl ⟨by rfl, fun wx hSx => ?_⟩) hS ?_
  · go_simp <;> (first | with_reducible rfl | omega)
  simp only [Act.put, List.getElem_toArray, List.getElem_cons_zero, List.setIfInBounds_toArray, List.set_cons_zero, List.set_cons_succ]
  refine wpAnyH_take (i := 1) (v := .int .u8 k.toNat) rfl (by kernel_rfl) (by kernel_rfl) (by kernel_rfl) (fun _ _ _ h => h) (Or.inl ⟨by rfl, fun wx hSx => ?_⟩) hS ?_
  · go_simp <;> (first | with_reducible rfl | omega)
  simp only [Act.put, List.getElem_toArray, List.getElem_cons_zero, List.getElem_cons_succ, List.setIfInBounds_toArray, List.set_cons_zero, List.set_cons_succ]
  refine wpAnyH_take (i := 4) (v := .pointer (some ⟨w.heap.size, 1, none⟩)) rfl (by kernel_rfl) (by kernel_rfl) (by kernel_rfl) (fun _ _ _ h => h) (Or.inl ⟨by rfl, fun wx hSx => ?_⟩) hS ?_
  · go_simp <;> (first | with_reducible rfl | omega)
  simp only [Act.put, List.getElem_toArray, List.getElem_cons_zero, List.getElem_cons_succ, List.setIfInBounds_toArray, List.set_cons_zero, List.set_cons_succ]
  refine wpAnyH_take (i := 5) (v := .string b) rfl (by kernel_rfl) (by kernel_rfl) (by kernel_rfl) (fun _ _ _ h => h) (Or.inl ⟨by rfl, fun wx hSx => ?_⟩) hS ?_
  · go_simp <;> (first | with_reducible rfl | omega)
  simp only [Act.put, List.getElem_toArray, List.getElem_cons_zero, List.getElem_cons_succ, List.setIfInBounds_toArray, List.set_cons_zero, List.set_cons_succ]
  refine wpAnyH_take (i := 6) (v := .int .i64 b.size) rfl (by kernel_rfl) (by kernel_rfl) (by kernel_rfl) (fun _ _ _ h => h) (Or.inl ⟨by rfl, fun wx hSx => ?_⟩) hS ?_
  · go_simp <;> (first | with_reducible rfl | omega)
  simp only [Act.put, List.getElem_toArray, List.getElem_cons_zero, List.getElem_cons_succ, List.setIfInBounds_toArray, List.set_cons_zero, List.set_cons_succ]
  refine wpAnyH_take (i := 9) (v := .pointer (some ⟨w.heap.size, 1, none⟩)) rfl (by kernel_rfl) (by kernel_rfl) (by kernel_rfl) (fun _ _ _ h => h) (Or.inl ⟨by rfl, fun wx hSx => ?_⟩) hS ?_
  · go_simp <;> (first | with_reducible rfl | omega)
  simp only [Act.put, List.getElem_toArray, List.getElem_cons_zero, List.getElem_cons_succ, List.setIfInBounds_toArray, List.set_cons_zero, List.set_cons_succ]
  refine wpAnyH_take (i := 10) (v := .string b) rfl (by kernel_rfl) (by kernel_rfl) (by kernel_rfl) (fun _ _ _ h => h) (Or.inl ⟨by rfl, fun wx hSx => ?_⟩) hS ?_
  · go_simp <;> (first | with_reducible rfl | omega)
  simp only [Act.put, List.getElem_toArray, List.getElem_cons_zero, List.getElem_cons_succ, List.setIfInBounds_toArray, List.set_cons_zero, List.set_cons_succ]
  refine wpAnyH_ready (rs := [2, 7]) (by kernel_rfl) (by simp) ?_
  refine AllReadyH.cons rfl (fun K hK => ?_) (AllReadyH.cons rfl (fun K hK => ?_) AllReadyH.nil)
  · simp only [List.getElem_toArray, List.getElem_cons_zero, List.getElem_cons_succ]
    go_simp
    refine hK.out _ _ (keepC hS (by exact below_box _ _) (keepC hS.1 (by exact below_box _ _) (keepW hS.1.1 (by exact below_box _ _)))) (fun hS1 => ?_)
    clear hK
    refine wpAnyH_add ⟨w1.heap.size, 0, none⟩ (.int .u8 k.toNat) hS1 (by simp) (fun hS2 => ?_)
    refine wpAnyH_take (i := 3) (v := .string C) rfl (by kernel_rfl) (by kernel_rfl) (by kernel_rfl) (fun _ _ _ h => h) (Or.inl ⟨by rfl, fun wx hSx => ?_⟩) hS2 ?_
    · go_simp <;> (first | with_reducible rfl | omega)
    simp only [Act.put, List.getElem_toArray, List.getElem_cons_zero, List.getElem_cons_succ, List.setIfInBounds_toArray, List.set_cons_zero, List.set_cons_succ]
    refine wpAnyH_ready (rs := [7]) (by kernel_rfl) (by simp) ?_
    refine AllReadyH.cons rfl (fun K hK => ?_) AllReadyH.nil
    simp only [List.getElem_toArray, List.getElem_cons_zero, List.getElem_cons_succ]
    go_simp
    refine (HX.out _ (by omega) (by omega) (by omega)).mono ?_
    rintro e w2 ⟨rfl, hw2⟩
    refine hK.out _ _ (keepC hS2 hw2 (keepC hS2.1 hw2 (keepC hS2.1.1 hw2 (keepW hS2.1.1.1 hw2)))) (fun hS3 => ?_)
    clear hK
    refine wpAnyH_take (i := 8) (v := .string (C ++ H)) rfl (by kernel_rfl) (by kernel_rfl) (by kernel_rfl) (fun _ _ _ h => h) (Or.inl ⟨by rfl, fun wx hSx => ?_⟩) hS3 ?_
    · go_simp <;> (first | with_reducible rfl | omega)
    simp only [Act.put, List.getElem_toArray, List.getElem_cons_zero, List.getElem_cons_succ, List.setIfInBounds_toArray, List.set_cons_zero, List.set_cons_succ]
    refine wpAnyH_take (i := 11) (v := .string (C ++ H ++ b)) rfl (by kernel_rfl) (by kernel_rfl) (by kernel_rfl) (fun _ _ _ h => h) (Or.inl ⟨by rfl, fun wx hSx => ?_⟩) hS3 ?_
    · go_simp <;> (first | with_reducible rfl | omega)
    simp only [Act.put, List.getElem_toArray, List.getElem_cons_zero, List.getElem_cons_succ, List.setIfInBounds_toArray, List.set_cons_zero, List.set_cons_succ]
    refine wpAnyH_take (i := 12) (v := .string (C ++ H ++ b)) rfl (by kernel_rfl) (by kernel_rfl) (by kernel_rfl) (fun _ _ _ h => h) (Or.inl ⟨by rfl, fun wx hSx => ?_⟩) hS3 ?_
    · go_simp <;> (first | with_reducible rfl | omega)
    simp only [Act.put, List.getElem_toArray, List.getElem_cons_zero, List.getElem_cons_succ, List.setIfInBounds_toArray, List.set_cons_zero, List.set_cons_succ]
    refine wpAnyH_done (by kernel_rfl) ?_ _
    refine NoPanic.normal ?_
    rw [EI.out]
    go_wp2
    go_ret
    exact ⟨rfl, keepW hbw hS3.1.1.1⟩
  · simp only [List.getElem_toArray, List.getElem_cons_zero, List.getElem_cons_succ]
    go_simp
    refine (HX.out _ (by omega) (by omega) (by omega)).mono ?_
    rintro e w2 ⟨rfl, hw2⟩
    refine hK.out _ _ (keepC hS hw2 (keepC hS.1 hw2 (keepW hS.1.1 hw2))) (fun hS1 => ?_)
    clear hK
    refine wpAnyH_ready (rs := [2]) (by kernel_rfl) (by simp) ?_
    refine AllReadyH.cons rfl (fun K hK => ?_) AllReadyH.nil
    simp only [List.getElem_toArray, List.getElem_cons_zero, List.getElem_cons_succ]
    go_simp
    refine hK.out _ _ (keepC hS1 (by exact below_box _ _) (keepC hS1.1 (by exact below_box _ _) (keepW hS1.1.1 (by exact below_box _ _)))) (fun hS2 => ?_)
    clear hK
    refine wpAnyH_add ⟨w2.heap.size, 0, none⟩ (.int .u8 k.toNat) hS2 (by simp) (fun hS3 => ?_)
    refine wpAnyH_take (i := 3) (v := .string C) rfl (by kernel_rfl) (by kernel_rfl) (by kernel_rfl) (fun _ _ _ h => h) (Or.inl ⟨by rfl, fun wx hSx => ?_⟩) hS3 ?_
    · go_simp <;> (first | with_reducible rfl | omega)
    simp only [Act.put, List.getElem_toArray, List.getElem_cons_zero, List.getElem_cons_succ, List.setIfInBounds_toArray, List.set_cons_zero, List.set_cons_succ]
    refine wpAnyH_take (i := 8) (v := .string (C ++ H)) rfl (by kernel_rfl) (by kernel_rfl) (by kernel_rfl) (fun _ _ _ h => h) (Or.inl ⟨by rfl, fun wx hSx => ?_⟩) hS3 ?_
    · go_simp <;> (first | with_reducible rfl | omega)
    simp only [Act.put, List.getElem_toArray, List.getElem_cons_zero, List.getElem_cons_succ, List.setIfInBounds_toArray, List.set_cons_zero, List.set_cons_succ]
    refine wpAnyH_take (i := 11) (v := .string (C ++ H ++ b)) rfl (by kernel_rfl) (by kernel_rfl) (by kernel_rfl) (fun _ _ _ h => h) (Or.inl ⟨by rfl, fun wx hSx => ?_⟩) hS3 ?_
    · go_simp <;> (first | with_reducible rfl | omega)
    simp only [Act.put, List.getElem_toArray, List.getElem_cons_zero, List.getElem_cons_succ, List.setIfInBounds_toArray, List.set_cons_zero, List.set_cons_succ]
    refine wpAnyH_take (i := 12) (v := .string (C ++ H ++ b)) rfl (by kernel_rfl) (by kernel_rfl) (by kernel_rfl) (fun _ _ _ h => h) (Or.inl ⟨by rfl, fun wx hSx => ?_⟩) hS3 ?_
    · go_simp <;> (first | with_reducible rfl | omega)
    simp only [Act.put, List.getElem_toArray, List.getElem_cons_zero, List.getElem_cons_succ, List.setIfInBounds_toArray, List.set_cons_zero, List.set_cons_succ]
    refine wpAnyH_done (by kernel_rfl) ?_ _
    refine NoPanic.normal ?_
    rw [EI.out]
    go_wp2
    go_ret
    exact ⟨rfl, keepW hbw hS3.1.1.1⟩

set_option maxRecDepth 100000 in
set_option maxHeartbeats 1000000 in
theorem pack04_any (k : UInt8) (b : ByteArray) (w : World) (hb : b.size ≤ 9223372036854775807) :
    Calls Try.prog 13 #[frV k b] w (PackPost k b w) := by
  have hbl := size_list b
  have HBL := Lib.hid hbl
  clear hbl
  have hkc := u8_lt k
  unfold frV
  by_cases hk : isKind k = true
  · have hk' : 97 ≤ k.toNat ∧ k.toNat ≤ 122 := by unfold isKind at hk; simpa using hk
    obtain ⟨hk1, hk2⟩ := hk'
    have HK := Lib.hid hk
    clear hk
    by_cases hlong : 2000 < b.size
    · have HP := Lib.hid (packPost_bad k b 41 w (h := by unfold pkE; rw [if_neg (by rw [HK.out]; decide), if_pos (by rw [← HBL.out]; exact hlong)]) (hc := by omega))
      go_enter Try.func13, Try.ntmps13
      go_wp2
      go_ret2
      exact HP.out _ (below_box _ _)
    · have HBAD := Lib.hid (fun (w' : World) (hx : b.data.toList.all isPlain = false) => packPost_bad k b 42 w w' (h := by unfold pkE; rw [if_neg (by rw [HK.out]; decide), if_neg (by rw [← HBL.out]; exact hlong), if_pos hx]) (hc := by omega))
      have HOK := Lib.hid (fun (w' : World) (hx : b.data.toList.all isPlain = true) => packPost_ok k b w w' (h := by unfold pkE; rw [if_neg (by rw [HK.out]; decide), if_neg (by rw [← HBL.out]; exact hlong), if_neg (by rw [hx]; decide)]))
      go_enter Try.func13, Try.ntmps13
      go_wp2
      go_loop [4] (fun i => ∃ j : Nat, j ≤ b.size ∧ i = .int .i64 j ∧ (b.data.toList.take j).all isPlain = true) (fun i => b.size - (intOf i).toNat)
      case atStart => exact ⟨0, Nat.zero_le _, rfl, rfl⟩
      case round =>
        obtain ⟨j, hj, rfl, ha⟩ := hrel
        have HA := Lib.hid ha
        clear ha
        by_cases hlt : j < b.size
        · have hcc := u8_lt b[j]
          rcases (show b[j].toNat < 32 ∨ (32 ≤ b[j].toNat ∧ b[j].toNat ≤ 126) ∨ 126 < b[j].toNat by omega) with h | ⟨h, h'⟩ | h
          · have HB := Lib.hid (HBAD.out · (by
              rw [List.all_eq_false]
              exact ⟨b[j], by have := Array.getElem_mem_toList (xs := b.data) (i := j) hlt; exact this, by unfold isPlain; simp; omega⟩))
            go_wp2
            go_ret2
            exact HB.out _ (below_box _ _)
          · have HN := Lib.hid (show (b.data.toList.take (j + 1)).all isPlain = true by
              rw [bytes_take b j hlt, List.all_append, HA.out]; unfold isPlain; simp; omega)
            go_wp2
            go_round
            case rel => exact ⟨j + 1, by omega, by go_num, HN.out⟩
            case measure => simp [intOf]; omega
          · have HB := Lib.hid (HBAD.out · (by
              rw [List.all_eq_false]
              exact ⟨b[j], by have := Array.getElem_mem_toList (xs := b.data) (i := j) hlt; exact this, by unfold isPlain; simp; omega⟩))
            go_wp2
            go_ret2
            exact HB.out _ (below_box _ _)
        · obtain rfl : j = b.size := by omega
          have HP := Lib.hid (HOK.out · (by have := HA.out; rw [take_all] at this; exact this))
          clear HA
          obtain ⟨M, hM⟩ : ∃ M : ByteArray, M = ⟨#[254]⟩ := ⟨_, rfl⟩
          obtain ⟨I, hI⟩ : ∃ I : ByteArray, I = innerB k b := ⟨_, rfl⟩
          have hcm := conv_at 254
          rw [show ((254 : UInt8).toNat : Int) = 254 from rfl, ← hM] at hcm
          have hM1 : M.size ≤ 1 := by rw [hM]; exact Nat.le_refl 1
          have hI1 : I.size ≤ 2005 := by rw [hI, innerB_size]; omega
          have TT := text04_any k b
          rw [← hI] at TT
          replace TT := Lib.hid TT
          have SS := Lib.hid (sum_ref I)
          obtain ⟨n, hn⟩ : ∃ n, n = smm I.data.toList := ⟨_, rfl⟩
          have hn32 : n < 4294967296 := by rw [hn]; exact smm_lt _
          have HX := hex_ref n 8
          rw [hexOr_pos 8 n (by omega)] at HX
          obtain ⟨T, hT⟩ : ∃ T : ByteArray, T = hexB 8 n := ⟨_, rfl⟩
          rw [← hT] at HX
          replace HX := Lib.hid HX
          have hT1 : T.size ≤ 8 := by rw [hT, hexB_size]; exact Nat.le_refl 8
          have EW := Lib.hid (show M ++ I ++ T = wholeB k b by rw [hM, hT, hn, hI]; exact whole_is k b)
          rw [← hn] at SS
          clear hM hI hT hn
          go_wp2_with (go_at_call 29; refine (TT.out _ (by omega)).mono ?_; rintro e w1 ⟨rfl, hb1⟩)
          have hbW : Below w.heap.size w w1 := (below_box _ _).trans (hb1.mono (by simp))
          clear hb1
          refine wp_region_noPanic ?_
          refine wp_region_held_drew (S := fun w' => Below w1.heap.size w1 w') (by kernel_rfl) (below_draw) (fun hS => ?_)
          refine wpAnyH_take (i := 2) (v := .string I) rfl (by kernel_rfl) (by kernel_rfl) (by kernel_rfl) (fun _ _ _ h => h) (Or.inl ⟨by rfl, fun wx hSx => ?_⟩) hS ?_
          · go_simp <;> (first | with_reducible rfl | omega)
          simp only [Act.put, List.getElem_toArray, List.getElem_cons_zero, List.getElem_cons_succ, List.setIfInBounds_toArray, List.set_cons_zero, List.set_cons_succ]
          refine wpAnyH_take (i := 4) (v := .string I) rfl (by kernel_rfl) (by kernel_rfl) (by kernel_rfl) (fun _ _ _ h => h) (Or.inl ⟨by rfl, fun wx hSx => ?_⟩) hS ?_
          · go_simp <;> (first | with_reducible rfl | omega)
          simp only [Act.put, List.getElem_toArray, List.getElem_cons_zero, List.getElem_cons_succ, List.setIfInBounds_toArray, List.set_cons_zero, List.set_cons_succ]
          refine wpAnyH_ready (rs := [0, 5]) (by kernel_rfl) (by simp) ?_
          refine AllReadyH.cons rfl (fun K hK => ?_) (AllReadyH.cons rfl (fun K hK => ?_) AllReadyH.nil)
          · simp only [List.getElem_toArray, List.getElem_cons_zero]
            go_simp
            refine hK.out _ _ (keepW hS (by exact below_box _ _)) (fun hS1 => ?_)
            clear hK
            refine wpAnyH_add ⟨w1.heap.size, 0, none⟩ (.int .u8 254) hS1 (by simp) (fun hS2 => ?_)
            refine wpAnyH_take (i := 1) (v := .string M) rfl (by kernel_rfl) (by kernel_rfl) (by kernel_rfl) (fun _ _ _ h => h) (Or.inl ⟨by rfl, fun wx hSx => ?_⟩) hS2 ?_
            · go_simp <;> (first | with_reducible rfl | omega)
            simp only [Act.put, List.getElem_toArray, List.getElem_cons_zero, List.getElem_cons_succ, List.setIfInBounds_toArray, List.set_cons_zero, List.set_cons_succ]
            refine wpAnyH_take (i := 3) (v := .string (M ++ I)) rfl (by kernel_rfl) (by kernel_rfl) (by kernel_rfl) (fun _ _ _ h => h) (Or.inl ⟨by rfl, fun wx hSx => ?_⟩) hS2 ?_
            · go_simp <;> (first | with_reducible rfl | omega)
            simp only [Act.put, List.getElem_toArray, List.getElem_cons_zero, List.getElem_cons_succ, List.setIfInBounds_toArray, List.set_cons_zero, List.set_cons_succ]
            refine wpAnyH_ready (rs := [5]) (by kernel_rfl) (by simp) ?_
            refine AllReadyH.cons rfl (fun K hK => ?_) AllReadyH.nil
            simp only [List.getElem_toArray, List.getElem_cons_zero, List.getElem_cons_succ]
            go_simp
            refine (SS.out _ (by omega)).mono ?_
            rintro e wq ⟨rfl, rfl⟩
            refine hK.out _ _ hS2 (fun hS3 => ?_)
            clear hK
            refine wpAnyH_ready (rs := [6]) (by kernel_rfl) (by simp) ?_
            refine AllReadyH.cons rfl (fun K hK => ?_) AllReadyH.nil
            simp only [List.getElem_toArray, List.getElem_cons_zero, List.getElem_cons_succ]
            go_simp
            refine (HX.out _ (by omega) (by omega) (by omega)).mono ?_
            rintro e w5 ⟨rfl, hw5⟩
            refine hK.out _ _ (keepC hS3 hw5 (keepW hS3.1 hw5)) (fun hS4 => ?_)
            clear hK
            refine wpAnyH_take (i := 7) (v := .string (M ++ I ++ T)) rfl (by kernel_rfl) (by kernel_rfl) (by kernel_rfl) (fun _ _ _ h => h) (Or.inl ⟨by rfl, fun wx hSx => ?_⟩) hS4 ?_
            · go_simp <;> (first | with_reducible rfl | omega)
            simp only [Act.put, List.getElem_toArray, List.getElem_cons_zero, List.getElem_cons_succ, List.setIfInBounds_toArray, List.set_cons_zero, List.set_cons_succ]
            refine wpAnyH_take (i := 8) (v := .string (M ++ I ++ T)) rfl (by kernel_rfl) (by kernel_rfl) (by kernel_rfl) (fun _ _ _ h => h) (Or.inl ⟨by rfl, fun wx hSx => ?_⟩) hS4 ?_
            · go_simp <;> (first | with_reducible rfl | omega)
            simp only [Act.put, List.getElem_toArray, List.getElem_cons_zero, List.getElem_cons_succ, List.setIfInBounds_toArray, List.set_cons_zero, List.set_cons_succ]
            refine wpAnyH_take (i := 9) (v := .int .i64 0) rfl (by kernel_rfl) (by kernel_rfl) (by kernel_rfl) (fun _ _ _ h => h) (Or.inl ⟨by rfl, fun wx hSx => ?_⟩) hS4 ?_
            · go_simp <;> (first | with_reducible rfl | omega)
            simp only [Act.put, List.getElem_toArray, List.getElem_cons_zero, List.getElem_cons_succ, List.setIfInBounds_toArray, List.set_cons_zero, List.set_cons_succ]
            refine wpAnyH_done (by kernel_rfl) ?_ _
            refine NoPanic.normal ?_
            rw [EW.out]
            go_wp2
            go_ret2
            exact HP.out _ (keepW hbW hS4.1)
          · simp only [List.getElem_toArray, List.getElem_cons_zero, List.getElem_cons_succ]
            go_simp
            refine (SS.out _ (by omega)).mono ?_
            rintro e wq ⟨rfl, rfl⟩
            refine hK.out _ _ hS (fun hS1 => ?_)
            clear hK
            refine wpAnyH_ready (rs := [0, 6]) (by kernel_rfl) (by simp) ?_
            refine AllReadyH.cons rfl (fun K hK => ?_) (AllReadyH.cons rfl (fun K hK => ?_) AllReadyH.nil)
            · simp only [List.getElem_toArray, List.getElem_cons_zero]
              go_simp
              refine hK.out _ _ (keepW hS1 (by exact below_box _ _)) (fun hS2 => ?_)
              clear hK
              refine wpAnyH_add ⟨w1.heap.size, 0, none⟩ (.int .u8 254) hS2 (by simp) (fun hS3 => ?_)
              refine wpAnyH_take (i := 1) (v := .string M) rfl (by kernel_rfl) (by kernel_rfl) (by kernel_rfl) (fun _ _ _ h => h) (Or.inl ⟨by rfl, fun wx hSx => ?_⟩) hS3 ?_
              · go_simp <;> (first | with_reducible rfl | omega)
              simp only [Act.put, List.getElem_toArray, List.getElem_cons_zero, List.getElem_cons_succ, List.setIfInBounds_toArray, List.set_cons_zero, List.set_cons_succ]
              refine wpAnyH_take (i := 3) (v := .string (M ++ I)) rfl (by kernel_rfl) (by kernel_rfl) (by kernel_rfl) (fun _ _ _ h => h) (Or.inl ⟨by rfl, fun wx hSx => ?_⟩) hS3 ?_
              · go_simp <;> (first | with_reducible rfl | omega)
              simp only [Act.put, List.getElem_toArray, List.getElem_cons_zero, List.getElem_cons_succ, List.setIfInBounds_toArray, List.set_cons_zero, List.set_cons_succ]
              refine wpAnyH_ready (rs := [6]) (by kernel_rfl) (by simp) ?_
              refine AllReadyH.cons rfl (fun K hK => ?_) AllReadyH.nil
              simp only [List.getElem_toArray, List.getElem_cons_zero, List.getElem_cons_succ]
              go_simp
              refine (HX.out _ (by omega) (by omega) (by omega)).mono ?_
              rintro e w5 ⟨rfl, hw5⟩
              refine hK.out _ _ (keepC hS3 hw5 (keepW hS3.1 hw5)) (fun hS4 => ?_)
              clear hK
              refine wpAnyH_take (i := 7) (v := .string (M ++ I ++ T)) rfl (by kernel_rfl) (by kernel_rfl) (by kernel_rfl) (fun _ _ _ h => h) (Or.inl ⟨by rfl, fun wx hSx => ?_⟩) hS4 ?_
              · go_simp <;> (first | with_reducible rfl | omega)
              simp only [Act.put, List.getElem_toArray, List.getElem_cons_zero, List.getElem_cons_succ, List.setIfInBounds_toArray, List.set_cons_zero, List.set_cons_succ]
              refine wpAnyH_take (i := 8) (v := .string (M ++ I ++ T)) rfl (by kernel_rfl) (by kernel_rfl) (by kernel_rfl) (fun _ _ _ h => h) (Or.inl ⟨by rfl, fun wx hSx => ?_⟩) hS4 ?_
              · go_simp <;> (first | with_reducible rfl | omega)
              simp only [Act.put, List.getElem_toArray, List.getElem_cons_zero, List.getElem_cons_succ, List.setIfInBounds_toArray, List.set_cons_zero, List.set_cons_succ]
              refine wpAnyH_take (i := 9) (v := .int .i64 0) rfl (by kernel_rfl) (by kernel_rfl) (by kernel_rfl) (fun _ _ _ h => h) (Or.inl ⟨by rfl, fun wx hSx => ?_⟩) hS4 ?_
              · go_simp <;> (first | with_reducible rfl | omega)
              simp only [Act.put, List.getElem_toArray, List.getElem_cons_zero, List.getElem_cons_succ, List.setIfInBounds_toArray, List.set_cons_zero, List.set_cons_succ]
              refine wpAnyH_done (by kernel_rfl) ?_ _
              refine NoPanic.normal ?_
              rw [EW.out]
              go_wp2
              go_ret2
              exact HP.out _ (keepW hbW hS4.1)
            · simp only [List.getElem_toArray, List.getElem_cons_zero, List.getElem_cons_succ]
              go_simp
              refine (HX.out _ (by omega) (by omega) (by omega)).mono ?_
              rintro e w5 ⟨rfl, hw5⟩
              refine hK.out _ _ (keepW hS1 hw5) (fun hS2 => ?_)
              clear hK
              refine wpAnyH_ready (rs := [0]) (by kernel_rfl) (by simp) ?_
              refine AllReadyH.cons rfl (fun K hK => ?_) AllReadyH.nil
              simp only [List.getElem_toArray, List.getElem_cons_zero]
              go_simp
              refine hK.out _ _ (keepW hS2 (by exact below_box _ _)) (fun hS3 => ?_)
              clear hK
              refine wpAnyH_add ⟨w5.heap.size, 0, none⟩ (.int .u8 254) hS3 (by simp) (fun hS4 => ?_)
              refine wpAnyH_take (i := 1) (v := .string M) rfl (by kernel_rfl) (by kernel_rfl) (by kernel_rfl) (fun _ _ _ h => h) (Or.inl ⟨by rfl, fun wx hSx => ?_⟩) hS4 ?_
              · go_simp <;> (first | with_reducible rfl | omega)
              simp only [Act.put, List.getElem_toArray, List.getElem_cons_zero, List.getElem_cons_succ, List.setIfInBounds_toArray, List.set_cons_zero, List.set_cons_succ]
              refine wpAnyH_take (i := 3) (v := .string (M ++ I)) rfl (by kernel_rfl) (by kernel_rfl) (by kernel_rfl) (fun _ _ _ h => h) (Or.inl ⟨by rfl, fun wx hSx => ?_⟩) hS4 ?_
              · go_simp <;> (first | with_reducible rfl | omega)
              simp only [Act.put, List.getElem_toArray, List.getElem_cons_zero, List.getElem_cons_succ, List.setIfInBounds_toArray, List.set_cons_zero, List.set_cons_succ]
              refine wpAnyH_take (i := 7) (v := .string (M ++ I ++ T)) rfl (by kernel_rfl) (by kernel_rfl) (by kernel_rfl) (fun _ _ _ h => h) (Or.inl ⟨by rfl, fun wx hSx => ?_⟩) hS4 ?_
              · go_simp <;> (first | with_reducible rfl | omega)
              simp only [Act.put, List.getElem_toArray, List.getElem_cons_zero, List.getElem_cons_succ, List.setIfInBounds_toArray, List.set_cons_zero, List.set_cons_succ]
              refine wpAnyH_take (i := 8) (v := .string (M ++ I ++ T)) rfl (by kernel_rfl) (by kernel_rfl) (by kernel_rfl) (fun _ _ _ h => h) (Or.inl ⟨by rfl, fun wx hSx => ?_⟩) hS4 ?_
              · go_simp <;> (first | with_reducible rfl | omega)
              simp only [Act.put, List.getElem_toArray, List.getElem_cons_zero, List.getElem_cons_succ, List.setIfInBounds_toArray, List.set_cons_zero, List.set_cons_succ]
              refine wpAnyH_take (i := 9) (v := .int .i64 0) rfl (by kernel_rfl) (by kernel_rfl) (by kernel_rfl) (fun _ _ _ h => h) (Or.inl ⟨by rfl, fun wx hSx => ?_⟩) hS4 ?_
              · go_simp <;> (first | with_reducible rfl | omega)
              simp only [Act.put, List.getElem_toArray, List.getElem_cons_zero, List.getElem_cons_succ, List.setIfInBounds_toArray, List.set_cons_zero, List.set_cons_succ]
              refine wpAnyH_done (by kernel_rfl) ?_ _
              refine NoPanic.normal ?_
              rw [EW.out]
              go_wp2
              go_ret2
              exact HP.out _ (keepW hbW hS4.1)
  · have HP := Lib.hid (packPost_bad k b 40 w (h := by unfold pkE; rw [if_pos (by simpa using hk)]) (hc := by omega))
    have hk' : k.toNat < 97 ∨ 122 < k.toNat := by unfold isKind at hk; simp at hk; omega
    clear hk
    rcases hk' with h | h
    all_goals
      go_enter Try.func13, Try.ntmps13
      go_wp2
      go_ret2
      exact HP.out _ (below_box _ _)
end Go.Proofs.Ytidnoeahmnfodaa
