/- The walk of Pack. -/
import Derived.Test.YtidnoeahmnfodaaFrD
namespace Go.Proofs.Ytidnoeahmnfodaa
open Go.RowKit CrcM FrM

def bytesOf (l : List UInt8) : ByteArray := ⟨l.toArray⟩
theorem bytesOf_list (l : List UInt8) : (bytesOf l).data.toList = l := by simp [bytesOf]
theorem bytesOf_size (l : List UInt8) : (bytesOf l).size = l.length := by show l.toArray.size = _; simp
theorem ba_ext {a b : ByteArray} (h : a.data.toList = b.data.toList) : a = b := by
  apply ByteArray.ext
  exact Array.toList_inj.1 h
theorem append_list (a b : ByteArray) : (a ++ b).data.toList = a.data.toList ++ b.data.toList := by rw [ByteArray.data_append]; simp
def innerB (k : UInt8) (b : ByteArray) : ByteArray := bytesOf (inner k b.data.toList)
def wholeB (k : UInt8) (b : ByteArray) : ByteArray := bytesOf (whole k b.data.toList)
def pkSb (k : UInt8) (b : ByteArray) : ByteArray := bytesOf (pkS k b.data.toList)
theorem inner_is (k : UInt8) (b : ByteArray) : (⟨#[k]⟩ ++ hexB 4 b.size) ++ b = innerB k b := by
  apply ba_ext
  rw [append_list, append_list, hexB_list, innerB, bytesOf_list, size_list]
  simp [inner]
theorem whole_is (k : UInt8) (b : ByteArray) : (⟨#[254]⟩ ++ innerB k b) ++ hexB 8 (smm (innerB k b).data.toList) = wholeB k b := by
  apply ba_ext
  rw [append_list, append_list, hexB_list, innerB, wholeB, bytesOf_list, bytesOf_list]
  simp [whole]
theorem innerB_size (k : UInt8) (b : ByteArray) : (innerB k b).size = 5 + b.size := by
  rw [innerB, bytesOf_size, size_list]; simp [inner, hex_length]; omega
/-- One byte, made into a text, wherever it lies. -/
theorem conv_at (c : UInt8) (g : Nat) (w : World) (h : w.cell? ⟨g, 0, none⟩ = some (.int .u8 c.toNat)) :
    (convert 56 9 (.slice (some ⟨g, 0, none⟩) 1 1)).run Try.prog w = .ok (.string ⟨#[c]⟩) w := by
  have := run_convert_bytes_back (P := Try.prog) w 56 9 _ ⟨g, 0, none⟩ 1 [c] und_bytes und_u8 und_string (fun j hj => by
    obtain rfl : j = 0 := by simp at hj; exact hj
    simpa [Addr.add] using h)
  exact this

def PackPost (k : UInt8) (b : ByteArray) (w : World) (e : Ending) (w' : World) : Prop :=
  e = .returned (.tuple #[.string (pkSb k b), .int .i64 (pkE k b.data.toList)]) ∧ Below w.heap.size w w'
theorem packPost_bad (k : UInt8) (b : ByteArray) (c : Nat) (w w' : World) (h : pkE k b.data.toList = c) (hc : c ≠ 0) (hb : Below w.heap.size w w') :
    PackPost k b w (.returned (.tuple #[.string ⟨#[]⟩, .int .i64 c])) w' := by
  refine ⟨?_, hb⟩
  unfold pkSb pkS
  rw [if_neg (by omega), h]
  rfl
theorem packPost_ok (k : UInt8) (b : ByteArray) (w w' : World) (h : pkE k b.data.toList = 0) (hb : Below w.heap.size w w') :
    PackPost k b w (.returned (.tuple #[.string (wholeB k b), .int .i64 0])) w' := by
  refine ⟨?_, hb⟩
  unfold pkSb pkS wholeB
  rw [if_pos h, h]
  rfl
theorem below_box (w : World) (o : Obj) : Below w.heap.size w (w.alloc o) := (Below.refl _ _).alloc (Nat.le_refl _) o

theorem wpAnyH_change {P : Program} {md : Region.Mode} {ops : Array Oper} {Q : Exit → Act → World → Prop} {S S' : World → Prop} (h : ∀ w, S' w → S w) :
    ∀ {fuel : Nat} {listed : Array Bool} {a : Act} {w : World}, wpAnyH P md ops Q S' fuel listed a w → wpAnyH P md ops Q S fuel listed a w
  | 0, _, _, _, H => H
  | _ + 1, _, _, _, H => ⟨H.1, fun i hi => wpOp_mono (fun _ _ h' => ⟨h _ h'.1, wpAnyH_change h h'.2⟩) (H.2 i hi)⟩
theorem wpAnyH_add {P : Program} {md : Region.Mode} {ops : Array Oper} {Q : Exit → Act → World → Prop} {S : World → Prop} {fuel : Nat} {listed : Array Bool} {a : Act} {w : World} (p : Addr) (v : Value)
    (hS : S w) (hc : w.cell? p = some v) (H : (S w ∧ w.cell? p = some v) → wpAnyH P md ops Q (fun w' => S w' ∧ w'.cell? p = some v) fuel listed a w) : wpAnyH P md ops Q S fuel listed a w :=
  wpAnyH_change (fun _ h => h.1) (H ⟨hS, hc⟩)
theorem keepW {W w w' : World} (h : Below W.heap.size W w) (hb : Below w.heap.size w w') : Below W.heap.size W w' := h.trans (hb.mono h.size)
theorem keepC {A A' : Prop} {p : Addr} {v : Value} {w w' : World} (h : A ∧ w.cell? p = some v) (hb : Below w.heap.size w w') (hS : A') : A' ∧ w'.cell? p = some v :=
  ⟨hS, (hb.cell (block_lt_of_cell h.2)).trans h.2⟩

set_option maxRecDepth 100000 in
set_option maxHeartbeats 1000000 in
theorem pack_any (k : UInt8) (b : ByteArray) (w : World) (hb : b.size ≤ 9223372036854775807) :
    Calls Try.prog 12 #[frV k b] w (PackPost k b w) := by
  have hbl := size_list b
  have HBL := Lib.hid hbl
  clear hbl
  unfold frV
  cases hk : isKind k with
  | false =>
    have HP := Lib.hid (packPost_bad k b 40 w (h := by unfold pkE; rw [if_pos hk]) (hc := by omega))
    have KA := kind_any k
    rw [hk] at KA
    replace KA := Lib.hid KA
    clear hk
    go_enter Try.func12, Try.ntmps12
    go_wp2_with (go_at_call 24; refine (KA.out _).mono ?_; rintro e w1 ⟨rfl, rfl⟩)
    go_ret2
    exact HP.out _ (below_box _ _)
  | true =>
    have KA := kind_any k
    rw [hk] at KA
    replace KA := Lib.hid KA
    have HK := Lib.hid hk
    clear hk
    by_cases hlong : 2000 < b.size
    · have HP := Lib.hid (packPost_bad k b 41 w (h := by unfold pkE; rw [if_neg (by rw [HK.out]; decide), if_pos (by rw [← HBL.out]; exact hlong)]) (hc := by omega))
      go_enter Try.func12, Try.ntmps12
      go_wp2_with (go_at_call 24; refine (KA.out _).mono ?_; rintro e w1 ⟨rfl, rfl⟩)
      go_ret2
      exact HP.out _ (below_box _ _)
    · have WA := wrong_any b _ _ tests_plain
      cases hp : b.data.toList.all isPlain with
      | false =>
        rw [hp] at WA
        replace WA := Lib.hid WA
        have HP := Lib.hid (packPost_bad k b 42 w (h := by unfold pkE; rw [if_neg (by rw [HK.out]; decide), if_neg (by rw [← HBL.out]; exact hlong), if_pos hp]) (hc := by omega))
        clear hp
        go_enter Try.func12, Try.ntmps12
        go_wp2_with (first | (go_at_call 24; refine (KA.out _).mono ?_; rintro e w1 ⟨rfl, rfl⟩) | (go_at_call 25; refine (WA.out _ hb).mono ?_; rintro e w1 ⟨rfl, hb1⟩))
        go_ret2
        exact HP.out _ ((below_box _ _).trans (hb1.mono (by simp)))
      | true =>
        rw [hp] at WA
        replace WA := Lib.hid WA
        have HP := Lib.hid (packPost_ok k b w (h := by unfold pkE; rw [if_neg (by rw [HK.out]; decide), if_neg (by rw [← HBL.out]; exact hlong), if_neg (by rw [hp]; decide)]))
        clear hp
        obtain ⟨C, hC⟩ : ∃ C : ByteArray, C = ⟨#[k]⟩ := ⟨_, rfl⟩
        obtain ⟨M, hM⟩ : ∃ M : ByteArray, M = ⟨#[254]⟩ := ⟨_, rfl⟩
        obtain ⟨H, hH⟩ : ∃ H : ByteArray, H = hexB 4 b.size := ⟨_, rfl⟩
        obtain ⟨I, hI⟩ : ∃ I : ByteArray, I = innerB k b := ⟨_, rfl⟩
        have hcv := conv_at k
        have hcm := conv_at 254
        rw [← hC] at hcv
        rw [show ((254 : UInt8).toNat : Int) = 254 from rfl, ← hM] at hcm
        have hC1 : C.size ≤ 1 := by rw [hC]; exact Nat.le_refl 1
        have hM1 : M.size ≤ 1 := by rw [hM]; exact Nat.le_refl 1
        have hH1 : H.size ≤ 4 := by rw [hH, hexB_size]; exact Nat.le_refl 4
        have HX := hex_any b.size 4
        rw [hexOr_pos 4 b.size (by omega), ← hH] at HX
        replace HX := Lib.hid HX
        have EI := Lib.hid (show C ++ H ++ b = I by rw [hC, hH, hI]; exact inner_is k b)
        have hI1 : I.size ≤ 2005 := by rw [hI, innerB_size]; omega
        have TX : ∀ (g : Nat) (W : World), W.cell? ⟨g, 0, none⟩ = some (.string I) → Calls Try.prog 28 #[.slice (some ⟨g, 0, none⟩) 1 1] W fun e w' => e = .returned (.string (hexB 8 (smm I.data.toList))) ∧ Below W.heap.size W w' := by
          intro g W h; exact text_one g I W (by omega) h
        obtain ⟨T, hT⟩ : ∃ T : ByteArray, T = hexB 8 (smm I.data.toList) := ⟨_, rfl⟩
        rw [← hT] at TX
        replace TX := Lib.hid TX
        have hT1 : T.size ≤ 8 := by rw [hT, hexB_size]; exact Nat.le_refl 8
        have EW := Lib.hid (show M ++ I ++ T = wholeB k b by rw [hM, hT, hI]; exact whole_is k b)
        clear hC hM hH hI hT
        go_enter Try.func12, Try.ntmps12
        go_wp2_with (first | (go_at_call 24; refine (KA.out _).mono ?_; rintro e w1 ⟨rfl, rfl⟩) | (go_at_call 25; refine (WA.out _ hb).mono ?_; rintro e w1 ⟨rfl, hb1⟩))
        have k0 : w1.cell? ⟨w.heap.size, 0, none⟩ = some (.int .u8 k.toNat) := by rw [hb1.cell (by simp)]; simp
        have k1 : w1.cell? ⟨w.heap.size, 1, none⟩ = some (.string b) := by rw [hb1.cell (by simp)]; simp
        have hs1 : w.heap.size < w1.heap.size := by have := hb1.size; simp at this; omega
        have hbw : Below w.heap.size w w1 := (below_box _ _).trans (hb1.mono (by simp))
        clear hb1
        refine wp_region_noPanic ?_
        refine wp_region_held_drew (S := fun w' => ((Below w1.heap.size w1 w') ∧ w'.cell? ⟨w.heap.size, 0, none⟩ = some (.int .u8 k.toNat)) ∧ w'.cell? ⟨w.heap.size, 1, none⟩ = some (.string b)) (by kernel_rfl) ⟨⟨below_draw, k0⟩, k1⟩ (fun hS => ?_)
        refine wpAnyH_take (i := 0) (v := .pointer (some ⟨w.heap.size, 0, none⟩)) rfl (by kernel_rfl) (by kernel_rfl) (by kernel_rfl) (fun _ _ _ h => h) (Or.inl ⟨by rfl, fun wx hSx => ?_⟩) hS ?_
        · go_simp <;> (first | with_reducible rfl | omega)
        simp only [Act.put, List.getElem_toArray, List.getElem_cons_zero, List.setIfInBounds_toArray, List.set_cons_zero, List.set_cons_succ]
        refine wpAnyH_take (i := 1) (v := .int .u8 k.toNat) rfl (by kernel_rfl) (by kernel_rfl) (by kernel_rfl) (fun _ _ _ h => h) (Or.inl ⟨by rfl, fun wx hSx => ?_⟩) hS ?_
        · go_simp <;> (first | with_reducible rfl | omega)
        simp only [Act.put, List.getElem_toArray, List.getElem_cons_zero, List.getElem_cons_succ, List.setIfInBounds_toArray, List.set_cons_zero, List.set_cons_succ]
        refine wpAnyH_take (i := 4) (v := .pointer (some ⟨w.heap.size, 1, none⟩)) rfl (by kernel_rfl) (by kernel_rfl) (by kernel_rfl) (fun _ _ _ h => h) (Or.inl ⟨by rfl, fun wx hSx => ?_⟩) hS ?_
        · go_simp <;> (first | with_reducible rfl | omega)
        simp only [Act.put, List.getElem_toArray, List.getElem_cons_zero, List.getElem_cons_succ, List.setIfInBounds_toArray, List.set_cons_zero, List.set_cons_succ]
        refine wpAnyH_take (i := 5) (v := .string b) rfl (by kernel_rfl) (by kernel_rfl) (by kernel_rfl) (fun _ _ _ h => h) (Or.inl ⟨by rfl, fun wx hSx => ?_⟩) hS ?_
        · go_simp <;> (first | with_reducible rfl | omega)
        simp only [Act.put, List.getElem_toArray, List.getElem_cons_zero, List.getElem_cons_succ, List.setIfInBounds_toArray, List.set_cons_zero, List.set_cons_succ]
        refine wpAnyH_take (i := 6) (v := .int .i64 b.size) rfl (by kernel_rfl) (by kernel_rfl) (by kernel_rfl) (fun _ _ _ h => h) (Or.inl ⟨by rfl, fun wx hSx => ?_⟩) hS ?_
        · go_simp <;> (first | with_reducible rfl | omega)
        simp only [Act.put, List.getElem_toArray, List.getElem_cons_zero, List.getElem_cons_succ, List.setIfInBounds_toArray, List.set_cons_zero, List.set_cons_succ]
        refine wpAnyH_take (i := 9) (v := .pointer (some ⟨w.heap.size, 1, none⟩)) rfl (by kernel_rfl) (by kernel_rfl) (by kernel_rfl) (fun _ _ _ h => h) (Or.inl ⟨by rfl, fun wx hSx => ?_⟩) hS ?_
        · go_simp <;> (first | with_reducible rfl | omega)
        simp only [Act.put, List.getElem_toArray, List.getElem_cons_zero, List.getElem_cons_succ, List.setIfInBounds_toArray, List.set_cons_zero, List.set_cons_succ]
        refine wpAnyH_take (i := 10) (v := .string b) rfl (by kernel_rfl) (by kernel_rfl) (by kernel_rfl) (fun _ _ _ h => h) (Or.inl ⟨by rfl, fun wx hSx => ?_⟩) hS ?_
        · go_simp <;> (first | with_reducible rfl | omega)
        simp only [Act.put, List.getElem_toArray, List.getElem_cons_zero, List.getElem_cons_succ, List.setIfInBounds_toArray, List.set_cons_zero, List.set_cons_succ]
        refine wpAnyH_ready (rs := [2, 7]) (by kernel_rfl) (by simp) ?_
        refine AllReadyH.cons rfl (fun K hK => ?_) (AllReadyH.cons rfl (fun K hK => ?_) AllReadyH.nil)
        · simp only [List.getElem_toArray, List.getElem_cons_zero, List.getElem_cons_succ]
          go_simp
          refine hK.out _ _ (keepC hS (by exact below_box _ _) (keepC hS.1 (by exact below_box _ _) (keepW hS.1.1 (by exact below_box _ _)))) (fun hS1 => ?_)
          clear hK
          refine wpAnyH_add ⟨w1.heap.size, 0, none⟩ (.int .u8 k.toNat) hS1 (by simp) (fun hS2 => ?_)
          refine wpAnyH_take (i := 3) (v := .string C) rfl (by kernel_rfl) (by kernel_rfl) (by kernel_rfl) (fun _ _ _ h => h) (Or.inl ⟨by rfl, fun wx hSx => ?_⟩) hS2 ?_
          · go_simp <;> (first | with_reducible rfl | omega)
          simp only [Act.put, List.getElem_toArray, List.getElem_cons_zero, List.getElem_cons_succ, List.setIfInBounds_toArray, List.set_cons_zero, List.set_cons_succ]
          refine wpAnyH_ready (rs := [7]) (by kernel_rfl) (by simp) ?_
          refine AllReadyH.cons rfl (fun K hK => ?_) AllReadyH.nil
          simp only [List.getElem_toArray, List.getElem_cons_zero, List.getElem_cons_succ]
          go_simp
          refine (HX.out _ (by omega) (by omega) (by omega)).mono ?_
          rintro e w2 ⟨rfl, hw2⟩
          refine hK.out _ _ (keepC hS2 hw2 (keepC hS2.1 hw2 (keepC hS2.1.1 hw2 (keepW hS2.1.1.1 hw2)))) (fun hS3 => ?_)
          clear hK
          refine wpAnyH_take (i := 8) (v := .string (C ++ H)) rfl (by kernel_rfl) (by kernel_rfl) (by kernel_rfl) (fun _ _ _ h => h) (Or.inl ⟨by rfl, fun wx hSx => ?_⟩) hS3 ?_
          · go_simp <;> (first | with_reducible rfl | omega)
          simp only [Act.put, List.getElem_toArray, List.getElem_cons_zero, List.getElem_cons_succ, List.setIfInBounds_toArray, List.set_cons_zero, List.set_cons_succ]
          refine wpAnyH_take (i := 11) (v := .string (C ++ H ++ b)) rfl (by kernel_rfl) (by kernel_rfl) (by kernel_rfl) (fun _ _ _ h => h) (Or.inl ⟨by rfl, fun wx hSx => ?_⟩) hS3 ?_
          · go_simp <;> (first | with_reducible rfl | omega)
          simp only [Act.put, List.getElem_toArray, List.getElem_cons_zero, List.getElem_cons_succ, List.setIfInBounds_toArray, List.set_cons_zero, List.set_cons_succ]
          refine wpAnyH_take (i := 12) (v := .string (C ++ H ++ b)) rfl (by kernel_rfl) (by kernel_rfl) (by kernel_rfl) (fun _ _ _ h => h) (Or.inl ⟨by rfl, fun wx hSx => ?_⟩) hS3 ?_
          · go_simp <;> (first | with_reducible rfl | omega)
          simp only [Act.put, List.getElem_toArray, List.getElem_cons_zero, List.getElem_cons_succ, List.setIfInBounds_toArray, List.set_cons_zero, List.set_cons_succ]
          refine wpAnyH_done (by kernel_rfl) ?_ _
          refine NoPanic.normal ?_
          rw [EI.out]
          have hbW := keepW hbw hS3.1.1.1
          clear hw2 hS hS1 hS2 hS3
          go_wp2_with fail
          refine wp_region_noPanic ?_
          refine wp_region_held_drew (S := fun w' => Below w2.heap.size w2 w') (by kernel_rfl) (below_draw) (fun hS => ?_)
          refine wpAnyH_take (i := 2) (v := .string I) rfl (by kernel_rfl) (by kernel_rfl) (by kernel_rfl) (fun _ _ _ h => h) (Or.inl ⟨by rfl, fun wx hSx => ?_⟩) hS ?_
          · go_simp <;> (first | with_reducible rfl | omega)
          simp only [Act.put, List.getElem_toArray, List.getElem_cons_zero, List.getElem_cons_succ, List.setIfInBounds_toArray, List.set_cons_zero, List.set_cons_succ]
          refine wpAnyH_take (i := 4) (v := .string I) rfl (by kernel_rfl) (by kernel_rfl) (by kernel_rfl) (fun _ _ _ h => h) (Or.inl ⟨by rfl, fun wx hSx => ?_⟩) hS ?_
          · go_simp <;> (first | with_reducible rfl | omega)
          simp only [Act.put, List.getElem_toArray, List.getElem_cons_zero, List.getElem_cons_succ, List.setIfInBounds_toArray, List.set_cons_zero, List.set_cons_succ]
          refine wpAnyH_ready (rs := [0, 5]) (by kernel_rfl) (by simp) ?_
          refine AllReadyH.cons rfl (fun K hK => ?_) (AllReadyH.cons rfl (fun K hK => ?_) AllReadyH.nil)
          · simp only [List.getElem_toArray, List.getElem_cons_zero]
            go_simp
            refine hK.out _ _ (keepW hS (by exact below_box _ _)) (fun hS1 => ?_)
            clear hK
            refine wpAnyH_add ⟨w2.heap.size, 0, none⟩ (.int .u8 254) hS1 (by simp) (fun hS2 => ?_)
            refine wpAnyH_take (i := 1) (v := .string M) rfl (by kernel_rfl) (by kernel_rfl) (by kernel_rfl) (fun _ _ _ h => h) (Or.inl ⟨by rfl, fun wx hSx => ?_⟩) hS2 ?_
            · go_simp <;> (first | with_reducible rfl | omega)
            simp only [Act.put, List.getElem_toArray, List.getElem_cons_zero, List.getElem_cons_succ, List.setIfInBounds_toArray, List.set_cons_zero, List.set_cons_succ]
            refine wpAnyH_take (i := 3) (v := .string (M ++ I)) rfl (by kernel_rfl) (by kernel_rfl) (by kernel_rfl) (fun _ _ _ h => h) (Or.inl ⟨by rfl, fun wx hSx => ?_⟩) hS2 ?_
            · go_simp <;> (first | with_reducible rfl | omega)
            simp only [Act.put, List.getElem_toArray, List.getElem_cons_zero, List.getElem_cons_succ, List.setIfInBounds_toArray, List.set_cons_zero, List.set_cons_succ]
            refine wpAnyH_ready (rs := [5]) (by kernel_rfl) (by simp) ?_
            refine AllReadyH.cons rfl (fun K hK => ?_) AllReadyH.nil
            simp only [List.getElem_toArray, List.getElem_cons_zero, List.getElem_cons_succ]
            go_simp
            refine hK.out _ _ (keepC hS2 (by exact below_box _ _) (keepW hS2.1 (by exact below_box _ _))) (fun hS3 => ?_)
            clear hK
            refine wpAnyH_ready (rs := [6]) (by kernel_rfl) (by simp) ?_
            refine AllReadyH.cons rfl (fun K hK => ?_) AllReadyH.nil
            simp only [List.getElem_toArray, List.getElem_cons_zero, List.getElem_cons_succ]
            go_simp
            refine (TX.out _ _ (by simp)).mono ?_
            rintro e w5 ⟨rfl, hw5⟩
            refine hK.out _ _ (keepC hS3 hw5 (keepW hS3.1 hw5)) (fun hS4 => ?_)
            clear hK
            refine wpAnyH_take (i := 7) (v := .string (M ++ I ++ T)) rfl (by kernel_rfl) (by kernel_rfl) (by kernel_rfl) (fun _ _ _ h => h) (Or.inl ⟨by rfl, fun wx hSx => ?_⟩) hS4 ?_
            · go_simp <;> (first | with_reducible rfl | omega)
            simp only [Act.put, List.getElem_toArray, List.getElem_cons_zero, List.getElem_cons_succ, List.setIfInBounds_toArray, List.set_cons_zero, List.set_cons_succ]
            refine wpAnyH_take (i := 8) (v := .string (M ++ I ++ T)) rfl (by kernel_rfl) (by kernel_rfl) (by kernel_rfl) (fun _ _ _ h => h) (Or.inl ⟨by rfl, fun wx hSx => ?_⟩) hS4 ?_
            · go_simp <;> (first | with_reducible rfl | omega)
            simp only [Act.put, List.getElem_toArray, List.getElem_cons_zero, List.getElem_cons_succ, List.setIfInBounds_toArray, List.set_cons_zero, List.set_cons_succ]
            refine wpAnyH_take (i := 9) (v := .int .i64 0) rfl (by kernel_rfl) (by kernel_rfl) (by kernel_rfl) (fun _ _ _ h => h) (Or.inl ⟨by rfl, fun wx hSx => ?_⟩) hS4 ?_
            · go_simp <;> (first | with_reducible rfl | omega)
            simp only [Act.put, List.getElem_toArray, List.getElem_cons_zero, List.getElem_cons_succ, List.setIfInBounds_toArray, List.set_cons_zero, List.set_cons_succ]
            refine wpAnyH_done (by kernel_rfl) ?_ _
            refine NoPanic.normal ?_
            rw [EW.out]
            go_wp2
            go_ret2
            exact HP.out _ (keepW hbW hS4.1)
          · simp only [List.getElem_toArray, List.getElem_cons_zero, List.getElem_cons_succ]
            go_simp
            refine hK.out _ _ (keepW hS (by exact below_box _ _)) (fun hS1 => ?_)
            clear hK
            refine wpAnyH_add ⟨w2.heap.size, 0, none⟩ (.string I) hS1 (by simp) (fun hS2 => ?_)
            refine wpAnyH_ready (rs := [0, 6]) (by kernel_rfl) (by simp) ?_
            refine AllReadyH.cons rfl (fun K hK => ?_) (AllReadyH.cons rfl (fun K hK => ?_) AllReadyH.nil)
            · simp only [List.getElem_toArray, List.getElem_cons_zero]
              go_simp
              refine hK.out _ _ (keepC hS2 (by exact below_box _ _) (keepW hS2.1 (by exact below_box _ _))) (fun hS3 => ?_)
              clear hK
              refine wpAnyH_add ⟨w2.heap.size + 1, 0, none⟩ (.int .u8 254) hS3 (by simp) (fun hS4 => ?_)
              refine wpAnyH_take (i := 1) (v := .string M) rfl (by kernel_rfl) (by kernel_rfl) (by kernel_rfl) (fun _ _ _ h => h) (Or.inl ⟨by rfl, fun wx hSx => ?_⟩) hS4 ?_
              · go_simp <;> (first | with_reducible rfl | omega)
              simp only [Act.put, List.getElem_toArray, List.getElem_cons_zero, List.getElem_cons_succ, List.setIfInBounds_toArray, List.set_cons_zero, List.set_cons_succ]
              refine wpAnyH_take (i := 3) (v := .string (M ++ I)) rfl (by kernel_rfl) (by kernel_rfl) (by kernel_rfl) (fun _ _ _ h => h) (Or.inl ⟨by rfl, fun wx hSx => ?_⟩) hS4 ?_
              · go_simp <;> (first | with_reducible rfl | omega)
              simp only [Act.put, List.getElem_toArray, List.getElem_cons_zero, List.getElem_cons_succ, List.setIfInBounds_toArray, List.set_cons_zero, List.set_cons_succ]
              refine wpAnyH_ready (rs := [6]) (by kernel_rfl) (by simp) ?_
              refine AllReadyH.cons rfl (fun K hK => ?_) AllReadyH.nil
              simp only [List.getElem_toArray, List.getElem_cons_zero, List.getElem_cons_succ]
              go_simp
              refine (TX.out _ _ (by simp)).mono ?_
              rintro e w5 ⟨rfl, hw5⟩
              refine hK.out _ _ (keepC hS4 hw5 (keepC hS4.1 hw5 (keepW hS4.1.1 hw5))) (fun hS5 => ?_)
              clear hK
              refine wpAnyH_take (i := 7) (v := .string (M ++ I ++ T)) rfl (by kernel_rfl) (by kernel_rfl) (by kernel_rfl) (fun _ _ _ h => h) (Or.inl ⟨by rfl, fun wx hSx => ?_⟩) hS5 ?_
              · go_simp <;> (first | with_reducible rfl | omega)
              simp only [Act.put, List.getElem_toArray, List.getElem_cons_zero, List.getElem_cons_succ, List.setIfInBounds_toArray, List.set_cons_zero, List.set_cons_succ]
              refine wpAnyH_take (i := 8) (v := .string (M ++ I ++ T)) rfl (by kernel_rfl) (by kernel_rfl) (by kernel_rfl) (fun _ _ _ h => h) (Or.inl ⟨by rfl, fun wx hSx => ?_⟩) hS5 ?_
              · go_simp <;> (first | with_reducible rfl | omega)
              simp only [Act.put, List.getElem_toArray, List.getElem_cons_zero, List.getElem_cons_succ, List.setIfInBounds_toArray, List.set_cons_zero, List.set_cons_succ]
              refine wpAnyH_take (i := 9) (v := .int .i64 0) rfl (by kernel_rfl) (by kernel_rfl) (by kernel_rfl) (fun _ _ _ h => h) (Or.inl ⟨by rfl, fun wx hSx => ?_⟩) hS5 ?_
              · go_simp <;> (first | with_reducible rfl | omega)
              simp only [Act.put, List.getElem_toArray, List.getElem_cons_zero, List.getElem_cons_succ, List.setIfInBounds_toArray, List.set_cons_zero, List.set_cons_succ]
              refine wpAnyH_done (by kernel_rfl) ?_ _
              refine NoPanic.normal ?_
              rw [EW.out]
              go_wp2
              go_ret2
              exact HP.out _ (keepW hbW hS5.1.1)
            · simp only [List.getElem_toArray, List.getElem_cons_zero, List.getElem_cons_succ]
              go_simp
              refine (TX.out _ _ (by simp)).mono ?_
              rintro e w5 ⟨rfl, hw5⟩
              refine hK.out _ _ (keepC hS2 hw5 (keepW hS2.1 hw5)) (fun hS3 => ?_)
              clear hK
              refine wpAnyH_ready (rs := [0]) (by kernel_rfl) (by simp) ?_
              refine AllReadyH.cons rfl (fun K hK => ?_) AllReadyH.nil
              simp only [List.getElem_toArray, List.getElem_cons_zero]
              go_simp
              refine hK.out _ _ (keepC hS3 (by exact below_box _ _) (keepW hS3.1 (by exact below_box _ _))) (fun hS4 => ?_)
              clear hK
              refine wpAnyH_add ⟨w5.heap.size, 0, none⟩ (.int .u8 254) hS4 (by simp) (fun hS5 => ?_)
              refine wpAnyH_take (i := 1) (v := .string M) rfl (by kernel_rfl) (by kernel_rfl) (by kernel_rfl) (fun _ _ _ h => h) (Or.inl ⟨by rfl, fun wx hSx => ?_⟩) hS5 ?_
              · go_simp <;> (first | with_reducible rfl | omega)
              simp only [Act.put, List.getElem_toArray, List.getElem_cons_zero, List.getElem_cons_succ, List.setIfInBounds_toArray, List.set_cons_zero, List.set_cons_succ]
              refine wpAnyH_take (i := 3) (v := .string (M ++ I)) rfl (by kernel_rfl) (by kernel_rfl) (by kernel_rfl) (fun _ _ _ h => h) (Or.inl ⟨by rfl, fun wx hSx => ?_⟩) hS5 ?_
              · go_simp <;> (first | with_reducible rfl | omega)
              simp only [Act.put, List.getElem_toArray, List.getElem_cons_zero, List.getElem_cons_succ, List.setIfInBounds_toArray, List.set_cons_zero, List.set_cons_succ]
              refine wpAnyH_take (i := 7) (v := .string (M ++ I ++ T)) rfl (by kernel_rfl) (by kernel_rfl) (by kernel_rfl) (fun _ _ _ h => h) (Or.inl ⟨by rfl, fun wx hSx => ?_⟩) hS5 ?_
              · go_simp <;> (first | with_reducible rfl | omega)
              simp only [Act.put, List.getElem_toArray, List.getElem_cons_zero, List.getElem_cons_succ, List.setIfInBounds_toArray, List.set_cons_zero, List.set_cons_succ]
              refine wpAnyH_take (i := 8) (v := .string (M ++ I ++ T)) rfl (by kernel_rfl) (by kernel_rfl) (by kernel_rfl) (fun _ _ _ h => h) (Or.inl ⟨by rfl, fun wx hSx => ?_⟩) hS5 ?_
              · go_simp <;> (first | with_reducible rfl | omega)
              simp only [Act.put, List.getElem_toArray, List.getElem_cons_zero, List.getElem_cons_succ, List.setIfInBounds_toArray, List.set_cons_zero, List.set_cons_succ]
              refine wpAnyH_take (i := 9) (v := .int .i64 0) rfl (by kernel_rfl) (by kernel_rfl) (by kernel_rfl) (fun _ _ _ h => h) (Or.inl ⟨by rfl, fun wx hSx => ?_⟩) hS5 ?_
              · go_simp <;> (first | with_reducible rfl | omega)
              simp only [Act.put, List.getElem_toArray, List.getElem_cons_zero, List.getElem_cons_succ, List.setIfInBounds_toArray, List.set_cons_zero, List.set_cons_succ]
              refine wpAnyH_done (by kernel_rfl) ?_ _
              refine NoPanic.normal ?_
              rw [EW.out]
              go_wp2
              go_ret2
              exact HP.out _ (keepW hbW hS5.1.1)
        · simp only [List.getElem_toArray, List.getElem_cons_zero, List.getElem_cons_succ]
          go_simp
          refine (HX.out _ (by omega) (by omega) (by omega)).mono ?_
          rintro e w2 ⟨rfl, hw2⟩
          refine hK.out _ _ (keepC hS hw2 (keepC hS.1 hw2 (keepW hS.1.1 hw2))) (fun hS1 => ?_)
          clear hK
          refine wpAnyH_ready (rs := [2]) (by kernel_rfl) (by simp) ?_
          refine AllReadyH.cons rfl (fun K hK => ?_) AllReadyH.nil
          simp only [List.getElem_toArray, List.getElem_cons_zero, List.getElem_cons_succ]
          go_simp
          refine hK.out _ _ (keepC hS1 (by exact below_box _ _) (keepC hS1.1 (by exact below_box _ _) (keepW hS1.1.1 (by exact below_box _ _)))) (fun hS2 => ?_)
          clear hK
          refine wpAnyH_add ⟨w2.heap.size, 0, none⟩ (.int .u8 k.toNat) hS2 (by simp) (fun hS3 => ?_)
          refine wpAnyH_take (i := 3) (v := .string C) rfl (by kernel_rfl) (by kernel_rfl) (by kernel_rfl) (fun _ _ _ h => h) (Or.inl ⟨by rfl, fun wx hSx => ?_⟩) hS3 ?_
          · go_simp <;> (first | with_reducible rfl | omega)
          simp only [Act.put, List.getElem_toArray, List.getElem_cons_zero, List.getElem_cons_succ, List.setIfInBounds_toArray, List.set_cons_zero, List.set_cons_succ]
          refine wpAnyH_take (i := 8) (v := .string (C ++ H)) rfl (by kernel_rfl) (by kernel_rfl) (by kernel_rfl) (fun _ _ _ h => h) (Or.inl ⟨by rfl, fun wx hSx => ?_⟩) hS3 ?_
          · go_simp <;> (first | with_reducible rfl | omega)
          simp only [Act.put, List.getElem_toArray, List.getElem_cons_zero, List.getElem_cons_succ, List.setIfInBounds_toArray, List.set_cons_zero, List.set_cons_succ]
          refine wpAnyH_take (i := 11) (v := .string (C ++ H ++ b)) rfl (by kernel_rfl) (by kernel_rfl) (by kernel_rfl) (fun _ _ _ h => h) (Or.inl ⟨by rfl, fun wx hSx => ?_⟩) hS3 ?_
          · go_simp <;> (first | with_reducible rfl | omega)
          simp only [Act.put, List.getElem_toArray, List.getElem_cons_zero, List.getElem_cons_succ, List.setIfInBounds_toArray, List.set_cons_zero, List.set_cons_succ]
          refine wpAnyH_take (i := 12) (v := .string (C ++ H ++ b)) rfl (by kernel_rfl) (by kernel_rfl) (by kernel_rfl) (fun _ _ _ h => h) (Or.inl ⟨by rfl, fun wx hSx => ?_⟩) hS3 ?_
          · go_simp <;> (first | with_reducible rfl | omega)
          simp only [Act.put, List.getElem_toArray, List.getElem_cons_zero, List.getElem_cons_succ, List.setIfInBounds_toArray, List.set_cons_zero, List.set_cons_succ]
          refine wpAnyH_done (by kernel_rfl) ?_ _
          refine NoPanic.normal ?_
          rw [EI.out]
          have hbW := keepW hbw hS3.1.1.1
          clear hw2 hS hS1 hS2 hS3
          obtain ⟨w3, hw3⟩ : ∃ w3, w3 = w2.alloc (.cells #[.int .u8 k.toNat] 5) := ⟨_, rfl⟩
          rw [← hw3] at hbW ⊢
          clear hw3
          go_wp2_with fail
          refine wp_region_noPanic ?_
          refine wp_region_held_drew (S := fun w' => Below w3.heap.size w3 w') (by kernel_rfl) (below_draw) (fun hS => ?_)
          refine wpAnyH_take (i := 2) (v := .string I) rfl (by kernel_rfl) (by kernel_rfl) (by kernel_rfl) (fun _ _ _ h => h) (Or.inl ⟨by rfl, fun wx hSx => ?_⟩) hS ?_
          · go_simp <;> (first | with_reducible rfl | omega)
          simp only [Act.put, List.getElem_toArray, List.getElem_cons_zero, List.getElem_cons_succ, List.setIfInBounds_toArray, List.set_cons_zero, List.set_cons_succ]
          refine wpAnyH_take (i := 4) (v := .string I) rfl (by kernel_rfl) (by kernel_rfl) (by kernel_rfl) (fun _ _ _ h => h) (Or.inl ⟨by rfl, fun wx hSx => ?_⟩) hS ?_
          · go_simp <;> (first | with_reducible rfl | omega)
          simp only [Act.put, List.getElem_toArray, List.getElem_cons_zero, List.getElem_cons_succ, List.setIfInBounds_toArray, List.set_cons_zero, List.set_cons_succ]
          refine wpAnyH_ready (rs := [0, 5]) (by kernel_rfl) (by simp) ?_
          refine AllReadyH.cons rfl (fun K hK => ?_) (AllReadyH.cons rfl (fun K hK => ?_) AllReadyH.nil)
          · simp only [List.getElem_toArray, List.getElem_cons_zero]
            go_simp
            refine hK.out _ _ (keepW hS (by exact below_box _ _)) (fun hS1 => ?_)
            clear hK
            refine wpAnyH_add ⟨w3.heap.size, 0, none⟩ (.int .u8 254) hS1 (by simp) (fun hS2 => ?_)
            refine wpAnyH_take (i := 1) (v := .string M) rfl (by kernel_rfl) (by kernel_rfl) (by kernel_rfl) (fun _ _ _ h => h) (Or.inl ⟨by rfl, fun wx hSx => ?_⟩) hS2 ?_
            · go_simp <;> (first | with_reducible rfl | omega)
            simp only [Act.put, List.getElem_toArray, List.getElem_cons_zero, List.getElem_cons_succ, List.setIfInBounds_toArray, List.set_cons_zero, List.set_cons_succ]
            refine wpAnyH_take (i := 3) (v := .string (M ++ I)) rfl (by kernel_rfl) (by kernel_rfl) (by kernel_rfl) (fun _ _ _ h => h) (Or.inl ⟨by rfl, fun wx hSx => ?_⟩) hS2 ?_
            · go_simp <;> (first | with_reducible rfl | omega)
            simp only [Act.put, List.getElem_toArray, List.getElem_cons_zero, List.getElem_cons_succ, List.setIfInBounds_toArray, List.set_cons_zero, List.set_cons_succ]
            refine wpAnyH_ready (rs := [5]) (by kernel_rfl) (by simp) ?_
            refine AllReadyH.cons rfl (fun K hK => ?_) AllReadyH.nil
            simp only [List.getElem_toArray, List.getElem_cons_zero, List.getElem_cons_succ]
            go_simp
            refine hK.out _ _ (keepC hS2 (by exact below_box _ _) (keepW hS2.1 (by exact below_box _ _))) (fun hS3 => ?_)
            clear hK
            refine wpAnyH_ready (rs := [6]) (by kernel_rfl) (by simp) ?_
            refine AllReadyH.cons rfl (fun K hK => ?_) AllReadyH.nil
            simp only [List.getElem_toArray, List.getElem_cons_zero, List.getElem_cons_succ]
            go_simp
            refine (TX.out _ _ (by simp)).mono ?_
            rintro e w5 ⟨rfl, hw5⟩
            refine hK.out _ _ (keepC hS3 hw5 (keepW hS3.1 hw5)) (fun hS4 => ?_)
            clear hK
            refine wpAnyH_take (i := 7) (v := .string (M ++ I ++ T)) rfl (by kernel_rfl) (by kernel_rfl) (by kernel_rfl) (fun _ _ _ h => h) (Or.inl ⟨by rfl, fun wx hSx => ?_⟩) hS4 ?_
            · go_simp <;> (first | with_reducible rfl | omega)
            simp only [Act.put, List.getElem_toArray, List.getElem_cons_zero, List.getElem_cons_succ, List.setIfInBounds_toArray, List.set_cons_zero, List.set_cons_succ]
            refine wpAnyH_take (i := 8) (v := .string (M ++ I ++ T)) rfl (by kernel_rfl) (by kernel_rfl) (by kernel_rfl) (fun _ _ _ h => h) (Or.inl ⟨by rfl, fun wx hSx => ?_⟩) hS4 ?_
            · go_simp <;> (first | with_reducible rfl | omega)
            simp only [Act.put, List.getElem_toArray, List.getElem_cons_zero, List.getElem_cons_succ, List.setIfInBounds_toArray, List.set_cons_zero, List.set_cons_succ]
            refine wpAnyH_take (i := 9) (v := .int .i64 0) rfl (by kernel_rfl) (by kernel_rfl) (by kernel_rfl) (fun _ _ _ h => h) (Or.inl ⟨by rfl, fun wx hSx => ?_⟩) hS4 ?_
            · go_simp <;> (first | with_reducible rfl | omega)
            simp only [Act.put, List.getElem_toArray, List.getElem_cons_zero, List.getElem_cons_succ, List.setIfInBounds_toArray, List.set_cons_zero, List.set_cons_succ]
            refine wpAnyH_done (by kernel_rfl) ?_ _
            refine NoPanic.normal ?_
            rw [EW.out]
            go_wp2
            go_ret2
            exact HP.out _ (keepW hbW hS4.1)
          · simp only [List.getElem_toArray, List.getElem_cons_zero, List.getElem_cons_succ]
            go_simp
            refine hK.out _ _ (keepW hS (by exact below_box _ _)) (fun hS1 => ?_)
            clear hK
            refine wpAnyH_add ⟨w3.heap.size, 0, none⟩ (.string I) hS1 (by simp) (fun hS2 => ?_)
            refine wpAnyH_ready (rs := [0, 6]) (by kernel_rfl) (by simp) ?_
            refine AllReadyH.cons rfl (fun K hK => ?_) (AllReadyH.cons rfl (fun K hK => ?_) AllReadyH.nil)
            · simp only [List.getElem_toArray, List.getElem_cons_zero]
              go_simp
              refine hK.out _ _ (keepC hS2 (by exact below_box _ _) (keepW hS2.1 (by exact below_box _ _))) (fun hS3 => ?_)
              clear hK
              refine wpAnyH_add ⟨w3.heap.size + 1, 0, none⟩ (.int .u8 254) hS3 (by simp) (fun hS4 => ?_)
              refine wpAnyH_take (i := 1) (v := .string M) rfl (by kernel_rfl) (by kernel_rfl) (by kernel_rfl) (fun _ _ _ h => h) (Or.inl ⟨by rfl, fun wx hSx => ?_⟩) hS4 ?_
              · go_simp <;> (first | with_reducible rfl | omega)
              simp only [Act.put, List.getElem_toArray, List.getElem_cons_zero, List.getElem_cons_succ, List.setIfInBounds_toArray, List.set_cons_zero, List.set_cons_succ]
              refine wpAnyH_take (i := 3) (v := .string (M ++ I)) rfl (by kernel_rfl) (by kernel_rfl) (by kernel_rfl) (fun _ _ _ h => h) (Or.inl ⟨by rfl, fun wx hSx => ?_⟩) hS4 ?_
              · go_simp <;> (first | with_reducible rfl | omega)
              simp only [Act.put, List.getElem_toArray, List.getElem_cons_zero, List.getElem_cons_succ, List.setIfInBounds_toArray, List.set_cons_zero, List.set_cons_succ]
              refine wpAnyH_ready (rs := [6]) (by kernel_rfl) (by simp) ?_
              refine AllReadyH.cons rfl (fun K hK => ?_) AllReadyH.nil
              simp only [List.getElem_toArray, List.getElem_cons_zero, List.getElem_cons_succ]
              go_simp
              refine (TX.out _ _ (by simp)).mono ?_
              rintro e w5 ⟨rfl, hw5⟩
              refine hK.out _ _ (keepC hS4 hw5 (keepC hS4.1 hw5 (keepW hS4.1.1 hw5))) (fun hS5 => ?_)
              clear hK
              refine wpAnyH_take (i := 7) (v := .string (M ++ I ++ T)) rfl (by kernel_rfl) (by kernel_rfl) (by kernel_rfl) (fun _ _ _ h => h) (Or.inl ⟨by rfl, fun wx hSx => ?_⟩) hS5 ?_
              · go_simp <;> (first | with_reducible rfl | omega)
              simp only [Act.put, List.getElem_toArray, List.getElem_cons_zero, List.getElem_cons_succ, List.setIfInBounds_toArray, List.set_cons_zero, List.set_cons_succ]
              refine wpAnyH_take (i := 8) (v := .string (M ++ I ++ T)) rfl (by kernel_rfl) (by kernel_rfl) (by kernel_rfl) (fun _ _ _ h => h) (Or.inl ⟨by rfl, fun wx hSx => ?_⟩) hS5 ?_
              · go_simp <;> (first | with_reducible rfl | omega)
              simp only [Act.put, List.getElem_toArray, List.getElem_cons_zero, List.getElem_cons_succ, List.setIfInBounds_toArray, List.set_cons_zero, List.set_cons_succ]
              refine wpAnyH_take (i := 9) (v := .int .i64 0) rfl (by kernel_rfl) (by kernel_rfl) (by kernel_rfl) (fun _ _ _ h => h) (Or.inl ⟨by rfl, fun wx hSx => ?_⟩) hS5 ?_
              · go_simp <;> (first | with_reducible rfl | omega)
              simp only [Act.put, List.getElem_toArray, List.getElem_cons_zero, List.getElem_cons_succ, List.setIfInBounds_toArray, List.set_cons_zero, List.set_cons_succ]
              refine wpAnyH_done (by kernel_rfl) ?_ _
              refine NoPanic.normal ?_
              rw [EW.out]
              go_wp2
              go_ret2
              exact HP.out _ (keepW hbW hS5.1.1)
            · simp only [List.getElem_toArray, List.getElem_cons_zero, List.getElem_cons_succ]
              go_simp
              refine (TX.out _ _ (by simp)).mono ?_
              rintro e w5 ⟨rfl, hw5⟩
              refine hK.out _ _ (keepC hS2 hw5 (keepW hS2.1 hw5)) (fun hS3 => ?_)
              clear hK
              refine wpAnyH_ready (rs := [0]) (by kernel_rfl) (by simp) ?_
              refine AllReadyH.cons rfl (fun K hK => ?_) AllReadyH.nil
              simp only [List.getElem_toArray, List.getElem_cons_zero]
              go_simp
              refine hK.out _ _ (keepC hS3 (by exact below_box _ _) (keepW hS3.1 (by exact below_box _ _))) (fun hS4 => ?_)
              clear hK
              refine wpAnyH_add ⟨w5.heap.size, 0, none⟩ (.int .u8 254) hS4 (by simp) (fun hS5 => ?_)
              refine wpAnyH_take (i := 1) (v := .string M) rfl (by kernel_rfl) (by kernel_rfl) (by kernel_rfl) (fun _ _ _ h => h) (Or.inl ⟨by rfl, fun wx hSx => ?_⟩) hS5 ?_
              · go_simp <;> (first | with_reducible rfl | omega)
              simp only [Act.put, List.getElem_toArray, List.getElem_cons_zero, List.getElem_cons_succ, List.setIfInBounds_toArray, List.set_cons_zero, List.set_cons_succ]
              refine wpAnyH_take (i := 3) (v := .string (M ++ I)) rfl (by kernel_rfl) (by kernel_rfl) (by kernel_rfl) (fun _ _ _ h => h) (Or.inl ⟨by rfl, fun wx hSx => ?_⟩) hS5 ?_
              · go_simp <;> (first | with_reducible rfl | omega)
              simp only [Act.put, List.getElem_toArray, List.getElem_cons_zero, List.getElem_cons_succ, List.setIfInBounds_toArray, List.set_cons_zero, List.set_cons_succ]
              refine wpAnyH_take (i := 7) (v := .string (M ++ I ++ T)) rfl (by kernel_rfl) (by kernel_rfl) (by kernel_rfl) (fun _ _ _ h => h) (Or.inl ⟨by rfl, fun wx hSx => ?_⟩) hS5 ?_
              · go_simp <;> (first | with_reducible rfl | omega)
              simp only [Act.put, List.getElem_toArray, List.getElem_cons_zero, List.getElem_cons_succ, List.setIfInBounds_toArray, List.set_cons_zero, List.set_cons_succ]
              refine wpAnyH_take (i := 8) (v := .string (M ++ I ++ T)) rfl (by kernel_rfl) (by kernel_rfl) (by kernel_rfl) (fun _ _ _ h => h) (Or.inl ⟨by rfl, fun wx hSx => ?_⟩) hS5 ?_
              · go_simp <;> (first | with_reducible rfl | omega)
              simp only [Act.put, List.getElem_toArray, List.getElem_cons_zero, List.getElem_cons_succ, List.setIfInBounds_toArray, List.set_cons_zero, List.set_cons_succ]
              refine wpAnyH_take (i := 9) (v := .int .i64 0) rfl (by kernel_rfl) (by kernel_rfl) (by kernel_rfl) (fun _ _ _ h => h) (Or.inl ⟨by rfl, fun wx hSx => ?_⟩) hS5 ?_
              · go_simp <;> (first | with_reducible rfl | omega)
              simp only [Act.put, List.getElem_toArray, List.getElem_cons_zero, List.getElem_cons_succ, List.setIfInBounds_toArray, List.set_cons_zero, List.set_cons_succ]
              refine wpAnyH_done (by kernel_rfl) ?_ _
              refine NoPanic.normal ?_
              rw [EW.out]
              go_wp2
              go_ret2
              exact HP.out _ (keepW hbW hS5.1.1)
end Go.Proofs.Ytidnoeahmnfodaa
