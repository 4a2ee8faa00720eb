/- What the log leans on: F4. -/
import Derived.Test.YtefknfbmphdafaaGreatF3
import Derived.WalkKit
import Derived.Lib.SmallJoins
namespace Go.Proofs.YtefknfbmphdafaaGreat
open Go.RowKit CrcM FrM

set_option maxRecDepth 100000 in
set_option maxHeartbeats 1000000 in
theorem text04_any (k : UInt8) (b : ByteArray) (w : World) (hb : b.size ≤ 2000) :
    Calls Tryz.prog 123 #[frV k b] w fun e w' => e = .returned (.string (innerB k b)) ∧ Below w.heap.size w w' := by
  unfold frV
  obtain ⟨C, hC⟩ : ∃ C : ByteArray, C = ⟨#[k]⟩ := ⟨_, rfl⟩
  obtain ⟨H, hH⟩ : ∃ H : ByteArray, H = hexB 4 b.size := ⟨_, rfl⟩
  obtain ⟨I, hI⟩ : ∃ I : ByteArray, I = innerB k b := ⟨_, rfl⟩
  have hcv := conv_at k
  rw [← hC] at hcv
  have hC1 : C.size ≤ 1 := by rw [hC]; exact Nat.le_refl 1
  have hH1 : H.size ≤ 4 := by rw [hH, hexB_size]; exact Nat.le_refl 4
  have HX := hex_ref b.size 4
  rw [hexOr_pos 4 b.size (by omega), ← hH] at HX
  replace HX := Lib.hid HX
  have EI := Lib.hid (show C ++ H ++ b = I by rw [hC, hH, hI]; exact inner_is k b)
  rw [← hI]
  clear hC hH hI
  go_enter Tryz.func123, Tryz.ntmps123
  go_wp2_with fail
  obtain ⟨w1, hw1⟩ : ∃ w1, w1 = w.alloc (.cells #[.int .u8 k.toNat, .string b] 51) := ⟨_, rfl⟩
  have k0 : w1.cell? ⟨w.heap.size, 0, none⟩ = some (.int .u8 k.toNat) := by rw [hw1]; simp
  have k1 : w1.cell? ⟨w.heap.size, 1, none⟩ = some (.string b) := by rw [hw1]; simp
  have hs1 : w.heap.size < w1.heap.size := by rw [hw1]; simp
  have hbw : Below w.heap.size w w1 := by rw [hw1]; exact below_box _ _
  rw [← hw1]
  clear hw1
  refine wp_region_noPanic ?_
  refine wp_region_held_drew (S := fun w' => ((Below w1.heap.size w1 w') ∧ w'.cell? ⟨w.heap.size, 0, none⟩ = some (.int .u8 k.toNat)) ∧ w'.cell? ⟨w.heap.size, 1, none⟩ = some (.string b)) (by kernel_rfl) ⟨⟨below_draw, k0⟩, k1⟩ (fun hS => ?_)
  refine wpAnyH_take (i := 0) (v := .pointer (some ⟨w.heap.size, 0, none⟩)) rfl (by kernel_rfl) (by kernel_rfl) (by kernel_rfl) (fun _ _ _ h => h) (Or.inl ⟨by rfl, fun wx hSx => ?_⟩) hS ?_
  · go_simp <;> (first | with_reducible rfl | omega)
  simp only [Act.put, List.getElem_toArray, List.getElem_cons_zero, List.setIfInBounds_toArray, List.set_cons_zero, List.set_cons_succ]
  refine wpAnyH_take (i := 1) (v := .int .u8 k.toNat) rfl (by kernel_rfl) (by kernel_rfl) (by kernel_rfl) (fun _ _ _ h => h) (Or.inl ⟨by rfl, fun wx hSx => ?_⟩) hS ?_
  · go_simp <;> (first | with_reducible rfl | omega)
  simp only [Act.put, List.getElem_toArray, List.getElem_cons_zero, List.getElem_cons_succ, List.setIfInBounds_toArray, List.set_cons_zero, List.set_cons_succ]
  refine wpAnyH_take (i := 4) (v := .pointer (some ⟨w.heap.size, 1, none⟩)) rfl (by kernel_rfl) (by kernel_rfl) (by kernel_rfl) (fun _ _ _ h => h) (Or.inl ⟨by rfl, fun wx hSx => ?_⟩) hS ?_
  · go_simp <;> (first | with_reducible rfl | omega)
  simp only [Act.put, List.getElem_toArray, List.getElem_cons_zero, List.getElem_cons_succ, List.setIfInBounds_toArray, List.set_cons_zero, List.set_cons_succ]
  refine wpAnyH_take (i := 5) (v := .string b) rfl (by kernel_rfl) (by kernel_rfl) (by kernel_rfl) (fun _ _ _ h => h) (Or.inl ⟨by rfl, fun wx hSx => ?_⟩) hS ?_
  · go_simp <;> (first | with_reducible rfl | omega)
  simp only [Act.put, List.getElem_toArray, List.getElem_cons_zero, List.getElem_cons_succ, List.setIfInBounds_toArray, List.set_cons_zero, List.set_cons_succ]
  refine wpAnyH_take (i := 6) (v := .int .i64 b.size) rfl (by kernel_rfl) (by kernel_rfl) (by kernel_rfl) (fun _ _ _ h => h) (Or.inl ⟨by rfl, fun wx hSx => ?_⟩) hS ?_
  · go_simp <;> (first | with_reducible rfl | omega)
  simp only [Act.put, List.getElem_toArray, List.getElem_cons_zero, List.getElem_cons_succ, List.setIfInBounds_toArray, List.set_cons_zero, List.set_cons_succ]
  refine wpAnyH_take (i := 9) (v := .pointer (some ⟨w.heap.size, 1, none⟩)) rfl (by kernel_rfl) (by kernel_rfl) (by kernel_rfl) (fun _ _ _ h => h) (Or.inl ⟨by rfl, fun wx hSx => ?_⟩) hS ?_
  · go_simp <;> (first | with_reducible rfl | omega)
  simp only [Act.put, List.getElem_toArray, List.getElem_cons_zero, List.getElem_cons_succ, List.setIfInBounds_toArray, List.set_cons_zero, List.set_cons_succ]
  refine wpAnyH_take (i := 10) (v := .string b) rfl (by kernel_rfl) (by kernel_rfl) (by kernel_rfl) (fun _ _ _ h => h) (Or.inl ⟨by rfl, fun wx hSx => ?_⟩) hS ?_
  · go_simp <;> (first | with_reducible rfl | omega)
  simp only [Act.put, List.getElem_toArray, List.getElem_cons_zero, List.getElem_cons_succ, List.setIfInBounds_toArray, List.set_cons_zero, List.set_cons_succ]
  refine wpAnyH_ready (rs := [2, 7]) (by kernel_rfl) (by simp) ?_
  refine AllReadyH.cons rfl (fun K hK => ?_) (AllReadyH.cons rfl (fun K hK => ?_) AllReadyH.nil)
  · simp only [List.getElem_toArray, List.getElem_cons_zero, List.getElem_cons_succ]
    go_simp
    refine hK.out _ _ (keepC hS (by exact below_box _ _) (keepC hS.1 (by exact below_box _ _) (keepW hS.1.1 (by exact below_box _ _)))) (fun hS1 => ?_)
    clear hK
    refine wpAnyH_add ⟨w1.heap.size, 0, none⟩ (.int .u8 k.toNat) hS1 (by simp) (fun hS2 => ?_)
    refine wpAnyH_take (i := 3) (v := .string C) rfl (by kernel_rfl) (by kernel_rfl) (by kernel_rfl) (fun _ _ _ h => h) (Or.inl ⟨by rfl, fun wx hSx => ?_⟩) hS2 ?_
    · go_simp <;> (first | with_reducible rfl | omega)
    simp only [Act.put, List.getElem_toArray, List.getElem_cons_zero, List.getElem_cons_succ, List.setIfInBounds_toArray, List.set_cons_zero, List.set_cons_succ]
    refine wpAnyH_ready (rs := [7]) (by kernel_rfl) (by simp) ?_
    refine AllReadyH.cons rfl (fun K hK => ?_) AllReadyH.nil
    simp only [List.getElem_toArray, List.getElem_cons_zero, List.getElem_cons_succ]
    go_simp
    refine (HX.out _ (by omega) (by omega) (by omega)).mono ?_
    rintro e w2 ⟨rfl, hw2⟩
    refine hK.out _ _ (keepC hS2 hw2 (keepC hS2.1 hw2 (keepC hS2.1.1 hw2 (keepW hS2.1.1.1 hw2)))) (fun hS3 => ?_)
    clear hK
    refine wpAnyH_take (i := 8) (v := .string (C ++ H)) rfl (by kernel_rfl) (by kernel_rfl) (by kernel_rfl) (fun _ _ _ h => h) (Or.inl ⟨by rfl, fun wx hSx => ?_⟩) hS3 ?_
    · go_simp <;> (first | with_reducible rfl | omega)
    simp only [Act.put, List.getElem_toArray, List.getElem_cons_zero, List.getElem_cons_succ, List.setIfInBounds_toArray, List.set_cons_zero, List.set_cons_succ]
    refine wpAnyH_take (i := 11) (v := .string (C ++ H ++ b)) rfl (by kernel_rfl) (by kernel_rfl) (by kernel_rfl) (fun _ _ _ h => h) (Or.inl ⟨by rfl, fun wx hSx => ?_⟩) hS3 ?_
    · go_simp <;> (first | with_reducible rfl | omega)
    simp only [Act.put, List.getElem_toArray, List.getElem_cons_zero, List.getElem_cons_succ, List.setIfInBounds_toArray, List.set_cons_zero, List.set_cons_succ]
    refine wpAnyH_take (i := 12) (v := .string (C ++ H ++ b)) rfl (by kernel_rfl) (by kernel_rfl) (by kernel_rfl) (fun _ _ _ h => h) (Or.inl ⟨by rfl, fun wx hSx => ?_⟩) hS3 ?_
    · go_simp <;> (first | with_reducible rfl | omega)
    simp only [Act.put, List.getElem_toArray, List.getElem_cons_zero, List.getElem_cons_succ, List.setIfInBounds_toArray, List.set_cons_zero, List.set_cons_succ]
    refine wpAnyH_done (by kernel_rfl) ?_ _
    refine NoPanic.normal ?_
    rw [EI.out]
    go_wp2
    go_ret
    exact ⟨rfl, keepW hbw hS3.1.1.1⟩
  · simp only [List.getElem_toArray, List.getElem_cons_zero, List.getElem_cons_succ]
    go_simp
    refine (HX.out _ (by omega) (by omega) (by omega)).mono ?_
    rintro e w2 ⟨rfl, hw2⟩
    refine hK.out _ _ (keepC hS hw2 (keepC hS.1 hw2 (keepW hS.1.1 hw2))) (fun hS1 => ?_)
    clear hK
    refine wpAnyH_ready (rs := [2]) (by kernel_rfl) (by simp) ?_
    refine AllReadyH.cons rfl (fun K hK => ?_) AllReadyH.nil
    simp only [List.getElem_toArray, List.getElem_cons_zero, List.getElem_cons_succ]
    go_simp
    refine hK.out _ _ (keepC hS1 (by exact below_box _ _) (keepC hS1.1 (by exact below_box _ _) (keepW hS1.1.1 (by exact below_box _ _)))) (fun hS2 => ?_)
    clear hK
    refine wpAnyH_add ⟨w2.heap.size, 0, none⟩ (.int .u8 k.toNat) hS2 (by simp) (fun hS3 => ?_)
    refine wpAnyH_take (i := 3) (v := .string C) rfl (by kernel_rfl) (by kernel_rfl) (by kernel_rfl) (fun _ _ _ h => h) (Or.inl ⟨by rfl, fun wx hSx => ?_⟩) hS3 ?_
    · go_simp <;> (first | with_reducible rfl | omega)
    simp only [Act.put, List.getElem_toArray, List.getElem_cons_zero, List.getElem_cons_succ, List.setIfInBounds_toArray, List.set_cons_zero, List.set_cons_succ]
    refine wpAnyH_take (i := 8) (v := .string (C ++ H)) rfl (by kernel_rfl) (by kernel_rfl) (by kernel_rfl) (fun _ _ _ h => h) (Or.inl ⟨by rfl, fun wx hSx => ?_⟩) hS3 ?_
    · go_simp <;> (first | with_reducible rfl | omega)
    simp only [Act.put, List.getElem_toArray, List.getElem_cons_zero, List.getElem_cons_succ, List.setIfInBounds_toArray, List.set_cons_zero, List.set_cons_succ]
    refine wpAnyH_take (i := 11) (v := .string (C ++ H ++ b)) rfl (by kernel_rfl) (by kernel_rfl) (by kernel_rfl) (fun _ _ _ h => h) (Or.inl ⟨by rfl, fun wx hSx => ?_⟩) hS3 ?_
    · go_simp <;> (first | with_reducible rfl | omega)
    simp only [Act.put, List.getElem_toArray, List.getElem_cons_zero, List.getElem_cons_succ, List.setIfInBounds_toArray, List.set_cons_zero, List.set_cons_succ]
    refine wpAnyH_take (i := 12) (v := .string (C ++ H ++ b)) rfl (by kernel_rfl) (by kernel_rfl) (by kernel_rfl) (fun _ _ _ h => h) (Or.inl ⟨by rfl, fun wx hSx => ?_⟩) hS3 ?_
    · go_simp <;> (first | with_reducible rfl | omega)
    simp only [Act.put, List.getElem_toArray, List.getElem_cons_zero, List.getElem_cons_succ, List.setIfInBounds_toArray, List.set_cons_zero, List.set_cons_succ]
    refine wpAnyH_done (by kernel_rfl) ?_ _
    refine NoPanic.normal ?_
    rw [EI.out]
    go_wp2
    go_ret
    exact ⟨rfl, keepW hbw hS3.1.1.1⟩

end Go.Proofs.YtefknfbmphdafaaGreat
namespace Go.Proofs.YtefknfbmphdafaaGreat
open Go.RowKit CrcM FrM

def Inv (s : List UInt8) (k L : Nat) : Prop :=
  (k ≤ 5 ∧ L = 0 ∧ sc head 0 k s = 0) ∨ (6 ≤ k ∧ k ≤ 14 + L ∧ L = len4 s ∧ L ≤ 2000 ∧ sc head 0 6 s = 0 ∧ sc (body L) 6 (k - 6) (s.drop 6) = 0)
theorem may_head (k L : Nat) (c : UInt8) (h : k < 6) : mayB k L c = head k c := by
  unfold mayB head
  split
  · rfl
  · split
    · rfl
    · rw [if_pos (Or.inl h)]
theorem may_body (k L : Nat) (c : UInt8) (h : 6 ≤ k) : mayB k L c = body L k c := by
  unfold mayB body
  rw [if_neg (by omega), if_neg (by omega)]
  split <;> split <;> first | rfl | omega
theorem inv_zero (s : List UInt8) : Inv s 0 0 := Or.inl ⟨by omega, rfl, by cases s <;> rfl⟩
theorem inv_bound {s : List UInt8} {k L : Nat} (h : Inv s k L) : k ≤ 14 + L ∧ L ≤ 2000 := by rcases h with ⟨a, b, _⟩ | ⟨a, b, c, d, _⟩ <;> omega
theorem inv_next {s : List UInt8} {k L : Nat} (h : Inv s k L) (hk : k < s.length) (h5 : k ≠ 5) (hl : k < 14 + L) (hm : mayB k L s[k] = true) : Inv s (k + 1) L := by
  rcases h with ⟨a, b, c⟩ | ⟨a, b, c, d, e, f⟩
  · rw [may_head k L _ (by omega)] at hm
    exact Or.inl ⟨by omega, b, sc_next head 0 k s c hk (by rw [Nat.zero_add]; exact hm)⟩
  · rw [may_body k L _ a] at hm
    refine Or.inr ⟨by omega, by omega, c, d, e, ?_⟩
    rw [show k + 1 - 6 = (k - 6) + 1 by omega]
    refine sc_next (body L) 6 (k - 6) (s.drop 6) f (by rw [List.length_drop]; omega) ?_
    rw [List.getElem_drop]
    simp only [show 6 + (k - 6) = k by omega]
    exact hm
theorem inv_five {s : List UInt8} {L : Nat} (h : Inv s 5 L) (hk : 5 < s.length) (hm : mayB 5 L s[5] = true) : sc head 0 6 s = 0 := by
  rcases h with ⟨a, b, c⟩ | ⟨a, _⟩
  · rw [may_head 5 L _ (by omega)] at hm
    exact sc_next head 0 5 s c hk hm
  · omega
theorem inv_six {s : List UInt8} (h : sc head 0 6 s = 0) (hl : ¬ 2000 < len4 s) : Inv s 6 (len4 s) := Or.inr ⟨by omega, by omega, rfl, by omega, h, by cases s.drop 6 <;> rfl⟩
theorem inv_short {s : List UInt8} {k L : Nat} (h : Inv s k L) (hk : s.length ≤ k) (hl : k < 14 + L) : nxE s = 43 := by
  rcases h with ⟨a, b, c⟩ | ⟨a, b, c, d, e, f⟩
  · have := sc_short head 0 k 6 s c hk (by omega)
    rw [nxE_head _ (by omega), this]
  · subst c
    have := sc_short (body (len4 s)) 6 (k - 6) (len4 s + 8) (s.drop 6) f (by rw [List.length_drop]; omega) (by omega)
    rw [nxE_body _ e (by omega) (by omega), this]
theorem inv_bad {s : List UInt8} {k L : Nat} (h : Inv s k L) (hk : k < s.length) (hl : k < 14 + L) (hm : mayB k L s[k] = false) : nxE s = 44 := by
  rcases h with ⟨a, b, c⟩ | ⟨a, b, c, d, e, f⟩
  · rw [may_head k L _ (by omega)] at hm
    have := sc_bad head 0 k 6 s c hk (by rw [Nat.zero_add]; exact hm) (by omega)
    rw [nxE_head _ (by omega), this]
  · rw [may_body k L _ a] at hm
    subst c
    have := sc_bad (body (len4 s)) 6 (k - 6) (len4 s + 8) (s.drop 6) f (by rw [List.length_drop]; omega) (by rw [List.getElem_drop]; simp only [show 6 + (k - 6) = k by omega]; exact hm) (by omega)
    rw [nxE_body _ e (by omega) (by omega), this]
theorem inv_end {s : List UInt8} {k L : Nat} (h : Inv s k L) (hl : ¬ k < 14 + L) : k = 14 + L ∧ L = len4 s ∧ L ≤ 2000 ∧ sc head 0 6 s = 0 ∧ sc (body (len4 s)) 6 (len4 s + 8) (s.drop 6) = 0 := by
  rcases h with ⟨a, b, c⟩ | ⟨a, b, c, d, e, f⟩
  · omega
  · have : k = 14 + L := by omega
    subst this
    refine ⟨rfl, c, d, e, ?_⟩
    rw [← c, show L + 8 = 14 + L - 6 by omega]
    exact f
theorem info_frame04 : (Tryz.prog.info? 51).map (·.size) = some 2 := by kernel_rfl
theorem hasRes_refl (T : TypeId) (w : World) : HasRes T w (w.alloc (.cells #[.int .u8 0, .string ⟨#[]⟩] T)) := HasRes.start T w
theorem getElem_list (s : ByteArray) (k : Nat) (_h : k < s.size) (h' : k < s.data.toList.length) : s.data.toList[k] = s[k] := by rfl
theorem inner_of (s : List UInt8) (h : sc head 0 6 s = 0) (hl : 6 + len4 s ≤ s.length) (h1 : 1 < s.length) : (s.take (6 + len4 s)).drop 1 = inner s[1] ((s.take (6 + len4 s)).drop 6) := by
  obtain ⟨d1, d2⟩ := sc_zero head 0 6 s h
  have hd : ∀ c ∈ (s.drop 2).take 4, isDig c = true := by
    intro x hx
    obtain ⟨i, hi, rfl⟩ := List.mem_iff_getElem.1 hx
    have hi4 : i < 4 := by simp at hi; omega
    have := d2 (2 + i) (by omega) (by omega)
    unfold head at this
    rw [if_neg (by omega), if_neg (by omega)] at this
    simpa [Nat.zero_add] using this
  have hx := hex_unhex _ hd
  rw [show ((s.drop 2).take 4).length = 4 by simp; omega] at hx
  have hlen : ((s.take (6 + len4 s)).drop 6).length = len4 s := by simp; omega
  have e1 : (s.take (6 + len4 s)).drop 1 = s[1] :: (s.take (6 + len4 s)).drop 2 := by
    rw [List.drop_eq_getElem_cons (by simp; omega), List.getElem_take]
  have e2 : (s.take (6 + len4 s)).drop 2 = (s.drop 2).take 4 ++ (s.take (6 + len4 s)).drop 6 := by
    have := (List.take_append_drop 4 ((s.take (6 + len4 s)).drop 2)).symm
    rw [List.drop_drop, List.drop_take, List.take_take, Nat.min_eq_left (by omega)] at this
    rw [List.drop_take]
    exact this
  unfold inner
  rw [hlen, e1, e2]
  have hx' : hex 4 (len4 s) = (s.drop 2).take 4 := hx
  rw [hx']

theorem keepTwoDrew {W : World} {p q : Addr} {u v : Value} (h : W.cell? p = some u) (h' : W.cell? q = some v) : W.drew.cell? p = some u ∧ W.drew.cell? q = some v ∧ Below W.heap.size W W.drew := ⟨h, h', below_draw⟩
theorem keepTwo {W w w' : World} {b : Nat} {u v : Value} (hb : b < W.heap.size) (h : w.cell? ⟨b, 0, none⟩ = some u ∧ w.cell? ⟨b, 1, none⟩ = some v ∧ Below W.heap.size W w) (h' : Below w.heap.size w w') :
    w'.cell? ⟨b, 0, none⟩ = some u ∧ w'.cell? ⟨b, 1, none⟩ = some v ∧ Below W.heap.size W w' := by
  obtain ⟨h1, h2, h3⟩ := h
  have := h'.mono h3.size
  exact ⟨(this.cell hb).trans h1, (this.cell hb).trans h2, h3.trans this⟩
set_option maxRecDepth 100000 in
set_option maxHeartbeats 1000000 in
theorem next04_any (s : ByteArray) (w : World) (hs : s.size ≤ 9223372036854775807) :
    Calls Tryz.prog 82 #[.string s] w (NextPost s w) := by
  have hsl := Lib.hid (size_list s)
  have hr := HasRes.start 51 w
  obtain ⟨c0, c1, f0, f1⟩ := hr.cells
  have GET := Lib.hid (getElem_list s)
  go_enter Tryz.func82, Tryz.ntmps82
  go_wp2_with fail
  obtain ⟨w1, hw1⟩ : ∃ w1, w1 = w.alloc (.cells #[.int .u8 0, .string ⟨#[]⟩] 51) := ⟨_, rfl⟩
  rw [← hw1] at hr c0 c1 f0 f1 ⊢
  clear hw1
  go_loop [5, 6] (fun x i => ∃ k L : Nat, k ≤ s.size ∧ Inv s.data.toList k L ∧ x = .int .i64 L ∧ i = .int .i64 k) (fun x i => 3000 - (intOf i).toNat)
  case atStart => exact ⟨0, 0, Nat.zero_le _, inv_zero _, rfl, rfl⟩
  case round =>
    obtain ⟨k, L, hk, hi, rfl, rfl⟩ := hrel
    obtain ⟨b1, b2⟩ := inv_bound hi
    have HI := Lib.hid hi
    clear hi
    by_cases hl : k < 14 + L
    · by_cases hlt : k < s.size
      · have hlt' : k < s.data.toList.length := by rw [← hsl.out]; exact hlt
        have MA := may_any s[k] k L (by omega) (by omega)
        generalize hm : mayB k L s[k] = B at MA
        have HM := Lib.hid hm
        replace MA := Lib.hid MA
        clear hm
        cases B with
        | false =>
          have HP := Lib.hid (nextPost_bad s 44 w (h := inv_bad HI.out hlt' hl (by rw [GET.out k hlt]; exact HM.out)) (hc := by omega))
          go_wp2_with (go_at_call 121; refine (MA.out _).mono ?_; rintro e w' ⟨rfl, rfl⟩)
          obtain ⟨p1, p2⟩ := hr.put (.int .u8 0) (.string ⟨#[]⟩)
          exact bodyPost_ret (results_row3 (p := 2) (a := 3) (b := 4) rfl _ _ _ _ _ _ _ rfl p1 Tryz.underlying51 rfl info_frame04) rfl (HP.out _ p2)
        | true =>
          by_cases h5 : k = 5
          · subst h5
            have g1 := inv_five HI.out hlt' (by rw [GET.out 5 hlt]; exact HM.out)
            obtain ⟨d1, d2, d3, d4⟩ := head_digs _ g1
            have UN := unhex_ref (s.extract 2 6)
            rw [extract_list, List.drop_take, show (6 : Nat) - 2 = 4 from rfl, d2, d3] at UN
            replace UN := Lib.hid UN
            have hxs : (s.extract 2 6).size ≤ 9223372036854775807 := by rw [extract_size]; omega
            obtain ⟨n, hn⟩ : ∃ n, n = len4 s.data.toList := ⟨_, rfl⟩
            rw [← hn] at UN d4
            have HN := Lib.hid hn
            have G1 := Lib.hid g1
            clear g1 d1 d2 d3 hn
            have i1 : (6 : Int) ≤ (s.size : Int) := by omega
            by_cases hbig : 2000 < n
            · have HP := Lib.hid (nextPost_bad s 44 w (h := nxE_long _ G1.out (by rw [← HN.out]; exact hbig)) (hc := by omega))
              go_wp2_with (first | (go_at_call 121; refine (MA.out _).mono ?_; rintro e w' ⟨rfl, rfl⟩) | (go_at_call 73; refine (UN.out _ hxs).mono ?_; rintro e w' ⟨rfl, rfl⟩))
              obtain ⟨p1, p2⟩ := hr.put (.int .u8 0) (.string ⟨#[]⟩)
              exact bodyPost_ret (results_row3 (p := 2) (a := 3) (b := 4) rfl _ _ _ _ _ _ _ rfl p1 Tryz.underlying51 rfl info_frame04) rfl (HP.out _ p2)
            · have HJ := Lib.hid (show Inv s.data.toList 6 n by rw [HN.out]; exact inv_six G1.out (by rw [← HN.out]; exact hbig))
              go_wp2_with (first | (go_at_call 121; refine (MA.out _).mono ?_; rintro e w' ⟨rfl, rfl⟩) | (go_at_call 73; refine (UN.out _ hxs).mono ?_; rintro e w' ⟨rfl, rfl⟩))
              go_round
              case rel => exact ⟨6, n, by omega, HJ.out, rfl, rfl⟩
              case measure => simp [intOf]
          · have HJ := Lib.hid (inv_next HI.out hlt' h5 hl (by rw [GET.out k hlt]; exact HM.out))
            have t5 : ((k : Int) == 5) = false := by rw [beq_eq_false_iff_ne]; omega
            clear h5
            go_wp2_with (go_at_call 121; refine (MA.out _).mono ?_; rintro e w' ⟨rfl, rfl⟩)
            go_round
            case rel => exact ⟨k + 1, L, by omega, HJ.out, rfl, by go_num⟩
            case measure => simp [intOf]; omega
      · have HP := Lib.hid (nextPost_bad s 43 w (h := inv_short HI.out (by rw [← hsl.out]; omega) hl) (hc := by omega))
        go_wp2
        obtain ⟨p1, p2⟩ := hr.put (.int .u8 0) (.string ⟨#[]⟩)
        exact bodyPost_ret (results_row3 (p := 2) (a := 3) (b := 4) rfl _ _ _ _ _ _ _ rfl p1 Tryz.underlying51 rfl info_frame04) rfl (HP.out _ p2)
    · have hend := inv_end HI.out hl
      clear HI
      obtain ⟨rfl, hn, hL, g1, g3⟩ := hend
      have hlen : 1 < s.data.toList.length := by rw [← hsl.out]; omega
      have hin := inner_of _ g1 (by rw [← hsl.out, ← hn]; omega) hlen
      rw [← hn] at hin
      have G1 := Lib.hid g1
      have G2 := Lib.hid (show ¬ 2000 < len4 s.data.toList by rw [← hn]; omega)
      have G3 := Lib.hid g3
      have HN := Lib.hid hn
      clear g1 g3 hn
      obtain ⟨Q, hQ⟩ : ∃ Q, Q = 6 + L := ⟨_, rfl⟩
      obtain ⟨R, hR⟩ : ∃ R, R = 14 + L := ⟨_, rfl⟩
      rw [← hQ] at hin
      have h1 : 1 < s.size := by omega
      have q1 : (1 : Int) < (s.size : Int) := by omega
      have q2 : (6 : Int) ≤ (Q : Int) := by omega
      have q3 : (Q : Int) ≤ (s.size : Int) := by omega
      have v1 : IntKind.i64.wrap ((6 : Int) + (L : Int)) = Q := by rw [IntWalk.i64_in _ (by omega)]; omega
      have v2 : IntKind.i64.wrap ((14 : Int) + (L : Int)) = R := by rw [IntWalk.i64_in _ (by omega)]; omega
      have v3 : (0 : Int) ≤ (Q : Int) := by omega
      have v4 : (Q : Int) ≤ (R : Int) := by omega
      have v5 : (R : Int) ≤ (s.size : Int) := by omega
      have hbs : (s.extract 6 Q).size ≤ 2000 := by rw [extract_size]; omega
      have TT := text04_any s[1] (s.extract 6 Q)
      obtain ⟨I, hI⟩ : ∃ I, I = innerB s[1] (s.extract 6 Q) := ⟨_, rfl⟩
      have hIl : I.data.toList = (s.data.toList.take Q).drop 1 := by rw [hin, hI, innerB, bytesOf_list, extract_list]; rfl
      rw [← hI] at TT
      have TX := Lib.hid (fun (W : World) => TT W hbs)
      have hIs : I.size ≤ 9223372036854775807 := by rw [hI, innerB_size]; omega
      have SS := Lib.hid (fun (W : World) => sum_ref I W hIs)
      obtain ⟨m, hm⟩ : ∃ m, m = smm I.data.toList := ⟨_, rfl⟩
      have hm32 : m < 4294967296 := by rw [hm]; exact smm_lt _
      have HX := fun (W : World) => hex_ref m 8 W (by omega) (by omega) (by omega)
      rw [hexOr_pos 8 m (by omega)] at HX
      obtain ⟨T, hT⟩ : ∃ T : ByteArray, T = hexB 8 m := ⟨_, rfl⟩
      rw [← hT] at HX
      rw [← hm] at SS
      replace HX := Lib.hid HX
      have HT := Lib.hid (show T.data.toList = hex 8 (smm ((s.data.toList.take Q).drop 1)) by rw [hT, hexB_list, hm, hIl])
      have HQ := Lib.hid hQ
      have HR := Lib.hid hR
      clear hin hI hIl hm hT TT
      have hl' : ((14 + L : Nat) : Int) = R := by omega
      rw [hl']
      clear hQ hR hl' hl
      have b3 : decide ((R : Int) < R) = false := by simp
      go_wp2_with fail
      go_region
      go_wp2_with fail
      obtain ⟨w2, hw2⟩ : ∃ w2, w2 = (w1.alloc (.cells #[.int .u8 (s[1].toNat : Int), .string (s.extract 6 Q)] 51)).drew := ⟨_, rfl⟩
      have k0 : w2.cell? ⟨w1.heap.size, 0, none⟩ = some (.int .u8 (s[1].toNat : Int)) := by rw [hw2]; simp
      have k1 : w2.cell? ⟨w1.heap.size, 1, none⟩ = some (.string (s.extract 6 Q)) := by rw [hw2]; simp
      have hb12 : Below w1.heap.size w1 w2 := by rw [hw2]; exact (below_box _ _).drew
      have hs12 : w1.heap.size < w2.heap.size := by rw [hw2]; simp
      rw [← hw2]
      clear hw2 c0 c1 f0 f1
      refine wp_region_noPanic ?_
      refine wp_region_held_drew (S := fun w' => ((Below w2.heap.size w2 w') ∧ w'.cell? ⟨w1.heap.size, 0, none⟩ = some (.int .u8 (s[1].toNat : Int))) ∧ w'.cell? ⟨w1.heap.size, 1, none⟩ = some (.string (s.extract 6 Q))) (by kernel_rfl) ⟨⟨below_draw, k0⟩, k1⟩ (fun hS => ?_)
      refine wpAnyH_take (i := 0) (v := .string s) rfl (by kernel_rfl) (by kernel_rfl) (by kernel_rfl) (fun _ _ _ h => h) (Or.inl ⟨by rfl, fun wx hSx => ?_⟩) hS ?_
      · go_simp <;> (first | with_reducible rfl | omega)
      simp only [Act.put, List.getElem_toArray, List.getElem_cons_zero, List.setIfInBounds_toArray, List.set_cons_zero, List.set_cons_succ]
      refine wpAnyH_take (i := 1) (v := .int .i64 L) rfl (by kernel_rfl) (by kernel_rfl) (by kernel_rfl) (fun _ _ _ h => h) (Or.inl ⟨by rfl, fun wx hSx => ?_⟩) hS ?_
      · go_simp <;> (first | with_reducible rfl | omega)
      simp only [Act.put, List.getElem_toArray, List.getElem_cons_zero, List.getElem_cons_succ, List.setIfInBounds_toArray, List.set_cons_zero, List.set_cons_succ]
      refine wpAnyH_take (i := 2) (v := .int .i64 Q) rfl (by kernel_rfl) (by kernel_rfl) (by kernel_rfl) (fun _ _ _ h => h) (Or.inl ⟨by rfl, fun wx hSx => ?_⟩) hS ?_
      · go_simp <;> (first | with_reducible rfl | omega)
      simp only [Act.put, List.getElem_toArray, List.getElem_cons_zero, List.getElem_cons_succ, List.setIfInBounds_toArray, List.set_cons_zero, List.set_cons_succ]
      refine wpAnyH_take (i := 3) (v := .int .i64 L) rfl (by kernel_rfl) (by kernel_rfl) (by kernel_rfl) (fun _ _ _ h => h) (Or.inl ⟨by rfl, fun wx hSx => ?_⟩) hS ?_
      · go_simp <;> (first | with_reducible rfl | omega)
      simp only [Act.put, List.getElem_toArray, List.getElem_cons_zero, List.getElem_cons_succ, List.setIfInBounds_toArray, List.set_cons_zero, List.set_cons_succ]
      refine wpAnyH_take (i := 4) (v := .int .i64 R) rfl (by kernel_rfl) (by kernel_rfl) (by kernel_rfl) (fun _ _ _ h => h) (Or.inl ⟨by rfl, fun wx hSx => ?_⟩) hS ?_
      · go_simp <;> (first | with_reducible rfl | omega)
      simp only [Act.put, List.getElem_toArray, List.getElem_cons_zero, List.getElem_cons_succ, List.setIfInBounds_toArray, List.set_cons_zero, List.set_cons_succ]
      refine wpAnyH_take (i := 5) (v := .string (s.extract Q R)) rfl (by kernel_rfl) (by kernel_rfl) (by kernel_rfl) (fun _ _ _ h => h) (Or.inl ⟨by rfl, fun wx hSx => ?_⟩) hS ?_
      · go_simp <;> (first | with_reducible rfl | omega)
      simp only [Act.put, List.getElem_toArray, List.getElem_cons_zero, List.getElem_cons_succ, List.setIfInBounds_toArray, List.set_cons_zero, List.set_cons_succ]
      refine wpAnyH_take (i := 6) (v := .agg #[.int .u8 (s[1].toNat : Int), .string (s.extract 6 Q)]) rfl (by kernel_rfl) (by kernel_rfl) (by kernel_rfl) (fun _ _ _ h => h) (Or.inl ⟨by rfl, fun wx hSx => ?_⟩) hS ?_
      · go_simp <;> (first | with_reducible rfl | omega)
      simp only [Act.put, List.getElem_toArray, List.getElem_cons_zero, List.getElem_cons_succ, List.setIfInBounds_toArray, List.set_cons_zero, List.set_cons_succ]
      refine wpAnyH_ready (rs := [7]) (by kernel_rfl) (by simp) ?_
      refine AllReadyH.cons rfl (fun K hK => ?_) AllReadyH.nil
      simp only [List.getElem_toArray, List.getElem_cons_zero, List.getElem_cons_succ]
      go_simp
      refine (TX.out _).mono ?_
      rintro e w3 ⟨rfl, hw3⟩
      refine hK.out _ _ (keepC hS hw3 (keepC hS.1 hw3 (keepW hS.1.1 hw3))) (fun hS1 => ?_)
      clear hK
      refine wpAnyH_ready (rs := [8]) (by kernel_rfl) (by simp) ?_
      refine AllReadyH.cons rfl (fun K hK => ?_) AllReadyH.nil
      simp only [List.getElem_toArray, List.getElem_cons_zero, List.getElem_cons_succ]
      go_simp
      refine (SS.out _).mono ?_
      rintro e wq ⟨rfl, rfl⟩
      refine hK.out _ _ hS1 (fun hS2 => ?_)
      clear hK
      refine wpAnyH_ready (rs := [9]) (by kernel_rfl) (by simp) ?_
      refine AllReadyH.cons rfl (fun K hK => ?_) AllReadyH.nil
      simp only [List.getElem_toArray, List.getElem_cons_zero, List.getElem_cons_succ]
      go_simp
      refine (HX.out _).mono ?_
      rintro e w4 ⟨rfl, hw4⟩
      refine hK.out _ _ (keepC hS2 hw4 (keepC hS2.1 hw4 (keepW hS2.1.1 hw4))) (fun hS3 => ?_)
      clear hK
      refine wpAnyH_take (i := 10) (v := .bool (!((s.extract Q R).toList == T.toList))) rfl (by kernel_rfl) (by kernel_rfl) (by kernel_rfl) (fun _ _ _ h => h) (Or.inl ⟨by rfl, fun wx hSx => ?_⟩) hS3 ?_
      · go_simp <;> (first | with_reducible rfl | omega)
      simp only [Act.put, List.getElem_toArray, List.getElem_cons_zero, List.getElem_cons_succ, List.setIfInBounds_toArray, List.set_cons_zero, List.set_cons_succ]
      refine wpAnyH_done (by kernel_rfl) ?_ _
      refine NoPanic.normal ?_
      have m1 := hS3.2
      have m0 := hS3.1.2
      have hr3 := hr.step (hb12.trans (hS3.1.1.mono hb12.size))
      clear k0 k1
      obtain ⟨c0, c1, f0, f1⟩ := hr3.cells
      generalize hbq : (!((s.extract Q R).toList == T.toList)) = Bq
      have hdec : if Bq = false then (s.extract Q R).data.toList = T.data.toList else (s.extract Q R).data.toList ≠ T.data.toList := by
        by_cases heq : (s.extract Q R).data.toList = T.data.toList
        · rw [str_eq _ _ heq] at hbq; rw [← hbq]; exact heq
        · rw [str_ne _ _ heq] at hbq; rw [← hbq]; exact heq
      clear hbq
      have hdrop : (s.extract Q R).data.toList = (s.data.toList.drop (6 + len4 s.data.toList)).take 8 := by
        rw [← HN.out, ← HQ.out, extract_list, List.drop_take]
        congr 1
        have := HQ.out; have := HR.out; omega
      have hT2 : T.data.toList = hex 8 (smm ((s.data.toList.take (6 + len4 s.data.toList)).drop 1)) := by rw [HT.out, HQ.out, HN.out]
      cases Bq with
      | false =>
        have hx : (s.extract Q R).data.toList = T.data.toList := hdec
        rw [hdrop, hT2] at hx
        have HE := nxE_ok _ G1.out G2.out G3.out hx
        have HG := Lib.hid (nextPost_good s w L Q R HQ.out HR.out HE HN.out h1)
        clear hx hdec hdrop hT2 HE
        go_wp2
        obtain ⟨p1, p2⟩ := hr3.put (.int .u8 (s[1].toNat : Int)) (.string (s.extract 6 Q))
        exact bodyPost_ret (results_row3 (p := 2) (a := 3) (b := 4) rfl _ _ _ _ _ _ _ rfl p1 Tryz.underlying51 rfl info_frame04) rfl (HG.out _ p2)
      | true =>
        have hx : (s.extract Q R).data.toList ≠ T.data.toList := hdec
        rw [hdrop, hT2] at hx
        have HP := Lib.hid (nextPost_bad s 45 w (h := nxE_sum _ G1.out G2.out G3.out hx) (hc := by omega))
        clear hx hdec hdrop hT2
        go_wp2
        obtain ⟨p1, p2⟩ := hr3.put (.int .u8 0) (.string ⟨#[]⟩)
        exact bodyPost_ret (results_row3 (p := 2) (a := 3) (b := 4) rfl _ _ _ _ _ _ _ rfl p1 Tryz.underlying51 rfl info_frame04) rfl (HP.out _ p2)
end Go.Proofs.YtefknfbmphdafaaGreat
namespace Go.Proofs.YtefknfbmphdafaaGreat
open Go.RowKit CrcM FrM

abbrev Fr := UInt8 × ByteArray
def frC (l : List Fr) : List Value := l.flatMap fun f => [.int .u8 (f.1.toNat : Int), .string f.2]
theorem frC_len (l : List Fr) : (frC l).length = l.length * 2 := by
  induction l with
  | nil => rfl
  | cons a r ih => unfold frC at *; rw [List.flatMap_cons, List.length_append, ih]; simp; omega
theorem frC_snoc (l : List Fr) (f : Fr) : frC (l ++ [f]) = frC l ++ [.int .u8 (f.1.toNat : Int), .string f.2] := by simp [frC]
def frAt (s : ByteArray) (a : Nat) : Fr := (nxK (s.extract a s.size).data.toList, nxBb (s.extract a s.size))
def errAt (s : ByteArray) (a : Nat) : Nat := nxE (s.extract a s.size).data.toList
def lenAt (s : ByteArray) (a : Nat) : Nat := nxN (s.extract a s.size).data.toList
/-- Frame behind frame. -/
def st (s : ByteArray) : Nat → Nat × List Fr
  | 0 => (0, [])
  | k + 1 => ((st s k).1 + lenAt s (st s k).1, (st s k).2 ++ [frAt s (st s k).1])
structure StepTo (s : ByteArray) (k A : Nat) (l : List Fr) : Prop where
  at_ : A = (st s k).1
  list : l = (st s k).2
  all : ∀ j, j < k → errAt s (st s j).1 = 0
  le : A ≤ s.size
  count : l.length * 14 ≤ A
theorem nx_fits (t : List UInt8) (h : nxE t = 0) : 14 ≤ nxN t ∧ nxN t ≤ t.length := by
  unfold nxN
  rw [if_pos h]
  refine ⟨by omega, ?_⟩
  unfold nxE at h
  split at h
  · omega
  · split at h
    · omega
    · split at h
      · omega
      · rename_i h1 _ h3
        have a := (sc_zero head 0 6 t (by omega)).1
        have b := (sc_zero (body (len4 t)) 6 (len4 t + 8) (t.drop 6) (by omega)).1
        rw [List.length_drop] at b
        omega
theorem lenAt_fits (s : ByteArray) (a : Nat) (ha : a ≤ s.size) (h : errAt s a = 0) : 14 ≤ lenAt s a ∧ a + lenAt s a ≤ s.size := by
  have := nx_fits _ h
  rw [← size_list, extract_size, Nat.min_self] at this
  unfold lenAt
  omega
theorem StepTo.zero (s : ByteArray) : StepTo s 0 0 [] := ⟨rfl, rfl, fun _ h => absurd h (Nat.not_lt_zero _), Nat.zero_le _, Nat.zero_le _⟩
theorem StepTo.next {s : ByteArray} {k A : Nat} {l : List Fr} (h : StepTo s k A l) (he : errAt s A = 0) : StepTo s (k + 1) (A + lenAt s A) (l ++ [frAt s A]) := by
  obtain ⟨rfl, rfl, h3, h4, h5⟩ := h
  have := lenAt_fits s _ h4 he
  refine ⟨rfl, rfl, fun j hj => ?_, by omega, by rw [List.length_append, List.length_singleton]; omega⟩
  rcases (show j < k ∨ j = k by omega) with h | rfl
  · exact h3 j h
  · exact he
/-- Where it ends there is but one way. -/
theorem StepTo.unique {s : ByteArray} {k A k' A' : Nat} {l l' : List Fr} (h : StepTo s k A l) (hs : errAt s A ≠ 0) (h' : StepTo s k' A' l') (hs' : errAt s A' ≠ 0) : A = A' ∧ l = l' := by
  obtain ⟨rfl, rfl, h3, _, _⟩ := h
  obtain ⟨rfl, rfl, h3', _, _⟩ := h'
  rcases Nat.lt_trichotomy k k' with h | rfl | h
  · exact absurd (h3' k h) hs
  · exact ⟨rfl, rfl⟩
  · exact absurd (h3 k' h) hs'

theorem ownsRow_below' {B : Nat} {e : TypeId} {k : Nat} {v : Value} {n : Nat} {xs : List Value} {w w' : World} (h : w.ownsRow B e k v n xs) (hb : Below w.heap.size w w') : w'.ownsRow B e k v n xs := by
  refine ⟨h.1, ?_⟩
  rcases h.2 with h2 | ⟨g, cap, cur, h1, h2, h3, h4⟩
  · exact Or.inl h2
  · refine Or.inr ⟨g, cap, cur, h1, h2, ?_, h4⟩
    have hlt : g < w.heap.size := by
      by_cases hlt : g < w.heap.size
      · exact hlt
      · rw [Array.getElem?_eq_none (by omega)] at h3; cases h3
    rw [hb.block _ hlt]
    exact h3
def ScanPost (T : TypeId) (s : ByteArray) (w : World) (e : Ending) (w' : World) : Prop :=
  ∃ v k A l, StepTo s k A l ∧ errAt s A ≠ 0 ∧ e = .returned (.tuple #[v, .int .i64 A]) ∧ w'.ownsRow w.heap.size T 2 v l.length (frC l) ∧ Below w.heap.size w w'
theorem info_frameRow : (Tryz.prog.info? 50).map (fun i => (i.zero, i.size, i.bytes)) = some (some (.agg #[.int .u8 0, .string ⟨#[]⟩]), 2, 24) := by kernel_rfl
theorem info_frame04Row : (Tryz.prog.info? 51).map (fun i => (i.zero, i.size, i.bytes)) = some (some (.agg #[.int .u8 0, .string ⟨#[]⟩]), 2, 24) := by kernel_rfl

theorem new_two (W : World) (T : TypeId) (a b : Value) (g : Nat) (hg : g = W.heap.size) : ∀ (j : Nat) (u : Value), [a, b][j]? = some u → (W.alloc (.cells #[a, b] T)).cell? ((⟨g, 0, none⟩ : Addr).add j) = some u := by
  subst hg
  intro j u h
  match j with
  | 0 => simp at h; subst h; simp [Addr.add]
  | 1 => simp at h; subst h; simp [Addr.add]
  | j + 2 => simp at h
theorem one_two (K : UInt8) (D : ByteArray) : ∀ u ∈ [Value.int .u8 (K.toNat : Int), .string D], u.oneCell' = true := by
  intro u hu
  simp at hu
  rcases hu with rfl | rfl <;> rfl
theorem below_append {w wr w1 w' : World} {T : TypeId} {size n : Nat} {v : Value} {xs : List Value} {o o2 : Obj} (h : Below w.heap.size w wr) (h1 : Below wr.heap.size wr w1) (ho : wr.ownsRow w.heap.size T size v n xs)
    (hg : ((w1.alloc o).alloc o2).grownBy w' v.ownBlock) : Below w.heap.size w w' := by
  have hs := h.size
  have hs1 := h1.size
  refine Below.grown (((keepW h h1).alloc (by omega) _).alloc (by simp; omega) _) hg (by simp; omega) (fun k hk => (ho.lt k hk).1)

def fnd (s : ByteArray) : Nat → List Fr
  | 0 => []
  | k + 1 => if errAt s k = 0 then fnd s k ++ [frAt s k] else fnd s k
theorem fnd_le (s : ByteArray) (k : Nat) : (fnd s k).length ≤ k := by
  induction k with
  | zero => exact Nat.le_refl _
  | succ k ih =>
    unfold fnd
    split
    · rw [List.length_append, List.length_singleton]; omega
    · omega
def FindPost (T : TypeId) (s : ByteArray) (w : World) (e : Ending) (w' : World) : Prop :=
  ∃ v, e = .returned v ∧ w'.ownsRow w.heap.size T 2 v (fnd s s.size).length (frC (fnd s s.size)) ∧ Below w.heap.size w w'

set_option maxRecDepth 100000 in
set_option maxHeartbeats 1000000 in
theorem find_any (s : ByteArray) (w : World) (hs : s.size ≤ 1000000) :
    Calls Tryz.prog 42 #[.string s] w (FindPost 50 s w) := by
  obtain ⟨i0, hi, hz0, hz1, hz2⟩ := info_parts info_frameRow
  go_enter Tryz.func42, Tryz.ntmps42
  go_wp2
  go_loopw [3, 10] (fun v i wr => ∃ k, k ≤ s.size ∧ i = .int .i64 (k : Nat) ∧ wr.ownsRow w.heap.size 50 2 v (fnd s k).length (frC (fnd s k)) ∧ Below w.heap.size w wr) (fun _ i _ => s.size - (intOf i).toNat)
  case atStart => exact ⟨0, Nat.zero_le _, rfl, World.ownsRow_nil _ _ _ _, Below.refl _ _⟩
  case round =>
    obtain ⟨k, hk, rfl, hown, hbw⟩ := hrel
    have hl := fnd_le s k
    by_cases hlt : k < s.size
    · have NA := next_any (s.extract k s.size)
      unfold NextPost frV at NA
      have hE : nxE (s.extract k s.size).data.toList = errAt s k := rfl
      have hK : nxK (s.extract k s.size).data.toList = (frAt s k).1 := rfl
      have hB : nxBb (s.extract k s.size) = (frAt s k).2 := rfl
      rw [hE, hK, hB] at NA
      clear hE hK hB
      have hxs : (s.extract k s.size).size ≤ 9223372036854775807 := by rw [extract_size]; omega
      by_cases he : errAt s k = 0
      · have hfn : fnd s (k + 1) = fnd s k ++ [frAt s k] := by show (if errAt s k = 0 then _ else _) = _; rw [if_pos he]
        rw [he] at NA
        clear he
        replace NA := Lib.hid NA
        generalize frAt s k = F at *
        generalize nxN (s.extract k s.size).data.toList = N at *
        obtain ⟨K, D⟩ := F
        have HF := Lib.hid hfn
        clear hfn
        go_wp2_with (first | (go_at_call 81; refine (NA.out _ hxs).mono ?_; rintro e w1 ⟨rfl, hb1⟩; have hown1 := ownsRow_below' hown hb1; have hsz1 := hb1.size) | (at_builtin; refine wpList_append_own _ rfl _ _ 47 rfl w.heap.size 50 i0 (.agg #[.int .u8 0, .string ⟨#[]⟩]) 2 24 Tryz.underlying47 hi hz0 hz1 hz2 rfl (by decide) _ _ _ rfl ((hown1.alloc _).alloc _) ⟨w1.heap.size + 1, 0, none⟩ 1 1 [.int .u8 K.toNat, .string D] rfl rfl (new_two (w1.alloc _) _ _ _ _ (by simp)) (one_two K D) (by unfold maxLen; omega) (by omega) (by have := hbw.size; simp; omega) ?_; intro v' w' hown' hgrow _; have hbw' := below_append hbw hb1 hown hgrow; clear hgrow))
        go_roundw
        case rel => exact ⟨k + 1, by omega, by go_num, by rw [HF.out, List.length_append, frC_snoc]; exact hown', hbw'⟩
        case measure => simp [intOf]; omega
      · have hfn : fnd s (k + 1) = fnd s k := by show (if errAt s k = 0 then _ else _) = _; rw [if_neg he]
        have hne : ((errAt s k : Int) == 0) = false := by rw [beq_eq_false_iff_ne]; omega
        clear he
        generalize errAt s k = E at NA hne
        generalize frAt s k = F at NA
        generalize nxN (s.extract k s.size).data.toList = N at NA
        replace NA := Lib.hid NA
        have HF := Lib.hid hfn
        clear hfn
        go_wp2_with (go_at_call 81; refine (NA.out _ hxs).mono ?_; rintro e w1 ⟨rfl, hb1⟩; have hown1 := ownsRow_below' hown hb1)
        go_roundw
        case rel => exact ⟨k + 1, by omega, by go_num, by rw [HF.out]; exact hown1.alloc _, (keepW hbw hb1).alloc (by have := hbw.size; have := hb1.size; omega) _⟩
        case measure => simp [intOf]; omega
    · obtain rfl : k = s.size := by omega
      go_wp2
      go_ret
      exact ⟨_, rfl, hown, hbw⟩

set_option maxRecDepth 100000 in
set_option maxHeartbeats 1000000 in
theorem find04_any (s : ByteArray) (w : World) (hs : s.size ≤ 1000000) :
    Calls Tryz.prog 43 #[.string s] w (FindPost 51 s w) := by
  obtain ⟨i0, hi, hz0, hz1, hz2⟩ := info_parts info_frame04Row
  go_enter Tryz.func43, Tryz.ntmps43
  go_wp2
  go_loopw [3, 4] (fun v i wr => ∃ k, k ≤ s.size ∧ i = .int .i64 (k : Nat) ∧ wr.ownsRow w.heap.size 51 2 v (fnd s k).length (frC (fnd s k)) ∧ Below w.heap.size w wr) (fun _ i _ => s.size - (intOf i).toNat)
  case atStart => exact ⟨0, Nat.zero_le _, rfl, World.ownsRow_nil _ _ _ _, Below.refl _ _⟩
  case round =>
    obtain ⟨k, hk, rfl, hown, hbw⟩ := hrel
    have hl := fnd_le s k
    by_cases hlt : k < s.size
    · have NA := next04_any (s.extract k s.size)
      unfold NextPost frV at NA
      have hE : nxE (s.extract k s.size).data.toList = errAt s k := rfl
      have hK : nxK (s.extract k s.size).data.toList = (frAt s k).1 := rfl
      have hB : nxBb (s.extract k s.size) = (frAt s k).2 := rfl
      rw [hE, hK, hB] at NA
      clear hE hK hB
      have hxs : (s.extract k s.size).size ≤ 9223372036854775807 := by rw [extract_size]; omega
      by_cases he : errAt s k = 0
      · have hfn : fnd s (k + 1) = fnd s k ++ [frAt s k] := by show (if errAt s k = 0 then _ else _) = _; rw [if_pos he]
        rw [he] at NA
        clear he
        replace NA := Lib.hid NA
        generalize frAt s k = F at *
        generalize nxN (s.extract k s.size).data.toList = N at *
        obtain ⟨K, D⟩ := F
        have HF := Lib.hid hfn
        clear hfn
        go_wp2_with (first | (go_at_call 82; refine (NA.out _ hxs).mono ?_; rintro e w1 ⟨rfl, hb1⟩; have hown1 := ownsRow_below' hown hb1; have hsz1 := hb1.size) | (at_builtin; refine wpList_append_own _ rfl _ _ 46 rfl w.heap.size 51 i0 (.agg #[.int .u8 0, .string ⟨#[]⟩]) 2 24 Tryz.underlying46 hi hz0 hz1 hz2 rfl (by decide) _ _ _ rfl ((hown1.alloc _).alloc _) ⟨w1.heap.size + 1, 0, none⟩ 1 1 [.int .u8 K.toNat, .string D] rfl rfl (new_two (w1.alloc _) _ _ _ _ (by simp)) (one_two K D) (by unfold maxLen; omega) (by omega) (by have := hbw.size; simp; omega) ?_; intro v' w' hown' hgrow _; have hbw' := below_append hbw hb1 hown hgrow; clear hgrow))
        go_roundw
        case rel => exact ⟨k + 1, by omega, by go_num, by rw [HF.out, List.length_append, frC_snoc]; exact hown', hbw'⟩
        case measure => simp [intOf]; omega
      · have hfn : fnd s (k + 1) = fnd s k := by show (if errAt s k = 0 then _ else _) = _; rw [if_neg he]
        have hne : ((errAt s k : Int) == 0) = false := by rw [beq_eq_false_iff_ne]; omega
        clear he
        generalize errAt s k = E at NA hne
        generalize frAt s k = F at NA
        generalize nxN (s.extract k s.size).data.toList = N at NA
        replace NA := Lib.hid NA
        have HF := Lib.hid hfn
        clear hfn
        go_wp2_with (go_at_call 82; refine (NA.out _ hxs).mono ?_; rintro e w1 ⟨rfl, hb1⟩; have hown1 := ownsRow_below' hown hb1)
        go_roundw
        case rel => exact ⟨k + 1, by omega, by go_num, by rw [HF.out]; exact hown1.alloc _, (keepW hbw hb1).alloc (by have := hbw.size; have := hb1.size; omega) _⟩
        case measure => simp [intOf]; omega
    · obtain rfl : k = s.size := by omega
      go_wp2
      go_ret
      exact ⟨_, rfl, hown, hbw⟩

end Go.Proofs.YtefknfbmphdafaaGreat
