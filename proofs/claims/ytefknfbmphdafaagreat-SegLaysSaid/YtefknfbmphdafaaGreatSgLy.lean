/- The law of the layout: the walk. -/
import Derived.Test.YtefknfbmphdafaaGreatSgV
import Derived.Test.YtefknfbmphdafaaGreatSgQ
import Derived.Test.YtefknfbmphdafaaGreatSgAl
namespace Go.Proofs.YtefknfbmphdafaaGreat
namespace SgM
open Go Go.RowKit CrcM FrM
open Ds (Blk Kp cell_lt)

theorem SgRow.over {w w' : World} {v : Value} {L : List Sg} (h : SgRow w v L) (hs : w.heap.size ≤ w'.heap.size) (hk : ∀ k, k < w.heap.size → w'.heap[k]? = w.heap[k]?) : SgRow w' v L := by
  obtain ⟨A, cap, h1, h2⟩ := h
  refine ⟨A, cap, h1, fun hne => ?_⟩
  obtain ⟨g, off, e, hg, hc⟩ := h2 hne
  exact ⟨g, off, e, Nat.lt_of_lt_of_le hg hs, fun k hk' => ⟨(World.cell?_of_block (w := w) (hk g hg)).trans (hc k hk').1, (World.cell?_of_block (w := w) (hk g hg)).trans (hc k hk').2⟩⟩
theorem trRow_nil (w : World) (A : Option Addr) (c : Nat) : TrRow w (.slice A 0 c) [] := ⟨A, c, rfl, fun h => absurd rfl h⟩
theorem strs_own {w : World} {base : Nat} {T : TypeId} {v : Value} {L : List ByteArray} (h : w.ownsRow base T 1 v L.length (L.map Value.string)) : StrsAt w v L := by
  rcases h.2 with ⟨rfl, h0⟩ | ⟨g, cap, cur, rfl, _, hg, _⟩
  · exact ⟨none, 0, by rw [h0], fun hne => absurd (List.length_eq_zero_iff.1 h0) hne⟩
  · refine ⟨_, cap, rfl, fun _ => ⟨g, 0, rfl, (Array.getElem?_eq_some_iff.1 hg).1, fun k hk => ?_⟩⟩
    have c1 := h.cells (g := g) rfl k (.string L[k]) (by rw [List.getElem?_map, List.getElem?_eq_getElem hk]; rfl)
    have ea : ∀ j, (⟨g, 0, none⟩ : Addr).add j = ⟨g, 0 + j, none⟩ := fun j => by unfold Addr.add; split <;> simp_all
    rw [ea] at c1
    exact c1
theorem lefts_snoc (F : List ByteArray) (T : List (List UInt8)) (k : Nat) (h : k < F.length) : lefts (F.take (k + 1)) T = lefts (F.take k) T ++ (if inT T F[k] = true then [] else [F[k]]) := by
  rw [List.take_succ_eq_append_getElem h]
  unfold lefts
  rw [List.filter_append]
  congr 1
  by_cases h1 : inT T F[k] = true
  · rw [if_pos h1]; simp [h1]
  · rw [if_neg h1]; simp [h1]
theorem lefts_len (F : List ByteArray) (T : List (List UInt8)) : (lefts F T).length ≤ F.length := List.length_filter_le _ _
theorem inT_take (T : List (List UInt8)) (s : ByteArray) (k : Nat) (h : k < T.length) : inT (T.take (k + 1)) s = (inT (T.take k) s || (T[k] == s.data.toList)) := by
  rw [List.take_succ_eq_append_getElem h]
  unfold inT
  rw [List.any_append]
  simp
def LaysPost (o : Option Sg) (S : List Sg) (T : List (List UInt8)) (t : TypeId) (w : World) (e : Ending) (w' : World) : Prop :=
  ∃ vs vt, e = .returned (.agg (layC o vs vt)) ∧ w'.ownsRow w.heap.size t 2 vs S.length (sgC S) ∧ w'.ownsRow w.heap.size 9 1 vt T.length (strC T) ∧ Below w.heap.size w w'
theorem lays_facts {F : List ByteArray} (hl : F.length ≤ 60) : ∃ (o : Option Sg) (S : List Sg) (T : List (List UInt8)),
    (∀ x ∈ S, okS x = true) ∧ S.length ≤ 60 ∧ T.length ≤ 60 ∧
    (∀ w v, StrsAt w v F → Calls Tryz.prog 7 #[v] w (LaysPost o S T 25 w)) ∧
    (∀ w v, StrsAt w v F → Calls Tryz.prog 8 #[v] w (LaysPost o S T 30 w)) ∧
    (∀ w v, StrsAt w v (lefts F T) → Calls Tryz.prog 7 #[v] w (LaysPost o S [] 25 w)) := by
  have hU := uq_up (pkS F)
  have hO : ∀ x ∈ uq (pkS F), okS x = true := fun x hx => by rw [mem_uq] at hx; exact pkS_ok hx
  have hsort := trN_sort hU hO (snp (uq (pkS F)))
  have hlen : (trN (uq (pkS F)) (snp (uq (pkS F)))).length = (rTr (trN (uq (pkS F)) (snp (uq (pkS F))))).length := by rw [← hsort, List.length_mergeSort]
  have hn : (uq (pkS F)).length ≤ 60 := Nat.le_trans (uq_len _) (Nat.le_trans (pkS_len F) hl)
  refine ⟨snp (uq (pkS F)), segsL (uq (pkS F)) (snp (uq (pkS F))), rTr (trN (uq (pkS F)) (snp (uq (pkS F)))), ?_, ?_, ?_, ?_, ?_, ?_⟩
  · exact fun x hx => hO x (mem_segs.1 hx).1
  · exact Nat.le_trans (segs_len _ _) hn
  · exact Nat.le_trans (rTr_len _) (trn_le _ _ hn)
  · intro w v h
    have := lay_any h (by omega)
    unfold LayPost at this
    rw [hsort, hlen] at this
    exact this
  · intro w v h
    have := rlay_any h (by omega)
    unfold RLayPost at this
    rw [snF_uq] at this
    exact this
  · intro w v h
    have hk := kept_lefts F
    rw [hsort] at hk
    have := lay_any h (Nat.le_trans (lefts_len _ _) (by omega))
    unfold LayPost at this
    have ht : trN (kept (uq (pkS F))) (snp (kept (uq (pkS F)))) = [] := by unfold trN; rw [kept_tras hU]; rfl
    rw [hk, ht, kept_segs hU, kept_snp hU, List.mergeSort_nil] at this
    exact this
set_option maxRecDepth 100000 in
set_option maxHeartbeats 8000000 in
theorem walk_SegLays (w : World) (v : Value) (hv : ReadStrs w v) :
    Calls Tryz.prog 3 #[v] w fun e w' => e = .returned (.bool true) ∧ Below w.heap.size w w' := by
  obtain ⟨s0, hs, si0, si1, si2⟩ := info_parts info_strRow
  obtain ⟨F, hF, _, hmx⟩ := hv
  have AL := Lib.hid alive_any
  have HF := Lib.hid hF
  obtain ⟨A0, cap0, rfl, hFc⟩ := hF
  have HFC := Lib.hid hFc
  clear hFc
  unfold maxLen at hmx
  by_cases h60 : 60 < F.length
  · have h60' : (60 : Int) < (F.length : Int) := by omega
    go_enter Tryz.func3, Tryz.ntmps3
    go_wp2_with (go_at_call 6; refine (AL.out _).mono ?_; rintro e w1 ⟨rfl, hb1⟩)
    go_ret
    exact ⟨rfl, hb1⟩
  · have h60' : (F.length : Int) ≤ 60 := by omega
    obtain ⟨o, S, T, hok, hSn, hTn, l1, l2, l3⟩ := lays_facts (F := F) (by omega)
    have HFl : F.length ≤ 60 := by omega
    have L1 := Lib.hid l1
    have L2 := Lib.hid l2
    have L3 := Lib.hid l3
    have HOK := Lib.hid hok
    clear l1 l2 l3 hok hmx h60
    unfold LaysPost at L1 L2 L3
    obtain ⟨n, hn⟩ : ∃ n, n = F.length := ⟨_, rfl⟩
    have HN := Lib.hid hn
    rw [← hn] at HF HFl h60' ⊢
    clear hn
    go_enter Tryz.func3, Tryz.ntmps3
    go_wp2_with fail
    refine (L1.out _ _ HF.out).mono ?_
    rintro e w1 ⟨vs, vt, rfl, hs1, ht1, hb1⟩
    have hs1' := SgRow.own hs1
    have ht1' := TrRow.own ht1
    obtain ⟨A, cap, rfl, -⟩ := SgRow.own hs1
    obtain ⟨B, bc, rfl, -⟩ := TrRow.own ht1
    obtain ⟨m, hm⟩ : ∃ m, m = S.length := ⟨_, rfl⟩
    obtain ⟨tl, htl⟩ : ∃ m, m = T.length := ⟨_, rfl⟩
    have HM := Lib.hid hm
    have HTL := Lib.hid htl
    rw [← hm] at hs1' hSn ⊢
    rw [← htl] at ht1' hTn ⊢
    have HS1 := Lib.hid hs1'
    have HT1 := Lib.hid ht1'
    clear hm htl hs1 ht1 hs1' ht1'
    rw [layC_eq]
    obtain ⟨sk, hsk⟩ : ∃ sk : Int, sk = ((o.getD zS).k.toNat : Nat) := ⟨_, rfl⟩
    obtain ⟨sn, hsn⟩ : ∃ sn : Int, sn = (o.getD zS).n := ⟨_, rfl⟩
    obtain ⟨bo, hbo⟩ : ∃ bo, bo = o.isSome := ⟨_, rfl⟩
    have HLC := Lib.hid (show ∀ vs vt, layC o vs vt = #[.int .u8 sk, .int .i64 sn, .bool bo, vs, vt] from fun vs vt => by rw [layC_eq, hsk, hsn, hbo])
    rw [← hsk, ← hsn, ← hbo]
    clear hsk hsn hbo
    obtain ⟨W1, hW1⟩ : ∃ W, W = w1.alloc (.cells #[.int .u8 sk, .int .i64 sn, .bool bo, .slice A m cap, .slice B tl bc] 28) := ⟨_, rfl⟩
    have B1 := Lib.hid (show Blk W1 w1.heap.size 28 #[.int .u8 sk, .int .i64 sn, .bool bo, .slice A m cap, .slice B tl bc] by rw [hW1]; exact Blk.new _ _ _)
    have HBW1 := Lib.hid (show Below w.heap.size w W1 by rw [hW1]; exact hb1.alloc hb1.size _)
    have HS1W := Lib.hid (show SgRow W1 (.slice A m cap) S by rw [hW1]; exact HS1.out.below (below_box _ _))
    have HT1W := Lib.hid (show TrRow W1 (.slice B tl bc) T by rw [hW1]; exact HT1.out.below (below_box _ _))
    go_upto_region 4 with fail
    rw [← hW1]
    clear hW1 hb1 HS1 HT1
    go_wp2_with fail
    refine (L2.out _ _ (HF.out.below HBW1.out)).mono ?_
    rw [← HM.out, ← HTL.out]
    rintro e w2 ⟨us, ut, rfl, hs2, ht2, hb2⟩
    rw [HM.out] at hs2
    rw [HTL.out] at ht2
    have hs2' := SgRow.own hs2
    have ht2' := TrRow.own ht2
    obtain ⟨A2, cap2, rfl, -⟩ := SgRow.own hs2
    obtain ⟨B2, bc2, rfl, -⟩ := TrRow.own ht2
    rw [← HM.out] at hs2'
    rw [← HTL.out] at ht2'
    rw [HLC.out, ← HM.out, ← HTL.out]
    obtain ⟨W2, hW2⟩ : ∃ W, W = w2.alloc (.cells #[.int .u8 sk, .int .i64 sn, .bool bo, .slice A2 m cap2, .slice B2 tl bc2] 33) := ⟨_, rfl⟩
    have hb12 : Below W1.heap.size W1 W2 := by rw [hW2]; exact hb2.alloc hb2.size _
    have B1' := blk_step B1.out hb12
    have B2' : Blk W2 w2.heap.size 33 #[.int .u8 sk, .int .i64 sn, .bool bo, .slice A2 m cap2, .slice B2 tl bc2] := by rw [hW2]; exact Blk.new _ _ _
    have HBW2 := Lib.hid (keepW HBW1.out hb12)
    have HS2 := Lib.hid hs2'
    have HW2K := Lib.hid (show ∀ k, k < w2.heap.size → W2.heap[k]? = w2.heap[k]? from fun k hk => by rw [hW2]; exact (below_box w2 _).block k hk)
    have HS1W2 := Lib.hid (HS1W.out.below hb12)
    have HT1W2 := Lib.hid (HT1W.out.below hb12)
    have HS2W2 := Lib.hid (show SgRow W2 (.slice A2 m cap2) S by rw [hW2]; exact hs2'.below (below_box _ _))
    have HT2W2 := Lib.hid (show TrRow W2 (.slice B2 tl bc2) T by rw [hW2]; exact ht2'.below (below_box _ _))
    have HB1 := Lib.hid B1'
    have HB2 := Lib.hid B2'
    have HW21 : w2.heap.size < W2.heap.size := B2'.lt
    have HW11 : w1.heap.size < W2.heap.size := B1'.lt
    have HL2 : w.heap.size ≤ w2.heap.size := Nat.le_trans HBW1.out.size hb2.size
    go_upto_region 5 with fail
    rw [← hW2]
    clear hW2 hb2 hb12 hs2 ht2 hs2' ht2' B1' B2' HS1W HT1W B1 HBW1
    have OLD := Lib.hid (show ∀ w', Below W2.heap.size W2 w' → Calls Tryz.prog 10 #[.agg #[.int .u8 sk, .int .i64 sn, .bool bo, .slice A m cap, .slice B tl bc]] w' (fun e w'' => ∃ vq, e = .returned (.agg #[.int .u8 sk, .int .i64 sn, .bool bo, vq, .slice B tl bc]) ∧ SgRow w'' vq S ∧ Below w'.heap.size w' w'') from fun w' hb => by
      have := old_any (o := o) (B := B) (tl := tl) (tc := bc) (HS1W2.out.below hb) (by rw [← HM.out]; omega)
      rw [HLC.out] at this
      refine this.mono ?_
      rintro e w'' ⟨vq, rfl, h1, h2⟩
      exact ⟨vq, by rw [HLC.out], SgRow.own h1, h2⟩)
    have SAM := Lib.hid (show ∀ w' vq, Below W2.heap.size W2 w' → SgRow w' vq S → Calls Tryz.prog 9 #[.agg #[.int .u8 sk, .int .i64 sn, .bool bo, vq, .slice B tl bc], .agg #[.int .u8 sk, .int .i64 sn, .bool bo, .slice A2 m cap2, .slice B2 tl bc2]] w' (fun e w'' => e = .returned (.bool true) ∧ Below w'.heap.size w' w'') from fun w' vq hb hq => by
      have := same16_any (o := o) hq (HS2W2.out.below hb) (HT1W2.out.below hb) (HT2W2.out.below hb) (by rw [← HM.out]; omega) (by rw [← HTL.out]; omega)
      rw [HLC.out, HLC.out] at this
      exact this)
    obtain ⟨nx, hnx⟩ : ∃ nx, nx = nxt o.isSome (o.getD zS).n S := ⟨_, rfl⟩
    have NX := Lib.hid (show ∀ w', Below W2.heap.size W2 w' → Calls Tryz.prog 11 #[.agg #[.int .u8 sk, .int .i64 sn, .bool bo, .slice A m cap, .slice B tl bc]] w' (fun e w'' => e = .returned (.int .i64 nx) ∧ Below w'.heap.size w' w'') from fun w' hb => by
      have := next_any (o := o) (B := B) (nt := tl) (ct := bc) (HS1W2.out.below hb) HOK.out (by rw [← HM.out]; omega)
      rw [HLC.out, ← hnx] at this
      exact this)
    have RN := Lib.hid (show ∀ w', Below W2.heap.size W2 w' → Calls Tryz.prog 12 #[.agg #[.int .u8 sk, .int .i64 sn, .bool bo, .slice A2 m cap2, .slice B2 tl bc2]] w' (fun e w'' => e = .returned (.int .i64 nx) ∧ Below w'.heap.size w' w'') from fun w' hb => by
      have := rnext_any (o := o) (B := B2) (nt := tl) (ct := bc2) (HS2W2.out.below hb) HOK.out (by rw [← HM.out]; omega)
      rw [HLC.out, ← hnx] at this
      exact this)
    clear hnx
    have x0 : W2.cell? ⟨w1.heap.size, 0, none⟩ = some (.int .u8 sk) := HB1.out.cell 0
    have x1 : W2.cell? ⟨w1.heap.size, 1, none⟩ = some (.int .i64 sn) := HB1.out.cell 1
    have x2 : W2.cell? ⟨w1.heap.size, 2, none⟩ = some (.bool bo) := HB1.out.cell 2
    have x3 : W2.cell? ⟨w1.heap.size, 3, none⟩ = some (.slice A m cap) := HB1.out.cell 3
    have x4 : W2.cell? ⟨w1.heap.size, 4, none⟩ = some (.slice B tl bc) := HB1.out.cell 4
    have y0 : W2.cell? ⟨w2.heap.size, 0, none⟩ = some (.int .u8 sk) := HB2.out.cell 0
    have y1 : W2.cell? ⟨w2.heap.size, 1, none⟩ = some (.int .i64 sn) := HB2.out.cell 1
    have y2 : W2.cell? ⟨w2.heap.size, 2, none⟩ = some (.bool bo) := HB2.out.cell 2
    have y3 : W2.cell? ⟨w2.heap.size, 3, none⟩ = some (.slice A2 m cap2) := HB2.out.cell 3
    have y4 : W2.cell? ⟨w2.heap.size, 4, none⟩ = some (.slice B2 tl bc2) := HB2.out.cell 4
    go_wp2_with fail
    refine wp_region_noPanic ?_
    refine wp_region_held_drew (S := fun w' => Below W2.heap.size W2 w' ∧ w'.cell? ⟨w1.heap.size, 0, none⟩ = some (.int .u8 sk) ∧ w'.cell? ⟨w1.heap.size, 1, none⟩ = some (.int .i64 sn) ∧ w'.cell? ⟨w1.heap.size, 2, none⟩ = some (.bool bo) ∧ w'.cell? ⟨w1.heap.size, 3, none⟩ = some (.slice A m cap) ∧ w'.cell? ⟨w1.heap.size, 4, none⟩ = some (.slice B tl bc) ∧ w'.cell? ⟨w2.heap.size, 0, none⟩ = some (.int .u8 sk) ∧ w'.cell? ⟨w2.heap.size, 1, none⟩ = some (.int .i64 sn) ∧ w'.cell? ⟨w2.heap.size, 2, none⟩ = some (.bool bo) ∧ w'.cell? ⟨w2.heap.size, 3, none⟩ = some (.slice A2 m cap2) ∧ w'.cell? ⟨w2.heap.size, 4, none⟩ = some (.slice B2 tl bc2)) (by kernel_rfl) ⟨below_draw, x0, x1, x2, x3, x4, y0, y1, y2, y3, y4⟩ (fun hS => ?_)
    refine wpAnyH_take (i := 0) (v := ?_) rfl (by kernel_rfl) (by kernel_rfl) (by kernel_rfl) (fun _ _ _ h => h) (Or.inl ⟨by rfl, ?_⟩) hS ?_
    rotate_left
    · intro wx hSx
      try dsimp only at hSx
      go_simp
      try with_reducible rfl
    simp only [Act.put, List.getElem_toArray, List.getElem_cons_zero, List.setIfInBounds_toArray, List.set_cons_zero, List.set_cons_succ]
    refine wpAnyH_take (i := 2) (v := ?_) rfl (by kernel_rfl) (by kernel_rfl) (by kernel_rfl) (fun _ _ _ h => h) (Or.inl ⟨by rfl, ?_⟩) hS ?_
    rotate_left
    · intro wx hSx
      try dsimp only at hSx
      go_simp
      try with_reducible rfl
    simp only [Act.put, List.getElem_toArray, List.getElem_cons_zero, List.getElem_cons_succ, List.setIfInBounds_toArray, List.set_cons_zero, List.set_cons_succ]
    refine wpAnyH_ready (rs := [1]) (by kernel_rfl) (by simp) ?_
    refine AllReadyH.cons rfl (fun K hK => ?_) AllReadyH.nil
    simp only [List.getElem_toArray, List.getElem_cons_zero, List.getElem_cons_succ]
    go_simp
    refine (OLD.out _ hS.1).mono ?_
    rintro e wO ⟨vq, rfl, hq, hbO⟩
    refine hK.out _ _ ⟨(hS.1).trans ((hbO).mono (hS.1).size), ((hbO).cell (cell_lt hS.2.1)).trans hS.2.1, ((hbO).cell (cell_lt hS.2.2.1)).trans hS.2.2.1, ((hbO).cell (cell_lt hS.2.2.2.1)).trans hS.2.2.2.1, ((hbO).cell (cell_lt hS.2.2.2.2.1)).trans hS.2.2.2.2.1, ((hbO).cell (cell_lt hS.2.2.2.2.2.1)).trans hS.2.2.2.2.2.1, ((hbO).cell (cell_lt hS.2.2.2.2.2.2.1)).trans hS.2.2.2.2.2.2.1, ((hbO).cell (cell_lt hS.2.2.2.2.2.2.2.1)).trans hS.2.2.2.2.2.2.2.1, ((hbO).cell (cell_lt hS.2.2.2.2.2.2.2.2.1)).trans hS.2.2.2.2.2.2.2.2.1, ((hbO).cell (cell_lt hS.2.2.2.2.2.2.2.2.2.1)).trans hS.2.2.2.2.2.2.2.2.2.1, ((hbO).cell (cell_lt hS.2.2.2.2.2.2.2.2.2.2)).trans hS.2.2.2.2.2.2.2.2.2.2⟩ (fun hS1 => ?_)
    clear hK
    refine wpAnyH_ready (rs := [3]) (by kernel_rfl) (by simp) ?_
    refine AllReadyH.cons rfl (fun K hK => ?_) AllReadyH.nil
    simp only [List.getElem_toArray, List.getElem_cons_zero, List.getElem_cons_succ]
    go_simp
    refine (SAM.out _ _ hS1.1 hq).mono ?_
    rintro e wS ⟨rfl, hbS⟩
    refine hK.out _ _ ⟨(hS1.1).trans ((hbS).mono (hS1.1).size), ((hbS).cell (cell_lt hS1.2.1)).trans hS1.2.1, ((hbS).cell (cell_lt hS1.2.2.1)).trans hS1.2.2.1, ((hbS).cell (cell_lt hS1.2.2.2.1)).trans hS1.2.2.2.1, ((hbS).cell (cell_lt hS1.2.2.2.2.1)).trans hS1.2.2.2.2.1, ((hbS).cell (cell_lt hS1.2.2.2.2.2.1)).trans hS1.2.2.2.2.2.1, ((hbS).cell (cell_lt hS1.2.2.2.2.2.2.1)).trans hS1.2.2.2.2.2.2.1, ((hbS).cell (cell_lt hS1.2.2.2.2.2.2.2.1)).trans hS1.2.2.2.2.2.2.2.1, ((hbS).cell (cell_lt hS1.2.2.2.2.2.2.2.2.1)).trans hS1.2.2.2.2.2.2.2.2.1, ((hbS).cell (cell_lt hS1.2.2.2.2.2.2.2.2.2.1)).trans hS1.2.2.2.2.2.2.2.2.2.1, ((hbS).cell (cell_lt hS1.2.2.2.2.2.2.2.2.2.2)).trans hS1.2.2.2.2.2.2.2.2.2.2⟩ (fun hS2 => ?_)
    clear hK
    refine wpAnyH_take (i := 4) (v := ?_) rfl (by kernel_rfl) (by kernel_rfl) (by kernel_rfl) (fun _ _ _ h => h) (Or.inl ⟨by rfl, ?_⟩) hS2 ?_
    rotate_left
    · intro wx hSx
      try dsimp only at hSx
      go_simp
      try with_reducible rfl
    simp only [Act.put, List.getElem_toArray, List.getElem_cons_zero, List.getElem_cons_succ, List.setIfInBounds_toArray, List.set_cons_zero, List.set_cons_succ]
    refine wpAnyH_take (i := 5) (v := ?_) rfl (by kernel_rfl) (by kernel_rfl) (by kernel_rfl) (fun _ _ _ h => h) (Or.inl ⟨by rfl, ?_⟩) hS2 ?_
    rotate_left
    · intro wx hSx
      try dsimp only at hSx
      go_simp
      try with_reducible rfl
    simp only [Act.put, List.getElem_toArray, List.getElem_cons_zero, List.getElem_cons_succ, List.setIfInBounds_toArray, List.set_cons_zero, List.set_cons_succ]
    refine wpAnyH_take (i := 6) (v := ?_) rfl (by kernel_rfl) (by kernel_rfl) (by kernel_rfl) (fun _ _ _ h => h) (Or.inl ⟨by rfl, ?_⟩) hS2 ?_
    rotate_left
    · intro wx hSx
      try dsimp only at hSx
      go_simp
      try with_reducible rfl
    simp only [Act.put, List.getElem_toArray, List.getElem_cons_zero, List.getElem_cons_succ, List.setIfInBounds_toArray, List.set_cons_zero, List.set_cons_succ]
    refine wpAnyH_take (i := 8) (v := ?_) rfl (by kernel_rfl) (by kernel_rfl) (by kernel_rfl) (fun _ _ _ h => h) (Or.inl ⟨by rfl, ?_⟩) hS2 ?_
    rotate_left
    · intro wx hSx
      try dsimp only at hSx
      go_simp
      try with_reducible rfl
    simp only [Act.put, List.getElem_toArray, List.getElem_cons_zero, List.getElem_cons_succ, List.setIfInBounds_toArray, List.set_cons_zero, List.set_cons_succ]
    refine wpAnyH_ready (rs := [7]) (by kernel_rfl) (by simp) ?_
    refine AllReadyH.cons rfl (fun K hK => ?_) AllReadyH.nil
    simp only [List.getElem_toArray, List.getElem_cons_zero, List.getElem_cons_succ]
    go_simp
    refine (NX.out _ hS2.1).mono ?_
    rintro e wN ⟨rfl, hbN⟩
    refine hK.out _ _ ⟨(hS2.1).trans ((hbN).mono (hS2.1).size), ((hbN).cell (cell_lt hS2.2.1)).trans hS2.2.1, ((hbN).cell (cell_lt hS2.2.2.1)).trans hS2.2.2.1, ((hbN).cell (cell_lt hS2.2.2.2.1)).trans hS2.2.2.2.1, ((hbN).cell (cell_lt hS2.2.2.2.2.1)).trans hS2.2.2.2.2.1, ((hbN).cell (cell_lt hS2.2.2.2.2.2.1)).trans hS2.2.2.2.2.2.1, ((hbN).cell (cell_lt hS2.2.2.2.2.2.2.1)).trans hS2.2.2.2.2.2.2.1, ((hbN).cell (cell_lt hS2.2.2.2.2.2.2.2.1)).trans hS2.2.2.2.2.2.2.2.1, ((hbN).cell (cell_lt hS2.2.2.2.2.2.2.2.2.1)).trans hS2.2.2.2.2.2.2.2.2.1, ((hbN).cell (cell_lt hS2.2.2.2.2.2.2.2.2.2.1)).trans hS2.2.2.2.2.2.2.2.2.2.1, ((hbN).cell (cell_lt hS2.2.2.2.2.2.2.2.2.2.2)).trans hS2.2.2.2.2.2.2.2.2.2.2⟩ (fun hS3 => ?_)
    clear hK
    refine wpAnyH_ready (rs := [9]) (by kernel_rfl) (by simp) ?_
    refine AllReadyH.cons rfl (fun K hK => ?_) AllReadyH.nil
    simp only [List.getElem_toArray, List.getElem_cons_zero, List.getElem_cons_succ]
    go_simp
    refine (RN.out _ hS3.1).mono ?_
    rintro e wz ⟨rfl, hbR⟩
    refine hK.out _ _ ⟨(hS3.1).trans ((hbR).mono (hS3.1).size), ((hbR).cell (cell_lt hS3.2.1)).trans hS3.2.1, ((hbR).cell (cell_lt hS3.2.2.1)).trans hS3.2.2.1, ((hbR).cell (cell_lt hS3.2.2.2.1)).trans hS3.2.2.2.1, ((hbR).cell (cell_lt hS3.2.2.2.2.1)).trans hS3.2.2.2.2.1, ((hbR).cell (cell_lt hS3.2.2.2.2.2.1)).trans hS3.2.2.2.2.2.1, ((hbR).cell (cell_lt hS3.2.2.2.2.2.2.1)).trans hS3.2.2.2.2.2.2.1, ((hbR).cell (cell_lt hS3.2.2.2.2.2.2.2.1)).trans hS3.2.2.2.2.2.2.2.1, ((hbR).cell (cell_lt hS3.2.2.2.2.2.2.2.2.1)).trans hS3.2.2.2.2.2.2.2.2.1, ((hbR).cell (cell_lt hS3.2.2.2.2.2.2.2.2.2.1)).trans hS3.2.2.2.2.2.2.2.2.2.1, ((hbR).cell (cell_lt hS3.2.2.2.2.2.2.2.2.2.2)).trans hS3.2.2.2.2.2.2.2.2.2.2⟩ (fun hS4 => ?_)
    clear hK
    refine wpAnyH_take (i := 10) (v := ?_) rfl (by kernel_rfl) (by kernel_rfl) (by kernel_rfl) (fun _ _ _ h => h) (Or.inl ⟨by rfl, ?_⟩) hS4 ?_
    rotate_left
    · intro wx hSx
      try dsimp only at hSx
      go_simp
      try with_reducible rfl
    simp only [Act.put, List.getElem_toArray, List.getElem_cons_zero, List.getElem_cons_succ, List.setIfInBounds_toArray, List.set_cons_zero, List.set_cons_succ]
    refine wpAnyH_take (i := 11) (v := ?_) rfl (by kernel_rfl) (by kernel_rfl) (by kernel_rfl) (fun _ _ _ h => h) (Or.inl ⟨by rfl, ?_⟩) hS4 ?_
    rotate_left
    · intro wx hSx
      try dsimp only at hSx
      go_simp
      try with_reducible rfl
    simp only [Act.put, List.getElem_toArray, List.getElem_cons_zero, List.getElem_cons_succ, List.setIfInBounds_toArray, List.set_cons_zero, List.set_cons_succ]
    refine wpAnyH_done (by kernel_rfl) ?_ _
    refine NoPanic.normal ?_
    have HZ := Lib.hid (hS4.1)
    clear x0 x1 x2 x3 x4 y0 y1 y2 y3 y4
    have HBZ := Lib.hid (keepW HBW2.out HZ.out)
    have B1z := Lib.hid (blk_step HB1.out HZ.out)
    have B2z := Lib.hid (blk_step HB2.out HZ.out)
    have HTz := Lib.hid (HT1W2.out.below HZ.out)
    have hZs := HZ.out.size
    go_wp2_with fail
    go_loopw [5, 34] (fun v i wr => ∃ k : Nat, k ≤ n ∧ i = .int .i64 (k : Nat) ∧ wr.ownsRow wz.heap.size 9 1 v (lefts (F.take k) T).length ((lefts (F.take k) T).map Value.string) ∧ Below wz.heap.size wz wr) (fun _ i _ => n - (intOf i).toNat)
    case atStart => exact ⟨0, Nat.zero_le _, rfl, World.ownsRow_nil _ _ _ _, Below.refl _ _⟩
    case round =>
      obtain ⟨k, hk, rfl, hown, hb⟩ := hrel
      obtain ⟨wo, hwo⟩ : ∃ wo, wo = wr := ⟨_, rfl⟩
      subst hwo
      have hwo := hb.size
      have hln : (lefts (F.take k) T).length ≤ k := Nat.le_trans (lefts_len _ _) (by rw [List.length_take]; omega)
      by_cases hlk : k < n
      · have hlk' : k < F.length := by rw [← HN.out]; exact hlk
        obtain ⟨g, off, rfl, hg, hcl⟩ := HFC.out (by intro h; rw [h] at hlk'; simp at hlk')
        have hbo := keepW HBZ.out hb
        have c0 : wo.cell? ⟨g, off + k, none⟩ = some (.string F[k]) := (hbo.cell (by exact hg)).trans (hcl k hlk')
        have hls := lefts_snoc F T k hlk'
        have hgo : g < wo.heap.size := Nat.lt_of_lt_of_le hg hbo.size
        have d4 := (hb.cell (p := ⟨w1.heap.size, 4, none⟩) (by show w1.heap.size < wz.heap.size; omega)).trans (show wz.cell? ⟨w1.heap.size, 4, none⟩ = some (.slice B tl bc) from B1z.out.cell 4)
        have hto := HTz.out.below hb
        obtain ⟨BB, bb, he, hTc⟩ := hto
        have hBB : B = BB ∧ tl = T.length ∧ bc = bb := by simpa using he
        obtain ⟨rfl, -, rfl⟩ := hBB
        have HTC := Lib.hid hTc
        have HOW := Lib.hid hown
        have HBo := Lib.hid hb
        have HBO := Lib.hid hbo
        clear hcl hbo he hTc hown hb
        generalize F[k] = s at c0 hls
        have HLS := Lib.hid hls
        have i0 : (0 : Int) ≤ (k : Int) := by omega
        have i1 : (k : Int) < (n : Int) := by omega
        clear hls
        go_wp2_with fail
        go_loopw [8, 41] (fun d i wq => ∃ q : Nat, q ≤ tl ∧ i = .int .i64 (q : Nat) ∧ d = .bool (inT (T.take q) s) ∧ Below wo.heap.size wo wq) (fun _ i _ => tl - (intOf i).toNat)
        case atStart => exact ⟨0, Nat.zero_le _, rfl, rfl, Below.refl _ _⟩
        case round =>
          obtain ⟨q, hq, rfl, rfl, hbq⟩ := hrel
          clear c0 d4
          by_cases hlq : q < tl
          · have hlq' : q < T.length := by rw [← HTL.out]; exact hlq
            obtain ⟨gt, ot, rfl, hgt, htc⟩ := HTC.out (by intro h; rw [h] at hlq'; simp at hlq')
            have t0 := (hbq.cell (by exact hgt)).trans (htc q hlq')
            have hin := inT_take T s q hlq'
            have hgtr : gt < wr.heap.size := Nat.lt_of_lt_of_le hgt hbq.size
            clear htc
            generalize T[q] = t at t0 hin
            have HIN := Lib.hid hin
            clear hin
            generalize inT (T.take q) s = b0 at HIN ⊢
            cases b0 with
            | true =>
              go_wp2_with fail
              go_roundw
              case rel => exact ⟨q + 1, by omega, by go_num, by rw [HIN.out]; rfl, hbq⟩
              case measure => simp [intOf]; omega
            | false =>
              by_cases he : t = s.data.toList
              · have hbt : bytesOf t = s := ba_ext (by rw [bytesOf_list, he])
                rw [hbt] at t0
                have HE := Lib.hid (show inT (T.take (q + 1)) s = true by rw [HIN.out, he]; simp)
                clear he hbt
                go_wp2_with fail
                go_roundw
                case rel => exact ⟨q + 1, by omega, by go_num, by rw [HE.out], hbq⟩
                case measure => simp [intOf]; omega
              · have hst := str_ne (bytesOf t) s (by rw [bytesOf_list]; exact he)
                have HE := Lib.hid (show inT (T.take (q + 1)) s = false by rw [HIN.out]; simp [he])
                generalize bytesOf t = tb at t0 hst
                clear he
                go_wp2_with fail
                go_roundw
                case rel => exact ⟨q + 1, by omega, by go_num, by rw [HE.out], hbq⟩
                case measure => simp [intOf]; omega
          · obtain rfl : tl = q := by omega
            rw [show T.take tl = T by rw [HTL.out, List.take_length]]
            have HOWq := Lib.hid (ownsRow_below' HOW.out hbq)
            have HBq := Lib.hid (keepW HBo.out hbq)
            cases hin : inT T s with
            | true =>
              have HE := Lib.hid (show lefts (F.take (k + 1)) T = lefts (F.take k) T by rw [HLS.out, if_pos hin, List.append_nil])
              clear hin
              go_wp2_with fail
              go_roundw
              case rel => exact ⟨k + 1, by omega, by go_num, by rw [HE.out]; exact HOWq.out, HBq.out⟩
              case measure => simp [intOf]; omega
            | false =>
              have HE := Lib.hid (show lefts (F.take (k + 1)) T = lefts (F.take k) T ++ [s] by rw [HLS.out, if_neg (by rw [hin]; decide)])
              clear hin
              go_wp2_with (at_builtin; refine wpList_append_own _ rfl _ _ 22 rfl wz.heap.size 9 s0 (.string ⟨#[]⟩) 1 16 Tryz.underlying22 hs si0 si1 si2 rfl (by decide) _ _ _ rfl (HOWq.out.alloc _) ⟨wr.heap.size, 0, none⟩ 1 1 [.string s] rfl rfl (new_one wr _ _ _ rfl) (one_str _) (by unfold maxLen; omega) (by omega) (by have := HBq.out.size; simp; omega) ?_; intro v' w' hown' hgrow _; have HO2 := Lib.hid hown'; have HB3 := Lib.hid (Ds.below_grown (w := wz) HBq.out HOWq.out hgrow); clear hown' hgrow)
              go_roundw
              case rel => exact ⟨k + 1, by omega, by go_num, by rw [HE.out, List.length_append, List.map_append]; exact HO2.out, HB3.out⟩
              case measure => simp [intOf]; omega
      · obtain rfl : n = k := by omega
        rw [show F.take n = F by rw [HN.out, List.take_length]] at hown
        have HLF := Lib.hid (strs_own hown)
        obtain ⟨AL0, AC0, rfl⟩ := own_shape hown
        have HBo := Lib.hid hb
        clear hown hb
        go_wp2_with fail
        refine (L3.out _ _ HLF.out).mono ?_
        rintro e w5 ⟨ps, pt, rfl, hs5, ht5, hb5⟩
        have hs5' := SgRow.own hs5
        obtain ⟨A5, cap5, rfl, -⟩ := SgRow.own hs5
        obtain ⟨B5, bc5, rfl, -⟩ := TrRow.own ht5
        rw [HLC.out, ← HM.out, show ([] : List (List UInt8)).length = 0 from rfl]
        rw [← HM.out] at hs5' hs5
        obtain ⟨W5, hW5⟩ : ∃ W, W = w5.alloc (.cells #[.int .u8 sk, .int .i64 sn, .bool bo, .slice A5 m cap5, .slice B5 0 bc5] 28) := ⟨_, rfl⟩
        have hb5W : Below wo.heap.size wo W5 := by rw [hW5]; exact hb5.alloc hb5.size _
        have hbz5 : Below wz.heap.size wz W5 := keepW HBo.out hb5W
        have D5 : Blk W5 w5.heap.size 28 #[.int .u8 sk, .int .i64 sn, .bool bo, .slice A5 m cap5, .slice B5 0 bc5] := by rw [hW5]; exact Blk.new _ _ _
        have D2 := blk_step B2z.out hbz5
        have HS5 := hs5'.below (below_box w5 (.cells #[.int .u8 sk, .int .i64 sn, .bool bo, .slice A5 m cap5, .slice B5 0 bc5] 28))
        rw [← hW5] at HS5
        have h5o := hb5.size
        have hlt5 : w2.heap.size < w5.heap.size := by omega
        go_upto_region 21 with fail
        rw [← hW5]
        have HW5 := Lib.hid hW5
        clear hW5
        have f4 := D2.frozen 4
        have e4 : W5.cell? ⟨w2.heap.size, 4, none⟩ = some (.slice B2 tl bc2) := D2.cell 4
        obtain ⟨W6, hW6⟩ : ∃ W, W = W5.setCell ⟨w2.heap.size, 4, none⟩ (.slice none 0 0) := ⟨_, rfl⟩
        have G5 : Blk W6 w5.heap.size 28 #[.int .u8 sk, .int .i64 sn, .bool bo, .slice A5 m cap5, .slice B5 0 bc5] := by rw [hW6]; exact D5.far (by show w5.heap.size ≠ w2.heap.size; omega) _
        have G2 : Blk W6 w2.heap.size 33 #[.int .u8 sk, .int .i64 sn, .bool bo, .slice A2 m cap2, .slice none 0 0] := by rw [hW6]; exact D2.set_ 4 _
        have hk6 : Kp w2.heap.size w2.heap.size W5 W6 := by rw [hW6]; exact Kp.setP _ _ _
        have HBw6 := Lib.hid (show Below w.heap.size w W6 by rw [hW6]; exact (keepW HBZ.out hbz5).setCell HL2 _)
        have hb25 : Below W2.heap.size W2 W5 := keepW HZ.out hbz5
        have HS2x := Lib.hid (show SgRow W6 (.slice A2 m cap2) S from HS2.out.over (Nat.le_trans (Nat.le_of_lt HW21) (Nat.le_trans hb25.size hk6.size)) (fun (k : Nat) (hk : k < w2.heap.size) => (hk6.block k (Nat.lt_of_lt_of_le (Nat.lt_trans hk HW21) hb25.size) (Nat.ne_of_lt hk) (Nat.ne_of_lt hk)).trans ((hb25.block k (Nat.lt_trans hk HW21)).trans (HW2K.out k hk))))
        have HS5x := Lib.hid (show SgRow W6 (.slice A5 m cap5) S by
          rw [hW6]
          have h1 := own_set (show W5.ownsRow wo.heap.size 25 2 (.slice A5 m cap5) m (sgC S) by rw [HW5.out]; exact hs5.alloc _) (show w2.heap.size < wo.heap.size by omega) 4 (.slice none 0 0)
          rw [HM.out] at h1 ⊢
          exact SgRow.own h1)
        go_upto_region 22 with fail
        rw [← hW6]
        clear hW6 D5 D2 e4 f4 hs5 hs5' ht5 hb5 hb5W hbz5 hk6 hb25 HS5
        have OLD2 := Lib.hid (show ∀ w', Below W6.heap.size W6 w' → Calls Tryz.prog 10 #[.agg #[.int .u8 sk, .int .i64 sn, .bool bo, .slice A5 m cap5, .slice B5 0 bc5]] w' (fun e w'' => ∃ vq, e = .returned (.agg #[.int .u8 sk, .int .i64 sn, .bool bo, vq, .slice B5 0 bc5]) ∧ SgRow w'' vq S ∧ Below w'.heap.size w' w'') from fun w' hb => by
          have := old_any (o := o) (B := B5) (tl := 0) (tc := bc5) (HS5x.out.below hb) (by rw [← HM.out]; omega)
          rw [HLC.out] at this
          refine this.mono ?_
          rintro e w'' ⟨vq, rfl, h1, h2⟩
          exact ⟨vq, by rw [HLC.out], SgRow.own h1, h2⟩)
        have SAM2 := Lib.hid (show ∀ w' vq, Below W6.heap.size W6 w' → SgRow w' vq S → Calls Tryz.prog 9 #[.agg #[.int .u8 sk, .int .i64 sn, .bool bo, vq, .slice B5 0 bc5], .agg #[.int .u8 sk, .int .i64 sn, .bool bo, .slice A2 m cap2, .slice none 0 0]] w' (fun e w'' => e = .returned (.bool true) ∧ Below w'.heap.size w' w'') from fun w' vq hb hq => by
          have := same16_any (o := o) (T := []) hq (HS2x.out.below hb) (trRow_nil _ B5 bc5) (trRow_nil _ none 0) (by rw [← HM.out]; omega) (by decide)
          rw [HLC.out, HLC.out] at this
          exact this)
        have x0 : W6.cell? ⟨w5.heap.size, 0, none⟩ = some (.int .u8 sk) := G5.cell 0
        have x1 : W6.cell? ⟨w5.heap.size, 1, none⟩ = some (.int .i64 sn) := G5.cell 1
        have x2 : W6.cell? ⟨w5.heap.size, 2, none⟩ = some (.bool bo) := G5.cell 2
        have x3 : W6.cell? ⟨w5.heap.size, 3, none⟩ = some (.slice A5 m cap5) := G5.cell 3
        have x4 : W6.cell? ⟨w5.heap.size, 4, none⟩ = some (.slice B5 0 bc5) := G5.cell 4
        have y0 : W6.cell? ⟨w2.heap.size, 0, none⟩ = some (.int .u8 sk) := G2.cell 0
        have y1 : W6.cell? ⟨w2.heap.size, 1, none⟩ = some (.int .i64 sn) := G2.cell 1
        have y2 : W6.cell? ⟨w2.heap.size, 2, none⟩ = some (.bool bo) := G2.cell 2
        have y3 : W6.cell? ⟨w2.heap.size, 3, none⟩ = some (.slice A2 m cap2) := G2.cell 3
        have y4 : W6.cell? ⟨w2.heap.size, 4, none⟩ = some (.slice none 0 0) := G2.cell 4
        go_wp2_with fail
        refine wp_region_noPanic ?_
        refine wp_region_held_drew (S := fun w' => Below W6.heap.size W6 w' ∧ w'.cell? ⟨w5.heap.size, 0, none⟩ = some (.int .u8 sk) ∧ w'.cell? ⟨w5.heap.size, 1, none⟩ = some (.int .i64 sn) ∧ w'.cell? ⟨w5.heap.size, 2, none⟩ = some (.bool bo) ∧ w'.cell? ⟨w5.heap.size, 3, none⟩ = some (.slice A5 m cap5) ∧ w'.cell? ⟨w5.heap.size, 4, none⟩ = some (.slice B5 0 bc5) ∧ w'.cell? ⟨w2.heap.size, 0, none⟩ = some (.int .u8 sk) ∧ w'.cell? ⟨w2.heap.size, 1, none⟩ = some (.int .i64 sn) ∧ w'.cell? ⟨w2.heap.size, 2, none⟩ = some (.bool bo) ∧ w'.cell? ⟨w2.heap.size, 3, none⟩ = some (.slice A2 m cap2) ∧ w'.cell? ⟨w2.heap.size, 4, none⟩ = some (.slice none 0 0)) (by kernel_rfl) ⟨below_draw, x0, x1, x2, x3, x4, y0, y1, y2, y3, y4⟩ (fun hS => ?_)
        refine wpAnyH_ready (rs := [0]) (by kernel_rfl) (by simp) ?_
        refine AllReadyH.cons rfl (fun K hK => ?_) AllReadyH.nil
        simp only [List.getElem_toArray, List.getElem_cons_zero]
        go_simp
        refine (AL.out _).mono ?_
        rintro e wA ⟨rfl, hbA⟩
        refine hK.out _ _ ⟨(hS.1).trans ((hbA).mono (hS.1).size), ((hbA).cell (cell_lt hS.2.1)).trans hS.2.1, ((hbA).cell (cell_lt hS.2.2.1)).trans hS.2.2.1, ((hbA).cell (cell_lt hS.2.2.2.1)).trans hS.2.2.2.1, ((hbA).cell (cell_lt hS.2.2.2.2.1)).trans hS.2.2.2.2.1, ((hbA).cell (cell_lt hS.2.2.2.2.2.1)).trans hS.2.2.2.2.2.1, ((hbA).cell (cell_lt hS.2.2.2.2.2.2.1)).trans hS.2.2.2.2.2.2.1, ((hbA).cell (cell_lt hS.2.2.2.2.2.2.2.1)).trans hS.2.2.2.2.2.2.2.1, ((hbA).cell (cell_lt hS.2.2.2.2.2.2.2.2.1)).trans hS.2.2.2.2.2.2.2.2.1, ((hbA).cell (cell_lt hS.2.2.2.2.2.2.2.2.2.1)).trans hS.2.2.2.2.2.2.2.2.2.1, ((hbA).cell (cell_lt hS.2.2.2.2.2.2.2.2.2.2)).trans hS.2.2.2.2.2.2.2.2.2.2⟩ (fun hS1 => ?_)
        clear hK
        refine wpAnyH_take (i := 1) (v := ?_) rfl (by kernel_rfl) (by kernel_rfl) (by kernel_rfl) (fun _ _ _ h => h) (Or.inl ⟨by rfl, ?_⟩) hS1 ?_
        rotate_left
        · intro wx hSx
          try dsimp only at hSx
          go_simp
          try with_reducible rfl
        simp only [Act.put, List.getElem_toArray, List.getElem_cons_zero, List.getElem_cons_succ, List.setIfInBounds_toArray, List.set_cons_zero, List.set_cons_succ]
        refine wpAnyH_take (i := 2) (v := ?_) rfl (by kernel_rfl) (by kernel_rfl) (by kernel_rfl) (fun _ _ _ h => h) (Or.inl ⟨by rfl, ?_⟩) hS1 ?_
        rotate_left
        · intro wx hSx
          try dsimp only at hSx
          go_simp
          try with_reducible rfl
        simp only [Act.put, List.getElem_toArray, List.getElem_cons_zero, List.getElem_cons_succ, List.setIfInBounds_toArray, List.set_cons_zero, List.set_cons_succ]
        refine wpAnyH_take (i := 4) (v := ?_) rfl (by kernel_rfl) (by kernel_rfl) (by kernel_rfl) (fun _ _ _ h => h) (Or.inl ⟨by rfl, ?_⟩) hS1 ?_
        rotate_left
        · intro wx hSx
          try dsimp only at hSx
          go_simp
          try with_reducible rfl
        simp only [Act.put, List.getElem_toArray, List.getElem_cons_zero, List.getElem_cons_succ, List.setIfInBounds_toArray, List.set_cons_zero, List.set_cons_succ]
        refine wpAnyH_ready (rs := [3]) (by kernel_rfl) (by simp) ?_
        refine AllReadyH.cons rfl (fun K hK => ?_) AllReadyH.nil
        simp only [List.getElem_toArray, List.getElem_cons_zero, List.getElem_cons_succ]
        go_simp
        refine (OLD2.out _ hS1.1).mono ?_
        rintro e wO ⟨vq, rfl, hq, hbO⟩
        refine hK.out _ _ ⟨(hS1.1).trans ((hbO).mono (hS1.1).size), ((hbO).cell (cell_lt hS1.2.1)).trans hS1.2.1, ((hbO).cell (cell_lt hS1.2.2.1)).trans hS1.2.2.1, ((hbO).cell (cell_lt hS1.2.2.2.1)).trans hS1.2.2.2.1, ((hbO).cell (cell_lt hS1.2.2.2.2.1)).trans hS1.2.2.2.2.1, ((hbO).cell (cell_lt hS1.2.2.2.2.2.1)).trans hS1.2.2.2.2.2.1, ((hbO).cell (cell_lt hS1.2.2.2.2.2.2.1)).trans hS1.2.2.2.2.2.2.1, ((hbO).cell (cell_lt hS1.2.2.2.2.2.2.2.1)).trans hS1.2.2.2.2.2.2.2.1, ((hbO).cell (cell_lt hS1.2.2.2.2.2.2.2.2.1)).trans hS1.2.2.2.2.2.2.2.2.1, ((hbO).cell (cell_lt hS1.2.2.2.2.2.2.2.2.2.1)).trans hS1.2.2.2.2.2.2.2.2.2.1, ((hbO).cell (cell_lt hS1.2.2.2.2.2.2.2.2.2.2)).trans hS1.2.2.2.2.2.2.2.2.2.2⟩ (fun hS2 => ?_)
        clear hK
        refine wpAnyH_ready (rs := [5]) (by kernel_rfl) (by simp) ?_
        refine AllReadyH.cons rfl (fun K hK => ?_) AllReadyH.nil
        simp only [List.getElem_toArray, List.getElem_cons_zero, List.getElem_cons_succ]
        go_simp
        refine (SAM2.out _ _ hS2.1 hq).mono ?_
        rintro e wS ⟨rfl, hbS⟩
        refine hK.out _ _ ⟨(hS2.1).trans ((hbS).mono (hS2.1).size), ((hbS).cell (cell_lt hS2.2.1)).trans hS2.2.1, ((hbS).cell (cell_lt hS2.2.2.1)).trans hS2.2.2.1, ((hbS).cell (cell_lt hS2.2.2.2.1)).trans hS2.2.2.2.1, ((hbS).cell (cell_lt hS2.2.2.2.2.1)).trans hS2.2.2.2.2.1, ((hbS).cell (cell_lt hS2.2.2.2.2.2.1)).trans hS2.2.2.2.2.2.1, ((hbS).cell (cell_lt hS2.2.2.2.2.2.2.1)).trans hS2.2.2.2.2.2.2.1, ((hbS).cell (cell_lt hS2.2.2.2.2.2.2.2.1)).trans hS2.2.2.2.2.2.2.2.1, ((hbS).cell (cell_lt hS2.2.2.2.2.2.2.2.2.1)).trans hS2.2.2.2.2.2.2.2.2.1, ((hbS).cell (cell_lt hS2.2.2.2.2.2.2.2.2.2.1)).trans hS2.2.2.2.2.2.2.2.2.2.1, ((hbS).cell (cell_lt hS2.2.2.2.2.2.2.2.2.2.2)).trans hS2.2.2.2.2.2.2.2.2.2.2⟩ (fun hS3 => ?_)
        clear hK
        refine wpAnyH_take (i := 6) (v := ?_) rfl (by kernel_rfl) (by kernel_rfl) (by kernel_rfl) (fun _ _ _ h => h) (Or.inl ⟨by rfl, ?_⟩) hS3 ?_
        rotate_left
        · intro wx hSx
          try dsimp only at hSx
          go_simp
          try with_reducible rfl
        simp only [Act.put, List.getElem_toArray, List.getElem_cons_zero, List.getElem_cons_succ, List.setIfInBounds_toArray, List.set_cons_zero, List.set_cons_succ]
        refine wpAnyH_take (i := 7) (v := ?_) rfl (by kernel_rfl) (by kernel_rfl) (by kernel_rfl) (fun _ _ _ h => h) (Or.inl ⟨by rfl, ?_⟩) hS3 ?_
        rotate_left
        · intro wx hSx
          try dsimp only at hSx
          go_simp
          try with_reducible rfl
        simp only [Act.put, List.getElem_toArray, List.getElem_cons_zero, List.getElem_cons_succ, List.setIfInBounds_toArray, List.set_cons_zero, List.set_cons_succ]
        refine wpAnyH_done (by kernel_rfl) ?_ _
        refine NoPanic.normal ?_
        have hfin := keepW HBw6.out (hS3.1)
        go_wp2_with fail
        go_ret
        exact ⟨rfl, hfin⟩
end SgM
end Go.Proofs.YtefknfbmphdafaaGreat
