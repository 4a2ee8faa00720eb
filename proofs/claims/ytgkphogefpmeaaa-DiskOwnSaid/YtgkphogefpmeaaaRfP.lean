/- The walk of Same. -/
import Derived.Test.YtgkphogefpmeaaaRfO
namespace Go.Proofs.Ytgkphogefpmeaaa
open Go.RowKit Go.Maps DkM

theorem crF_full {M : Nat} : ∀ {L : List Fl} {n : Nat}, L.length ≤ n → (∀ f ∈ L, f.l.size ≤ M) → ∀ f ∈ L, ∃ f' ∈ crF L (List.replicate n (M : Int)), f'.n = f.n ∧ f'.s ++ f'.l = f.s ++ f.l
  | g :: r, 0, hn, _, _, _ => by simp at hn
  | g :: r, n + 1, hn, hM, f, h => by
    have hr : r.length ≤ n := by simpa using hn
    unfold crF
    by_cases h0 : g.l.size = 0
    · rw [if_pos h0]
      rcases List.mem_cons.1 h with rfl | hf
      · exact ⟨f, by simp, rfl, rfl⟩
      · obtain ⟨f', h1, h2⟩ := crF_full (M := M) (n := n + 1) (by omega) (fun f hf => hM f (by simp [hf])) f hf
        exact ⟨f', by simp [h1], h2⟩
    · rw [if_neg h0]
      rcases List.mem_cons.1 h with rfl | hf
      · refine ⟨_, List.mem_cons_self, rfl, ?_⟩
        have hm := hM f (by simp)
        have hc : clK f.l.size ((List.replicate (n + 1) (M : Int)).headD 0) = f.l.size := by
          rw [List.replicate_succ]; simp only [List.headD_cons]; unfold clK; omega
        show (f.s ++ f.l.extract 0 (clK f.l.size ((List.replicate (n + 1) (M : Int)).headD 0))) ++ nul = _
        rw [hc, all_of, app_nul]
      · obtain ⟨f', h1, h2⟩ := crF_full (M := M) (n := n) hr (fun f hf => hM f (by simp [hf])) f hf
        exact ⟨f', by rw [List.replicate_succ]; simp [h1], h2⟩
def k12 : List Int := List.replicate 12 ((1073741824 : Nat) : Int)
theorem ints_twelve (w : World) (T : TypeId) : IntsAt (w.alloc (.cells #[.int .i64 1073741824, .int .i64 1073741824, .int .i64 1073741824, .int .i64 1073741824, .int .i64 1073741824, .int .i64 1073741824, .int .i64 1073741824, .int .i64 1073741824, .int .i64 1073741824, .int .i64 1073741824, .int .i64 1073741824, .int .i64 1073741824] T)) w.heap.size k12 (.slice (some ⟨w.heap.size, 0, none⟩) 12 12) := by
  refine ⟨_, _, rfl, by simp [k12], fun _ => ⟨0, rfl, fun k hk => ?_⟩⟩
  have hk' : k < 12 := by simpa [k12] using hk
  rw [Nat.zero_add, (Blk.new w T _).cell k]
  match k, hk, hk' with
  | 0, _, _ => rfl
  | 1, _, _ => rfl
  | 2, _, _ => rfl
  | 3, _, _ => rfl
  | 4, _, _ => rfl
  | 5, _, _ => rfl
  | 6, _, _ => rfl
  | 7, _, _ => rfl
  | 8, _, _ => rfl
  | 9, _, _ => rfl
  | 10, _, _ => rfl
  | 11, _, _ => rfl
theorem NamesAt.kp {w wr : World} {base p b : Nat} {A : Option Addr} {n cap : Nat} {L : List Fl} (h : NamesAt w base (.slice A n cap) L) (hK : Kp p b w wr) (hp : p < base) (hb : b < base) {k : Nat} (hk : k < L.length) :
    ∃ g, A = some ⟨g, 0, none⟩ ∧ g < w.heap.size ∧ ∀ f, f = L[k] → wr.cell? ⟨g, k, none⟩ = some (.string f.n) := by
  obtain ⟨A', c, h1, h2⟩ := h
  obtain ⟨g, e, h3, hg, hc⟩ := h2 (by omega)
  injection h1 with h1
  exact ⟨g, by rw [h1, e], hg, fun f hf => by subst hf; exact (hK.cell (by exact hg) (by simp; omega) (by simp; omega)).trans (hc k hk)⟩
section
variable {w : World} {p b : Nat} {S : Dk}
theorem used_u (h : DiskAt w p b S) (hu : S.used = (usd S.L : Nat)) : Calls Try.prog 32 #[ptr p] w fun e w' => e = .returned (.int .i64 (usd S.L : Nat)) ∧ w = w' :=
  (used_any h).mono fun e w' ⟨h1, h2⟩ => ⟨by rw [h1, hu], h2⟩
end

set_option maxRecDepth 100000 in
set_option maxHeartbeats 1000000 in
theorem same_any {w : World} {p b lo N : Nat} {sl : Value} {S : Dk} (hD : DiskAt w p b S) (hF : FsAt w lo sl S.L) (hI : Iv N S) (hN : N ≤ 400) :
    Calls Try.prog 15 #[ptr p, rfV sl S] w fun e w' => e = .returned (.int .i64 0) ∧ Below w.heap.size w w' := by
  have hF' := hF
  obtain ⟨SA, scap, hsl, -, -⟩ := hF'
  subst hsl
  obtain ⟨W, hW⟩ : ∃ W, W = w.alloc (.cells #[(.slice SA S.L.length scap), .int .i64 S.lim, .int .i64 S.fuse, .int .i64 S.ops, .int .i64 S.reads, .bool S.down] 30) := ⟨_, rfl⟩
  have HDW := Lib.hid (show DiskAt W p b S by rw [hW]; exact hD.alloc _)
  have HFW := Lib.hid (show FsAt W lo (.slice SA S.L.length scap) S.L by rw [hW]; exact hF.alloc _)
  have BW := Lib.hid (show Blk W w.heap.size 30 (dC (.slice SA S.L.length scap) S) by rw [hW]; exact Blk.new _ _ _)
  have hBW : Below w.heap.size w W := by rw [hW]; exact below_one _ _
  have HWW := Lib.hid hW
  have hwW : w.heap.size < W.heap.size := BW.out.lt
  have hlen : S.L.length ≤ 400 := by have := hI.len; omega
  have HB := Lib.hid (hI.bd (by omega))
  have hus : usd S.L ≤ 1073741824 := HB.out.used1
  have HNM := Lib.hid hI.names
  have hr0 : S.reads ≤ 400 := by have := hI.reads1; omega
  have HI := Lib.hid hI
  have HFU := Lib.hid (fun (h12 : S.L.length ≤ 12) => crF_full (L := S.L) (n := 12) (M := 1073741824) h12 (fun f hf => by have := usd_le hf; omega))
  have CP := Lib.hid (copy_any HDW.out)
  clear hD hF hI hW
  go_enter Try.func15, Try.ntmps15
  go_wp2_with fail
  rw [← HWW.out]
  refine CP.out.mono ?_
  rintro e w2 ⟨rfl, hX2, -, hb2⟩
  obtain ⟨X, hX⟩ : ∃ X, X = W.heap.size := ⟨_, rfl⟩
  rw [← hX]
  rw [← hX] at hX2
  have HX2 := Lib.hid hX2
  have hXW : X = W.heap.size := hX
  have hx2 : X < w2.heap.size := hX2.blk.lt
  have hx2' : X + 1 < w2.heap.size := hX2.own.lt
  have HXW := Lib.hid hXW
  have hwX : w.heap.size < X := by omega
  have B2 := Lib.hid (BW.out.below' hb2)
  have hq2 : w.heap.size < w2.heap.size := B2.out.lt
  have HD2 := Lib.hid (HDW.out.belowS hb2)
  have HF2 := Lib.hid (HFW.out.below hb2)
  clear hX hX2 hXW CP
  have d0 : w2.cell? ⟨w.heap.size, 0, none⟩ = some ((.slice SA S.L.length scap)) := B2.out.cell 0
  have d1 : w2.cell? ⟨w.heap.size, 1, none⟩ = some (.int .i64 S.lim) := B2.out.cell 1
  have d2 : w2.cell? ⟨w.heap.size, 2, none⟩ = some (.int .i64 S.fuse) := B2.out.cell 2
  have d3 : w2.cell? ⟨w.heap.size, 3, none⟩ = some (.int .i64 S.ops) := B2.out.cell 3
  have d4 : w2.cell? ⟨w.heap.size, 4, none⟩ = some (.int .i64 S.reads) := B2.out.cell 4
  have d5 : w2.cell? ⟨w.heap.size, 5, none⟩ = some (.bool S.down) := B2.out.cell 5
  go_wp2_with fail
  refine wp_region_noPanic ?_
  refine wp_region_held_drew (S := fun w' => Below w2.heap.size w2 w' ∧ w'.cell? ⟨w.heap.size, 0, none⟩ = some ((.slice SA S.L.length scap)) ∧ w'.cell? ⟨w.heap.size, 1, none⟩ = some (.int .i64 S.lim) ∧ w'.cell? ⟨w.heap.size, 2, none⟩ = some (.int .i64 S.fuse) ∧ w'.cell? ⟨w.heap.size, 3, none⟩ = some (.int .i64 S.ops) ∧ w'.cell? ⟨w.heap.size, 4, none⟩ = some (.int .i64 S.reads) ∧ w'.cell? ⟨w.heap.size, 5, none⟩ = some (.bool S.down)) (by kernel_rfl) ⟨below_draw', d0, d1, d2, d3, d4, d5⟩ (fun hS => ?_)
  refine wpAnyH_take (i := 0) (v := ?_) rfl (by kernel_rfl) (by kernel_rfl) (by kernel_rfl) (fun _ _ _ h => h) (Or.inl ⟨by rfl, ?_⟩) hS ?_
  rotate_left
  · intro wx hSx
    try dsimp only at hSx
    go_simp
    try with_reducible rfl
  simp only [Act.put, List.getElem_toArray, List.getElem_cons_zero, List.setIfInBounds_toArray, List.set_cons_zero, List.set_cons_succ]
  refine wpAnyH_take (i := 2) (v := ?_) rfl (by kernel_rfl) (by kernel_rfl) (by kernel_rfl) (fun _ _ _ h => h) (Or.inl ⟨by rfl, ?_⟩) hS ?_
  rotate_left
  · intro wx hSx
    try dsimp only at hSx
    go_simp
    try with_reducible rfl
  simp only [Act.put, List.getElem_toArray, List.getElem_cons_zero, List.getElem_cons_succ, List.setIfInBounds_toArray, List.set_cons_zero, List.set_cons_succ]
  refine wpAnyH_take (i := 3) (v := ?_) rfl (by kernel_rfl) (by kernel_rfl) (by kernel_rfl) (fun _ _ _ h => h) (Or.inl ⟨by rfl, ?_⟩) hS ?_
  rotate_left
  · intro wx hSx
    try dsimp only at hSx
    go_simp
    try with_reducible rfl
  simp only [Act.put, List.getElem_toArray, List.getElem_cons_zero, List.getElem_cons_succ, List.setIfInBounds_toArray, List.set_cons_zero, List.set_cons_succ]
  refine wpAnyH_ready (rs := [1]) (by kernel_rfl) (by simp) ?_
  refine AllReadyH.cons rfl (fun K hK => ?_) AllReadyH.nil
  simp only [List.getElem_toArray, List.getElem_cons_zero, List.getElem_cons_succ]
  go_simp
  refine (down_any (HD2.out.belowS hS.1)).mono ?_
  rintro e wq ⟨rfl, rfl⟩
  refine hK.out _ _ hS (fun hS1 => ?_)
  clear hK
  refine wpAnyH_take (i := 4) (v := ?_) rfl (by kernel_rfl) (by kernel_rfl) (by kernel_rfl) (fun _ _ _ h => h) (Or.inl ⟨by rfl, ?_⟩) hS1 ?_
  rotate_left
  · intro wx hSx
    try dsimp only at hSx
    go_simp
    try with_reducible rfl
  simp only [Act.put, List.getElem_toArray, List.getElem_cons_zero, List.getElem_cons_succ, List.setIfInBounds_toArray, List.set_cons_zero, List.set_cons_succ]
  refine wpAnyH_take (i := 5) (v := ?_) rfl (by kernel_rfl) (by kernel_rfl) (by kernel_rfl) (fun _ _ _ h => h) (Or.inl ⟨by rfl, ?_⟩) hS1 ?_
  rotate_left
  · intro wx hSx
    try dsimp only at hSx
    go_simp
    try with_reducible rfl
  simp only [Act.put, List.getElem_toArray, List.getElem_cons_zero, List.getElem_cons_succ, List.setIfInBounds_toArray, List.set_cons_zero, List.set_cons_succ]
  refine wpAnyH_take (i := 6) (v := ?_) rfl (by kernel_rfl) (by kernel_rfl) (by kernel_rfl) (fun _ _ _ h => h) (Or.inl ⟨by rfl, ?_⟩) hS1 ?_
  rotate_left
  · intro wx hSx
    try dsimp only at hSx
    go_simp
    try with_reducible rfl
  simp only [Act.put, List.getElem_toArray, List.getElem_cons_zero, List.getElem_cons_succ, List.setIfInBounds_toArray, List.set_cons_zero, List.set_cons_succ]
  refine wpAnyH_take (i := 8) (v := ?_) rfl (by kernel_rfl) (by kernel_rfl) (by kernel_rfl) (fun _ _ _ h => h) (Or.inl ⟨by rfl, ?_⟩) hS1 ?_
  rotate_left
  · intro wx hSx
    try dsimp only at hSx
    go_simp
    try with_reducible rfl
  simp only [Act.put, List.getElem_toArray, List.getElem_cons_zero, List.getElem_cons_succ, List.setIfInBounds_toArray, List.set_cons_zero, List.set_cons_succ]
  refine wpAnyH_ready (rs := [7]) (by kernel_rfl) (by simp) ?_
  refine AllReadyH.cons rfl (fun K hK => ?_) AllReadyH.nil
  simp only [List.getElem_toArray, List.getElem_cons_zero, List.getElem_cons_succ]
  go_simp
  refine (used_u (HD2.out.belowS hS1.1) HB.out.used).mono ?_
  rintro e wq ⟨rfl, rfl⟩
  refine hK.out _ _ hS1 (fun hS2 => ?_)
  clear hK
  refine wpAnyH_ready (rs := [9]) (by kernel_rfl) (by simp) ?_
  refine AllReadyH.cons rfl (fun K hK => ?_) AllReadyH.nil
  simp only [List.getElem_toArray, List.getElem_cons_zero, List.getElem_cons_succ]
  go_simp
  refine (rused_any (HF2.out.below hS2.1) (by omega) hus).mono ?_
  rintro e w3 ⟨rfl, hu5⟩
  refine hK.out _ _ ⟨(hS2.1).trans ((hu5).mono (hS2.1).size), ((hu5).cell (cell_lt hS2.2.1)).trans hS2.2.1, ((hu5).cell (cell_lt hS2.2.2.1)).trans hS2.2.2.1, ((hu5).cell (cell_lt hS2.2.2.2.1)).trans hS2.2.2.2.1, ((hu5).cell (cell_lt hS2.2.2.2.2.1)).trans hS2.2.2.2.2.1, ((hu5).cell (cell_lt hS2.2.2.2.2.2.1)).trans hS2.2.2.2.2.2.1, ((hu5).cell (cell_lt hS2.2.2.2.2.2.2)).trans hS2.2.2.2.2.2.2⟩ (fun hS3 => ?_)
  clear hK
  refine wpAnyH_take (i := 10) (v := ?_) rfl (by kernel_rfl) (by kernel_rfl) (by kernel_rfl) (fun _ _ _ h => h) (Or.inl ⟨by rfl, ?_⟩) hS3 ?_
  rotate_left
  · intro wx hSx
    try dsimp only at hSx
    go_simp
    try with_reducible rfl
  simp only [Act.put, List.getElem_toArray, List.getElem_cons_zero, List.getElem_cons_succ, List.setIfInBounds_toArray, List.set_cons_zero, List.set_cons_succ]
  refine wpAnyH_take (i := 11) (v := ?_) rfl (by kernel_rfl) (by kernel_rfl) (by kernel_rfl) (fun _ _ _ h => h) (Or.inl ⟨by rfl, ?_⟩) hS3 ?_
  rotate_left
  · intro wx hSx
    try dsimp only at hSx
    go_simp
    try with_reducible rfl
  simp only [Act.put, List.getElem_toArray, List.getElem_cons_zero, List.getElem_cons_succ, List.setIfInBounds_toArray, List.set_cons_zero, List.set_cons_succ]
  refine wpAnyH_take (i := 12) (v := ?_) rfl (by kernel_rfl) (by kernel_rfl) (by kernel_rfl) (fun _ _ _ h => h) (Or.inl ⟨by rfl, ?_⟩) hS3 ?_
  rotate_left
  · intro wx hSx
    try dsimp only at hSx
    go_simp
    try with_reducible rfl
  simp only [Act.put, List.getElem_toArray, List.getElem_cons_zero, List.getElem_cons_succ, List.setIfInBounds_toArray, List.set_cons_zero, List.set_cons_succ]
  refine wpAnyH_take (i := 13) (v := ?_) rfl (by kernel_rfl) (by kernel_rfl) (by kernel_rfl) (fun _ _ _ h => h) (Or.inl ⟨by rfl, ?_⟩) hS3 ?_
  rotate_left
  · intro wx hSx
    try dsimp only at hSx
    go_simp
    try with_reducible rfl
  simp only [Act.put, List.getElem_toArray, List.getElem_cons_zero, List.getElem_cons_succ, List.setIfInBounds_toArray, List.set_cons_zero, List.set_cons_succ]
  refine wpAnyH_take (i := 15) (v := ?_) rfl (by kernel_rfl) (by kernel_rfl) (by kernel_rfl) (fun _ _ _ h => h) (Or.inl ⟨by rfl, ?_⟩) hS3 ?_
  rotate_left
  · intro wx hSx
    try dsimp only at hSx
    go_simp
    try with_reducible rfl
  simp only [Act.put, List.getElem_toArray, List.getElem_cons_zero, List.getElem_cons_succ, List.setIfInBounds_toArray, List.set_cons_zero, List.set_cons_succ]
  refine wpAnyH_take (i := 16) (v := ?_) rfl (by kernel_rfl) (by kernel_rfl) (by kernel_rfl) (fun _ _ _ h => h) (Or.inl ⟨by rfl, ?_⟩) hS3 ?_
  rotate_left
  · intro wx hSx
    try dsimp only at hSx
    go_simp
    try with_reducible rfl
  simp only [Act.put, List.getElem_toArray, List.getElem_cons_zero, List.getElem_cons_succ, List.setIfInBounds_toArray, List.set_cons_zero, List.set_cons_succ]
  refine wpAnyH_ready (rs := [14]) (by kernel_rfl) (by simp) ?_
  refine AllReadyH.cons rfl (fun K hK => ?_) AllReadyH.nil
  simp only [List.getElem_toArray, List.getElem_cons_zero, List.getElem_cons_succ]
  go_simp
  refine (limit_any (HD2.out.belowS hS3.1)).mono ?_
  rintro e wq ⟨rfl, rfl⟩
  refine hK.out _ _ hS3 (fun hS4 => ?_)
  clear hK
  refine wpAnyH_take (i := 17) (v := ?_) rfl (by kernel_rfl) (by kernel_rfl) (by kernel_rfl) (fun _ _ _ h => h) (Or.inl ⟨by rfl, ?_⟩) hS4 ?_
  rotate_left
  · intro wx hSx
    try dsimp only at hSx
    go_simp
    try with_reducible rfl
  simp only [Act.put, List.getElem_toArray, List.getElem_cons_zero, List.getElem_cons_succ, List.setIfInBounds_toArray, List.set_cons_zero, List.set_cons_succ]
  refine wpAnyH_take (i := 18) (v := ?_) rfl (by kernel_rfl) (by kernel_rfl) (by kernel_rfl) (fun _ _ _ h => h) (Or.inl ⟨by rfl, ?_⟩) hS4 ?_
  rotate_left
  · intro wx hSx
    try dsimp only at hSx
    go_simp
    try with_reducible rfl
  simp only [Act.put, List.getElem_toArray, List.getElem_cons_zero, List.getElem_cons_succ, List.setIfInBounds_toArray, List.set_cons_zero, List.set_cons_succ]
  refine wpAnyH_take (i := 19) (v := ?_) rfl (by kernel_rfl) (by kernel_rfl) (by kernel_rfl) (fun _ _ _ h => h) (Or.inl ⟨by rfl, ?_⟩) hS4 ?_
  rotate_left
  · intro wx hSx
    try dsimp only at hSx
    go_simp
    try with_reducible rfl
  simp only [Act.put, List.getElem_toArray, List.getElem_cons_zero, List.getElem_cons_succ, List.setIfInBounds_toArray, List.set_cons_zero, List.set_cons_succ]
  refine wpAnyH_take (i := 20) (v := ?_) rfl (by kernel_rfl) (by kernel_rfl) (by kernel_rfl) (fun _ _ _ h => h) (Or.inl ⟨by rfl, ?_⟩) hS4 ?_
  rotate_left
  · intro wx hSx
    try dsimp only at hSx
    go_simp
    try with_reducible rfl
  simp only [Act.put, List.getElem_toArray, List.getElem_cons_zero, List.getElem_cons_succ, List.setIfInBounds_toArray, List.set_cons_zero, List.set_cons_succ]
  refine wpAnyH_take (i := 22) (v := ?_) rfl (by kernel_rfl) (by kernel_rfl) (by kernel_rfl) (fun _ _ _ h => h) (Or.inl ⟨by rfl, ?_⟩) hS4 ?_
  rotate_left
  · intro wx hSx
    try dsimp only at hSx
    go_simp
    try with_reducible rfl
  simp only [Act.put, List.getElem_toArray, List.getElem_cons_zero, List.getElem_cons_succ, List.setIfInBounds_toArray, List.set_cons_zero, List.set_cons_succ]
  refine wpAnyH_take (i := 23) (v := ?_) rfl (by kernel_rfl) (by kernel_rfl) (by kernel_rfl) (fun _ _ _ h => h) (Or.inl ⟨by rfl, ?_⟩) hS4 ?_
  rotate_left
  · intro wx hSx
    try dsimp only at hSx
    go_simp
    try with_reducible rfl
  simp only [Act.put, List.getElem_toArray, List.getElem_cons_zero, List.getElem_cons_succ, List.setIfInBounds_toArray, List.set_cons_zero, List.set_cons_succ]
  refine wpAnyH_ready (rs := [21]) (by kernel_rfl) (by simp) ?_
  refine AllReadyH.cons rfl (fun K hK => ?_) AllReadyH.nil
  simp only [List.getElem_toArray, List.getElem_cons_zero, List.getElem_cons_succ]
  go_simp
  refine (ops_any (HD2.out.belowS hS4.1)).mono ?_
  rintro e wq ⟨rfl, rfl⟩
  refine hK.out _ _ hS4 (fun hS5 => ?_)
  clear hK
  refine wpAnyH_take (i := 24) (v := ?_) rfl (by kernel_rfl) (by kernel_rfl) (by kernel_rfl) (fun _ _ _ h => h) (Or.inl ⟨by rfl, ?_⟩) hS5 ?_
  rotate_left
  · intro wx hSx
    try dsimp only at hSx
    go_simp
    try with_reducible rfl
  simp only [Act.put, List.getElem_toArray, List.getElem_cons_zero, List.getElem_cons_succ, List.setIfInBounds_toArray, List.set_cons_zero, List.set_cons_succ]
  refine wpAnyH_take (i := 25) (v := ?_) rfl (by kernel_rfl) (by kernel_rfl) (by kernel_rfl) (fun _ _ _ h => h) (Or.inl ⟨by rfl, ?_⟩) hS5 ?_
  rotate_left
  · intro wx hSx
    try dsimp only at hSx
    go_simp
    try with_reducible rfl
  simp only [Act.put, List.getElem_toArray, List.getElem_cons_zero, List.getElem_cons_succ, List.setIfInBounds_toArray, List.set_cons_zero, List.set_cons_succ]
  refine wpAnyH_done (by kernel_rfl) ?_ _
  refine NoPanic.normal ?_
  have hb3 := hS5.1
  generalize hw3e : w3 = w3 at hb3
  go_wp2_with fail
  clear hS5
  have HX3 := Lib.hid (HX2.out.belowS hb3)
  have hbW3 : Below W.heap.size W w3 := hb2.trans (hb3.mono hb2.size)
  have hXs : W.heap.size ≤ X := by rw [HXW.out]; exact Nat.le_refl _
  obtain ⟨V, hV⟩ : ∃ V, V = w3.alloc (.cells #[.int .i64 1073741824, .int .i64 1073741824, .int .i64 1073741824, .int .i64 1073741824, .int .i64 1073741824, .int .i64 1073741824, .int .i64 1073741824, .int .i64 1073741824, .int .i64 1073741824, .int .i64 1073741824, .int .i64 1073741824, .int .i64 1073741824] 3) := ⟨_, rfl⟩
  rw [← hV]
  have DV := Lib.hid (show DiskAt V X (X + 1) S by rw [hV]; exact HX3.out.alloc _)
  have IV := Lib.hid (show IntsAt V w3.heap.size k12 (.slice (some ⟨w3.heap.size, 0, none⟩) 12 12) by rw [hV]; exact ints_twelve _ _)
  have hbWV : Below W.heap.size W V := by rw [hV]; exact hbW3.alloc hbW3.size _
  have lp := HX3.out.blk.lt
  have lb := HX3.out.own.lt
  have hVs : w3.heap.size < V.heap.size := by rw [hV]; simp
  refine (crash_any DV.out HB.out HNM.out IV.out (fun _ => ⟨hVs, by omega, by omega⟩) (by intro x hx; simp [k12] at hx; omega)).mono ?_
  rintro e w4 ⟨rfl, D4, K4⟩
  have HD4 := Lib.hid D4
  have hbW4 : Below W.heap.size W w4 := hbWV.trans (K4.below hXs (by omega) hbWV.size)
  have hX4 : X < w4.heap.size := D4.blk.lt
  have hX4' : X + 1 < w4.heap.size := D4.own.lt
  have HTB := Lib.hid (bd_crash HB.out k12)
  have HTd := Lib.hid (show (doCr S k12).down = false from rfl)
  have HTL := Lib.hid (show (doCr S k12).L = crF S.L k12 from rfl)
  have HTr := Lib.hid (show (doCr S k12).reads = S.reads from rfl)
  generalize doCr S k12 = T at *
  have hTr0 : 0 ≤ T.reads := by rw [HTr.out]; exact HB.out.reads0
  have hTr1 : T.reads ≤ 400 := by rw [HTr.out]; exact hr0
  clear hV DV IV D4 K4 lp lb hVs HX3 HX2 hb3 HD2 HF2 B2 d0 d1 d2 d3 d4 d5
  go_wp2_with fail
  refine (files_any (HDW.out.belowS hbW4) HB.out).mono ?_
  rintro e w5 ⟨fv, rfl, hNm, hb5⟩
  have HN := Lib.hid hNm
  obtain ⟨FA, fcap, rfl, -⟩ := hNm
  have HD5 := Lib.hid (HD4.out.belowS hb5)
  have hbW5 : Below W.heap.size W w5 := hbW4.trans (hb5.mono hbW4.size)
  have B5 := Lib.hid (BW.out.below' hbW5)
  have hq5 : w.heap.size < w5.heap.size := B5.out.lt
  have hX5 : X < w5.heap.size := Nat.lt_of_lt_of_le hX4 hb5.size
  have hX5' : X + 1 < w5.heap.size := Nat.lt_of_lt_of_le hX4' hb5.size
  have d0 : w5.cell? ⟨w.heap.size, 0, none⟩ = some (.slice SA S.L.length scap) := B5.out.cell 0
  clear hb5 HD4
  go_wp2_with fail
  clear d0
  go_loopw [6, 65] (fun nn i wr => ∃ k c : Nat, k ≤ S.L.length ∧ nn = .int .i64 0 ∧ i = .int .i64 k ∧ c ≤ k * 1073741824 ∧ DiskAt wr X (X + 1) { T with reads := T.reads + c } ∧ Kp X (X + 1) w5 wr) (fun _ i _ => S.L.length - (intOf i).toNat)
  case atStart => exact ⟨0, 0, Nat.zero_le _, rfl, rfl, Nat.zero_le _, by rw [show ({ T with reads := T.reads + ((0 : Nat) : Int) } : Dk) = T by simp]; exact HD5.out, Kp.refl _ _ _⟩
  case round =>
    obtain ⟨k, c, hk, rfl, rfl, hck, hD, hK⟩ := hrel
    have HDr := Lib.hid hD
    have hbWr : Below W.heap.size W wr := hbW5.trans (hK.below hXs (by omega) hbW5.size)
    have BTr := Lib.hid (bd_reads HTB.out (c := c) (by omega))
    have HFr := Lib.hid (HFW.out.below hbWr)
    have Br := Lib.hid (BW.out.below' hbWr)
    have hqr : w.heap.size < wr.heap.size := Br.out.lt
    have hXr : X < wr.heap.size := Nat.lt_of_lt_of_le hX5 hK.size
    have hXr' : X + 1 < wr.heap.size := Nat.lt_of_lt_of_le hX5' hK.size
    clear hD
    by_cases hlt : k < S.L.length
    · obtain ⟨f, hfe⟩ : ∃ f, f = S.L[k] := ⟨_, rfl⟩
      obtain ⟨gn, en, hgn, hcn⟩ := HN.out.kp hK (by omega) (by omega) hlt
      subst en
      have n0 := hcn f hfe
      obtain ⟨g, off, eg, hg, q0, q1, q2⟩ := HFr.out.cells hlt hfe.symm
      subst eg
      have hmem : f ∈ S.L := by rw [hfe]; exact List.getElem_mem _
      have hf' : ∃ f' ∈ crF S.L k12, f'.n = f.n ∧ (S.L.length ≤ 12 → f'.s ++ f'.l = f.s ++ f.l) := by
        by_cases h12 : S.L.length ≤ 12
        · obtain ⟨f', h1, h2, h3⟩ := HFU.out h12 f hmem
          exact ⟨f', h1, h2, fun _ => h3⟩
        · obtain ⟨f', h1, h2, h3⟩ := crF_mem (ks := k12) hmem
          exact ⟨f', h1, h2, fun h => absurd h h12⟩
      obtain ⟨f', hm', hn', hX'⟩ := hf'
      have HLK := Lib.hid (show lkF T.L f.n = some f' by rw [HTL.out, ← hn']; exact lkF_mem (crF_rise HI.out.rise k12) hm')
      have HLS := Lib.hid (lkF_mem HI.out.rise hmem)
      have hsz' : f'.s.size + f'.l.size ≤ 1073741824 := by
        have h1 := usd_le hm'
        have h2 := crF_usd S.L k12
        omega
      have HFN := Lib.hid (HNM.out f hmem)
      have hfs : f.s.size + f.l.size ≤ usd S.L := usd_le hmem
      obtain ⟨Y, hYe⟩ : ∃ Y, f'.s ++ f'.l = Y := ⟨_, rfl⟩
      rw [hYe] at hX'
      have hYs : Y.size ≤ 1073741824 := by rw [← hYe, app_size]; exact hsz'
      have HYE := Lib.hid hYe
      have y4 := seq_yes f.n
      have hgnr : gn < wr.heap.size := Nat.lt_of_lt_of_le hgn hK.size
      have nj0 : (0 : Int) ≤ (k : Int) := by omega
      have nj1 : (k : Int) < (S.L.length : Int) := by omega
      have HY := Lib.hid hX'
      have d0 : wr.cell? ⟨w.heap.size, 0, none⟩ = some (.slice (some ⟨g, off, none⟩) S.L.length scap) := Br.out.cell 0
      clear hfe hmem hm' hn' hX' hYe hcn
      go_wp2_with fail
      obtain ⟨V, hV⟩ : ∃ V, V = wr.alloc (.cells #[.string f.n, .string f.s, .string f.l] 54) := ⟨_, rfl⟩
      have BV := Lib.hid (show Blk V wr.heap.size 54 #[.string f.n, .string f.s, .string f.l] by rw [hV]; exact Blk.new _ _ _)
      have HDV := Lib.hid (show DiskAt V X (X + 1) { T with reads := T.reads + (c : Int) } by rw [hV]; exact HDr.out.alloc _)
      have KV : Kp X (X + 1) w5 V := by rw [hV]; exact hK.trans (Kp.alloc _ _)
      rw [← hV]
      clear hV q0 q1 q2 hg HFr HDr d0 n0
      have KB := bytes_any HDV.out BTr.out (by show T.reads + (c : Int) ≤ _; omega) HTd.out HFN.out (f := f') HLK.out
      rw [HYE.out] at KB
      refine KB.mono ?_
      clear KB
      rintro e w6 ⟨rfl, c', hc', hD6, K6⟩
      have B6 := Lib.hid (K6.blk BV.out (by omega) (by omega))
      have e6 : ({ T with reads := T.reads + (c : Int) + (c' : Int) } : Dk) = { T with reads := T.reads + ((c + c' : Nat) : Int) } := by
        rw [show T.reads + (c : Int) + (c' : Int) = T.reads + ((c + c' : Nat) : Int) by omega]
      have HD6 := Lib.hid (show DiskAt w6 X (X + 1) { T with reads := T.reads + ((c + c' : Nat) : Int) } by rw [← e6]; exact hD6)
      have KW6 : Kp X (X + 1) w5 w6 := KV.trans K6
      have hbW6 : Below W.heap.size W w6 := hbW5.trans (KW6.below hXs (by omega) hbW5.size)
      clear e6 hD6 K6 BV HDV KV
      go_wp2_with fail
      refine (size_f (HDW.out.belowS hbW6) HLS.out HFN.out).mono ?_
      rintro e w7 ⟨rfl, hb7⟩
      have HD7 := Lib.hid (HD6.out.belowS hb7)
      have KW7 := KW6.trans (Kp.of_below hb7)
      have hbW7 : Below W.heap.size W w7 := hbW6.trans (hb7.mono hbW6.size)
      have B7 := Lib.hid (B6.out.below' hb7)
      have BD7 := Lib.hid (BW.out.below' hbW7)
      have hr7 : wr.heap.size < w7.heap.size := B7.out.lt
      have hq7 : w.heap.size < w7.heap.size := BD7.out.lt
      have d0 : w7.cell? ⟨w.heap.size, 0, none⟩ = some (.slice (some ⟨g, off, none⟩) S.L.length scap) := BD7.out.cell 0
      clear hb7 HD6 KW6 hbW6 B6
      have v0 : w7.cell? ⟨wr.heap.size, 0, none⟩ = some (.string f.n) := B7.out.cell 0
      have v1 : w7.cell? ⟨wr.heap.size, 1, none⟩ = some (.string f.s) := B7.out.cell 1
      have v2 : w7.cell? ⟨wr.heap.size, 2, none⟩ = some (.string f.l) := B7.out.cell 2
      by_cases h12 : S.L.length ≤ 12
      · have hd12 : decide ((S.L.length : Int) ≤ 12) = true := by simp; omega
        have hd12' : decide (S.L.length ≤ 12) = true := by simp; omega
        have z5 : (Y.toList == (f.s ++ f.l).toList) = true := by rw [HY.out h12]; exact seq_yes _
        clear h12
        go_wp2_with fail
        refine wp_region_noPanic ?_
        refine wp_region_held_drew (S := fun w' => Below w7.heap.size w7 w' ∧ w'.cell? ⟨wr.heap.size, 0, none⟩ = some (.string f.n) ∧ w'.cell? ⟨wr.heap.size, 1, none⟩ = some (.string f.s) ∧ w'.cell? ⟨wr.heap.size, 2, none⟩ = some (.string f.l) ∧ w'.cell? ⟨w.heap.size, 0, none⟩ = some (.slice (some ⟨g, off, none⟩) S.L.length scap)) (by kernel_rfl) ⟨below_draw', v0, v1, v2, d0⟩ (fun hS => ?_)
        refine wpAnyH_take (i := 0) (v := ?_) rfl (by kernel_rfl) (by kernel_rfl) (by kernel_rfl) (fun _ _ _ h => h) (Or.inl ⟨by rfl, ?_⟩) hS ?_
        rotate_left
        · intro wx hSx
          try dsimp only at hSx
          go_simp
          try with_reducible rfl
        simp only [Act.put, List.getElem_toArray, List.getElem_cons_zero, List.setIfInBounds_toArray, List.set_cons_zero, List.set_cons_succ]
        refine wpAnyH_take (i := 1) (v := ?_) rfl (by kernel_rfl) (by kernel_rfl) (by kernel_rfl) (fun _ _ _ h => h) (Or.inl ⟨by rfl, ?_⟩) hS ?_
        rotate_left
        · intro wx hSx
          try dsimp only at hSx
          go_simp
          try with_reducible rfl
        simp only [Act.put, List.getElem_toArray, List.getElem_cons_zero, List.getElem_cons_succ, List.setIfInBounds_toArray, List.set_cons_zero, List.set_cons_succ]
        refine wpAnyH_take (i := 2) (v := ?_) rfl (by kernel_rfl) (by kernel_rfl) (by kernel_rfl) (fun _ _ _ h => h) (Or.inl ⟨by rfl, ?_⟩) hS ?_
        rotate_left
        · intro wx hSx
          try dsimp only at hSx
          go_simp
          try with_reducible rfl
        simp only [Act.put, List.getElem_toArray, List.getElem_cons_zero, List.getElem_cons_succ, List.setIfInBounds_toArray, List.set_cons_zero, List.set_cons_succ]
        refine wpAnyH_take (i := 3) (v := ?_) rfl (by kernel_rfl) (by kernel_rfl) (by kernel_rfl) (fun _ _ _ h => h) (Or.inl ⟨by rfl, ?_⟩) hS ?_
        rotate_left
        · intro wx hSx
          try dsimp only at hSx
          go_simp
          try with_reducible rfl
        simp only [Act.put, List.getElem_toArray, List.getElem_cons_zero, List.getElem_cons_succ, List.setIfInBounds_toArray, List.set_cons_zero, List.set_cons_succ]
        refine wpAnyH_take (i := 4) (v := ?_) rfl (by kernel_rfl) (by kernel_rfl) (by kernel_rfl) (fun _ _ _ h => h) (Or.inl ⟨by rfl, ?_⟩) hS ?_
        rotate_left
        · intro wx hSx
          try dsimp only at hSx
          go_simp
          try with_reducible rfl
        simp only [Act.put, List.getElem_toArray, List.getElem_cons_zero, List.getElem_cons_succ, List.setIfInBounds_toArray, List.set_cons_zero, List.set_cons_succ]
        refine wpAnyH_take (i := 5) (v := ?_) rfl (by kernel_rfl) (by kernel_rfl) (by kernel_rfl) (fun _ _ _ h => h) (Or.inl ⟨by rfl, ?_⟩) hS ?_
        rotate_left
        · intro wx hSx
          try dsimp only at hSx
          go_simp
          try with_reducible rfl
        simp only [Act.put, List.getElem_toArray, List.getElem_cons_zero, List.getElem_cons_succ, List.setIfInBounds_toArray, List.set_cons_zero, List.set_cons_succ]
        refine wpAnyH_take (i := 6) (v := ?_) rfl (by kernel_rfl) (by kernel_rfl) (by kernel_rfl) (fun _ _ _ h => h) (Or.inl ⟨by rfl, ?_⟩) hS ?_
        rotate_left
        · intro wx hSx
          try dsimp only at hSx
          go_simp
          try with_reducible rfl
        simp only [Act.put, List.getElem_toArray, List.getElem_cons_zero, List.getElem_cons_succ, List.setIfInBounds_toArray, List.set_cons_zero, List.set_cons_succ]
        refine wpAnyH_ready (rs := [7]) (by kernel_rfl) (by simp) ?_
        refine AllReadyH.cons rfl (fun K hK => ?_) AllReadyH.nil
        simp only [List.getElem_toArray, List.getElem_cons_zero, List.getElem_cons_succ]
        go_simp
        refine (rbytes_any f _ (by omega)).mono ?_
        rintro e wa7 ⟨rfl, ha7⟩
        refine hK.out _ _ ⟨(hS.1).trans ((ha7).mono (hS.1).size), ((ha7).cell (cell_lt hS.2.1)).trans hS.2.1, ((ha7).cell (cell_lt hS.2.2.1)).trans hS.2.2.1, ((ha7).cell (cell_lt hS.2.2.2.1)).trans hS.2.2.2.1, ((ha7).cell (cell_lt hS.2.2.2.2)).trans hS.2.2.2.2⟩ (fun hS1 => ?_)
        clear hK
        refine wpAnyH_take (i := 8) (v := ?_) rfl (by kernel_rfl) (by kernel_rfl) (by kernel_rfl) (fun _ _ _ h => h) (Or.inl ⟨by rfl, ?_⟩) hS1 ?_
        rotate_left
        · intro wx hSx
          try dsimp only at hSx
          go_simp
          try with_reducible rfl
        simp only [Act.put, List.getElem_toArray, List.getElem_cons_zero, List.getElem_cons_succ, List.setIfInBounds_toArray, List.set_cons_zero, List.set_cons_succ]
        refine wpAnyH_take (i := 9) (v := ?_) rfl (by kernel_rfl) (by kernel_rfl) (by kernel_rfl) (fun _ _ _ h => h) (Or.inl ⟨by rfl, ?_⟩) hS1 ?_
        rotate_left
        · intro wx hSx
          try dsimp only at hSx
          go_simp
          try with_reducible rfl
        simp only [Act.put, List.getElem_toArray, List.getElem_cons_zero, List.getElem_cons_succ, List.setIfInBounds_toArray, List.set_cons_zero, List.set_cons_succ]
        refine wpAnyH_take (i := 10) (v := ?_) rfl (by kernel_rfl) (by kernel_rfl) (by kernel_rfl) (fun _ _ _ h => h) (Or.inl ⟨by rfl, ?_⟩) hS1 ?_
        rotate_left
        · intro wx hSx
          try dsimp only at hSx
          go_simp
          try with_reducible rfl
        simp only [Act.put, List.getElem_toArray, List.getElem_cons_zero, List.getElem_cons_succ, List.setIfInBounds_toArray, List.set_cons_zero, List.set_cons_succ]
        refine wpAnyH_take (i := 11) (v := ?_) rfl (by kernel_rfl) (by kernel_rfl) (by kernel_rfl) (fun _ _ _ h => h) (Or.inl ⟨by rfl, ?_⟩) hS1 ?_
        rotate_left
        · intro wx hSx
          try dsimp only at hSx
          go_simp
          try with_reducible rfl
        simp only [Act.put, List.getElem_toArray, List.getElem_cons_zero, List.getElem_cons_succ, List.setIfInBounds_toArray, List.set_cons_zero, List.set_cons_succ]
        refine wpAnyH_take (i := 12) (v := ?_) rfl (by kernel_rfl) (by kernel_rfl) (by kernel_rfl) (fun _ _ _ h => h) (Or.inl ⟨by rfl, ?_⟩) hS1 ?_
        rotate_left
        · intro wx hSx
          try dsimp only at hSx
          go_simp
          try with_reducible rfl
        simp only [Act.put, List.getElem_toArray, List.getElem_cons_zero, List.getElem_cons_succ, List.setIfInBounds_toArray, List.set_cons_zero, List.set_cons_succ]
        refine wpAnyH_take (i := 13) (v := ?_) rfl (by kernel_rfl) (by kernel_rfl) (by kernel_rfl) (fun _ _ _ h => h) (Or.inl ⟨by rfl, ?_⟩) hS1 ?_
        rotate_left
        · intro wx hSx
          try dsimp only at hSx
          go_simp
          try with_reducible rfl
        simp only [Act.put, List.getElem_toArray, List.getElem_cons_zero, List.getElem_cons_succ, List.setIfInBounds_toArray, List.set_cons_zero, List.set_cons_succ]
        refine wpAnyH_take (i := 14) (v := ?_) rfl (by kernel_rfl) (by kernel_rfl) (by kernel_rfl) (fun _ _ _ h => h) (Or.inl ⟨by rfl, ?_⟩) hS1 ?_
        rotate_left
        · intro wx hSx
          try dsimp only at hSx
          go_simp
          try with_reducible rfl
        simp only [Act.put, List.getElem_toArray, List.getElem_cons_zero, List.getElem_cons_succ, List.setIfInBounds_toArray, List.set_cons_zero, List.set_cons_succ]
        refine wpAnyH_take (i := 15) (v := ?_) rfl (by kernel_rfl) (by kernel_rfl) (by kernel_rfl) (fun _ _ _ h => h) (Or.inl ⟨by rfl, ?_⟩) hS1 ?_
        rotate_left
        · intro wx hSx
          try dsimp only at hSx
          go_simp
          try with_reducible rfl
        simp only [Act.put, List.getElem_toArray, List.getElem_cons_zero, List.getElem_cons_succ, List.setIfInBounds_toArray, List.set_cons_zero, List.set_cons_succ]
        refine wpAnyH_take (i := 16) (v := ?_) rfl (by kernel_rfl) (by kernel_rfl) (by kernel_rfl) (fun _ _ _ h => h) (Or.inl ⟨by rfl, ?_⟩) hS1 ?_
        rotate_left
        · intro wx hSx
          try dsimp only at hSx
          go_simp
          try with_reducible rfl
        simp only [Act.put, List.getElem_toArray, List.getElem_cons_zero, List.getElem_cons_succ, List.setIfInBounds_toArray, List.set_cons_zero, List.set_cons_succ]
        refine wpAnyH_take (i := 17) (v := ?_) rfl (by kernel_rfl) (by kernel_rfl) (by kernel_rfl) (fun _ _ _ h => h) (Or.inl ⟨by rfl, ?_⟩) hS1 ?_
        rotate_left
        · intro wx hSx
          try dsimp only at hSx
          go_simp
          try with_reducible rfl
        simp only [Act.put, List.getElem_toArray, List.getElem_cons_zero, List.getElem_cons_succ, List.setIfInBounds_toArray, List.set_cons_zero, List.set_cons_succ]
        refine wpAnyH_take (i := 19) (v := ?_) rfl (by kernel_rfl) (by kernel_rfl) (by kernel_rfl) (fun _ _ _ h => h) (Or.inl ⟨by rfl, ?_⟩) hS1 ?_
        rotate_left
        · intro wx hSx
          try dsimp only at hSx
          go_simp
          try with_reducible rfl
        simp only [Act.put, List.getElem_toArray, List.getElem_cons_zero, List.getElem_cons_succ, List.setIfInBounds_toArray, List.set_cons_zero, List.set_cons_succ]
        refine wpAnyH_take (i := 20) (v := ?_) rfl (by kernel_rfl) (by kernel_rfl) (by kernel_rfl) (fun _ _ _ h => h) (Or.inl ⟨by rfl, ?_⟩) hS1 ?_
        rotate_left
        · intro wx hSx
          try dsimp only at hSx
          go_simp
          try with_reducible rfl
        simp only [Act.put, List.getElem_toArray, List.getElem_cons_zero, List.getElem_cons_succ, List.setIfInBounds_toArray, List.set_cons_zero, List.set_cons_succ]
        refine wpAnyH_take (i := 21) (v := ?_) rfl (by kernel_rfl) (by kernel_rfl) (by kernel_rfl) (fun _ _ _ h => h) (Or.inl ⟨by rfl, ?_⟩) hS1 ?_
        rotate_left
        · intro wx hSx
          try dsimp only at hSx
          go_simp
          try with_reducible rfl
        simp only [Act.put, List.getElem_toArray, List.getElem_cons_zero, List.getElem_cons_succ, List.setIfInBounds_toArray, List.set_cons_zero, List.set_cons_succ]
        refine wpAnyH_ready (rs := [18]) (by kernel_rfl) (by simp) ?_
        refine AllReadyH.cons rfl (fun K hK => ?_) AllReadyH.nil
        simp only [List.getElem_toArray, List.getElem_cons_zero, List.getElem_cons_succ]
        go_simp
        refine (loose_f (HDW.out.belowS (hbW7.trans ((hS1.1).mono hbW7.size))) HLS.out HFN.out (by omega)).mono ?_
        rintro e wa18 ⟨rfl, ha18⟩
        refine hK.out _ _ ⟨(hS1.1).trans ((ha18).mono (hS1.1).size), ((ha18).cell (cell_lt hS1.2.1)).trans hS1.2.1, ((ha18).cell (cell_lt hS1.2.2.1)).trans hS1.2.2.1, ((ha18).cell (cell_lt hS1.2.2.2.1)).trans hS1.2.2.2.1, ((ha18).cell (cell_lt hS1.2.2.2.2)).trans hS1.2.2.2.2⟩ (fun hS2 => ?_)
        clear hK
        refine wpAnyH_take (i := 22) (v := ?_) rfl (by kernel_rfl) (by kernel_rfl) (by kernel_rfl) (fun _ _ _ h => h) (Or.inl ⟨by rfl, ?_⟩) hS2 ?_
        rotate_left
        · intro wx hSx
          try dsimp only at hSx
          go_simp
          try with_reducible rfl
        simp only [Act.put, List.getElem_toArray, List.getElem_cons_zero, List.getElem_cons_succ, List.setIfInBounds_toArray, List.set_cons_zero, List.set_cons_succ]
        refine wpAnyH_take (i := 23) (v := ?_) rfl (by kernel_rfl) (by kernel_rfl) (by kernel_rfl) (fun _ _ _ h => h) (Or.inl ⟨by rfl, ?_⟩) hS2 ?_
        rotate_left
        · intro wx hSx
          try dsimp only at hSx
          go_simp
          try with_reducible rfl
        simp only [Act.put, List.getElem_toArray, List.getElem_cons_zero, List.getElem_cons_succ, List.setIfInBounds_toArray, List.set_cons_zero, List.set_cons_succ]
        refine wpAnyH_take (i := 24) (v := ?_) rfl (by kernel_rfl) (by kernel_rfl) (by kernel_rfl) (fun _ _ _ h => h) (Or.inl ⟨by rfl, ?_⟩) hS2 ?_
        rotate_left
        · intro wx hSx
          try dsimp only at hSx
          go_simp
          try with_reducible rfl
        simp only [Act.put, List.getElem_toArray, List.getElem_cons_zero, List.getElem_cons_succ, List.setIfInBounds_toArray, List.set_cons_zero, List.set_cons_succ]
        refine wpAnyH_take (i := 25) (v := ?_) rfl (by kernel_rfl) (by kernel_rfl) (by kernel_rfl) (fun _ _ _ h => h) (Or.inl ⟨by rfl, ?_⟩) hS2 ?_
        rotate_left
        · intro wx hSx
          try dsimp only at hSx
          go_simp
          try with_reducible rfl
        simp only [Act.put, List.getElem_toArray, List.getElem_cons_zero, List.getElem_cons_succ, List.setIfInBounds_toArray, List.set_cons_zero, List.set_cons_succ]
        refine wpAnyH_take (i := 26) (v := ?_) rfl (by kernel_rfl) (by kernel_rfl) (by kernel_rfl) (fun _ _ _ h => h) (Or.inl ⟨by rfl, ?_⟩) hS2 ?_
        rotate_left
        · intro wx hSx
          try dsimp only at hSx
          go_simp
          try with_reducible rfl
        simp only [Act.put, List.getElem_toArray, List.getElem_cons_zero, List.getElem_cons_succ, List.setIfInBounds_toArray, List.set_cons_zero, List.set_cons_succ]
        refine wpAnyH_take (i := 27) (v := ?_) rfl (by kernel_rfl) (by kernel_rfl) (by kernel_rfl) (fun _ _ _ h => h) (Or.inl ⟨by rfl, ?_⟩) hS2 ?_
        rotate_left
        · intro wx hSx
          try dsimp only at hSx
          go_simp
          try with_reducible rfl
        simp only [Act.put, List.getElem_toArray, List.getElem_cons_zero, List.getElem_cons_succ, List.setIfInBounds_toArray, List.set_cons_zero, List.set_cons_succ]
        refine wpAnyH_take (i := 28) (v := ?_) rfl (by kernel_rfl) (by kernel_rfl) (by kernel_rfl) (fun _ _ _ h => h) (Or.inl ⟨by rfl, ?_⟩) hS2 ?_
        rotate_left
        · intro wx hSx
          try dsimp only at hSx
          go_simp
          try with_reducible rfl
        simp only [Act.put, List.getElem_toArray, List.getElem_cons_zero, List.getElem_cons_succ, List.setIfInBounds_toArray, List.set_cons_zero, List.set_cons_succ]
        refine wpAnyH_take (i := 29) (v := ?_) rfl (by kernel_rfl) (by kernel_rfl) (by kernel_rfl) (fun _ _ _ h => h) (Or.inl ⟨by rfl, ?_⟩) hS2 ?_
        rotate_left
        · intro wx hSx
          try dsimp only at hSx
          go_simp
          try with_reducible rfl
        simp only [Act.put, List.getElem_toArray, List.getElem_cons_zero, List.getElem_cons_succ, List.setIfInBounds_toArray, List.set_cons_zero, List.set_cons_succ]
        refine wpAnyH_take (i := 30) (v := ?_) rfl (by kernel_rfl) (by kernel_rfl) (by kernel_rfl) (fun _ _ _ h => h) (Or.inl ⟨by rfl, ?_⟩) hS2 ?_
        rotate_left
        · intro wx hSx
          try dsimp only at hSx
          go_simp
          try with_reducible rfl
        simp only [Act.put, List.getElem_toArray, List.getElem_cons_zero, List.getElem_cons_succ, List.setIfInBounds_toArray, List.set_cons_zero, List.set_cons_succ]
        refine wpAnyH_take (i := 31) (v := ?_) rfl (by kernel_rfl) (by kernel_rfl) (by kernel_rfl) (fun _ _ _ h => h) (Or.inl ⟨by rfl, ?_⟩) hS2 ?_
        rotate_left
        · intro wx hSx
          try dsimp only at hSx
          go_simp
          try with_reducible rfl
        simp only [Act.put, List.getElem_toArray, List.getElem_cons_zero, List.getElem_cons_succ, List.setIfInBounds_toArray, List.set_cons_zero, List.set_cons_succ]
        refine wpAnyH_take (i := 32) (v := ?_) rfl (by kernel_rfl) (by kernel_rfl) (by kernel_rfl) (fun _ _ _ h => h) (Or.inl ⟨by rfl, ?_⟩) hS2 ?_
        rotate_left
        · intro wx hSx
          try dsimp only at hSx
          go_simp
          try with_reducible rfl
        simp only [Act.put, List.getElem_toArray, List.getElem_cons_zero, List.getElem_cons_succ, List.setIfInBounds_toArray, List.set_cons_zero, List.set_cons_succ]
        refine wpAnyH_take (i := 33) (v := ?_) rfl (by kernel_rfl) (by kernel_rfl) (by kernel_rfl) (fun _ _ _ h => h) (Or.inl ⟨by rfl, ?_⟩) hS2 ?_
        rotate_left
        · intro wx hSx
          try dsimp only at hSx
          go_simp
          try with_reducible rfl
        simp only [Act.put, List.getElem_toArray, List.getElem_cons_zero, List.getElem_cons_succ, List.setIfInBounds_toArray, List.set_cons_zero, List.set_cons_succ]
        refine wpAnyH_take (i := 34) (v := ?_) rfl (by kernel_rfl) (by kernel_rfl) (by kernel_rfl) (fun _ _ _ h => h) (Or.inl ⟨by rfl, ?_⟩) hS2 ?_
        rotate_left
        · intro wx hSx
          try dsimp only at hSx
          go_simp
          try with_reducible rfl
        simp only [Act.put, List.getElem_toArray, List.getElem_cons_zero, List.getElem_cons_succ, List.setIfInBounds_toArray, List.set_cons_zero, List.set_cons_succ]
        refine wpAnyH_ready (rs := [35]) (by kernel_rfl) (by simp) ?_
        refine AllReadyH.cons rfl (fun K hK => ?_) AllReadyH.nil
        simp only [List.getElem_toArray, List.getElem_cons_zero, List.getElem_cons_succ]
        go_simp
        refine (rbytes_any f _ (by omega)).mono ?_
        rintro e wa35 ⟨rfl, ha35⟩
        refine hK.out _ _ ⟨(hS2.1).trans ((ha35).mono (hS2.1).size), ((ha35).cell (cell_lt hS2.2.1)).trans hS2.2.1, ((ha35).cell (cell_lt hS2.2.2.1)).trans hS2.2.2.1, ((ha35).cell (cell_lt hS2.2.2.2.1)).trans hS2.2.2.2.1, ((ha35).cell (cell_lt hS2.2.2.2.2)).trans hS2.2.2.2.2⟩ (fun hS3 => ?_)
        clear hK
        refine wpAnyH_take (i := 36) (v := ?_) rfl (by kernel_rfl) (by kernel_rfl) (by kernel_rfl) (fun _ _ _ h => h) (Or.inl ⟨by rfl, ?_⟩) hS3 ?_
        rotate_left
        · intro wx hSx
          try dsimp only at hSx
          go_simp
          try with_reducible rfl
        simp only [Act.put, List.getElem_toArray, List.getElem_cons_zero, List.getElem_cons_succ, List.setIfInBounds_toArray, List.set_cons_zero, List.set_cons_succ]
        refine wpAnyH_take (i := 37) (v := ?_) rfl (by kernel_rfl) (by kernel_rfl) (by kernel_rfl) (fun _ _ _ h => h) (Or.inl ⟨by rfl, ?_⟩) hS3 ?_
        rotate_left
        · intro wx hSx
          try dsimp only at hSx
          go_simp
          try with_reducible rfl
        simp only [Act.put, List.getElem_toArray, List.getElem_cons_zero, List.getElem_cons_succ, List.setIfInBounds_toArray, List.set_cons_zero, List.set_cons_succ]
        refine wpAnyH_take (i := 38) (v := ?_) rfl (by kernel_rfl) (by kernel_rfl) (by kernel_rfl) (fun _ _ _ h => h) (Or.inl ⟨by rfl, ?_⟩) hS3 ?_
        rotate_left
        · intro wx hSx
          try dsimp only at hSx
          go_simp
          try with_reducible rfl
        simp only [Act.put, List.getElem_toArray, List.getElem_cons_zero, List.getElem_cons_succ, List.setIfInBounds_toArray, List.set_cons_zero, List.set_cons_succ]
        refine wpAnyH_take (i := 39) (v := ?_) rfl (by kernel_rfl) (by kernel_rfl) (by kernel_rfl) (fun _ _ _ h => h) (Or.inl ⟨by rfl, ?_⟩) hS3 ?_
        rotate_left
        · intro wx hSx
          try dsimp only at hSx
          go_simp
          try with_reducible rfl
        simp only [Act.put, List.getElem_toArray, List.getElem_cons_zero, List.getElem_cons_succ, List.setIfInBounds_toArray, List.set_cons_zero, List.set_cons_succ]
        refine wpAnyH_done (by kernel_rfl) ?_ _
        refine NoPanic.normal ?_
        have hb8 := hS3.1
        have HD8 := Lib.hid (HD7.out.belowS hb8)
        have KW8 := KW7.trans (Kp.of_below hb8)
        clear hb8 d0 v0 v1 v2
        go_wp2_with fail
        go_roundw
        case rel => exact ⟨k + 1, c + c', by omega, rfl, by go_num, by omega, HD8.out, KW8⟩
        case measure => simp [intOf]; omega
      · have hd12 : decide ((S.L.length : Int) ≤ 12) = false := by simp; omega
        have hd12' : decide (S.L.length ≤ 12) = false := by simp; omega
        clear h12
        go_wp2_with fail
        refine wp_region_noPanic ?_
        refine wp_region_held_drew (S := fun w' => Below w7.heap.size w7 w' ∧ w'.cell? ⟨wr.heap.size, 0, none⟩ = some (.string f.n) ∧ w'.cell? ⟨wr.heap.size, 1, none⟩ = some (.string f.s) ∧ w'.cell? ⟨wr.heap.size, 2, none⟩ = some (.string f.l) ∧ w'.cell? ⟨w.heap.size, 0, none⟩ = some (.slice (some ⟨g, off, none⟩) S.L.length scap)) (by kernel_rfl) ⟨below_draw', v0, v1, v2, d0⟩ (fun hS => ?_)
        refine wpAnyH_take (i := 0) (v := ?_) rfl (by kernel_rfl) (by kernel_rfl) (by kernel_rfl) (fun _ _ _ h => h) (Or.inl ⟨by rfl, ?_⟩) hS ?_
        rotate_left
        · intro wx hSx
          try dsimp only at hSx
          go_simp
          try with_reducible rfl
        simp only [Act.put, List.getElem_toArray, List.getElem_cons_zero, List.setIfInBounds_toArray, List.set_cons_zero, List.set_cons_succ]
        refine wpAnyH_take (i := 1) (v := ?_) rfl (by kernel_rfl) (by kernel_rfl) (by kernel_rfl) (fun _ _ _ h => h) (Or.inl ⟨by rfl, ?_⟩) hS ?_
        rotate_left
        · intro wx hSx
          try dsimp only at hSx
          go_simp
          try with_reducible rfl
        simp only [Act.put, List.getElem_toArray, List.getElem_cons_zero, List.getElem_cons_succ, List.setIfInBounds_toArray, List.set_cons_zero, List.set_cons_succ]
        refine wpAnyH_take (i := 2) (v := ?_) rfl (by kernel_rfl) (by kernel_rfl) (by kernel_rfl) (fun _ _ _ h => h) (Or.inl ⟨by rfl, ?_⟩) hS ?_
        rotate_left
        · intro wx hSx
          try dsimp only at hSx
          go_simp
          try with_reducible rfl
        simp only [Act.put, List.getElem_toArray, List.getElem_cons_zero, List.getElem_cons_succ, List.setIfInBounds_toArray, List.set_cons_zero, List.set_cons_succ]
        refine wpAnyH_take (i := 3) (v := ?_) rfl (by kernel_rfl) (by kernel_rfl) (by kernel_rfl) (fun _ _ _ h => h) (Or.inl ⟨by rfl, ?_⟩) hS ?_
        rotate_left
        · intro wx hSx
          try dsimp only at hSx
          go_simp
          try with_reducible rfl
        simp only [Act.put, List.getElem_toArray, List.getElem_cons_zero, List.getElem_cons_succ, List.setIfInBounds_toArray, List.set_cons_zero, List.set_cons_succ]
        refine wpAnyH_take (i := 4) (v := ?_) rfl (by kernel_rfl) (by kernel_rfl) (by kernel_rfl) (fun _ _ _ h => h) (Or.inl ⟨by rfl, ?_⟩) hS ?_
        rotate_left
        · intro wx hSx
          try dsimp only at hSx
          go_simp
          try with_reducible rfl
        simp only [Act.put, List.getElem_toArray, List.getElem_cons_zero, List.getElem_cons_succ, List.setIfInBounds_toArray, List.set_cons_zero, List.set_cons_succ]
        refine wpAnyH_take (i := 5) (v := ?_) rfl (by kernel_rfl) (by kernel_rfl) (by kernel_rfl) (fun _ _ _ h => h) (Or.inl ⟨by rfl, ?_⟩) hS ?_
        rotate_left
        · intro wx hSx
          try dsimp only at hSx
          go_simp
          try with_reducible rfl
        simp only [Act.put, List.getElem_toArray, List.getElem_cons_zero, List.getElem_cons_succ, List.setIfInBounds_toArray, List.set_cons_zero, List.set_cons_succ]
        refine wpAnyH_take (i := 6) (v := ?_) rfl (by kernel_rfl) (by kernel_rfl) (by kernel_rfl) (fun _ _ _ h => h) (Or.inl ⟨by rfl, ?_⟩) hS ?_
        rotate_left
        · intro wx hSx
          try dsimp only at hSx
          go_simp
          try with_reducible rfl
        simp only [Act.put, List.getElem_toArray, List.getElem_cons_zero, List.getElem_cons_succ, List.setIfInBounds_toArray, List.set_cons_zero, List.set_cons_succ]
        refine wpAnyH_ready (rs := [7]) (by kernel_rfl) (by simp) ?_
        refine AllReadyH.cons rfl (fun K hK => ?_) AllReadyH.nil
        simp only [List.getElem_toArray, List.getElem_cons_zero, List.getElem_cons_succ]
        go_simp
        refine (rbytes_any f _ (by omega)).mono ?_
        rintro e wa7 ⟨rfl, ha7⟩
        refine hK.out _ _ ⟨(hS.1).trans ((ha7).mono (hS.1).size), ((ha7).cell (cell_lt hS.2.1)).trans hS.2.1, ((ha7).cell (cell_lt hS.2.2.1)).trans hS.2.2.1, ((ha7).cell (cell_lt hS.2.2.2.1)).trans hS.2.2.2.1, ((ha7).cell (cell_lt hS.2.2.2.2)).trans hS.2.2.2.2⟩ (fun hS1 => ?_)
        clear hK
        refine wpAnyH_take (i := 8) (v := ?_) rfl (by kernel_rfl) (by kernel_rfl) (by kernel_rfl) (fun _ _ _ h => h) (Or.inl ⟨by rfl, ?_⟩) hS1 ?_
        rotate_left
        · intro wx hSx
          try dsimp only at hSx
          go_simp
          try with_reducible rfl
        simp only [Act.put, List.getElem_toArray, List.getElem_cons_zero, List.getElem_cons_succ, List.setIfInBounds_toArray, List.set_cons_zero, List.set_cons_succ]
        refine wpAnyH_take (i := 9) (v := ?_) rfl (by kernel_rfl) (by kernel_rfl) (by kernel_rfl) (fun _ _ _ h => h) (Or.inl ⟨by rfl, ?_⟩) hS1 ?_
        rotate_left
        · intro wx hSx
          try dsimp only at hSx
          go_simp
          try with_reducible rfl
        simp only [Act.put, List.getElem_toArray, List.getElem_cons_zero, List.getElem_cons_succ, List.setIfInBounds_toArray, List.set_cons_zero, List.set_cons_succ]
        refine wpAnyH_take (i := 10) (v := ?_) rfl (by kernel_rfl) (by kernel_rfl) (by kernel_rfl) (fun _ _ _ h => h) (Or.inl ⟨by rfl, ?_⟩) hS1 ?_
        rotate_left
        · intro wx hSx
          try dsimp only at hSx
          go_simp
          try with_reducible rfl
        simp only [Act.put, List.getElem_toArray, List.getElem_cons_zero, List.getElem_cons_succ, List.setIfInBounds_toArray, List.set_cons_zero, List.set_cons_succ]
        refine wpAnyH_take (i := 11) (v := ?_) rfl (by kernel_rfl) (by kernel_rfl) (by kernel_rfl) (fun _ _ _ h => h) (Or.inl ⟨by rfl, ?_⟩) hS1 ?_
        rotate_left
        · intro wx hSx
          try dsimp only at hSx
          go_simp
          try with_reducible rfl
        simp only [Act.put, List.getElem_toArray, List.getElem_cons_zero, List.getElem_cons_succ, List.setIfInBounds_toArray, List.set_cons_zero, List.set_cons_succ]
        refine wpAnyH_take (i := 12) (v := ?_) rfl (by kernel_rfl) (by kernel_rfl) (by kernel_rfl) (fun _ _ _ h => h) (Or.inl ⟨by rfl, ?_⟩) hS1 ?_
        rotate_left
        · intro wx hSx
          try dsimp only at hSx
          go_simp
          try with_reducible rfl
        simp only [Act.put, List.getElem_toArray, List.getElem_cons_zero, List.getElem_cons_succ, List.setIfInBounds_toArray, List.set_cons_zero, List.set_cons_succ]
        refine wpAnyH_take (i := 13) (v := ?_) rfl (by kernel_rfl) (by kernel_rfl) (by kernel_rfl) (fun _ _ _ h => h) (Or.inl ⟨by rfl, ?_⟩) hS1 ?_
        rotate_left
        · intro wx hSx
          try dsimp only at hSx
          go_simp
          try with_reducible rfl
        simp only [Act.put, List.getElem_toArray, List.getElem_cons_zero, List.getElem_cons_succ, List.setIfInBounds_toArray, List.set_cons_zero, List.set_cons_succ]
        refine wpAnyH_take (i := 14) (v := ?_) rfl (by kernel_rfl) (by kernel_rfl) (by kernel_rfl) (fun _ _ _ h => h) (Or.inl ⟨by rfl, ?_⟩) hS1 ?_
        rotate_left
        · intro wx hSx
          try dsimp only at hSx
          go_simp
          try with_reducible rfl
        simp only [Act.put, List.getElem_toArray, List.getElem_cons_zero, List.getElem_cons_succ, List.setIfInBounds_toArray, List.set_cons_zero, List.set_cons_succ]
        refine wpAnyH_take (i := 15) (v := ?_) rfl (by kernel_rfl) (by kernel_rfl) (by kernel_rfl) (fun _ _ _ h => h) (Or.inl ⟨by rfl, ?_⟩) hS1 ?_
        rotate_left
        · intro wx hSx
          try dsimp only at hSx
          go_simp
          try with_reducible rfl
        simp only [Act.put, List.getElem_toArray, List.getElem_cons_zero, List.getElem_cons_succ, List.setIfInBounds_toArray, List.set_cons_zero, List.set_cons_succ]
        refine wpAnyH_take (i := 16) (v := ?_) rfl (by kernel_rfl) (by kernel_rfl) (by kernel_rfl) (fun _ _ _ h => h) (Or.inl ⟨by rfl, ?_⟩) hS1 ?_
        rotate_left
        · intro wx hSx
          try dsimp only at hSx
          go_simp
          try with_reducible rfl
        simp only [Act.put, List.getElem_toArray, List.getElem_cons_zero, List.getElem_cons_succ, List.setIfInBounds_toArray, List.set_cons_zero, List.set_cons_succ]
        refine wpAnyH_take (i := 17) (v := ?_) rfl (by kernel_rfl) (by kernel_rfl) (by kernel_rfl) (fun _ _ _ h => h) (Or.inl ⟨by rfl, ?_⟩) hS1 ?_
        rotate_left
        · intro wx hSx
          try dsimp only at hSx
          go_simp
          try with_reducible rfl
        simp only [Act.put, List.getElem_toArray, List.getElem_cons_zero, List.getElem_cons_succ, List.setIfInBounds_toArray, List.set_cons_zero, List.set_cons_succ]
        refine wpAnyH_take (i := 19) (v := ?_) rfl (by kernel_rfl) (by kernel_rfl) (by kernel_rfl) (fun _ _ _ h => h) (Or.inl ⟨by rfl, ?_⟩) hS1 ?_
        rotate_left
        · intro wx hSx
          try dsimp only at hSx
          go_simp
          try with_reducible rfl
        simp only [Act.put, List.getElem_toArray, List.getElem_cons_zero, List.getElem_cons_succ, List.setIfInBounds_toArray, List.set_cons_zero, List.set_cons_succ]
        refine wpAnyH_take (i := 20) (v := ?_) rfl (by kernel_rfl) (by kernel_rfl) (by kernel_rfl) (fun _ _ _ h => h) (Or.inl ⟨by rfl, ?_⟩) hS1 ?_
        rotate_left
        · intro wx hSx
          try dsimp only at hSx
          go_simp
          try with_reducible rfl
        simp only [Act.put, List.getElem_toArray, List.getElem_cons_zero, List.getElem_cons_succ, List.setIfInBounds_toArray, List.set_cons_zero, List.set_cons_succ]
        refine wpAnyH_take (i := 21) (v := ?_) rfl (by kernel_rfl) (by kernel_rfl) (by kernel_rfl) (fun _ _ _ h => h) (Or.inl ⟨by rfl, ?_⟩) hS1 ?_
        rotate_left
        · intro wx hSx
          try dsimp only at hSx
          go_simp
          try with_reducible rfl
        simp only [Act.put, List.getElem_toArray, List.getElem_cons_zero, List.getElem_cons_succ, List.setIfInBounds_toArray, List.set_cons_zero, List.set_cons_succ]
        refine wpAnyH_ready (rs := [18]) (by kernel_rfl) (by simp) ?_
        refine AllReadyH.cons rfl (fun K hK => ?_) AllReadyH.nil
        simp only [List.getElem_toArray, List.getElem_cons_zero, List.getElem_cons_succ]
        go_simp
        refine (loose_f (HDW.out.belowS (hbW7.trans ((hS1.1).mono hbW7.size))) HLS.out HFN.out (by omega)).mono ?_
        rintro e wa18 ⟨rfl, ha18⟩
        refine hK.out _ _ ⟨(hS1.1).trans ((ha18).mono (hS1.1).size), ((ha18).cell (cell_lt hS1.2.1)).trans hS1.2.1, ((ha18).cell (cell_lt hS1.2.2.1)).trans hS1.2.2.1, ((ha18).cell (cell_lt hS1.2.2.2.1)).trans hS1.2.2.2.1, ((ha18).cell (cell_lt hS1.2.2.2.2)).trans hS1.2.2.2.2⟩ (fun hS2 => ?_)
        clear hK
        refine wpAnyH_take (i := 22) (v := ?_) rfl (by kernel_rfl) (by kernel_rfl) (by kernel_rfl) (fun _ _ _ h => h) (Or.inl ⟨by rfl, ?_⟩) hS2 ?_
        rotate_left
        · intro wx hSx
          try dsimp only at hSx
          go_simp
          try with_reducible rfl
        simp only [Act.put, List.getElem_toArray, List.getElem_cons_zero, List.getElem_cons_succ, List.setIfInBounds_toArray, List.set_cons_zero, List.set_cons_succ]
        refine wpAnyH_take (i := 23) (v := ?_) rfl (by kernel_rfl) (by kernel_rfl) (by kernel_rfl) (fun _ _ _ h => h) (Or.inl ⟨by rfl, ?_⟩) hS2 ?_
        rotate_left
        · intro wx hSx
          try dsimp only at hSx
          go_simp
          try with_reducible rfl
        simp only [Act.put, List.getElem_toArray, List.getElem_cons_zero, List.getElem_cons_succ, List.setIfInBounds_toArray, List.set_cons_zero, List.set_cons_succ]
        refine wpAnyH_take (i := 24) (v := ?_) rfl (by kernel_rfl) (by kernel_rfl) (by kernel_rfl) (fun _ _ _ h => h) (Or.inl ⟨by rfl, ?_⟩) hS2 ?_
        rotate_left
        · intro wx hSx
          try dsimp only at hSx
          go_simp
          try with_reducible rfl
        simp only [Act.put, List.getElem_toArray, List.getElem_cons_zero, List.getElem_cons_succ, List.setIfInBounds_toArray, List.set_cons_zero, List.set_cons_succ]
        refine wpAnyH_take (i := 25) (v := ?_) rfl (by kernel_rfl) (by kernel_rfl) (by kernel_rfl) (fun _ _ _ h => h) (Or.inl ⟨by rfl, ?_⟩) hS2 ?_
        rotate_left
        · intro wx hSx
          try dsimp only at hSx
          go_simp
          try with_reducible rfl
        simp only [Act.put, List.getElem_toArray, List.getElem_cons_zero, List.getElem_cons_succ, List.setIfInBounds_toArray, List.set_cons_zero, List.set_cons_succ]
        refine wpAnyH_take (i := 26) (v := ?_) rfl (by kernel_rfl) (by kernel_rfl) (by kernel_rfl) (fun _ _ _ h => h) (Or.inl ⟨by rfl, ?_⟩) hS2 ?_
        rotate_left
        · intro wx hSx
          try dsimp only at hSx
          go_simp
          try with_reducible rfl
        simp only [Act.put, List.getElem_toArray, List.getElem_cons_zero, List.getElem_cons_succ, List.setIfInBounds_toArray, List.set_cons_zero, List.set_cons_succ]
        refine wpAnyH_take (i := 27) (v := ?_) rfl (by kernel_rfl) (by kernel_rfl) (by kernel_rfl) (fun _ _ _ h => h) (Or.inl ⟨by rfl, ?_⟩) hS2 ?_
        rotate_left
        · intro wx hSx
          try dsimp only at hSx
          go_simp
          try with_reducible rfl
        simp only [Act.put, List.getElem_toArray, List.getElem_cons_zero, List.getElem_cons_succ, List.setIfInBounds_toArray, List.set_cons_zero, List.set_cons_succ]
        refine wpAnyH_take (i := 28) (v := ?_) rfl (by kernel_rfl) (by kernel_rfl) (by kernel_rfl) (fun _ _ _ h => h) (Or.inl ⟨by rfl, ?_⟩) hS2 ?_
        rotate_left
        · intro wx hSx
          try dsimp only at hSx
          go_simp
          try with_reducible rfl
        simp only [Act.put, List.getElem_toArray, List.getElem_cons_zero, List.getElem_cons_succ, List.setIfInBounds_toArray, List.set_cons_zero, List.set_cons_succ]
        refine wpAnyH_take (i := 29) (v := ?_) rfl (by kernel_rfl) (by kernel_rfl) (by kernel_rfl) (fun _ _ _ h => h) (Or.inl ⟨by rfl, ?_⟩) hS2 ?_
        rotate_left
        · intro wx hSx
          try dsimp only at hSx
          go_simp
          try with_reducible rfl
        simp only [Act.put, List.getElem_toArray, List.getElem_cons_zero, List.getElem_cons_succ, List.setIfInBounds_toArray, List.set_cons_zero, List.set_cons_succ]
        refine wpAnyH_take (i := 30) (v := undef) rfl (by kernel_rfl) (by kernel_rfl) (by kernel_rfl) (fun _ _ _ h => h) (Or.inr ⟨by rfl, rfl⟩) hS2 ?_
        simp only [Act.put, List.getElem_toArray, List.getElem_cons_zero, List.getElem_cons_succ, List.setIfInBounds_toArray, List.set_cons_zero, List.set_cons_succ]
        refine wpAnyH_take (i := 31) (v := undef) rfl (by kernel_rfl) (by kernel_rfl) (by kernel_rfl) (fun _ _ _ h => h) (Or.inr ⟨by rfl, rfl⟩) hS2 ?_
        simp only [Act.put, List.getElem_toArray, List.getElem_cons_zero, List.getElem_cons_succ, List.setIfInBounds_toArray, List.set_cons_zero, List.set_cons_succ]
        refine wpAnyH_take (i := 32) (v := undef) rfl (by kernel_rfl) (by kernel_rfl) (by kernel_rfl) (fun _ _ _ h => h) (Or.inr ⟨by rfl, rfl⟩) hS2 ?_
        simp only [Act.put, List.getElem_toArray, List.getElem_cons_zero, List.getElem_cons_succ, List.setIfInBounds_toArray, List.set_cons_zero, List.set_cons_succ]
        refine wpAnyH_take (i := 33) (v := undef) rfl (by kernel_rfl) (by kernel_rfl) (by kernel_rfl) (fun _ _ _ h => h) (Or.inr ⟨by rfl, rfl⟩) hS2 ?_
        simp only [Act.put, List.getElem_toArray, List.getElem_cons_zero, List.getElem_cons_succ, List.setIfInBounds_toArray, List.set_cons_zero, List.set_cons_succ]
        refine wpAnyH_take (i := 34) (v := undef) rfl (by kernel_rfl) (by kernel_rfl) (by kernel_rfl) (fun _ _ _ h => h) (Or.inr ⟨by rfl, rfl⟩) hS2 ?_
        simp only [Act.put, List.getElem_toArray, List.getElem_cons_zero, List.getElem_cons_succ, List.setIfInBounds_toArray, List.set_cons_zero, List.set_cons_succ]
        refine wpAnyH_take (i := 35) (v := undef) rfl (by kernel_rfl) (by kernel_rfl) (by kernel_rfl) (fun _ _ _ h => h) (Or.inr ⟨by rfl, rfl⟩) hS2 ?_
        simp only [Act.put, List.getElem_toArray, List.getElem_cons_zero, List.getElem_cons_succ, List.setIfInBounds_toArray, List.set_cons_zero, List.set_cons_succ]
        refine wpAnyH_take (i := 36) (v := undef) rfl (by kernel_rfl) (by kernel_rfl) (by kernel_rfl) (fun _ _ _ h => h) (Or.inr ⟨by rfl, rfl⟩) hS2 ?_
        simp only [Act.put, List.getElem_toArray, List.getElem_cons_zero, List.getElem_cons_succ, List.setIfInBounds_toArray, List.set_cons_zero, List.set_cons_succ]
        refine wpAnyH_take (i := 37) (v := undef) rfl (by kernel_rfl) (by kernel_rfl) (by kernel_rfl) (fun _ _ _ h => h) (Or.inr ⟨by rfl, rfl⟩) hS2 ?_
        simp only [Act.put, List.getElem_toArray, List.getElem_cons_zero, List.getElem_cons_succ, List.setIfInBounds_toArray, List.set_cons_zero, List.set_cons_succ]
        refine wpAnyH_take (i := 38) (v := ?_) rfl (by kernel_rfl) (by kernel_rfl) (by kernel_rfl) (fun _ _ _ h => h) (Or.inl ⟨by rfl, ?_⟩) hS2 ?_
        rotate_left
        · intro wx hSx
          try dsimp only at hSx
          go_simp
          try with_reducible rfl
        simp only [Act.put, List.getElem_toArray, List.getElem_cons_zero, List.getElem_cons_succ, List.setIfInBounds_toArray, List.set_cons_zero, List.set_cons_succ]
        refine wpAnyH_take (i := 39) (v := ?_) rfl (by kernel_rfl) (by kernel_rfl) (by kernel_rfl) (fun _ _ _ h => h) (Or.inl ⟨by rfl, ?_⟩) hS2 ?_
        rotate_left
        · intro wx hSx
          try dsimp only at hSx
          go_simp
          try with_reducible rfl
        simp only [Act.put, List.getElem_toArray, List.getElem_cons_zero, List.getElem_cons_succ, List.setIfInBounds_toArray, List.set_cons_zero, List.set_cons_succ]
        refine wpAnyH_done (by kernel_rfl) ?_ _
        refine NoPanic.normal ?_
        have hb8 := hS2.1
        have HD8 := Lib.hid (HD7.out.belowS hb8)
        have KW8 := KW7.trans (Kp.of_below hb8)
        clear hb8 d0 v0 v1 v2
        go_wp2_with fail
        go_roundw
        case rel => exact ⟨k + 1, c + c', by omega, rfl, by go_num, by omega, HD8.out, KW8⟩
        case measure => simp [intOf]; omega
    · go_wp2_with fail
      go_ret
      exact ⟨rfl, hBW.trans (hbWr.mono (Nat.le_of_lt hwW))⟩
end Go.Proofs.Ytgkphogefpmeaaa
