/- The walk of the law's Does. -/
import Derived.Test.YtgkphogefpmeaaaRfJ
namespace Go.Proofs.Ytgkphogefpmeaaa
open Go.RowKit Go.Maps DkM

theorem rf_of {w : World} {lo : Nat} {sl : Value} {S : Dk} (hF : FsAt w lo sl S.L) (B : Bd S) (hl : S.L.length ≤ 1000000) (hnm : ∀ f ∈ S.L, f.n.size ≤ maxLen) : RfAt w lo sl S :=
  ⟨hF, hl, B.used1, B.used, fun f hf => by have := hnm f hf; unfold maxLen at this; omega⟩

set_option maxRecDepth 100000 in
set_option maxHeartbeats 1000000 in
theorem does5_any {w : World} {lo : Nat} {sl : Value} {S : Dk} (hF : FsAt w lo sl S.L) (B : Bd S) (hl : S.L.length ≤ 1000000) (hnm : ∀ f ∈ S.L, f.n.size ≤ maxLen) {o : Op5} (ho : OkOp o) {ks : List Int} {kb : Nat} {K : Value} (hK : IntsAt w kb ks K) (hkb : 0 < ks.length → kb < w.heap.size) (hkw : ∀ x ∈ ks, -9223372036854775808 ≤ x ∧ x ≤ 9223372036854775807) :
    Calls Try.prog 16 #[rfV sl S, opV o, K] w (RdPost sl S.L (doOp S o ks) w) := by
  have h := rf_of hF B hl hnm
  obtain ⟨SA, scap, hsl, -, -⟩ := hF
  subst hsl
  obtain ⟨W, hW, bD, bO, bR, hbW⟩ := three_boxes w (.slice SA S.L.length scap) S o
  have HW := Lib.hid hW
  have BD := Lib.hid bD
  have BO := Lib.hid bO
  have BR := Lib.hid bR
  have HRW := Lib.hid (h.below hbW)
  have HKW := Lib.hid (hK.keep (w' := W) (fun h0 => hbW.block kb (hkb h0)))
  have hks := Lib.hid (fun h0 => Nat.lt_of_lt_of_le (hkb h0) hbW.size)
  have HKR := Lib.hid hkw
  have HB := Lib.hid B
  have hn0 := ho.n0
  have hn1 := ho.n1
  have HO := Lib.hid ho
  have hWs : w.heap.size + 1 + 1 < W.heap.size := bR.lt
  clear bD bO bR hW h ho B hkb hkw hnm hl
  by_cases h04 : 0 ≤ o.k ∧ o.k ≤ 4
  · obtain ⟨k0, k4⟩ := h04
    have k4' : o.k < 5 := by omega
    have HD := Lib.hid (rdo_any HRW.out HB.out.rise HO.out k0 k4 HB.out.lim1 HB.out.fuse0 HB.out.fuse1 HB.out.ops0 HB.out.ops1 ks)
    generalize hT : doOp S o ks = T at HD

    clear hT
    have d0 : W.cell? ⟨w.heap.size, 0, none⟩ = some ((.slice SA S.L.length scap)) := BD.out.cell 0
    have d1 : W.cell? ⟨w.heap.size, 1, none⟩ = some (.int .i64 S.lim) := BD.out.cell 1
    have d2 : W.cell? ⟨w.heap.size, 2, none⟩ = some (.int .i64 S.fuse) := BD.out.cell 2
    have d3 : W.cell? ⟨w.heap.size, 3, none⟩ = some (.int .i64 S.ops) := BD.out.cell 3
    have d4 : W.cell? ⟨w.heap.size, 4, none⟩ = some (.int .i64 S.reads) := BD.out.cell 4
    have d5 : W.cell? ⟨w.heap.size, 5, none⟩ = some (.bool S.down) := BD.out.cell 5
    have fd2 := BD.out.frozen 2
    have o0 : W.cell? ⟨w.heap.size + 1, 0, none⟩ = some (.int .i64 o.k) := BO.out.cell 0
    have o1 : W.cell? ⟨w.heap.size + 1, 1, none⟩ = some (.string o.a) := BO.out.cell 1
    have o2 : W.cell? ⟨w.heap.size + 1, 2, none⟩ = some (.string o.b) := BO.out.cell 2
    have o3 : W.cell? ⟨w.heap.size + 1, 3, none⟩ = some (.int .i64 o.n) := BO.out.cell 3
    have r0 : W.cell? ⟨w.heap.size + 1 + 1, 0, none⟩ = some (.slice none 0 0) := BR.out.cell 0
    have r1 : W.cell? ⟨w.heap.size + 1 + 1, 1, none⟩ = some (.int .i64 0) := BR.out.cell 1
    have r2 : W.cell? ⟨w.heap.size + 1 + 1, 2, none⟩ = some (.int .i64 0) := BR.out.cell 2
    have r3 : W.cell? ⟨w.heap.size + 1 + 1, 3, none⟩ = some (.int .i64 0) := BR.out.cell 3
    have r4 : W.cell? ⟨w.heap.size + 1 + 1, 4, none⟩ = some (.int .i64 0) := BR.out.cell 4
    have r5 : W.cell? ⟨w.heap.size + 1 + 1, 5, none⟩ = some (.bool false) := BR.out.cell 5
    have fr0 := BR.out.frozen 0
    have fr1 := BR.out.frozen 1
    have fr2 := BR.out.frozen 2
    have fr3 := BR.out.frozen 3
    have fr4 := BR.out.frozen 4
    have fr5 := BR.out.frozen 5
    go_enter Try.func16, Try.ntmps16
    go_wp2_with fail
    rw [← HW.out]
    refine HD.out.mono ?_
    rintro e w5 ⟨v, rfl, hF5, hb5⟩
    clear d0 d1 d2 d3 d4 d5 fd2 o0 o1 o2 o3 r0 r1 r2 r3 r4 r5 fr0 fr1 fr2 fr3 fr4 fr5
    have BR5 := Lib.hid (BR.out.below' hb5)
    have hbw5 : Below w.heap.size w w5 := hbW.trans (hb5.mono hbW.size)
    have ltR5 : w.heap.size + 1 + 1 < w5.heap.size := BR5.out.lt
    rcases hF5 with ⟨rfl, hL⟩ | hF5
    · have HL := Lib.hid hL
      clear hL hb5
      have r0 : w5.cell? ⟨w.heap.size + 1 + 1, 0, none⟩ = some (.slice none 0 0) := BR5.out.cell 0
      have r1 : w5.cell? ⟨w.heap.size + 1 + 1, 1, none⟩ = some (.int .i64 0) := BR5.out.cell 1
      have r2 : w5.cell? ⟨w.heap.size + 1 + 1, 2, none⟩ = some (.int .i64 0) := BR5.out.cell 2
      have r3 : w5.cell? ⟨w.heap.size + 1 + 1, 3, none⟩ = some (.int .i64 0) := BR5.out.cell 3
      have r4 : w5.cell? ⟨w.heap.size + 1 + 1, 4, none⟩ = some (.int .i64 0) := BR5.out.cell 4
      have r5 : w5.cell? ⟨w.heap.size + 1 + 1, 5, none⟩ = some (.bool false) := BR5.out.cell 5
      have fr0 := BR5.out.frozen 0
      have fr1 := BR5.out.frozen 1
      have fr2 := BR5.out.frozen 2
      have fr3 := BR5.out.frozen 3
      have fr4 := BR5.out.frozen 4
      have fr5 := BR5.out.frozen 5
      go_wp2_with fail
      refine bodyPost_ret (results_row2 (p := 6) (a := 7) rfl _ _ _ _ _ _ _ rfl (six_set BR5.out (.slice SA S.L.length scap) T.1 rfl) Try.underlying30 rfl info_disk) rfl ?_
      exact ⟨_, rfl, Or.inl ⟨rfl, HL.out⟩, six_below hbw5 (by omega) _ _ _ _ _ _⟩
    · have HF5 := Lib.hid hF5
      obtain ⟨VA, vcap, hv, -, -⟩ := hF5
      subst hv
      clear hb5
      have r0 : w5.cell? ⟨w.heap.size + 1 + 1, 0, none⟩ = some (.slice none 0 0) := BR5.out.cell 0
      have r1 : w5.cell? ⟨w.heap.size + 1 + 1, 1, none⟩ = some (.int .i64 0) := BR5.out.cell 1
      have r2 : w5.cell? ⟨w.heap.size + 1 + 1, 2, none⟩ = some (.int .i64 0) := BR5.out.cell 2
      have r3 : w5.cell? ⟨w.heap.size + 1 + 1, 3, none⟩ = some (.int .i64 0) := BR5.out.cell 3
      have r4 : w5.cell? ⟨w.heap.size + 1 + 1, 4, none⟩ = some (.int .i64 0) := BR5.out.cell 4
      have r5 : w5.cell? ⟨w.heap.size + 1 + 1, 5, none⟩ = some (.bool false) := BR5.out.cell 5
      have fr0 := BR5.out.frozen 0
      have fr1 := BR5.out.frozen 1
      have fr2 := BR5.out.frozen 2
      have fr3 := BR5.out.frozen 3
      have fr4 := BR5.out.frozen 4
      have fr5 := BR5.out.frozen 5
      go_wp2_with fail
      refine bodyPost_ret (results_row2 (p := 6) (a := 7) rfl _ _ _ _ _ _ _ rfl (six_set BR5.out (.slice VA T.1.L.length vcap) T.1 rfl) Try.underlying30 rfl info_disk) rfl ?_
      exact ⟨_, rfl, Or.inr ((HF5.out.six hWs _ _ _ _ _ _).mono hbW.size), six_below hbw5 (by omega) _ _ _ _ _ _⟩
  by_cases e5 : o.k = 5
  · have hk := e5
    clear h04 e5
    have HD := Lib.hid (rread_any HRW.out (n := o.a) o.n hn0 hn1 HB.out.reads0 HB.out.reads1)
    have HE := Lib.hid (show doOp S o ks = (doRd S o.a o.n, (rdS S o.a o.n).2) by unfold doOp; simp [hk])
    have HTL := Lib.hid (show (doRd S o.a o.n).L = S.L by unfold doRd; split <;> rfl)
    generalize hT : doRd S o.a o.n = T at HD HE HTL
    generalize hQ : rdS S o.a o.n = Q at HD HE
    clear hT hQ hn0 hn1
    have kge : 0 ≤ o.k := by omega
    have kge5 : 5 ≤ o.k := by omega
    have g5 : (o.k == 5) = true := by simp [hk]
    clear hk
    have d0 : W.cell? ⟨w.heap.size, 0, none⟩ = some ((.slice SA S.L.length scap)) := BD.out.cell 0
    have d1 : W.cell? ⟨w.heap.size, 1, none⟩ = some (.int .i64 S.lim) := BD.out.cell 1
    have d2 : W.cell? ⟨w.heap.size, 2, none⟩ = some (.int .i64 S.fuse) := BD.out.cell 2
    have d3 : W.cell? ⟨w.heap.size, 3, none⟩ = some (.int .i64 S.ops) := BD.out.cell 3
    have d4 : W.cell? ⟨w.heap.size, 4, none⟩ = some (.int .i64 S.reads) := BD.out.cell 4
    have d5 : W.cell? ⟨w.heap.size, 5, none⟩ = some (.bool S.down) := BD.out.cell 5
    have fd2 := BD.out.frozen 2
    have o0 : W.cell? ⟨w.heap.size + 1, 0, none⟩ = some (.int .i64 o.k) := BO.out.cell 0
    have o1 : W.cell? ⟨w.heap.size + 1, 1, none⟩ = some (.string o.a) := BO.out.cell 1
    have o2 : W.cell? ⟨w.heap.size + 1, 2, none⟩ = some (.string o.b) := BO.out.cell 2
    have o3 : W.cell? ⟨w.heap.size + 1, 3, none⟩ = some (.int .i64 o.n) := BO.out.cell 3
    have r0 : W.cell? ⟨w.heap.size + 1 + 1, 0, none⟩ = some (.slice none 0 0) := BR.out.cell 0
    have r1 : W.cell? ⟨w.heap.size + 1 + 1, 1, none⟩ = some (.int .i64 0) := BR.out.cell 1
    have r2 : W.cell? ⟨w.heap.size + 1 + 1, 2, none⟩ = some (.int .i64 0) := BR.out.cell 2
    have r3 : W.cell? ⟨w.heap.size + 1 + 1, 3, none⟩ = some (.int .i64 0) := BR.out.cell 3
    have r4 : W.cell? ⟨w.heap.size + 1 + 1, 4, none⟩ = some (.int .i64 0) := BR.out.cell 4
    have r5 : W.cell? ⟨w.heap.size + 1 + 1, 5, none⟩ = some (.bool false) := BR.out.cell 5
    have fr0 := BR.out.frozen 0
    have fr1 := BR.out.frozen 1
    have fr2 := BR.out.frozen 2
    have fr3 := BR.out.frozen 3
    have fr4 := BR.out.frozen 4
    have fr5 := BR.out.frozen 5
    go_enter Try.func16, Try.ntmps16
    go_wp2_with fail
    rw [← HW.out]
    refine HD.out.mono ?_
    rintro e w5 ⟨rfl, hb5⟩
    clear d0 d1 d2 d3 d4 d5 fd2 o0 o1 o2 o3 r0 r1 r2 r3 r4 r5 fr0 fr1 fr2 fr3 fr4 fr5
    have BR5 := Lib.hid (BR.out.below' hb5)
    have hbw5 : Below w.heap.size w w5 := hbW.trans (hb5.mono hbW.size)
    have ltR5 : w.heap.size + 1 + 1 < w5.heap.size := BR5.out.lt
    clear hb5
    have r0 : w5.cell? ⟨w.heap.size + 1 + 1, 0, none⟩ = some (.slice none 0 0) := BR5.out.cell 0
    have r1 : w5.cell? ⟨w.heap.size + 1 + 1, 1, none⟩ = some (.int .i64 0) := BR5.out.cell 1
    have r2 : w5.cell? ⟨w.heap.size + 1 + 1, 2, none⟩ = some (.int .i64 0) := BR5.out.cell 2
    have r3 : w5.cell? ⟨w.heap.size + 1 + 1, 3, none⟩ = some (.int .i64 0) := BR5.out.cell 3
    have r4 : w5.cell? ⟨w.heap.size + 1 + 1, 4, none⟩ = some (.int .i64 0) := BR5.out.cell 4
    have r5 : w5.cell? ⟨w.heap.size + 1 + 1, 5, none⟩ = some (.bool false) := BR5.out.cell 5
    have fr0 := BR5.out.frozen 0
    have fr1 := BR5.out.frozen 1
    have fr2 := BR5.out.frozen 2
    have fr3 := BR5.out.frozen 3
    have fr4 := BR5.out.frozen 4
    have fr5 := BR5.out.frozen 5
    go_wp2_with fail
    refine bodyPost_ret (results_row2 (p := 6) (a := 7) rfl _ _ _ _ _ _ _ rfl (Blk.alloc (six_set BR5.out (.slice SA S.L.length scap) T rfl) _) Try.underlying30 rfl info_disk) rfl ?_
    rw [HE.out]
    exact ⟨_, rfl, Or.inl ⟨rfl, HTL.out⟩, (six_below hbw5 (by omega) _ _ _ _ _ _).alloc (by simp; exact hbw5.size) _⟩
  by_cases e6 : o.k = 6
  · have hk := e6
    clear h04 e6 e5
    have HE := Lib.hid (show doOp S o ks = ({ S with fuse := max o.n (-1) }, 0) by unfold doOp; simp [hk])
    have kge : 0 ≤ o.k := by omega
    have kge5 : 5 ≤ o.k := by omega
    have g5 : (o.k == 5) = false := by simp [hk]
    have g6 : (o.k == 6) = true := by simp [hk]
    clear hk
    go_enter Try.func16, Try.ntmps16
    go_wp2_with fail
    refine bodyPost_ret (results_row2 (p := 6) (a := 7) rfl _ _ _ _ _ _ _ rfl (blk_third w _ _ 30 #[(.slice SA S.L.length scap), .int .i64 S.lim, .int .i64 (max o.n (-1)), .int .i64 S.ops, .int .i64 S.reads, .bool S.down]) Try.underlying30 rfl info_disk) rfl ?_
    rw [HE.out]
    exact ⟨_, rfl, Or.inl ⟨rfl, rfl⟩, below_three _ _ _ _⟩
  by_cases e7 : o.k = 7
  · have hk := e7
    clear h04 e7 e5 e6
    have HD := Lib.hid (rcrash_any HRW.out HB.out.rise HKW.out hks.out HKR.out)
    have HE := Lib.hid (show doOp S o ks = (doCr S ks, 0) by unfold doOp; simp [hk])
    generalize hT : doCr S ks = T at HD HE
    clear hT
    have kge : 0 ≤ o.k := by omega
    have kge5 : 5 ≤ o.k := by omega
    have g5 : (o.k == 5) = false := by simp [hk]
    have g6 : (o.k == 6) = false := by simp [hk]
    have g7 : (o.k == 7) = true := by simp [hk]
    clear hk
    have d0 : W.cell? ⟨w.heap.size, 0, none⟩ = some ((.slice SA S.L.length scap)) := BD.out.cell 0
    have d1 : W.cell? ⟨w.heap.size, 1, none⟩ = some (.int .i64 S.lim) := BD.out.cell 1
    have d2 : W.cell? ⟨w.heap.size, 2, none⟩ = some (.int .i64 S.fuse) := BD.out.cell 2
    have d3 : W.cell? ⟨w.heap.size, 3, none⟩ = some (.int .i64 S.ops) := BD.out.cell 3
    have d4 : W.cell? ⟨w.heap.size, 4, none⟩ = some (.int .i64 S.reads) := BD.out.cell 4
    have d5 : W.cell? ⟨w.heap.size, 5, none⟩ = some (.bool S.down) := BD.out.cell 5
    have fd2 := BD.out.frozen 2
    have o0 : W.cell? ⟨w.heap.size + 1, 0, none⟩ = some (.int .i64 o.k) := BO.out.cell 0
    have o1 : W.cell? ⟨w.heap.size + 1, 1, none⟩ = some (.string o.a) := BO.out.cell 1
    have o2 : W.cell? ⟨w.heap.size + 1, 2, none⟩ = some (.string o.b) := BO.out.cell 2
    have o3 : W.cell? ⟨w.heap.size + 1, 3, none⟩ = some (.int .i64 o.n) := BO.out.cell 3
    have r0 : W.cell? ⟨w.heap.size + 1 + 1, 0, none⟩ = some (.slice none 0 0) := BR.out.cell 0
    have r1 : W.cell? ⟨w.heap.size + 1 + 1, 1, none⟩ = some (.int .i64 0) := BR.out.cell 1
    have r2 : W.cell? ⟨w.heap.size + 1 + 1, 2, none⟩ = some (.int .i64 0) := BR.out.cell 2
    have r3 : W.cell? ⟨w.heap.size + 1 + 1, 3, none⟩ = some (.int .i64 0) := BR.out.cell 3
    have r4 : W.cell? ⟨w.heap.size + 1 + 1, 4, none⟩ = some (.int .i64 0) := BR.out.cell 4
    have r5 : W.cell? ⟨w.heap.size + 1 + 1, 5, none⟩ = some (.bool false) := BR.out.cell 5
    have fr0 := BR.out.frozen 0
    have fr1 := BR.out.frozen 1
    have fr2 := BR.out.frozen 2
    have fr3 := BR.out.frozen 3
    have fr4 := BR.out.frozen 4
    have fr5 := BR.out.frozen 5
    go_enter Try.func16, Try.ntmps16
    go_wp2_with fail
    rw [← HW.out]
    refine HD.out.mono ?_
    rintro e w5 ⟨v, rfl, hF5, hb5⟩
    clear d0 d1 d2 d3 d4 d5 fd2 o0 o1 o2 o3 r0 r1 r2 r3 r4 r5 fr0 fr1 fr2 fr3 fr4 fr5
    have BR5 := Lib.hid (BR.out.below' hb5)
    have hbw5 : Below w.heap.size w w5 := hbW.trans (hb5.mono hbW.size)
    have ltR5 : w.heap.size + 1 + 1 < w5.heap.size := BR5.out.lt
    have HF5 := Lib.hid hF5
    obtain ⟨VA, vcap, hv, -, -⟩ := hF5
    subst hv
    clear hb5
    have r0 : w5.cell? ⟨w.heap.size + 1 + 1, 0, none⟩ = some (.slice none 0 0) := BR5.out.cell 0
    have r1 : w5.cell? ⟨w.heap.size + 1 + 1, 1, none⟩ = some (.int .i64 0) := BR5.out.cell 1
    have r2 : w5.cell? ⟨w.heap.size + 1 + 1, 2, none⟩ = some (.int .i64 0) := BR5.out.cell 2
    have r3 : w5.cell? ⟨w.heap.size + 1 + 1, 3, none⟩ = some (.int .i64 0) := BR5.out.cell 3
    have r4 : w5.cell? ⟨w.heap.size + 1 + 1, 4, none⟩ = some (.int .i64 0) := BR5.out.cell 4
    have r5 : w5.cell? ⟨w.heap.size + 1 + 1, 5, none⟩ = some (.bool false) := BR5.out.cell 5
    have fr0 := BR5.out.frozen 0
    have fr1 := BR5.out.frozen 1
    have fr2 := BR5.out.frozen 2
    have fr3 := BR5.out.frozen 3
    have fr4 := BR5.out.frozen 4
    have fr5 := BR5.out.frozen 5
    go_wp2_with fail
    refine bodyPost_ret (results_row2 (p := 6) (a := 7) rfl _ _ _ _ _ _ _ rfl (six_set BR5.out (.slice VA T.L.length vcap) T rfl) Try.underlying30 rfl info_disk) rfl ?_
    rw [HE.out]
    exact ⟨_, rfl, Or.inr ((HF5.out.six hWs _ _ _ _ _ _).mono hbW.size), six_below hbw5 (by omega) _ _ _ _ _ _⟩
  have HE := Lib.hid (show doOp S o ks = (S, 0) by unfold doOp; simp [show o.k ≠ 0 by omega, show o.k ≠ 1 by omega, show o.k ≠ 2 by omega, show o.k ≠ 3 by omega, show o.k ≠ 4 by omega, e5, e6, e7])
  have g5 : (o.k == 5) = false := by simpa using e5
  have g6 : (o.k == 6) = false := by simpa using e6
  have g7 : (o.k == 7) = false := by simpa using e7
  by_cases hneg : o.k < 0
  · clear h04 e5 e6 e7
    go_enter Try.func16, Try.ntmps16
    go_wp2_with fail
    refine bodyPost_ret (results_row2 (p := 6) (a := 7) rfl _ _ _ _ _ _ _ rfl (blk_third w _ _ 30 #[(.slice SA S.L.length scap), .int .i64 S.lim, .int .i64 S.fuse, .int .i64 S.ops, .int .i64 S.reads, .bool S.down]) Try.underlying30 rfl info_disk) rfl ?_
    rw [HE.out]
    exact ⟨_, rfl, Or.inl ⟨rfl, rfl⟩, below_three _ _ _ _⟩
  · have hge8 : 5 ≤ o.k := by omega
    have hge0 : 0 ≤ o.k := by omega
    clear h04 hneg e5 e6 e7
    go_enter Try.func16, Try.ntmps16
    go_wp2_with fail
    refine bodyPost_ret (results_row2 (p := 6) (a := 7) rfl _ _ _ _ _ _ _ rfl (blk_third w _ _ 30 #[(.slice SA S.L.length scap), .int .i64 S.lim, .int .i64 S.fuse, .int .i64 S.ops, .int .i64 S.reads, .bool S.down]) Try.underlying30 rfl info_disk) rfl ?_
    rw [HE.out]
    exact ⟨_, rfl, Or.inl ⟨rfl, rfl⟩, below_three _ _ _ _⟩
end Go.Proofs.Ytgkphogefpmeaaa
