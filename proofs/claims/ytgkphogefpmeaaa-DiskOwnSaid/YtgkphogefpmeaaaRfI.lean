/- The walk of the reference's Read. -/
import Derived.Test.YtgkphogefpmeaaaRfH
import Derived.RegionTactic
namespace Go.Proofs.Ytgkphogefpmeaaa
open Go.RowKit Go.Maps DkM

theorem dr_boxes (w : World) (sl : Value) (S : Dk) : ∃ W, W = (w.alloc (.cells #[sl, .int .i64 S.lim, .int .i64 S.fuse, .int .i64 S.ops, .int .i64 S.reads, .bool S.down] 30)).alloc (.cells #[.slice none 0 0, .int .i64 0, .int .i64 0, .int .i64 0, .int .i64 0, .bool false] 30) ∧
    Blk W w.heap.size 30 (dC sl S) ∧ Blk W (w.heap.size + 1) 30 zC ∧ Below w.heap.size w W := by
  refine ⟨_, rfl, (Blk.new w _ (dC sl S)).alloc _, ?_, below_two _ _ _⟩
  have := Blk.new (w.alloc (.cells (dC sl S) 30)) 30 zC
  rw [show (w.alloc (.cells (dC sl S) 30)).heap.size = w.heap.size + 1 by simp] at this
  exact this
theorem blk_second (w : World) (a : Obj) (T : TypeId) (cs : Array Value) : Blk ((w.alloc a).alloc (.cells cs T)) (w.heap.size + 1) T cs := by
  have := Blk.new (w.alloc a) T cs
  rw [show (w.alloc a).heap.size = w.heap.size + 1 by simp] at this
  exact this
/-- A disk, bytes and an error that are handed back. -/
def RrPost (sl : Value) (S2 : Dk) (t : ByteArray) (e2 : Nat) (w : World) (e : Ending) (w' : World) : Prop := e = .returned (.tuple #[rfV sl S2, .string t, .int .i64 (e2 : Nat)]) ∧ Below w.heap.size w w'
theorem FsAt.drewN {w : World} {lo : Nat} {v : Value} {L : List Fl} (h : FsAt w lo v L) (n : Nat) : FsAt (w.drewN n) lo v L := h
theorem Blk.drewN {w : World} {g : Nat} {t : TypeId} {cs : Array Value} (h : Blk w g t cs) (n : Nat) : Blk (w.drewN n) g t cs := h
theorem Blk.drew {w : World} {g : Nat} {t : TypeId} {cs : Array Value} (h : Blk w g t cs) : Blk w.drew g t cs := h
theorem below_drewN {B : Nat} {w W : World} (h : Below B w W) (n : Nat) : Below B w (W.drewN n) := ⟨h.os, h.tape, h.output, h.size, h.block⟩
theorem below_drew2 {B : Nat} {w W : World} (h : Below B w W) : Below B w W.drew := ⟨h.os, h.tape, h.output, h.size, h.block⟩

set_option maxRecDepth 100000 in
set_option maxHeartbeats 1000000 in
theorem rread_any {w : World} {lo : Nat} {sl : Value} {S : Dk} (h : RfAt w lo sl S) {n : ByteArray} (a : Int) (hw0 : -9223372036854775808 ≤ a) (hw1 : a ≤ 9223372036854775807) (hr0 : 0 ≤ S.reads) (hr1 : S.reads ≤ 1099511627776) :
    Calls Try.prog 21 #[rfV sl S, .string n, .int .i64 a] w (RrPost sl (doRd S n a) (rdS S n a).1 (rdS S n a).2 w) := by
  obtain ⟨SA, scap, hsl, -, -⟩ := h.fs
  subst hsl
  have hlen := h.len
  obtain ⟨W, hW, bD, bR, hbW⟩ := dr_boxes w (.slice SA S.L.length scap) S
  have HW := Lib.hid hW
  have BD := Lib.hid bD
  have BR := Lib.hid bR
  have HF := Lib.hid h.fs
  have HRW := Lib.hid (h.below hbW)
  have HAT := Lib.hid (at_any HRW.out.fs n (by omega))
  have FO := Lib.hid (h.fs.old (R := w.heap.size) (Nat.le_refl _))
  have FO2 := Lib.hid (h.fs.old (R := w.heap.size + 1) (by omega))
  have HUS := Lib.hid h.usd
  have HFS := Lib.hid (h.fs.below hbW)
  clear bD bR hW h
  cases hd : S.down with
  | true =>
    have HR := Lib.hid (show rdS S n a = (nul, 50) by unfold rdS; rw [hd]; rfl)
    have HDN := Lib.hid hd
    go_enter Try.func21, Try.ntmps21
    go_wp2_with fail
    refine bodyPost_ret (results_row3 (p := 6) (a := 7) (b := 8) rfl _ _ _ _ _ _ _ rfl (blk_second w _ 30 #[(.slice SA S.L.length scap), .int .i64 S.lim, .int .i64 S.fuse, .int .i64 S.ops, .int .i64 S.reads, .bool true]) Try.underlying30 rfl info_disk) rfl ?_
    unfold doRd
    rw [HR.out]
    refine ⟨?_, below_two _ _ _⟩
    show Ending.returned (.tuple #[.agg #[(.slice SA S.L.length scap), .int .i64 S.lim, .int .i64 S.fuse, .int .i64 S.ops, .int .i64 S.reads, .bool true], _, _]) = Ending.returned (.tuple #[.agg #[(.slice SA S.L.length scap), .int .i64 S.lim, .int .i64 S.fuse, .int .i64 S.ops, .int .i64 S.reads, .bool S.down], _, _])
    rw [HDN.out]
    rfl
  | false =>
    cases hl : lkF S.L n with
    | none =>
      have HR := Lib.hid (show rdS S n a = (nul, 51) by unfold rdS; rw [hd, hl]; rfl)
      have HDN := Lib.hid hd
      have HATt := HAT.out
      unfold rfV at HATt
      rw [hd, idx_none hl] at HATt
      have HAT2 := Lib.hid HATt
      have HWt := HW.out
      rw [hd] at HWt
      have HW2 := Lib.hid HWt
      clear HWt HATt
      go_enter Try.func21, Try.ntmps21
      go_wp2_with fail
      rw [← HW2.out]
      refine HAT2.out.mono ?_
      clear hd
      rintro e w1 ⟨rfl, hb1⟩
      have BD1 := Lib.hid (BD.out.below' hb1)
      have BR1 := Lib.hid (BR.out.below' hb1)
      have HF1 := Lib.hid (HFS.out.below hb1)
      have hbw : Below w.heap.size w w1 := hbW.trans (hb1.mono hbW.size)
      have ltR : w.heap.size + 1 < w1.heap.size := BR1.out.lt
      clear hb1
      have d0 : w1.cell? ⟨w.heap.size, 0, none⟩ = some ((.slice SA S.L.length scap)) := BD1.out.cell 0
      have d1 : w1.cell? ⟨w.heap.size, 1, none⟩ = some (.int .i64 S.lim) := BD1.out.cell 1
      have d2 : w1.cell? ⟨w.heap.size, 2, none⟩ = some (.int .i64 S.fuse) := BD1.out.cell 2
      have d3 : w1.cell? ⟨w.heap.size, 3, none⟩ = some (.int .i64 S.ops) := BD1.out.cell 3
      have d4 : w1.cell? ⟨w.heap.size, 4, none⟩ = some (.int .i64 S.reads) := BD1.out.cell 4
      have d5 : w1.cell? ⟨w.heap.size, 5, none⟩ = some (.bool S.down) := BD1.out.cell 5
      have fd4 := BD1.out.frozen 4
      have r0 : w1.cell? ⟨w.heap.size + 1, 0, none⟩ = some (.slice none 0 0) := BR1.out.cell 0
      have r1 : w1.cell? ⟨w.heap.size + 1, 1, none⟩ = some (.int .i64 0) := BR1.out.cell 1
      have r2 : w1.cell? ⟨w.heap.size + 1, 2, none⟩ = some (.int .i64 0) := BR1.out.cell 2
      have r3 : w1.cell? ⟨w.heap.size + 1, 3, none⟩ = some (.int .i64 0) := BR1.out.cell 3
      have r4 : w1.cell? ⟨w.heap.size + 1, 4, none⟩ = some (.int .i64 0) := BR1.out.cell 4
      have r5 : w1.cell? ⟨w.heap.size + 1, 5, none⟩ = some (.bool false) := BR1.out.cell 5
      have fr0 := BR1.out.frozen 0
      have fr1 := BR1.out.frozen 1
      have fr2 := BR1.out.frozen 2
      have fr3 := BR1.out.frozen 3
      have fr4 := BR1.out.frozen 4
      have fr5 := BR1.out.frozen 5
      clear hl
      go_wp2_with fail
      refine bodyPost_ret (results_row3 (p := 6) (a := 7) (b := 8) rfl _ _ _ _ _ _ _ rfl (six_set BR1.out (.slice SA S.L.length scap) S rfl) Try.underlying30 rfl info_disk) rfl ?_
      unfold doRd
      rw [HR.out]
      exact ⟨rfl, six_below (hbw) (by omega) _ _ _ _ _ _⟩
    | some f =>
      obtain ⟨j, hix, hj, hLj⟩ := idx_some hl
      have hsz : f.s.size + f.l.size ≤ 1073741824 := by have := usd_le (lkF_some hl).1; have := HUS.out; omega
      have HDN := Lib.hid hd
      have HRB := Lib.hid (show rdS S n a = if a < 0 ∨ ((f.s ++ f.l).size : Int) < a then (nul, 1) else ((f.s ++ f.l).extract a.toNat (min (f.s ++ f.l).size (a.toNat + 64)), 0) by unfold rdS; rw [hd, hl]; rfl)
      by_cases hbad : a < 0 ∨ ((f.s ++ f.l).size : Int) < a
      · have HR := Lib.hid (show rdS S n a = (nul, 1) by rw [HRB.out, if_pos hbad])
        rw [app_size] at hbad
        by_cases hneg : a < 0
        · clear hbad
          have HATt := HAT.out
          unfold rfV at HATt
          rw [hd, hix] at HATt
          have HAT2 := Lib.hid HATt
          have HWt := HW.out
          rw [hd] at HWt
          have HW2 := Lib.hid HWt
          clear HWt HATt
          go_enter Try.func21, Try.ntmps21
          go_wp2_with fail
          rw [← HW2.out]
          refine HAT2.out.mono ?_
          clear hd
          rintro e w1 ⟨rfl, hb1⟩
          have BD1 := Lib.hid (BD.out.below' hb1)
          have BR1 := Lib.hid (BR.out.below' hb1)
          have HF1 := Lib.hid (HFS.out.below hb1)
          have hbw : Below w.heap.size w w1 := hbW.trans (hb1.mono hbW.size)
          have ltR : w.heap.size + 1 < w1.heap.size := BR1.out.lt
          clear hb1
          have d0 : w1.cell? ⟨w.heap.size, 0, none⟩ = some ((.slice SA S.L.length scap)) := BD1.out.cell 0
          have d1 : w1.cell? ⟨w.heap.size, 1, none⟩ = some (.int .i64 S.lim) := BD1.out.cell 1
          have d2 : w1.cell? ⟨w.heap.size, 2, none⟩ = some (.int .i64 S.fuse) := BD1.out.cell 2
          have d3 : w1.cell? ⟨w.heap.size, 3, none⟩ = some (.int .i64 S.ops) := BD1.out.cell 3
          have d4 : w1.cell? ⟨w.heap.size, 4, none⟩ = some (.int .i64 S.reads) := BD1.out.cell 4
          have d5 : w1.cell? ⟨w.heap.size, 5, none⟩ = some (.bool S.down) := BD1.out.cell 5
          have fd4 := BD1.out.frozen 4
          have r0 : w1.cell? ⟨w.heap.size + 1, 0, none⟩ = some (.slice none 0 0) := BR1.out.cell 0
          have r1 : w1.cell? ⟨w.heap.size + 1, 1, none⟩ = some (.int .i64 0) := BR1.out.cell 1
          have r2 : w1.cell? ⟨w.heap.size + 1, 2, none⟩ = some (.int .i64 0) := BR1.out.cell 2
          have r3 : w1.cell? ⟨w.heap.size + 1, 3, none⟩ = some (.int .i64 0) := BR1.out.cell 3
          have r4 : w1.cell? ⟨w.heap.size + 1, 4, none⟩ = some (.int .i64 0) := BR1.out.cell 4
          have r5 : w1.cell? ⟨w.heap.size + 1, 5, none⟩ = some (.bool false) := BR1.out.cell 5
          have fr0 := BR1.out.frozen 0
          have fr1 := BR1.out.frozen 1
          have fr2 := BR1.out.frozen 2
          have fr3 := BR1.out.frozen 3
          have fr4 := BR1.out.frozen 4
          have fr5 := BR1.out.frozen 5
          have HLj := Lib.hid hLj
          have hix2 := Lib.hid hix
          clear hl hix hLj
          obtain ⟨AA, ac, hsl2, -, hcel⟩ := HF1.out
          obtain ⟨g, off, rfl, hg1, hg2, hcc⟩ := hcel (by omega)
          obtain ⟨q0, q1, q2⟩ := hcc j hj
          rw [HLj.out] at q0 q1 q2
          injection hsl2 with e1 e2 e3
          subst e1 e3
          clear hcel hcc e2
          have nj0 : (0 : Int) ≤ (j : Int) := by omega
          have nj1 : (j : Int) < (S.L.length : Int) := by omega
          go_wp2_with fail
          refine (rbytes_any f _ (by omega)).mono ?_
          rintro e w2 ⟨rfl, hb2⟩
          have BD2 := Lib.hid (BD1.out.below' hb2)
          have BR2 := Lib.hid (BR1.out.below' hb2)
          have HF2 := Lib.hid (HF1.out.below hb2)
          have hbw2 : Below w.heap.size w w2 := hbw.trans (hb2.mono hbw.size)
          have ltR2 : w.heap.size + 1 < w2.heap.size := BR2.out.lt
          clear d0 d1 d2 d3 d4 d5 fd4 r0 r1 r2 r3 r4 r5 fr0 fr1 fr2 fr3 fr4 fr5
          clear q0 q1 q2 hb2 hbw
          have hnb : decide (a < 0) = true := by simpa using hneg
          have d0 : w2.cell? ⟨w.heap.size, 0, none⟩ = some ((.slice (some ⟨g, off, none⟩) S.L.length scap)) := BD2.out.cell 0
          have d1 : w2.cell? ⟨w.heap.size, 1, none⟩ = some (.int .i64 S.lim) := BD2.out.cell 1
          have d2 : w2.cell? ⟨w.heap.size, 2, none⟩ = some (.int .i64 S.fuse) := BD2.out.cell 2
          have d3 : w2.cell? ⟨w.heap.size, 3, none⟩ = some (.int .i64 S.ops) := BD2.out.cell 3
          have d4 : w2.cell? ⟨w.heap.size, 4, none⟩ = some (.int .i64 S.reads) := BD2.out.cell 4
          have d5 : w2.cell? ⟨w.heap.size, 5, none⟩ = some (.bool S.down) := BD2.out.cell 5
          have fd4 := BD2.out.frozen 4
          have r0 : w2.cell? ⟨w.heap.size + 1, 0, none⟩ = some (.slice none 0 0) := BR2.out.cell 0
          have r1 : w2.cell? ⟨w.heap.size + 1, 1, none⟩ = some (.int .i64 0) := BR2.out.cell 1
          have r2 : w2.cell? ⟨w.heap.size + 1, 2, none⟩ = some (.int .i64 0) := BR2.out.cell 2
          have r3 : w2.cell? ⟨w.heap.size + 1, 3, none⟩ = some (.int .i64 0) := BR2.out.cell 3
          have r4 : w2.cell? ⟨w.heap.size + 1, 4, none⟩ = some (.int .i64 0) := BR2.out.cell 4
          have r5 : w2.cell? ⟨w.heap.size + 1, 5, none⟩ = some (.bool false) := BR2.out.cell 5
          have fr0 := BR2.out.frozen 0
          have fr1 := BR2.out.frozen 1
          have fr2 := BR2.out.frozen 2
          have fr3 := BR2.out.frozen 3
          have fr4 := BR2.out.frozen 4
          have fr5 := BR2.out.frozen 5
          go_wp2_with fail
          refine bodyPost_ret (results_row3 (p := 6) (a := 7) (b := 8) rfl _ _ _ _ _ _ _ rfl (six_set BR2.out (.slice (some ⟨g, off, none⟩) S.L.length scap) S rfl) Try.underlying30 rfl info_disk) rfl ?_
          unfold doRd
          rw [HR.out]
          exact ⟨rfl, six_below (hbw2) (by omega) _ _ _ _ _ _⟩
        · have hbig : (f.s.size : Int) + (f.l.size : Int) < a := by omega
          have hneg2 : 0 ≤ a := by omega
          clear hbad hneg
          have HATt := HAT.out
          unfold rfV at HATt
          rw [hd, hix] at HATt
          have HAT2 := Lib.hid HATt
          have HWt := HW.out
          rw [hd] at HWt
          have HW2 := Lib.hid HWt
          clear HWt HATt
          go_enter Try.func21, Try.ntmps21
          go_wp2_with fail
          rw [← HW2.out]
          refine HAT2.out.mono ?_
          clear hd
          rintro e w1 ⟨rfl, hb1⟩
          have BD1 := Lib.hid (BD.out.below' hb1)
          have BR1 := Lib.hid (BR.out.below' hb1)
          have HF1 := Lib.hid (HFS.out.below hb1)
          have hbw : Below w.heap.size w w1 := hbW.trans (hb1.mono hbW.size)
          have ltR : w.heap.size + 1 < w1.heap.size := BR1.out.lt
          clear hb1
          have d0 : w1.cell? ⟨w.heap.size, 0, none⟩ = some ((.slice SA S.L.length scap)) := BD1.out.cell 0
          have d1 : w1.cell? ⟨w.heap.size, 1, none⟩ = some (.int .i64 S.lim) := BD1.out.cell 1
          have d2 : w1.cell? ⟨w.heap.size, 2, none⟩ = some (.int .i64 S.fuse) := BD1.out.cell 2
          have d3 : w1.cell? ⟨w.heap.size, 3, none⟩ = some (.int .i64 S.ops) := BD1.out.cell 3
          have d4 : w1.cell? ⟨w.heap.size, 4, none⟩ = some (.int .i64 S.reads) := BD1.out.cell 4
          have d5 : w1.cell? ⟨w.heap.size, 5, none⟩ = some (.bool S.down) := BD1.out.cell 5
          have fd4 := BD1.out.frozen 4
          have r0 : w1.cell? ⟨w.heap.size + 1, 0, none⟩ = some (.slice none 0 0) := BR1.out.cell 0
          have r1 : w1.cell? ⟨w.heap.size + 1, 1, none⟩ = some (.int .i64 0) := BR1.out.cell 1
          have r2 : w1.cell? ⟨w.heap.size + 1, 2, none⟩ = some (.int .i64 0) := BR1.out.cell 2
          have r3 : w1.cell? ⟨w.heap.size + 1, 3, none⟩ = some (.int .i64 0) := BR1.out.cell 3
          have r4 : w1.cell? ⟨w.heap.size + 1, 4, none⟩ = some (.int .i64 0) := BR1.out.cell 4
          have r5 : w1.cell? ⟨w.heap.size + 1, 5, none⟩ = some (.bool false) := BR1.out.cell 5
          have fr0 := BR1.out.frozen 0
          have fr1 := BR1.out.frozen 1
          have fr2 := BR1.out.frozen 2
          have fr3 := BR1.out.frozen 3
          have fr4 := BR1.out.frozen 4
          have fr5 := BR1.out.frozen 5
          have HLj := Lib.hid hLj
          have hix2 := Lib.hid hix
          clear hl hix hLj
          obtain ⟨AA, ac, hsl2, -, hcel⟩ := HF1.out
          obtain ⟨g, off, rfl, hg1, hg2, hcc⟩ := hcel (by omega)
          obtain ⟨q0, q1, q2⟩ := hcc j hj
          rw [HLj.out] at q0 q1 q2
          injection hsl2 with e1 e2 e3
          subst e1 e3
          clear hcel hcc e2
          have nj0 : (0 : Int) ≤ (j : Int) := by omega
          have nj1 : (j : Int) < (S.L.length : Int) := by omega
          go_wp2_with fail
          refine (rbytes_any f _ (by omega)).mono ?_
          rintro e w2 ⟨rfl, hb2⟩
          have BD2 := Lib.hid (BD1.out.below' hb2)
          have BR2 := Lib.hid (BR1.out.below' hb2)
          have HF2 := Lib.hid (HF1.out.below hb2)
          have hbw2 : Below w.heap.size w w2 := hbw.trans (hb2.mono hbw.size)
          have ltR2 : w.heap.size + 1 < w2.heap.size := BR2.out.lt
          clear d0 d1 d2 d3 d4 d5 fd4 r0 r1 r2 r3 r4 r5 fr0 fr1 fr2 fr3 fr4 fr5
          clear q0 q1 q2 hb2 hbw
          have d0 : w2.cell? ⟨w.heap.size, 0, none⟩ = some ((.slice (some ⟨g, off, none⟩) S.L.length scap)) := BD2.out.cell 0
          have d1 : w2.cell? ⟨w.heap.size, 1, none⟩ = some (.int .i64 S.lim) := BD2.out.cell 1
          have d2 : w2.cell? ⟨w.heap.size, 2, none⟩ = some (.int .i64 S.fuse) := BD2.out.cell 2
          have d3 : w2.cell? ⟨w.heap.size, 3, none⟩ = some (.int .i64 S.ops) := BD2.out.cell 3
          have d4 : w2.cell? ⟨w.heap.size, 4, none⟩ = some (.int .i64 S.reads) := BD2.out.cell 4
          have d5 : w2.cell? ⟨w.heap.size, 5, none⟩ = some (.bool S.down) := BD2.out.cell 5
          have fd4 := BD2.out.frozen 4
          have r0 : w2.cell? ⟨w.heap.size + 1, 0, none⟩ = some (.slice none 0 0) := BR2.out.cell 0
          have r1 : w2.cell? ⟨w.heap.size + 1, 1, none⟩ = some (.int .i64 0) := BR2.out.cell 1
          have r2 : w2.cell? ⟨w.heap.size + 1, 2, none⟩ = some (.int .i64 0) := BR2.out.cell 2
          have r3 : w2.cell? ⟨w.heap.size + 1, 3, none⟩ = some (.int .i64 0) := BR2.out.cell 3
          have r4 : w2.cell? ⟨w.heap.size + 1, 4, none⟩ = some (.int .i64 0) := BR2.out.cell 4
          have r5 : w2.cell? ⟨w.heap.size + 1, 5, none⟩ = some (.bool false) := BR2.out.cell 5
          have fr0 := BR2.out.frozen 0
          have fr1 := BR2.out.frozen 1
          have fr2 := BR2.out.frozen 2
          have fr3 := BR2.out.frozen 3
          have fr4 := BR2.out.frozen 4
          have fr5 := BR2.out.frozen 5
          go_wp2_with fail
          refine bodyPost_ret (results_row3 (p := 6) (a := 7) (b := 8) rfl _ _ _ _ _ _ _ rfl (six_set BR2.out (.slice (some ⟨g, off, none⟩) S.L.length scap) S rfl) Try.underlying30 rfl info_disk) rfl ?_
          unfold doRd
          rw [HR.out]
          exact ⟨rfl, six_below (hbw2) (by omega) _ _ _ _ _ _⟩
      · obtain ⟨k, rfl⟩ : ∃ k : Nat, a = k := ⟨a.toNat, by omega⟩
        have HRB2 := Lib.hid (show rdS S n k = ((f.s ++ f.l).extract k (min (f.s ++ f.l).size (k + 64)), 0) by rw [HRB.out, if_neg hbad]; rfl)
        rw [app_size] at hbad
        have hk : k ≤ f.s.size + f.l.size := by omega
        clear hbad hw0 hw1
        by_cases hmn : f.s.size + f.l.size ≤ k + 64
        · have HR := Lib.hid (show rdS S n k = ((f.s ++ f.l).extract k (f.s.size + f.l.size), 0) by rw [HRB2.out, app_size, Nat.min_eq_left hmn])
          have hin : (f.s.size : Int) + (f.l.size : Int) - (k : Int) ≤ 64 := by omega
          clear hmn
          have hk0 : (0 : Int) ≤ (k : Int) := by omega
          have hk1 : (k : Int) ≤ (f.s.size : Int) + (f.l.size : Int) := by omega
          have HATt := HAT.out
          unfold rfV at HATt
          rw [hd, hix] at HATt
          have HAT2 := Lib.hid HATt
          have HWt := HW.out
          rw [hd] at HWt
          have HW2 := Lib.hid HWt
          clear HWt HATt
          go_enter Try.func21, Try.ntmps21
          go_wp2_with fail
          rw [← HW2.out]
          refine HAT2.out.mono ?_
          clear hd
          rintro e w1 ⟨rfl, hb1⟩
          have BD1 := Lib.hid (BD.out.below' hb1)
          have BR1 := Lib.hid (BR.out.below' hb1)
          have HF1 := Lib.hid (HFS.out.below hb1)
          have hbw : Below w.heap.size w w1 := hbW.trans (hb1.mono hbW.size)
          have ltR : w.heap.size + 1 < w1.heap.size := BR1.out.lt
          clear hb1
          have d0 : w1.cell? ⟨w.heap.size, 0, none⟩ = some ((.slice SA S.L.length scap)) := BD1.out.cell 0
          have d1 : w1.cell? ⟨w.heap.size, 1, none⟩ = some (.int .i64 S.lim) := BD1.out.cell 1
          have d2 : w1.cell? ⟨w.heap.size, 2, none⟩ = some (.int .i64 S.fuse) := BD1.out.cell 2
          have d3 : w1.cell? ⟨w.heap.size, 3, none⟩ = some (.int .i64 S.ops) := BD1.out.cell 3
          have d4 : w1.cell? ⟨w.heap.size, 4, none⟩ = some (.int .i64 S.reads) := BD1.out.cell 4
          have d5 : w1.cell? ⟨w.heap.size, 5, none⟩ = some (.bool S.down) := BD1.out.cell 5
          have fd4 := BD1.out.frozen 4
          have r0 : w1.cell? ⟨w.heap.size + 1, 0, none⟩ = some (.slice none 0 0) := BR1.out.cell 0
          have r1 : w1.cell? ⟨w.heap.size + 1, 1, none⟩ = some (.int .i64 0) := BR1.out.cell 1
          have r2 : w1.cell? ⟨w.heap.size + 1, 2, none⟩ = some (.int .i64 0) := BR1.out.cell 2
          have r3 : w1.cell? ⟨w.heap.size + 1, 3, none⟩ = some (.int .i64 0) := BR1.out.cell 3
          have r4 : w1.cell? ⟨w.heap.size + 1, 4, none⟩ = some (.int .i64 0) := BR1.out.cell 4
          have r5 : w1.cell? ⟨w.heap.size + 1, 5, none⟩ = some (.bool false) := BR1.out.cell 5
          have fr0 := BR1.out.frozen 0
          have fr1 := BR1.out.frozen 1
          have fr2 := BR1.out.frozen 2
          have fr3 := BR1.out.frozen 3
          have fr4 := BR1.out.frozen 4
          have fr5 := BR1.out.frozen 5
          have HLj := Lib.hid hLj
          have hix2 := Lib.hid hix
          clear hl hix hLj
          obtain ⟨AA, ac, hsl2, -, hcel⟩ := HF1.out
          obtain ⟨g, off, rfl, hg1, hg2, hcc⟩ := hcel (by omega)
          obtain ⟨q0, q1, q2⟩ := hcc j hj
          rw [HLj.out] at q0 q1 q2
          injection hsl2 with e1 e2 e3
          subst e1 e3
          clear hcel hcc e2
          have nj0 : (0 : Int) ≤ (j : Int) := by omega
          have nj1 : (j : Int) < (S.L.length : Int) := by omega
          go_wp2_with fail
          refine (rbytes_any f _ (by omega)).mono ?_
          rintro e w2 ⟨rfl, hb2⟩
          have BD2 := Lib.hid (BD1.out.below' hb2)
          have BR2 := Lib.hid (BR1.out.below' hb2)
          have HF2 := Lib.hid (HF1.out.below hb2)
          have hbw2 : Below w.heap.size w w2 := hbw.trans (hb2.mono hbw.size)
          have ltR2 : w.heap.size + 1 < w2.heap.size := BR2.out.lt
          clear d0 d1 d2 d3 d4 d5 fd4 r0 r1 r2 r3 r4 r5 fr0 fr1 fr2 fr3 fr4 fr5
          clear q0 q1 q2 hb2 hbw
          have d0 : w2.cell? ⟨w.heap.size, 0, none⟩ = some ((.slice (some ⟨g, off, none⟩) S.L.length scap)) := BD2.out.cell 0
          have d1 : w2.cell? ⟨w.heap.size, 1, none⟩ = some (.int .i64 S.lim) := BD2.out.cell 1
          have d2 : w2.cell? ⟨w.heap.size, 2, none⟩ = some (.int .i64 S.fuse) := BD2.out.cell 2
          have d3 : w2.cell? ⟨w.heap.size, 3, none⟩ = some (.int .i64 S.ops) := BD2.out.cell 3
          have d4 : w2.cell? ⟨w.heap.size, 4, none⟩ = some (.int .i64 S.reads) := BD2.out.cell 4
          have d5 : w2.cell? ⟨w.heap.size, 5, none⟩ = some (.bool S.down) := BD2.out.cell 5
          have fd4 := BD2.out.frozen 4
          have r0 : w2.cell? ⟨w.heap.size + 1, 0, none⟩ = some (.slice none 0 0) := BR2.out.cell 0
          have r1 : w2.cell? ⟨w.heap.size + 1, 1, none⟩ = some (.int .i64 0) := BR2.out.cell 1
          have r2 : w2.cell? ⟨w.heap.size + 1, 2, none⟩ = some (.int .i64 0) := BR2.out.cell 2
          have r3 : w2.cell? ⟨w.heap.size + 1, 3, none⟩ = some (.int .i64 0) := BR2.out.cell 3
          have r4 : w2.cell? ⟨w.heap.size + 1, 4, none⟩ = some (.int .i64 0) := BR2.out.cell 4
          have r5 : w2.cell? ⟨w.heap.size + 1, 5, none⟩ = some (.bool false) := BR2.out.cell 5
          have fr0 := BR2.out.frozen 0
          have fr1 := BR2.out.frozen 1
          have fr2 := BR2.out.frozen 2
          have fr3 := BR2.out.frozen 3
          have fr4 := BR2.out.frozen 4
          have fr5 := BR2.out.frozen 5
          go_wp2_with fail
          obtain ⟨W3, hW3⟩ : ∃ W3, W3 = w2.setCell ⟨w.heap.size, 4, none⟩ (.int .i64 (S.reads + 1)) := ⟨_, rfl⟩
          have bD3 : Blk W3 w.heap.size 30 (dC (.slice (some ⟨g, off, none⟩) S.L.length scap) { S with reads := S.reads + 1 }) := by rw [hW3]; exact BD2.out.set_ 4 _
          have bR3 : Blk W3 (w.heap.size + 1) 30 zC := by rw [hW3]; exact BR2.out.far (by simp) _
          have FS3 : FsAt W3 lo (.slice (some ⟨g, off, none⟩) S.L.length scap) S.L := by rw [hW3]; exact HF2.out.oneR FO.out _ _
          have bel3 : Below w.heap.size w W3 := by rw [hW3]; exact hbw2.setCell (by simp) _
          rw [← hW3]
          clear hW3 d0 d1 d2 d3 d4 d5 fd4 r0 r1 r2 r3 r4 r5 fr0 fr1 fr2 fr3 fr4 fr5
          have BD3 := Lib.hid bD3
          have BR3 := Lib.hid bR3
          have FS3' := Lib.hid FS3
          have ltR3 : w.heap.size + 1 < W3.heap.size := bR3.lt
          clear bD3 bR3 FS3
          have d0 : W3.cell? ⟨w.heap.size, 0, none⟩ = some ((.slice (some ⟨g, off, none⟩) S.L.length scap)) := BD3.out.cell 0
          have d1 : W3.cell? ⟨w.heap.size, 1, none⟩ = some (.int .i64 S.lim) := BD3.out.cell 1
          have d2 : W3.cell? ⟨w.heap.size, 2, none⟩ = some (.int .i64 S.fuse) := BD3.out.cell 2
          have d3 : W3.cell? ⟨w.heap.size, 3, none⟩ = some (.int .i64 S.ops) := BD3.out.cell 3
          have d4 : W3.cell? ⟨w.heap.size, 4, none⟩ = some (.int .i64 (S.reads + 1)) := BD3.out.cell 4
          have d5 : W3.cell? ⟨w.heap.size, 5, none⟩ = some (.bool S.down) := BD3.out.cell 5
          have r0 : W3.cell? ⟨w.heap.size + 1, 0, none⟩ = some (.slice none 0 0) := BR3.out.cell 0
          have r1 : W3.cell? ⟨w.heap.size + 1, 1, none⟩ = some (.int .i64 0) := BR3.out.cell 1
          have r2 : W3.cell? ⟨w.heap.size + 1, 2, none⟩ = some (.int .i64 0) := BR3.out.cell 2
          have r3 : W3.cell? ⟨w.heap.size + 1, 3, none⟩ = some (.int .i64 0) := BR3.out.cell 3
          have r4 : W3.cell? ⟨w.heap.size + 1, 4, none⟩ = some (.int .i64 0) := BR3.out.cell 4
          have r5 : W3.cell? ⟨w.heap.size + 1, 5, none⟩ = some (.bool false) := BR3.out.cell 5
          have fr0 := BR3.out.frozen 0
          have fr1 := BR3.out.frozen 1
          have fr2 := BR3.out.frozen 2
          have fr3 := BR3.out.frozen 3
          have fr4 := BR3.out.frozen 4
          have fr5 := BR3.out.frozen 5

          go_wp2_with fail

          go_region
          go_wp2_with fail
          refine bodyPost_ret (results_row3 (p := 6) (a := 7) (b := 8) rfl _ _ _ _ _ _ _ rfl (Blk.drew (six_set BR3.out (.slice (some ⟨g, off, none⟩) S.L.length scap) { S with reads := S.reads + 1 } rfl)) Try.underlying30 rfl info_disk) rfl ?_
          unfold doRd
          rw [HR.out]
          exact ⟨rfl, below_drew2 (six_below (bel3) (by omega) _ _ _ _ _ _)⟩
        · have HR := Lib.hid (show rdS S n k = ((f.s ++ f.l).extract k (k + 64), 0) by rw [HRB2.out, app_size, Nat.min_eq_right (by omega)])
          have hin : 64 < (f.s.size : Int) + (f.l.size : Int) - (k : Int) := by omega
          clear hmn
          have hk0 : (0 : Int) ≤ (k : Int) := by omega
          have hk1 : (k : Int) ≤ (f.s.size : Int) + (f.l.size : Int) := by omega
          have hk2 : (k : Int) + 64 ≤ (f.s.size : Int) + (f.l.size : Int) := by omega
          have hk3 : (0 : Int) ≤ (k : Int) + 64 := by omega
          have hk4 : (k : Int) ≤ (k : Int) + 64 := by omega
          have HATt := HAT.out
          unfold rfV at HATt
          rw [hd, hix] at HATt
          have HAT2 := Lib.hid HATt
          have HWt := HW.out
          rw [hd] at HWt
          have HW2 := Lib.hid HWt
          clear HWt HATt
          go_enter Try.func21, Try.ntmps21
          go_wp2_with fail
          rw [← HW2.out]
          refine HAT2.out.mono ?_
          clear hd
          rintro e w1 ⟨rfl, hb1⟩
          have BD1 := Lib.hid (BD.out.below' hb1)
          have BR1 := Lib.hid (BR.out.below' hb1)
          have HF1 := Lib.hid (HFS.out.below hb1)
          have hbw : Below w.heap.size w w1 := hbW.trans (hb1.mono hbW.size)
          have ltR : w.heap.size + 1 < w1.heap.size := BR1.out.lt
          clear hb1
          have d0 : w1.cell? ⟨w.heap.size, 0, none⟩ = some ((.slice SA S.L.length scap)) := BD1.out.cell 0
          have d1 : w1.cell? ⟨w.heap.size, 1, none⟩ = some (.int .i64 S.lim) := BD1.out.cell 1
          have d2 : w1.cell? ⟨w.heap.size, 2, none⟩ = some (.int .i64 S.fuse) := BD1.out.cell 2
          have d3 : w1.cell? ⟨w.heap.size, 3, none⟩ = some (.int .i64 S.ops) := BD1.out.cell 3
          have d4 : w1.cell? ⟨w.heap.size, 4, none⟩ = some (.int .i64 S.reads) := BD1.out.cell 4
          have d5 : w1.cell? ⟨w.heap.size, 5, none⟩ = some (.bool S.down) := BD1.out.cell 5
          have fd4 := BD1.out.frozen 4
          have r0 : w1.cell? ⟨w.heap.size + 1, 0, none⟩ = some (.slice none 0 0) := BR1.out.cell 0
          have r1 : w1.cell? ⟨w.heap.size + 1, 1, none⟩ = some (.int .i64 0) := BR1.out.cell 1
          have r2 : w1.cell? ⟨w.heap.size + 1, 2, none⟩ = some (.int .i64 0) := BR1.out.cell 2
          have r3 : w1.cell? ⟨w.heap.size + 1, 3, none⟩ = some (.int .i64 0) := BR1.out.cell 3
          have r4 : w1.cell? ⟨w.heap.size + 1, 4, none⟩ = some (.int .i64 0) := BR1.out.cell 4
          have r5 : w1.cell? ⟨w.heap.size + 1, 5, none⟩ = some (.bool false) := BR1.out.cell 5
          have fr0 := BR1.out.frozen 0
          have fr1 := BR1.out.frozen 1
          have fr2 := BR1.out.frozen 2
          have fr3 := BR1.out.frozen 3
          have fr4 := BR1.out.frozen 4
          have fr5 := BR1.out.frozen 5
          have HLj := Lib.hid hLj
          have hix2 := Lib.hid hix
          clear hl hix hLj
          obtain ⟨AA, ac, hsl2, -, hcel⟩ := HF1.out
          obtain ⟨g, off, rfl, hg1, hg2, hcc⟩ := hcel (by omega)
          obtain ⟨q0, q1, q2⟩ := hcc j hj
          rw [HLj.out] at q0 q1 q2
          injection hsl2 with e1 e2 e3
          subst e1 e3
          clear hcel hcc e2
          have nj0 : (0 : Int) ≤ (j : Int) := by omega
          have nj1 : (j : Int) < (S.L.length : Int) := by omega
          go_wp2_with fail
          refine (rbytes_any f _ (by omega)).mono ?_
          rintro e w2 ⟨rfl, hb2⟩
          have BD2 := Lib.hid (BD1.out.below' hb2)
          have BR2 := Lib.hid (BR1.out.below' hb2)
          have HF2 := Lib.hid (HF1.out.below hb2)
          have hbw2 : Below w.heap.size w w2 := hbw.trans (hb2.mono hbw.size)
          have ltR2 : w.heap.size + 1 < w2.heap.size := BR2.out.lt
          clear d0 d1 d2 d3 d4 d5 fd4 r0 r1 r2 r3 r4 r5 fr0 fr1 fr2 fr3 fr4 fr5
          clear q0 q1 q2 hb2 hbw
          have d0 : w2.cell? ⟨w.heap.size, 0, none⟩ = some ((.slice (some ⟨g, off, none⟩) S.L.length scap)) := BD2.out.cell 0
          have d1 : w2.cell? ⟨w.heap.size, 1, none⟩ = some (.int .i64 S.lim) := BD2.out.cell 1
          have d2 : w2.cell? ⟨w.heap.size, 2, none⟩ = some (.int .i64 S.fuse) := BD2.out.cell 2
          have d3 : w2.cell? ⟨w.heap.size, 3, none⟩ = some (.int .i64 S.ops) := BD2.out.cell 3
          have d4 : w2.cell? ⟨w.heap.size, 4, none⟩ = some (.int .i64 S.reads) := BD2.out.cell 4
          have d5 : w2.cell? ⟨w.heap.size, 5, none⟩ = some (.bool S.down) := BD2.out.cell 5
          have fd4 := BD2.out.frozen 4
          have r0 : w2.cell? ⟨w.heap.size + 1, 0, none⟩ = some (.slice none 0 0) := BR2.out.cell 0
          have r1 : w2.cell? ⟨w.heap.size + 1, 1, none⟩ = some (.int .i64 0) := BR2.out.cell 1
          have r2 : w2.cell? ⟨w.heap.size + 1, 2, none⟩ = some (.int .i64 0) := BR2.out.cell 2
          have r3 : w2.cell? ⟨w.heap.size + 1, 3, none⟩ = some (.int .i64 0) := BR2.out.cell 3
          have r4 : w2.cell? ⟨w.heap.size + 1, 4, none⟩ = some (.int .i64 0) := BR2.out.cell 4
          have r5 : w2.cell? ⟨w.heap.size + 1, 5, none⟩ = some (.bool false) := BR2.out.cell 5
          have fr0 := BR2.out.frozen 0
          have fr1 := BR2.out.frozen 1
          have fr2 := BR2.out.frozen 2
          have fr3 := BR2.out.frozen 3
          have fr4 := BR2.out.frozen 4
          have fr5 := BR2.out.frozen 5
          go_wp2_with fail
          obtain ⟨W3, hW3⟩ : ∃ W3, W3 = w2.setCell ⟨w.heap.size, 4, none⟩ (.int .i64 (S.reads + 1)) := ⟨_, rfl⟩
          have bD3 : Blk W3 w.heap.size 30 (dC (.slice (some ⟨g, off, none⟩) S.L.length scap) { S with reads := S.reads + 1 }) := by rw [hW3]; exact BD2.out.set_ 4 _
          have bR3 : Blk W3 (w.heap.size + 1) 30 zC := by rw [hW3]; exact BR2.out.far (by simp) _
          have FS3 : FsAt W3 lo (.slice (some ⟨g, off, none⟩) S.L.length scap) S.L := by rw [hW3]; exact HF2.out.oneR FO.out _ _
          have bel3 : Below w.heap.size w W3 := by rw [hW3]; exact hbw2.setCell (by simp) _
          rw [← hW3]
          clear hW3 d0 d1 d2 d3 d4 d5 fd4 r0 r1 r2 r3 r4 r5 fr0 fr1 fr2 fr3 fr4 fr5
          have BD3 := Lib.hid bD3
          have BR3 := Lib.hid bR3
          have FS3' := Lib.hid FS3
          have ltR3 : w.heap.size + 1 < W3.heap.size := bR3.lt
          clear bD3 bR3 FS3
          have d0 : W3.cell? ⟨w.heap.size, 0, none⟩ = some ((.slice (some ⟨g, off, none⟩) S.L.length scap)) := BD3.out.cell 0
          have d1 : W3.cell? ⟨w.heap.size, 1, none⟩ = some (.int .i64 S.lim) := BD3.out.cell 1
          have d2 : W3.cell? ⟨w.heap.size, 2, none⟩ = some (.int .i64 S.fuse) := BD3.out.cell 2
          have d3 : W3.cell? ⟨w.heap.size, 3, none⟩ = some (.int .i64 S.ops) := BD3.out.cell 3
          have d4 : W3.cell? ⟨w.heap.size, 4, none⟩ = some (.int .i64 (S.reads + 1)) := BD3.out.cell 4
          have d5 : W3.cell? ⟨w.heap.size, 5, none⟩ = some (.bool S.down) := BD3.out.cell 5
          have r0 : W3.cell? ⟨w.heap.size + 1, 0, none⟩ = some (.slice none 0 0) := BR3.out.cell 0
          have r1 : W3.cell? ⟨w.heap.size + 1, 1, none⟩ = some (.int .i64 0) := BR3.out.cell 1
          have r2 : W3.cell? ⟨w.heap.size + 1, 2, none⟩ = some (.int .i64 0) := BR3.out.cell 2
          have r3 : W3.cell? ⟨w.heap.size + 1, 3, none⟩ = some (.int .i64 0) := BR3.out.cell 3
          have r4 : W3.cell? ⟨w.heap.size + 1, 4, none⟩ = some (.int .i64 0) := BR3.out.cell 4
          have r5 : W3.cell? ⟨w.heap.size + 1, 5, none⟩ = some (.bool false) := BR3.out.cell 5
          have fr0 := BR3.out.frozen 0
          have fr1 := BR3.out.frozen 1
          have fr2 := BR3.out.frozen 2
          have fr3 := BR3.out.frozen 3
          have fr4 := BR3.out.frozen 4
          have fr5 := BR3.out.frozen 5

          go_wp2_with fail
          have hwr : IntKind.i64.wrap ((k : Int) + 64) = (k : Int) + 64 := IntWalk.i64_in _ (by omega)
          have hwt : ((k : Int) + 64).toNat = k + 64 := by omega
          go_region
          go_wp2_with fail
          refine bodyPost_ret (results_row3 (p := 6) (a := 7) (b := 8) rfl _ _ _ _ _ _ _ rfl (Blk.drew (six_set BR3.out (.slice (some ⟨g, off, none⟩) S.L.length scap) { S with reads := S.reads + 1 } rfl)) Try.underlying30 rfl info_disk) rfl ?_
          unfold doRd
          rw [HR.out]
          exact ⟨rfl, below_drew2 (six_below (bel3) (by omega) _ _ _ _ _ _)⟩
end Go.Proofs.Ytgkphogefpmeaaa
