/- The walk of the reference's Do. -/
import Derived.Test.YtgkphogefpmeaaaRfG
import Derived.Test.YtgkphogefpmeaaaDkG
namespace Go.Proofs.Ytgkphogefpmeaaa
open Go.RowKit Go.Maps DkM

theorem ren_same {L : List Fl} (h : Rise L) {a : ByteArray} {f : Fl} (hl : lkF L a = some f) : putF (wo L a) ⟨a, f.s, f.l⟩ = L := by
  obtain ⟨h1, h2⟩ := lkF_some hl
  have e : (⟨a, f.s, f.l⟩ : Fl) = f := by rw [← h2]
  rw [e]
  refine rise_ext ((h.wo a).put f) h fun x => ?_
  rw [mem_put, mem_wo]
  constructor
  · rintro (rfl | ⟨⟨hx, _⟩, _⟩)
    · exact h1
    · exact hx
  · intro hx
    by_cases he : x.n = a
    · left
      have := lkF_mem h hx
      rw [he, hl] at this
      exact (Option.some.inj this).symm
    · exact Or.inr ⟨⟨hx, he⟩, by rw [h2]; exact he⟩
theorem ren_other {L : List Fl} (h : Rise L) {a c : ByteArray} (hne : a ≠ c) (s l : ByteArray) : putF (wo L a) ⟨c, s, l⟩ = wo (putF L ⟨c, s, l⟩) a := by
  refine rise_ext ((h.wo a).put _) ((h.put _).wo a) fun x => ?_
  rw [mem_put, mem_wo, mem_wo, mem_put]
  constructor
  · rintro (rfl | ⟨⟨hx, h1⟩, h2⟩)
    · exact ⟨Or.inl rfl, fun e => hne e.symm⟩
    · exact ⟨Or.inr ⟨hx, h2⟩, h1⟩
  · rintro ⟨rfl | ⟨hx, h2⟩, h1⟩
    · exact Or.inl rfl
    · exact Or.inr ⟨⟨hx, h1⟩, h2⟩
def refL (S : Dk) (o : Op5) : List Fl := if o.k = 0 then putF S.L ⟨o.a, nul, nul⟩ else rL S.L o (gotF S o.a)
theorem got_some {S : Dk} {a : ByteArray} {f : Fl} (h : lkF S.L a = some f) : gotF S a = f := by unfold gotF; rw [h]; rfl
theorem why_file {S : Dk} {o : Op5} (_h0 : 0 ≤ o.k) (_h4 : o.k ≤ 4) (hk : o.k ≠ 0) (h : whyO S o = 0) : ∃ f, lkF S.L o.a = some f := by
  unfold whyO at h
  rw [if_neg hk] at h
  split at h
  · exact (whyA_zero h).1
  split at h
  · exact (whyR_zero h).2
  · exact thr_zero h
/-- One of the five ops, in the reference's words. -/
theorem op_ref (S : Dk) (hR : Rise S.L) {o : Op5} (ks : List Int) (h0 : 0 ≤ o.k) (h4 : o.k ≤ 4) :
    ∃ S' : Dk, doOp S o ks = opR S (whyO S o) S' ∧ S'.ops = S.ops + 1 ∧ S'.fuse = max (S.fuse - 1) (-1) ∧ S'.down = S.down ∧ S'.lim = S.lim ∧ S'.reads = S.reads ∧ (whyO S o = 0 → S'.L = refL S o) := by
  have hk : o.k = 0 ∨ o.k = 1 ∨ o.k = 2 ∨ o.k = 3 ∨ o.k = 4 := by omega
  unfold doOp
  rcases hk with h | h | h | h | h
  · rw [if_pos h]
    have hw : whyO S o = whyC S.L o.a := by unfold whyO; rw [if_pos h]
    exact ⟨{ tick S with L := putF S.L ⟨o.a, nul, nul⟩ }, by rw [hw]; rfl, rfl, rfl, rfl, rfl, rfl, fun _ => by unfold refL; rw [if_pos h]⟩
  · rw [if_neg (by omega), if_pos h]
    have hw : whyO S o = whyA S o.a o.b := by unfold whyO; rw [if_neg (by omega), if_pos h]
    refine ⟨didA S o.a o.b, by rw [hw]; rfl, rfl, rfl, rfl, rfl, rfl, fun hz => ?_⟩
    obtain ⟨f, hl⟩ := why_file h0 h4 (by omega) hz
    unfold refL rL
    rw [if_neg (by omega), if_pos h, got_some hl]
    unfold didA
    rw [hl]
    simp only [Option.getD_some]
    rw [(lkF_some hl).2]
  · rw [if_neg (by omega), if_neg (by omega), if_pos h]
    have hw : whyO S o = thr S.L o.a := by unfold whyO; rw [if_neg (by omega), if_neg (by omega), if_neg (by omega)]
    refine ⟨didS S o.a, by rw [hw]; rfl, rfl, rfl, rfl, rfl, rfl, fun hz => ?_⟩
    obtain ⟨f, hl⟩ := why_file h0 h4 (by omega) hz
    unfold refL rL
    rw [if_neg (by omega), if_neg (by omega), if_pos h, got_some hl]
    unfold didS
    simp only
    rw [got_some hl, (lkF_some hl).2]
  · rw [if_neg (by omega), if_neg (by omega), if_neg (by omega), if_pos h]
    have hw : whyO S o = whyR S o.a o.b := by unfold whyO; rw [if_neg (by omega), if_neg (by omega), if_pos h]
    refine ⟨didR S o.a o.b, by rw [hw]; rfl, ?_, ?_, ?_, ?_, ?_, fun hz => ?_⟩
    · unfold didR; split <;> rfl
    · unfold didR; split <;> rfl
    · unfold didR; split <;> rfl
    · unfold didR; split <;> rfl
    · unfold didR; split <;> rfl
    obtain ⟨f, hl⟩ := why_file h0 h4 (by omega) hz
    unfold refL rL
    rw [if_neg (by omega), if_neg (by omega), if_neg (by omega), if_pos h]
    unfold didR
    by_cases he : eqN o.a o.b = true
    · rw [if_pos he, got_some hl]
      have := eqN_iff.1 he
      rw [← this]
      exact (ren_same hR hl).symm
    · rw [if_neg he]
      simp only
      rw [got_some hl]
      exact (ren_other hR (fun e => he (eqN_iff.2 e)) _ _).symm
  · rw [if_neg (by omega), if_neg (by omega), if_neg (by omega), if_neg (by omega), if_pos h]
    have hw : whyO S o = thr S.L o.a := by unfold whyO; rw [if_neg (by omega), if_neg (by omega), if_neg (by omega)]
    refine ⟨didD S o.a, by rw [hw]; rfl, rfl, rfl, rfl, rfl, rfl, fun hz => ?_⟩
    unfold refL rL
    rw [if_neg (by omega), if_neg (by omega), if_neg (by omega), if_neg (by omega)]
    rfl
theorem does_any {w : World} {lo : Nat} {sl : Value} {S : Dk} (h : RfAt w lo sl S) {o : Op5} (ho : OkOp o) (h0 : 0 ≤ o.k) (h4 : o.k ≤ 4) {L : List Fl} (hL : L = refL S o) (hf : o.k ≠ 0 → ∃ f, lkF S.L o.a = some f) :
    Calls Try.prog 56 #[rfV sl S, opV o] w (RfPost L S w) := by
  subst hL
  unfold refL
  by_cases hk : o.k = 0
  · rw [if_pos hk]
    exact does_zero h ho hk
  · rw [if_neg hk]
    obtain ⟨f, hl⟩ := hf hk
    rw [got_some hl]
    exact does_some h ho (by omega) hl
theorem blk_third (w : World) (a c : Obj) (T : TypeId) (cs : Array Value) : Blk (((w.alloc a).alloc c).alloc (.cells cs T)) (w.heap.size + 1 + 1) T cs := by
  have := Blk.new ((w.alloc a).alloc c) T cs
  rw [show ((w.alloc a).alloc c).heap.size = w.heap.size + 1 + 1 by simp] at this
  exact this
theorem below_three (w : World) (a c e : Obj) : Below w.heap.size w (((w.alloc a).alloc c).alloc e) := (below_two _ _ _).trans ((below_one _ _).mono (by simp; omega))
/-- A disk and an error that are handed back. -/
def RdPost (sl : Value) (L : List Fl) (R : Dk × Nat) (w : World) (e : Ending) (w' : World) : Prop := ∃ sl', e = .returned (.tuple #[rfV sl' R.1, .int .i64 (R.2 : Nat)]) ∧ ((sl' = sl ∧ R.1.L = L) ∨ FsAt w' w.heap.size sl' R.1.L) ∧ Below w.heap.size w w'
theorem fs_six {W : World} {lo R : Nat} {v : Value} {L : List Fl} (h : FsAt W lo v L) (hR : ∀ g off n cap, v = .slice (some ⟨g, off, none⟩) n cap → 0 < L.length → g ≠ R) (a b c d e f : Value) :
    FsAt ((((((W.setCell ⟨R, 0, none⟩ a).setCell ⟨R, 1, none⟩ b).setCell ⟨R, 2, none⟩ c).setCell ⟨R, 3, none⟩ d).setCell ⟨R, 4, none⟩ e).setCell ⟨R, 5, none⟩ f) lo v L := by
  have one : ∀ {W : World} (i : Nat) (u : Value), FsAt W lo v L → FsAt (W.setCell ⟨R, i, none⟩ u) lo v L := fun {W} i u h => by
    obtain ⟨A, cap, h1, h2, h3⟩ := h
    refine ⟨A, cap, h1, h2, fun hl => ?_⟩
    obtain ⟨g, off, e, hlo, hg, hc⟩ := h3 hl
    have hne := hR g off _ _ (by rw [h1, e]) hl
    have hb := Below.heap_setCell W ⟨R, i, none⟩ u g hne
    refine ⟨g, off, e, hlo, by simpa using hg, fun k hk => ?_⟩
    obtain ⟨q0, q1, q2⟩ := hc k hk
    exact ⟨(World.cell?_of_block (w := W) hb).trans q0, (World.cell?_of_block (w := W) hb).trans q1, (World.cell?_of_block (w := W) hb).trans q2⟩
  exact one _ _ (one _ _ (one _ _ (one _ _ (one _ _ (one _ _ h)))))
/-- The slice's block was there before. -/
theorem FsAt.old {w : World} {lo : Nat} {v : Value} {L : List Fl} (h : FsAt w lo v L) {R : Nat} (hR : w.heap.size ≤ R) : ∀ g off n cap, v = .slice (some ⟨g, off, none⟩) n cap → 0 < L.length → g ≠ R := by
  intro g off n cap hv hl
  obtain ⟨A, c, h1, h2, h3⟩ := h
  obtain ⟨g', off', e, _, hg, _⟩ := h3 hl
  rw [h1, e] at hv
  injection hv with hv
  injection hv with hv
  injection hv with hv
  omega
theorem FsAt.oneR {W : World} {lo R : Nat} {v : Value} {L : List Fl} (h : FsAt W lo v L) (hR : ∀ g off n cap, v = .slice (some ⟨g, off, none⟩) n cap → 0 < L.length → g ≠ R) (i : Nat) (u : Value) : FsAt (W.setCell ⟨R, i, none⟩ u) lo v L := by
  obtain ⟨A, cap, h1, h2, h3⟩ := h
  refine ⟨A, cap, h1, h2, fun hl => ?_⟩
  obtain ⟨g, off, e, hlo, hg, hc⟩ := h3 hl
  have hne := hR g off _ _ (by rw [h1, e]) hl
  have hb := Below.heap_setCell W ⟨R, i, none⟩ u g hne
  refine ⟨g, off, e, hlo, by simpa using hg, fun k hk => ?_⟩
  obtain ⟨q0, q1, q2⟩ := hc k hk
  exact ⟨(World.cell?_of_block (w := W) hb).trans q0, (World.cell?_of_block (w := W) hb).trans q1, (World.cell?_of_block (w := W) hb).trans q2⟩
theorem RfAt.withS {w : World} {lo : Nat} {sl : Value} {S S2 : Dk} (h : RfAt w lo sl S) (hL : S2.L = S.L) (hu : S2.used = S.used) : RfAt w lo sl S2 := ⟨by rw [hL]; exact h.fs, by rw [hL]; exact h.len, by rw [hL]; exact h.usd, by rw [hu, hL]; exact h.used, by rw [hL]; exact h.names⟩

set_option maxRecDepth 100000 in
set_option maxHeartbeats 4000000 in
theorem rdo_any {w : World} {lo : Nat} {sl : Value} {S : Dk} (h : RfAt w lo sl S) (hRise : Rise S.L) {o : Op5} (ho : OkOp o) (h0 : 0 ≤ o.k) (h4 : o.k ≤ 4) (hlim : S.lim ≤ 1073741824) (hf0 : -1 ≤ S.fuse) (hf1 : S.fuse ≤ 9223372036854775807) (ho0 : 0 ≤ S.ops) (ho1 : S.ops ≤ 1099511627776) (ks : List Int) :
    Calls Try.prog 43 #[rfV sl S, opV o] w (RdPost sl S.L (doOp S o ks) w) := by
  obtain ⟨SA, scap, hsl, -, -⟩ := h.fs
  subst hsl
  obtain ⟨S', hop, s1, s2, s3, s4, s5, s6⟩ := op_ref S hRise ks h0 h4
  have HOP := Lib.hid hop
  obtain ⟨W, hW, bD, bO, bR, hbW⟩ := three_boxes w (.slice SA S.L.length scap) S o
  have HW := Lib.hid hW
  have BD := Lib.hid bD
  have BO := Lib.hid bO
  have BR := Lib.hid bR
  have HRW := Lib.hid (h.below hbW)
  have WY := Lib.hid (why_any (h.below hbW) ho h0 h4 hlim)
  have FO := Lib.hid (h.fs.old (R := w.heap.size) (Nat.le_refl _))
  have FO2 := Lib.hid (h.fs.old (R := w.heap.size + 1 + 1) (by omega))
  have hWF := Lib.hid (fun (hk : o.k ≠ 0) (hz : whyO S o = 0) => why_file (S := S) h0 h4 hk hz)
  clear bD bO bR hW hop
  cases hd : S.down with
  | true =>
    have HE := Lib.hid (show doOp S o ks = (S, 50) by rw [HOP.out]; unfold opR; rw [hd]; rfl)
    have d0 : W.cell? ⟨w.heap.size, 0, none⟩ = some ((.slice SA S.L.length scap)) := BD.out.cell 0
    have d1 : W.cell? ⟨w.heap.size, 1, none⟩ = some (.int .i64 S.lim) := BD.out.cell 1
    have d2 : W.cell? ⟨w.heap.size, 2, none⟩ = some (.int .i64 S.fuse) := BD.out.cell 2
    have d3 : W.cell? ⟨w.heap.size, 3, none⟩ = some (.int .i64 S.ops) := BD.out.cell 3
    have d4 : W.cell? ⟨w.heap.size, 4, none⟩ = some (.int .i64 S.reads) := BD.out.cell 4
    have d5 : W.cell? ⟨w.heap.size, 5, none⟩ = some (.bool S.down) := BD.out.cell 5
    have fd0 := BD.out.frozen 0
    have o0 : W.cell? ⟨w.heap.size + 1, 0, none⟩ = some (.int .i64 o.k) := BO.out.cell 0
    have o1 : W.cell? ⟨w.heap.size + 1, 1, none⟩ = some (.string o.a) := BO.out.cell 1
    have o2 : W.cell? ⟨w.heap.size + 1, 2, none⟩ = some (.string o.b) := BO.out.cell 2
    have o3 : W.cell? ⟨w.heap.size + 1, 3, none⟩ = some (.int .i64 o.n) := BO.out.cell 3
    have r0 : W.cell? ⟨w.heap.size + 1 + 1, 0, none⟩ = some (.slice none 0 0) := BR.out.cell 0
    have r1 : W.cell? ⟨w.heap.size + 1 + 1, 1, none⟩ = some (.int .i64 0) := BR.out.cell 1
    have r2 : W.cell? ⟨w.heap.size + 1 + 1, 2, none⟩ = some (.int .i64 0) := BR.out.cell 2
    have r3 : W.cell? ⟨w.heap.size + 1 + 1, 3, none⟩ = some (.int .i64 0) := BR.out.cell 3
    have r4 : W.cell? ⟨w.heap.size + 1 + 1, 4, none⟩ = some (.int .i64 0) := BR.out.cell 4
    have r5 : W.cell? ⟨w.heap.size + 1 + 1, 5, none⟩ = some (.bool false) := BR.out.cell 5
    have fr0 := BR.out.frozen 0
    have fr1 := BR.out.frozen 1
    have fr2 := BR.out.frozen 2
    have fr3 := BR.out.frozen 3
    have fr4 := BR.out.frozen 4
    have fr5 := BR.out.frozen 5
    have fd2 := BD.out.frozen 2
    have fd3 := BD.out.frozen 3
    have fd5 := BD.out.frozen 5
    have HDN := Lib.hid hd
    rw [hd] at d5
    have HWt := HW.out
    rw [hd] at HWt
    have HW2 := Lib.hid HWt
    clear HWt
    go_enter Try.func43, Try.ntmps43
    go_wp2_with fail
    refine bodyPost_ret (results_row2 (p := 4) (a := 5) rfl _ _ _ _ _ _ _ rfl (blk_third w _ _ 30 #[.slice SA S.L.length scap, .int .i64 S.lim, .int .i64 S.fuse, .int .i64 S.ops, .int .i64 S.reads, .bool true]) Try.underlying30 rfl info_disk) rfl ?_
    rw [HE.out]
    refine ⟨_, ?_, Or.inl ⟨rfl, rfl⟩, below_three _ _ _ _⟩
    show Ending.returned (.tuple #[.agg #[.slice SA S.L.length scap, .int .i64 S.lim, .int .i64 S.fuse, .int .i64 S.ops, .int .i64 S.reads, .bool true], _]) = Ending.returned (.tuple #[.agg #[.slice SA S.L.length scap, .int .i64 S.lim, .int .i64 S.fuse, .int .i64 S.ops, .int .i64 S.reads, .bool S.down], _])
    rw [HDN.out]
    rfl
  | false =>
    have WYt := WY.out
    unfold rfV at WYt
    rw [hd] at WYt
    have WY2 := Lib.hid WYt
    clear WYt
    have d0 : W.cell? ⟨w.heap.size, 0, none⟩ = some ((.slice SA S.L.length scap)) := BD.out.cell 0
    have d1 : W.cell? ⟨w.heap.size, 1, none⟩ = some (.int .i64 S.lim) := BD.out.cell 1
    have d2 : W.cell? ⟨w.heap.size, 2, none⟩ = some (.int .i64 S.fuse) := BD.out.cell 2
    have d3 : W.cell? ⟨w.heap.size, 3, none⟩ = some (.int .i64 S.ops) := BD.out.cell 3
    have d4 : W.cell? ⟨w.heap.size, 4, none⟩ = some (.int .i64 S.reads) := BD.out.cell 4
    have d5 : W.cell? ⟨w.heap.size, 5, none⟩ = some (.bool S.down) := BD.out.cell 5
    have fd0 := BD.out.frozen 0
    have o0 : W.cell? ⟨w.heap.size + 1, 0, none⟩ = some (.int .i64 o.k) := BO.out.cell 0
    have o1 : W.cell? ⟨w.heap.size + 1, 1, none⟩ = some (.string o.a) := BO.out.cell 1
    have o2 : W.cell? ⟨w.heap.size + 1, 2, none⟩ = some (.string o.b) := BO.out.cell 2
    have o3 : W.cell? ⟨w.heap.size + 1, 3, none⟩ = some (.int .i64 o.n) := BO.out.cell 3
    have r0 : W.cell? ⟨w.heap.size + 1 + 1, 0, none⟩ = some (.slice none 0 0) := BR.out.cell 0
    have r1 : W.cell? ⟨w.heap.size + 1 + 1, 1, none⟩ = some (.int .i64 0) := BR.out.cell 1
    have r2 : W.cell? ⟨w.heap.size + 1 + 1, 2, none⟩ = some (.int .i64 0) := BR.out.cell 2
    have r3 : W.cell? ⟨w.heap.size + 1 + 1, 3, none⟩ = some (.int .i64 0) := BR.out.cell 3
    have r4 : W.cell? ⟨w.heap.size + 1 + 1, 4, none⟩ = some (.int .i64 0) := BR.out.cell 4
    have r5 : W.cell? ⟨w.heap.size + 1 + 1, 5, none⟩ = some (.bool false) := BR.out.cell 5
    have fr0 := BR.out.frozen 0
    have fr1 := BR.out.frozen 1
    have fr2 := BR.out.frozen 2
    have fr3 := BR.out.frozen 3
    have fr4 := BR.out.frozen 4
    have fr5 := BR.out.frozen 5
    have fd2 := BD.out.frozen 2
    have fd3 := BD.out.frozen 3
    have fd5 := BD.out.frozen 5
    have HDN := Lib.hid hd
    rw [hd] at d5
    have HWt := HW.out
    rw [hd] at HWt
    have HW2 := Lib.hid HWt
    clear HWt
    go_enter Try.func43, Try.ntmps43
    go_wp2_with fail
    clear d0 d1 d2 d3 d4 d5 fd0 o0 o1 o2 o3 r0 r1 r2 r3 r4 r5 fr0 fr1 fr2 fr3 fr4 fr5 fd2 fd3 fd5
    rw [← HW2.out]
    refine WY2.out.mono ?_
    clear hd
    rintro e w1 ⟨rfl, hb1⟩
    have BD1 := Lib.hid (BD.out.below' hb1)
    have BO1 := Lib.hid (BO.out.below' hb1)
    have BR1 := Lib.hid (BR.out.below' hb1)
    have HR1 := Lib.hid (HRW.out.below hb1)
    have hbw : Below w.heap.size w w1 := hbW.trans (hb1.mono hbW.size)
    have ltR : w.heap.size + 1 + 1 < w1.heap.size := BR1.out.lt
    clear hb1
    by_cases hz : whyO S o = 0
    · by_cases hfu : S.fuse = 0
      · have HE := Lib.hid (show doOp S o ks = ({ S with down := true }, 50) by
          rw [HOP.out]; unfold opR; rw [HDN.out, if_neg (by decide), if_neg (by omega), if_pos hfu])
        have d0 : w1.cell? ⟨w.heap.size, 0, none⟩ = some ((.slice SA S.L.length scap)) := BD1.out.cell 0
        have d1 : w1.cell? ⟨w.heap.size, 1, none⟩ = some (.int .i64 S.lim) := BD1.out.cell 1
        have d2 : w1.cell? ⟨w.heap.size, 2, none⟩ = some (.int .i64 S.fuse) := BD1.out.cell 2
        have d3 : w1.cell? ⟨w.heap.size, 3, none⟩ = some (.int .i64 S.ops) := BD1.out.cell 3
        have d4 : w1.cell? ⟨w.heap.size, 4, none⟩ = some (.int .i64 S.reads) := BD1.out.cell 4
        have d5 : w1.cell? ⟨w.heap.size, 5, none⟩ = some (.bool S.down) := BD1.out.cell 5
        have fd0 := BD1.out.frozen 0
        have o0 : w1.cell? ⟨w.heap.size + 1, 0, none⟩ = some (.int .i64 o.k) := BO1.out.cell 0
        have o1 : w1.cell? ⟨w.heap.size + 1, 1, none⟩ = some (.string o.a) := BO1.out.cell 1
        have o2 : w1.cell? ⟨w.heap.size + 1, 2, none⟩ = some (.string o.b) := BO1.out.cell 2
        have o3 : w1.cell? ⟨w.heap.size + 1, 3, none⟩ = some (.int .i64 o.n) := BO1.out.cell 3
        have r0 : w1.cell? ⟨w.heap.size + 1 + 1, 0, none⟩ = some (.slice none 0 0) := BR1.out.cell 0
        have r1 : w1.cell? ⟨w.heap.size + 1 + 1, 1, none⟩ = some (.int .i64 0) := BR1.out.cell 1
        have r2 : w1.cell? ⟨w.heap.size + 1 + 1, 2, none⟩ = some (.int .i64 0) := BR1.out.cell 2
        have r3 : w1.cell? ⟨w.heap.size + 1 + 1, 3, none⟩ = some (.int .i64 0) := BR1.out.cell 3
        have r4 : w1.cell? ⟨w.heap.size + 1 + 1, 4, none⟩ = some (.int .i64 0) := BR1.out.cell 4
        have r5 : w1.cell? ⟨w.heap.size + 1 + 1, 5, none⟩ = some (.bool false) := BR1.out.cell 5
        have fr0 := BR1.out.frozen 0
        have fr1 := BR1.out.frozen 1
        have fr2 := BR1.out.frozen 2
        have fr3 := BR1.out.frozen 3
        have fr4 := BR1.out.frozen 4
        have fr5 := BR1.out.frozen 5
        have fd2 := BD1.out.frozen 2
        have fd3 := BD1.out.frozen 3
        have fd5 := BD1.out.frozen 5
        rw [hfu] at d2
        have HFU := Lib.hid hfu
        clear hfu
        rw [hz]
        have HZ := Lib.hid hz
        clear hz
        go_wp2_with fail
        refine bodyPost_ret (results_row2 (p := 4) (a := 5) rfl _ _ _ _ _ _ _ rfl (six_set (BR1.out.far (by simp; omega) _) (.slice SA S.L.length scap) { S with down := true, fuse := 0 } rfl) Try.underlying30 rfl info_disk) rfl ?_
        rw [HE.out]
        refine ⟨_, ?_, Or.inl ⟨rfl, rfl⟩, six_below (hbw.setCell (by simp) _) (by omega) _ _ _ _ _ _⟩
        show Ending.returned (.tuple #[.agg #[.slice SA S.L.length scap, .int .i64 S.lim, .int .i64 0, .int .i64 S.ops, .int .i64 S.reads, .bool true], _]) = Ending.returned (.tuple #[.agg #[.slice SA S.L.length scap, .int .i64 S.lim, .int .i64 S.fuse, .int .i64 S.ops, .int .i64 S.reads, .bool true], _])
        rw [HFU.out]
        rfl
      · have HE := Lib.hid (show doOp S o ks = (S', 0) by
          rw [HOP.out]; unfold opR; rw [HDN.out, if_neg (by decide), if_neg (by omega), if_neg hfu])
        have HV := Lib.hid (show ∀ v, Value.agg (dC v (tick S)) = rfV v S' from fun v => by
          show Value.agg #[v, .int .i64 S.lim, .int .i64 (max (S.fuse - 1) (-1)), .int .i64 (S.ops + 1), .int .i64 S.reads, .bool S.down] = _
          rw [← s1, ← s2, ← s3, ← s4, ← s5])
        have HL := Lib.hid (s6 hz)
        rw [hz]
        have HZ := Lib.hid hz
        clear s1 s2 s3 s4 s5 s6 hz
        have d0 : w1.cell? ⟨w.heap.size, 0, none⟩ = some ((.slice SA S.L.length scap)) := BD1.out.cell 0
        have d1 : w1.cell? ⟨w.heap.size, 1, none⟩ = some (.int .i64 S.lim) := BD1.out.cell 1
        have d2 : w1.cell? ⟨w.heap.size, 2, none⟩ = some (.int .i64 S.fuse) := BD1.out.cell 2
        have d3 : w1.cell? ⟨w.heap.size, 3, none⟩ = some (.int .i64 S.ops) := BD1.out.cell 3
        have d4 : w1.cell? ⟨w.heap.size, 4, none⟩ = some (.int .i64 S.reads) := BD1.out.cell 4
        have d5 : w1.cell? ⟨w.heap.size, 5, none⟩ = some (.bool S.down) := BD1.out.cell 5
        have fd0 := BD1.out.frozen 0
        have o0 : w1.cell? ⟨w.heap.size + 1, 0, none⟩ = some (.int .i64 o.k) := BO1.out.cell 0
        have o1 : w1.cell? ⟨w.heap.size + 1, 1, none⟩ = some (.string o.a) := BO1.out.cell 1
        have o2 : w1.cell? ⟨w.heap.size + 1, 2, none⟩ = some (.string o.b) := BO1.out.cell 2
        have o3 : w1.cell? ⟨w.heap.size + 1, 3, none⟩ = some (.int .i64 o.n) := BO1.out.cell 3
        have r0 : w1.cell? ⟨w.heap.size + 1 + 1, 0, none⟩ = some (.slice none 0 0) := BR1.out.cell 0
        have r1 : w1.cell? ⟨w.heap.size + 1 + 1, 1, none⟩ = some (.int .i64 0) := BR1.out.cell 1
        have r2 : w1.cell? ⟨w.heap.size + 1 + 1, 2, none⟩ = some (.int .i64 0) := BR1.out.cell 2
        have r3 : w1.cell? ⟨w.heap.size + 1 + 1, 3, none⟩ = some (.int .i64 0) := BR1.out.cell 3
        have r4 : w1.cell? ⟨w.heap.size + 1 + 1, 4, none⟩ = some (.int .i64 0) := BR1.out.cell 4
        have r5 : w1.cell? ⟨w.heap.size + 1 + 1, 5, none⟩ = some (.bool false) := BR1.out.cell 5
        have fr0 := BR1.out.frozen 0
        have fr1 := BR1.out.frozen 1
        have fr2 := BR1.out.frozen 2
        have fr3 := BR1.out.frozen 3
        have fr4 := BR1.out.frozen 4
        have fr5 := BR1.out.frozen 5
        have fd2 := BD1.out.frozen 2
        have fd3 := BD1.out.frozen 3
        have fd5 := BD1.out.frozen 5
        have hfb : (S.fuse == 0) = false := by simpa using hfu
        by_cases hpos : 0 < S.fuse
        · go_wp2_with fail
          obtain ⟨W2, hW2⟩ : ∃ W2, W2 = ((w1.setCell ⟨w.heap.size, 2, none⟩ (.int .i64 (S.fuse - 1))).setCell ⟨w.heap.size, 3, none⟩ (.int .i64 (S.ops + 1))) := ⟨_, rfl⟩
          have bR2 : Blk W2 (w.heap.size + 1 + 1) 30 zC := by rw [hW2]; exact (BR1.out.far (by simp; omega) _).far (by simp; omega) _
          have FS2 : FsAt W2 lo (.slice SA S.L.length scap) S.L := by rw [hW2]; exact (HR1.out.fs.oneR FO.out _ _).oneR FO.out _ _
          have bel2 : Below w.heap.size w W2 := by rw [hW2]; exact (hbw.setCell (by simp) _).setCell (by simp) _
          rw [← hW2]
          clear hW2
          clear d0 d1 d2 d3 d4 d5 fd0 o0 o1 o2 o3 r0 r1 r2 r3 r4 r5 fr0 fr1 fr2 fr3 fr4 fr5
          clear fd2 fd3 fd5
          have hDo : Calls Try.prog 56 #[rfV (.slice SA S.L.length scap) (tick S), opV o] W2 (RfPost (refL S o) (tick S) W2) :=
            does_any (S := tick S) ⟨FS2, HR1.out.len, HR1.out.usd, HR1.out.used, HR1.out.names⟩ ho h0 h4 rfl (fun hk => hWF.out hk HZ.out)
          have hTd : rfV (.slice SA S.L.length scap) (tick S) = .agg #[.slice SA S.L.length scap, .int .i64 S.lim, .int .i64 (S.fuse - 1), .int .i64 (S.ops + 1), .int .i64 S.reads, .bool S.down] := by
            unfold tick; rw [show max (S.fuse - 1) (-1) = S.fuse - 1 by omega]
          rw [hTd] at hDo
          refine hDo.mono ?_
          clear hDo hTd
          rintro e w5 ⟨v, rfl, hF5, hb5⟩
          have BR5 := Lib.hid (bR2.below' hb5)
          have HF5 := Lib.hid (hF5.mono (lo' := w.heap.size) (by have := bel2.size; omega))
          have FO5 := Lib.hid (show ∀ g off n cap, v = .slice (some ⟨g, off, none⟩) n cap → 0 < (refL S o).length → g ≠ w.heap.size + 1 + 1 from fun g off n cap hv hl => by
            obtain ⟨A, c, q1, q2, q3⟩ := hF5
            obtain ⟨g', off', e, hlo', _⟩ := q3 hl
            rw [q1, e] at hv
            injection hv with hv
            injection hv with hv
            injection hv with hv
            have := bR2.lt
            omega)
          have hbw5 : Below w.heap.size w w5 := bel2.trans (hb5.mono bel2.size)
          have ltR5 : w.heap.size + 1 + 1 < w5.heap.size := BR5.out.lt
          obtain ⟨VA, vcap, hv, -, -⟩ := HF5.out
          subst hv
          have HV2 := Lib.hid (HV.out (.slice VA (refL S o).length vcap))
          generalize tick S = T at *
          clear hF5 hb5 bR2 FS2 bel2
          have r0 : w5.cell? ⟨w.heap.size + 1 + 1, 0, none⟩ = some (.slice none 0 0) := BR5.out.cell 0
          have fr0 := BR5.out.frozen 0
          have r1 : w5.cell? ⟨w.heap.size + 1 + 1, 1, none⟩ = some (.int .i64 0) := BR5.out.cell 1
          have fr1 := BR5.out.frozen 1
          have r2 : w5.cell? ⟨w.heap.size + 1 + 1, 2, none⟩ = some (.int .i64 0) := BR5.out.cell 2
          have fr2 := BR5.out.frozen 2
          have r3 : w5.cell? ⟨w.heap.size + 1 + 1, 3, none⟩ = some (.int .i64 0) := BR5.out.cell 3
          have fr3 := BR5.out.frozen 3
          have r4 : w5.cell? ⟨w.heap.size + 1 + 1, 4, none⟩ = some (.int .i64 0) := BR5.out.cell 4
          have fr4 := BR5.out.frozen 4
          have r5 : w5.cell? ⟨w.heap.size + 1 + 1, 5, none⟩ = some (.bool false) := BR5.out.cell 5
          have fr5 := BR5.out.frozen 5
          go_wp2_with fail
          refine bodyPost_ret (results_row2 (p := 4) (a := 5) rfl _ _ _ _ _ _ _ rfl (six_set BR5.out (.slice VA (refL S o).length vcap) T rfl) Try.underlying30 rfl info_disk) rfl ?_
          rw [HE.out, HV2.out]
          exact ⟨_, rfl, Or.inr (fs_six (by rw [HL.out]; exact HF5.out) (by rw [HL.out]; exact FO5.out) _ _ _ _ _ _), six_below hbw5 (by omega) _ _ _ _ _ _⟩
        · have hng : S.fuse ≤ 0 := by omega
          go_wp2_with fail
          obtain ⟨W2, hW2⟩ : ∃ W2, W2 = (w1.setCell ⟨w.heap.size, 3, none⟩ (.int .i64 (S.ops + 1))) := ⟨_, rfl⟩
          have bR2 : Blk W2 (w.heap.size + 1 + 1) 30 zC := by rw [hW2]; exact BR1.out.far (by simp; omega) _
          have FS2 : FsAt W2 lo (.slice SA S.L.length scap) S.L := by rw [hW2]; exact HR1.out.fs.oneR FO.out _ _
          have bel2 : Below w.heap.size w W2 := by rw [hW2]; exact hbw.setCell (by simp) _
          rw [← hW2]
          clear hW2
          clear d0 d1 d2 d3 d4 d5 fd0 o0 o1 o2 o3 r0 r1 r2 r3 r4 r5 fr0 fr1 fr2 fr3 fr4 fr5
          clear fd2 fd3 fd5
          have hDo : Calls Try.prog 56 #[rfV (.slice SA S.L.length scap) (tick S), opV o] W2 (RfPost (refL S o) (tick S) W2) :=
            does_any (S := tick S) ⟨FS2, HR1.out.len, HR1.out.usd, HR1.out.used, HR1.out.names⟩ ho h0 h4 rfl (fun hk => hWF.out hk HZ.out)
          have hTd : rfV (.slice SA S.L.length scap) (tick S) = .agg #[.slice SA S.L.length scap, .int .i64 S.lim, .int .i64 (S.fuse), .int .i64 (S.ops + 1), .int .i64 S.reads, .bool S.down] := by
            unfold tick; rw [show max (S.fuse - 1) (-1) = S.fuse by omega]
          rw [hTd] at hDo
          refine hDo.mono ?_
          clear hDo hTd
          rintro e w5 ⟨v, rfl, hF5, hb5⟩
          have BR5 := Lib.hid (bR2.below' hb5)
          have HF5 := Lib.hid (hF5.mono (lo' := w.heap.size) (by have := bel2.size; omega))
          have FO5 := Lib.hid (show ∀ g off n cap, v = .slice (some ⟨g, off, none⟩) n cap → 0 < (refL S o).length → g ≠ w.heap.size + 1 + 1 from fun g off n cap hv hl => by
            obtain ⟨A, c, q1, q2, q3⟩ := hF5
            obtain ⟨g', off', e, hlo', _⟩ := q3 hl
            rw [q1, e] at hv
            injection hv with hv
            injection hv with hv
            injection hv with hv
            have := bR2.lt
            omega)
          have hbw5 : Below w.heap.size w w5 := bel2.trans (hb5.mono bel2.size)
          have ltR5 : w.heap.size + 1 + 1 < w5.heap.size := BR5.out.lt
          obtain ⟨VA, vcap, hv, -, -⟩ := HF5.out
          subst hv
          have HV2 := Lib.hid (HV.out (.slice VA (refL S o).length vcap))
          generalize tick S = T at *
          clear hF5 hb5 bR2 FS2 bel2
          have r0 : w5.cell? ⟨w.heap.size + 1 + 1, 0, none⟩ = some (.slice none 0 0) := BR5.out.cell 0
          have fr0 := BR5.out.frozen 0
          have r1 : w5.cell? ⟨w.heap.size + 1 + 1, 1, none⟩ = some (.int .i64 0) := BR5.out.cell 1
          have fr1 := BR5.out.frozen 1
          have r2 : w5.cell? ⟨w.heap.size + 1 + 1, 2, none⟩ = some (.int .i64 0) := BR5.out.cell 2
          have fr2 := BR5.out.frozen 2
          have r3 : w5.cell? ⟨w.heap.size + 1 + 1, 3, none⟩ = some (.int .i64 0) := BR5.out.cell 3
          have fr3 := BR5.out.frozen 3
          have r4 : w5.cell? ⟨w.heap.size + 1 + 1, 4, none⟩ = some (.int .i64 0) := BR5.out.cell 4
          have fr4 := BR5.out.frozen 4
          have r5 : w5.cell? ⟨w.heap.size + 1 + 1, 5, none⟩ = some (.bool false) := BR5.out.cell 5
          have fr5 := BR5.out.frozen 5
          go_wp2_with fail
          refine bodyPost_ret (results_row2 (p := 4) (a := 5) rfl _ _ _ _ _ _ _ rfl (six_set BR5.out (.slice VA (refL S o).length vcap) T rfl) Try.underlying30 rfl info_disk) rfl ?_
          rw [HE.out, HV2.out]
          exact ⟨_, rfl, Or.inr (fs_six (by rw [HL.out]; exact HF5.out) (by rw [HL.out]; exact FO5.out) _ _ _ _ _ _), six_below hbw5 (by omega) _ _ _ _ _ _⟩
    · have hop2 := HOP.out
      unfold opR at hop2
      rw [HDN.out, if_neg (by decide), if_pos hz] at hop2
      obtain ⟨E, hE⟩ : ∃ E : Nat, whyO S o = E := ⟨_, rfl⟩
      rw [hE] at hz hop2
      rw [hE]
      have hzb : ((E : Int) != 0) = true := by simp; omega
      have HE := Lib.hid hop2
      clear hop2 hE hz
      have d0 : w1.cell? ⟨w.heap.size, 0, none⟩ = some ((.slice SA S.L.length scap)) := BD1.out.cell 0
      have d1 : w1.cell? ⟨w.heap.size, 1, none⟩ = some (.int .i64 S.lim) := BD1.out.cell 1
      have d2 : w1.cell? ⟨w.heap.size, 2, none⟩ = some (.int .i64 S.fuse) := BD1.out.cell 2
      have d3 : w1.cell? ⟨w.heap.size, 3, none⟩ = some (.int .i64 S.ops) := BD1.out.cell 3
      have d4 : w1.cell? ⟨w.heap.size, 4, none⟩ = some (.int .i64 S.reads) := BD1.out.cell 4
      have d5 : w1.cell? ⟨w.heap.size, 5, none⟩ = some (.bool S.down) := BD1.out.cell 5
      have fd0 := BD1.out.frozen 0
      have o0 : w1.cell? ⟨w.heap.size + 1, 0, none⟩ = some (.int .i64 o.k) := BO1.out.cell 0
      have o1 : w1.cell? ⟨w.heap.size + 1, 1, none⟩ = some (.string o.a) := BO1.out.cell 1
      have o2 : w1.cell? ⟨w.heap.size + 1, 2, none⟩ = some (.string o.b) := BO1.out.cell 2
      have o3 : w1.cell? ⟨w.heap.size + 1, 3, none⟩ = some (.int .i64 o.n) := BO1.out.cell 3
      have r0 : w1.cell? ⟨w.heap.size + 1 + 1, 0, none⟩ = some (.slice none 0 0) := BR1.out.cell 0
      have r1 : w1.cell? ⟨w.heap.size + 1 + 1, 1, none⟩ = some (.int .i64 0) := BR1.out.cell 1
      have r2 : w1.cell? ⟨w.heap.size + 1 + 1, 2, none⟩ = some (.int .i64 0) := BR1.out.cell 2
      have r3 : w1.cell? ⟨w.heap.size + 1 + 1, 3, none⟩ = some (.int .i64 0) := BR1.out.cell 3
      have r4 : w1.cell? ⟨w.heap.size + 1 + 1, 4, none⟩ = some (.int .i64 0) := BR1.out.cell 4
      have r5 : w1.cell? ⟨w.heap.size + 1 + 1, 5, none⟩ = some (.bool false) := BR1.out.cell 5
      have fr0 := BR1.out.frozen 0
      have fr1 := BR1.out.frozen 1
      have fr2 := BR1.out.frozen 2
      have fr3 := BR1.out.frozen 3
      have fr4 := BR1.out.frozen 4
      have fr5 := BR1.out.frozen 5
      have fd2 := BD1.out.frozen 2
      have fd3 := BD1.out.frozen 3
      have fd5 := BD1.out.frozen 5
      go_wp2_with fail
      refine bodyPost_ret (results_row2 (p := 4) (a := 5) rfl _ _ _ _ _ _ _ rfl (six_set BR1.out (.slice SA S.L.length scap) S rfl) Try.underlying30 rfl info_disk) rfl ?_
      rw [HE.out]
      exact ⟨_, rfl, Or.inl ⟨rfl, rfl⟩, six_below hbw (by omega) _ _ _ _ _ _⟩
end Go.Proofs.Ytgkphogefpmeaaa
