/- The walk of the reference's does. -/
import Derived.Test.YtgkphogefpmeaaaRfE
namespace Go.Proofs.Ytgkphogefpmeaaa
open Go.RowKit Go.Maps DkM

def dC (sl : Value) (S : Dk) : Array Value := #[sl, .int .i64 S.lim, .int .i64 S.fuse, .int .i64 S.ops, .int .i64 S.reads, .bool S.down]
def oC (o : Op5) : Array Value := #[.int .i64 o.k, .string o.a, .string o.b, .int .i64 o.n]
def zC : Array Value := #[.slice none 0 0, .int .i64 0, .int .i64 0, .int .i64 0, .int .i64 0, .bool false]
def fC (f : Fl) : Array Value := #[.string f.n, .string f.s, .string f.l]
theorem Blk.below' {w w' : World} {g : Nat} {t : TypeId} {cs : Array Value} (h : Blk w g t cs) (hb : Below w.heap.size w w') : Blk w' g t cs := (hb.block g h.lt).trans h
theorem three_boxes (w : World) (sl : Value) (S : Dk) (o : Op5) : ∃ W, W = ((w.alloc (.cells #[sl, .int .i64 S.lim, .int .i64 S.fuse, .int .i64 S.ops, .int .i64 S.reads, .bool S.down] 30)).alloc (.cells #[.int .i64 o.k, .string o.a, .string o.b, .int .i64 o.n] 34)).alloc (.cells #[.slice none 0 0, .int .i64 0, .int .i64 0, .int .i64 0, .int .i64 0, .bool false] 30) ∧
    Blk W w.heap.size 30 (dC sl S) ∧ Blk W (w.heap.size + 1) 34 (oC o) ∧ Blk W (w.heap.size + 1 + 1) 30 zC ∧ Below w.heap.size w W := by
  refine ⟨_, rfl, ((Blk.new w _ (dC sl S)).alloc _).alloc _, Blk.alloc ?_ _, ?_, (below_two _ _ _).trans ((below_one _ _).mono (by simp; omega))⟩
  · have := Blk.new (w.alloc (.cells (dC sl S) 30)) 34 (oC o)
    rw [show (w.alloc (.cells (dC sl S) 30)).heap.size = w.heap.size + 1 by simp] at this
    exact this
  · have := Blk.new ((w.alloc (.cells (dC sl S) 30)).alloc (.cells (oC o) 34)) 30 zC
    rw [show ((w.alloc (.cells (dC sl S) 30)).alloc (.cells (oC o) 34)).heap.size = w.heap.size + 1 + 1 by simp] at this
    exact this
theorem results_row1 {P : Program} {fn : Func} {p : Tmp} {ty : TypeId} (h : fn.results = #[.cell p ty]) (tmps : Array Value) (w : World) (g : Nat) (t : TypeId) (cs : Array Value) (fr : Nat × Nat) (d : TypeDesc)
    (hp : tmps.getD p undef = .pointer (some ⟨g, 0, none⟩)) (hg : w.heap[g]? = some (.cells cs t fr))
    (hu : P.underlying ty = some d) (hd : (match d with | .struct _ | .array _ _ => true | _ => false) = true) (hi : (P.info? ty).map (·.size) = some cs.size) :
    (results fn tmps).run P w = .ok (.agg cs) w := by
  have hp' : tmps[p]?.getD undef = .pointer (some ⟨g, 0, none⟩) := by simpa using hp
  simp [results, h, hp', asAddr, run_loadVar_row w g t ty cs fr d hg hu hd hi]
theorem results_row2 {P : Program} {fn : Func} {p a : Tmp} {ty : TypeId} (h : fn.results = #[.cell p ty, .tmp a]) (tmps : Array Value) (w : World) (g : Nat) (t : TypeId) (cs : Array Value) (fr : Nat × Nat) (d : TypeDesc)
    (hp : tmps.getD p undef = .pointer (some ⟨g, 0, none⟩)) (hg : w.heap[g]? = some (.cells cs t fr))
    (hu : P.underlying ty = some d) (hd : (match d with | .struct _ | .array _ _ => true | _ => false) = true) (hi : (P.info? ty).map (·.size) = some cs.size) :
    (results fn tmps).run P w = .ok (.tuple #[.agg cs, tmps.getD a undef]) w := by
  have hp' : tmps[p]?.getD undef = .pointer (some ⟨g, 0, none⟩) := by simpa using hp
  simp [results, h, hp', asAddr, run_loadVar_row w g t ty cs fr d hg hu hd hi]
theorem results_row3 {P : Program} {fn : Func} {p a b : Tmp} {ty : TypeId} (h : fn.results = #[.cell p ty, .tmp a, .tmp b]) (tmps : Array Value) (w : World) (g : Nat) (t : TypeId) (cs : Array Value) (fr : Nat × Nat) (d : TypeDesc)
    (hp : tmps.getD p undef = .pointer (some ⟨g, 0, none⟩)) (hg : w.heap[g]? = some (.cells cs t fr))
    (hu : P.underlying ty = some d) (hd : (match d with | .struct _ | .array _ _ => true | _ => false) = true) (hi : (P.info? ty).map (·.size) = some cs.size) :
    (results fn tmps).run P w = .ok (.tuple #[.agg cs, tmps.getD a undef, tmps.getD b undef]) w := by
  have hp' : tmps[p]?.getD undef = .pointer (some ⟨g, 0, none⟩) := by simpa using hp
  simp [results, h, hp', asAddr, run_loadVar_row w g t ty cs fr d hg hu hd hi]
theorem info_disk : (Try.prog.info? 30).map (·.size) = some 6 := by kernel_rfl
/-- A disk that is handed back, with files of its own. -/
def RfPost (L' : List Fl) (S : Dk) (w : World) (e : Ending) (w' : World) : Prop := ∃ sl', e = .returned (rfV sl' S) ∧ FsAt w' w.heap.size sl' L' ∧ Below w.heap.size w w'
/-- A struct of six cells, stored over the one of block R. -/
theorem six_set {W : World} {R : Nat} {cs : Array Value} (h : Blk W R 30 zC) (sl : Value) (S : Dk) (hcs : cs = dC sl S) :
    Blk ((((((W.setCell ⟨R, 0, none⟩ sl).setCell ⟨R, 1, none⟩ (.int .i64 S.lim)).setCell ⟨R, 2, none⟩ (.int .i64 S.fuse)).setCell ⟨R, 3, none⟩ (.int .i64 S.ops)).setCell ⟨R, 4, none⟩ (.int .i64 S.reads)).setCell ⟨R, 5, none⟩ (.bool S.down)) R 30 cs := by
  subst hcs
  exact (((((h.set_ 0 _).set_ 1 _).set_ 2 _).set_ 3 _).set_ 4 _).set_ 5 _
theorem six_below {w W : World} {R : Nat} (h : Below w.heap.size w W) (hR : w.heap.size ≤ R) (a b c d e f : Value) :
    Below w.heap.size w ((((((W.setCell ⟨R, 0, none⟩ a).setCell ⟨R, 1, none⟩ b).setCell ⟨R, 2, none⟩ c).setCell ⟨R, 3, none⟩ d).setCell ⟨R, 4, none⟩ e).setCell ⟨R, 5, none⟩ f) :=
  (((((h.setCell hR _).setCell hR _).setCell hR _).setCell hR _).setCell hR _).setCell hR _
theorem FsAt.six {W : World} {lo R : Nat} {v : Value} {L : List Fl} (h : FsAt W lo v L) (hR : R < lo) (a b c d e f : Value) :
    FsAt ((((((W.setCell ⟨R, 0, none⟩ a).setCell ⟨R, 1, none⟩ b).setCell ⟨R, 2, none⟩ c).setCell ⟨R, 3, none⟩ d).setCell ⟨R, 4, none⟩ e).setCell ⟨R, 5, none⟩ f) lo v L := by
  have one : ∀ {W : World} (i : Nat) (u : Value), FsAt W lo v L → FsAt (W.setCell ⟨R, i, none⟩ u) lo v L := fun i u h => h.keep (by simp) (fun g hg _ => Below.heap_setCell _ _ _ _ (by simp; omega))
  exact one _ _ (one _ _ (one _ _ (one _ _ (one _ _ (one _ _ h)))))
theorem FsAt.one {W : World} {lo R : Nat} {v : Value} {L : List Fl} (h : FsAt W lo v L) (hR : R < lo) (i : Nat) (u : Value) : FsAt (W.setCell ⟨R, i, none⟩ u) lo v L :=
  h.keep (by simp) (fun g hg _ => Below.heap_setCell _ _ _ _ (by simp; omega))

set_option maxRecDepth 100000 in
set_option maxHeartbeats 4000000 in
theorem does_zero {w : World} {lo : Nat} {sl : Value} {S : Dk} (h : RfAt w lo sl S) {o : Op5} (ho : OkOp o) (hk : o.k = 0) :
    Calls Try.prog 56 #[rfV sl S, opV o] w (RfPost (putF S.L ⟨o.a, nul, nul⟩) S w) := by
  have ha1 : o.a.size ≤ 9223372036854775807 := by have := ho.a1; omega
  have hb1' : o.b.size ≤ 9223372036854775807 := by have := ho.b1; omega
  have hb2' := ho.b1
  have hlen := h.len
  obtain ⟨W, hW, bD, bO, bR, hbW⟩ := three_boxes w sl S o
  have HW := Lib.hid hW
  have BD := Lib.hid bD
  have BO := Lib.hid bO
  have BR := Lib.hid bR
  have HRW := Lib.hid (h.below hbW)
  clear bD bO bR hW
  have d0 : W.cell? ⟨w.heap.size, 0, none⟩ = some (sl) := BD.out.cell 0
  have d1 : W.cell? ⟨w.heap.size, 1, none⟩ = some (.int .i64 S.lim) := BD.out.cell 1
  have d2 : W.cell? ⟨w.heap.size, 2, none⟩ = some (.int .i64 S.fuse) := BD.out.cell 2
  have d3 : W.cell? ⟨w.heap.size, 3, none⟩ = some (.int .i64 S.ops) := BD.out.cell 3
  have d4 : W.cell? ⟨w.heap.size, 4, none⟩ = some (.int .i64 S.reads) := BD.out.cell 4
  have d5 : W.cell? ⟨w.heap.size, 5, none⟩ = some (.bool S.down) := BD.out.cell 5
  have fd0 := BD.out.frozen 0
  have o0 : W.cell? ⟨w.heap.size + 1, 0, none⟩ = some (.int .i64 o.k) := BO.out.cell 0
  have o1 : W.cell? ⟨w.heap.size + 1, 1, none⟩ = some (.string o.a) := BO.out.cell 1
  have o2 : W.cell? ⟨w.heap.size + 1, 2, none⟩ = some (.string o.b) := BO.out.cell 2
  have o3 : W.cell? ⟨w.heap.size + 1, 3, none⟩ = some (.int .i64 o.n) := BO.out.cell 3
  have r0 : W.cell? ⟨w.heap.size + 1 + 1, 0, none⟩ = some (.slice none 0 0) := BR.out.cell 0
  have r1 : W.cell? ⟨w.heap.size + 1 + 1, 1, none⟩ = some (.int .i64 0) := BR.out.cell 1
  have r2 : W.cell? ⟨w.heap.size + 1 + 1, 2, none⟩ = some (.int .i64 0) := BR.out.cell 2
  have r3 : W.cell? ⟨w.heap.size + 1 + 1, 3, none⟩ = some (.int .i64 0) := BR.out.cell 3
  have r4 : W.cell? ⟨w.heap.size + 1 + 1, 4, none⟩ = some (.int .i64 0) := BR.out.cell 4
  have r5 : W.cell? ⟨w.heap.size + 1 + 1, 5, none⟩ = some (.bool false) := BR.out.cell 5
  have fr0 := BR.out.frozen 0
  have fr1 := BR.out.frozen 1
  have fr2 := BR.out.frozen 2
  have fr3 := BR.out.frozen 3
  have fr4 := BR.out.frozen 4
  have fr5 := BR.out.frozen 5
  rw [hk] at o0
  have hk' := Lib.hid hk
  have kb : (o.k == 0) = true := by simp [hk]
  clear hk
  have PU := Lib.hid (put_any HRW.out.fs HRW.out.len ⟨o.a, nul, nul⟩ ha1 HRW.out.names)
  go_enter Try.func56, Try.ntmps56
  go_wp2_with fail
  rw [← HW.out]
  refine PU.out.mono ?_
  rintro e w1 ⟨v, rfl, hown, hb1⟩
  clear d0 d1 d2 d3 d4 d5 fd0 o0 o1 o2 o3 r0 r1 r2 r3 r4 r5 fr0 fr1 fr2 fr3 fr4 fr5
  have BD1 := Lib.hid (BD.out.below' hb1)
  have BO1 := Lib.hid (BO.out.below' hb1)
  have BR1 := Lib.hid (BR.out.below' hb1)
  have HF := Lib.hid (FsAt.own hown (lo := w.heap.size + 1 + 1 + 1) (by have := BR.out.lt; omega))
  have hbw : Below w.heap.size w w1 := hbW.trans (hb1.mono hbW.size)
  clear hown hb1
  obtain ⟨VA, vcap, hv, -, -⟩ := HF.out
  subst hv
  have d0 : w1.cell? ⟨w.heap.size, 0, none⟩ = some (sl) := BD1.out.cell 0
  have d1 : w1.cell? ⟨w.heap.size, 1, none⟩ = some (.int .i64 S.lim) := BD1.out.cell 1
  have d2 : w1.cell? ⟨w.heap.size, 2, none⟩ = some (.int .i64 S.fuse) := BD1.out.cell 2
  have d3 : w1.cell? ⟨w.heap.size, 3, none⟩ = some (.int .i64 S.ops) := BD1.out.cell 3
  have d4 : w1.cell? ⟨w.heap.size, 4, none⟩ = some (.int .i64 S.reads) := BD1.out.cell 4
  have d5 : w1.cell? ⟨w.heap.size, 5, none⟩ = some (.bool S.down) := BD1.out.cell 5
  have fd0 := BD1.out.frozen 0
  have o0 : w1.cell? ⟨w.heap.size + 1, 0, none⟩ = some (.int .i64 o.k) := BO1.out.cell 0
  have o1 : w1.cell? ⟨w.heap.size + 1, 1, none⟩ = some (.string o.a) := BO1.out.cell 1
  have o2 : w1.cell? ⟨w.heap.size + 1, 2, none⟩ = some (.string o.b) := BO1.out.cell 2
  have o3 : w1.cell? ⟨w.heap.size + 1, 3, none⟩ = some (.int .i64 o.n) := BO1.out.cell 3
  have r0 : w1.cell? ⟨w.heap.size + 1 + 1, 0, none⟩ = some (.slice none 0 0) := BR1.out.cell 0
  have r1 : w1.cell? ⟨w.heap.size + 1 + 1, 1, none⟩ = some (.int .i64 0) := BR1.out.cell 1
  have r2 : w1.cell? ⟨w.heap.size + 1 + 1, 2, none⟩ = some (.int .i64 0) := BR1.out.cell 2
  have r3 : w1.cell? ⟨w.heap.size + 1 + 1, 3, none⟩ = some (.int .i64 0) := BR1.out.cell 3
  have r4 : w1.cell? ⟨w.heap.size + 1 + 1, 4, none⟩ = some (.int .i64 0) := BR1.out.cell 4
  have r5 : w1.cell? ⟨w.heap.size + 1 + 1, 5, none⟩ = some (.bool false) := BR1.out.cell 5
  have fr0 := BR1.out.frozen 0
  have fr1 := BR1.out.frozen 1
  have fr2 := BR1.out.frozen 2
  have fr3 := BR1.out.frozen 3
  have fr4 := BR1.out.frozen 4
  have fr5 := BR1.out.frozen 5
  rw [hk'.out] at o0
  have ltR : w.heap.size + 1 + 1 < w1.heap.size := BR1.out.lt
  go_wp2_with fail
  refine bodyPost_ret (results_row1 (p := 4) rfl _ _ _ _ _ _ _ rfl (six_set (BR1.out.far (by simp; omega) _) _ S rfl) Try.underlying30 rfl info_disk) rfl ?_
  exact ⟨_, rfl, (((HF.out.one (by omega) _ _).six (by omega) _ _ _ _ _ _).mono (by omega)), six_below (hbw.setCell (by simp) _) (by omega) _ _ _ _ _ _⟩

theorem ds_below {w x x' : World} {sl : Value} {S : Dk} {o : Op5} {f : Fl} {g off j : Nat} (h : (x.cell? ⟨w.heap.size, 0, none⟩ = some sl ∧ x.cell? ⟨w.heap.size, 1, none⟩ = some (.int .i64 S.lim) ∧ x.cell? ⟨w.heap.size, 2, none⟩ = some (.int .i64 S.fuse) ∧ x.cell? ⟨w.heap.size, 3, none⟩ = some (.int .i64 S.ops) ∧ x.cell? ⟨w.heap.size, 4, none⟩ = some (.int .i64 S.reads) ∧ x.cell? ⟨w.heap.size, 5, none⟩ = some (.bool S.down)) ∧ x.cell? ⟨w.heap.size + 1, 1, none⟩ = some (.string o.a) ∧ x.cell? ⟨g, off + j * 3, none⟩ = some (.string f.n) ∧ x.cell? ⟨g, off + j * 3 + 1, none⟩ = some (.string f.s) ∧ x.cell? ⟨g, off + j * 3 + 2, none⟩ = some (.string f.l)) (hb : Below x.heap.size x x') : (x'.cell? ⟨w.heap.size, 0, none⟩ = some sl ∧ x'.cell? ⟨w.heap.size, 1, none⟩ = some (.int .i64 S.lim) ∧ x'.cell? ⟨w.heap.size, 2, none⟩ = some (.int .i64 S.fuse) ∧ x'.cell? ⟨w.heap.size, 3, none⟩ = some (.int .i64 S.ops) ∧ x'.cell? ⟨w.heap.size, 4, none⟩ = some (.int .i64 S.reads) ∧ x'.cell? ⟨w.heap.size, 5, none⟩ = some (.bool S.down)) ∧ x'.cell? ⟨w.heap.size + 1, 1, none⟩ = some (.string o.a) ∧ x'.cell? ⟨g, off + j * 3, none⟩ = some (.string f.n) ∧ x'.cell? ⟨g, off + j * 3 + 1, none⟩ = some (.string f.s) ∧ x'.cell? ⟨g, off + j * 3 + 2, none⟩ = some (.string f.l) := by
  obtain ⟨⟨a0, a1, a2, a3, a4, a5⟩, b1, c0, c1, c2⟩ := h
  exact ⟨⟨(hb.cell (cell_lt a0)).trans a0, (hb.cell (cell_lt a1)).trans a1, (hb.cell (cell_lt a2)).trans a2, (hb.cell (cell_lt a3)).trans a3, (hb.cell (cell_lt a4)).trans a4, (hb.cell (cell_lt a5)).trans a5⟩, (hb.cell (cell_lt b1)).trans b1, (hb.cell (cell_lt c0)).trans c0, (hb.cell (cell_lt c1)).trans c1, (hb.cell (cell_lt c2)).trans c2⟩
theorem ds_drew {w x : World} {sl : Value} {S : Dk} {o : Op5} {f : Fl} {g off j : Nat} (h : (x.cell? ⟨w.heap.size, 0, none⟩ = some sl ∧ x.cell? ⟨w.heap.size, 1, none⟩ = some (.int .i64 S.lim) ∧ x.cell? ⟨w.heap.size, 2, none⟩ = some (.int .i64 S.fuse) ∧ x.cell? ⟨w.heap.size, 3, none⟩ = some (.int .i64 S.ops) ∧ x.cell? ⟨w.heap.size, 4, none⟩ = some (.int .i64 S.reads) ∧ x.cell? ⟨w.heap.size, 5, none⟩ = some (.bool S.down)) ∧ x.cell? ⟨w.heap.size + 1, 1, none⟩ = some (.string o.a) ∧ x.cell? ⟨g, off + j * 3, none⟩ = some (.string f.n) ∧ x.cell? ⟨g, off + j * 3 + 1, none⟩ = some (.string f.s) ∧ x.cell? ⟨g, off + j * 3 + 2, none⟩ = some (.string f.l)) : (x.drew.cell? ⟨w.heap.size, 0, none⟩ = some sl ∧ x.drew.cell? ⟨w.heap.size, 1, none⟩ = some (.int .i64 S.lim) ∧ x.drew.cell? ⟨w.heap.size, 2, none⟩ = some (.int .i64 S.fuse) ∧ x.drew.cell? ⟨w.heap.size, 3, none⟩ = some (.int .i64 S.ops) ∧ x.drew.cell? ⟨w.heap.size, 4, none⟩ = some (.int .i64 S.reads) ∧ x.drew.cell? ⟨w.heap.size, 5, none⟩ = some (.bool S.down)) ∧ x.drew.cell? ⟨w.heap.size + 1, 1, none⟩ = some (.string o.a) ∧ x.drew.cell? ⟨g, off + j * 3, none⟩ = some (.string f.n) ∧ x.drew.cell? ⟨g, off + j * 3 + 1, none⟩ = some (.string f.s) ∧ x.drew.cell? ⟨g, off + j * 3 + 2, none⟩ = some (.string f.l) := h
theorem ds_set {w x : World} {sl : Value} {S : Dk} {o : Op5} {f : Fl} {g off j N : Nat} (h : (x.cell? ⟨w.heap.size, 0, none⟩ = some sl ∧ x.cell? ⟨w.heap.size, 1, none⟩ = some (.int .i64 S.lim) ∧ x.cell? ⟨w.heap.size, 2, none⟩ = some (.int .i64 S.fuse) ∧ x.cell? ⟨w.heap.size, 3, none⟩ = some (.int .i64 S.ops) ∧ x.cell? ⟨w.heap.size, 4, none⟩ = some (.int .i64 S.reads) ∧ x.cell? ⟨w.heap.size, 5, none⟩ = some (.bool S.down)) ∧ x.cell? ⟨w.heap.size + 1, 1, none⟩ = some (.string o.a) ∧ x.cell? ⟨g, off + j * 3, none⟩ = some (.string f.n) ∧ x.cell? ⟨g, off + j * 3 + 1, none⟩ = some (.string f.s) ∧ x.cell? ⟨g, off + j * 3 + 2, none⟩ = some (.string f.l)) (hD : w.heap.size ≠ N) (hO : w.heap.size + 1 ≠ N) (hg : g ≠ N) (i : Nat) (v : Value) : ((x.setCell ⟨N, i, none⟩ v).cell? ⟨w.heap.size, 0, none⟩ = some sl ∧ (x.setCell ⟨N, i, none⟩ v).cell? ⟨w.heap.size, 1, none⟩ = some (.int .i64 S.lim) ∧ (x.setCell ⟨N, i, none⟩ v).cell? ⟨w.heap.size, 2, none⟩ = some (.int .i64 S.fuse) ∧ (x.setCell ⟨N, i, none⟩ v).cell? ⟨w.heap.size, 3, none⟩ = some (.int .i64 S.ops) ∧ (x.setCell ⟨N, i, none⟩ v).cell? ⟨w.heap.size, 4, none⟩ = some (.int .i64 S.reads) ∧ (x.setCell ⟨N, i, none⟩ v).cell? ⟨w.heap.size, 5, none⟩ = some (.bool S.down)) ∧ (x.setCell ⟨N, i, none⟩ v).cell? ⟨w.heap.size + 1, 1, none⟩ = some (.string o.a) ∧ (x.setCell ⟨N, i, none⟩ v).cell? ⟨g, off + j * 3, none⟩ = some (.string f.n) ∧ (x.setCell ⟨N, i, none⟩ v).cell? ⟨g, off + j * 3 + 1, none⟩ = some (.string f.s) ∧ (x.setCell ⟨N, i, none⟩ v).cell? ⟨g, off + j * 3 + 2, none⟩ = some (.string f.l) := by
  obtain ⟨⟨a0, a1, a2, a3, a4, a5⟩, b1, c0, c1, c2⟩ := h
  have k : ∀ (b c : Nat), b ≠ N → (x.setCell ⟨N, i, none⟩ v).cell? ⟨b, c, none⟩ = x.cell? ⟨b, c, none⟩ := fun b c hb => World.cell?_setCell_other _ _ _ _ (by intro e; injection e with e; exact hb e.symm)
  rw [k _ _ hD, k _ _ hD, k _ _ hD, k _ _ hD, k _ _ hD, k _ _ hD, k _ _ hO, k _ _ hg, k _ _ hg, k _ _ hg]
  exact ⟨⟨a0, a1, a2, a3, a4, a5⟩, b1, c0, c1, c2⟩

/-- What stands behind the fourth region of does. -/
structure Pk (w W4 : World) (Fb lo : Nat) (sl : Value) (S : Dk) (o : Op5) (f : Fl) : Prop where
  bd : Blk W4 w.heap.size 30 (dC sl S)
  bo : Blk W4 (w.heap.size + 1) 34 (oC o)
  br : Blk W4 (w.heap.size + 1 + 1) 30 zC
  bf : Blk W4 Fb 54 (fC f)
  fs : FsAt W4 lo sl S.L
  bel : Below w.heap.size w W4
  far : w.heap.size + 1 + 1 < Fb
theorem pk_one {w W w2 : World} {lo : Nat} {sl : Value} {S : Dk} {o : Op5} {f : Fl} (h1 : Blk W w.heap.size 30 (dC sl S)) (h2 : Blk W (w.heap.size + 1) 34 (oC o)) (h3 : Blk W (w.heap.size + 1 + 1) 30 zC) (h4 : FsAt W lo sl S.L) (h5 : Below w.heap.size w W) (hb : Below W.drew.heap.size W.drew w2) :
    Pk w (w2.alloc (.cells #[.string f.n, .string f.s, .string f.l] 54)) w2.heap.size lo sl S o f := by
  have hb' := below_undrew hb
  exact ⟨(h1.below' hb').alloc _, (h2.below' hb').alloc _, (h3.below' hb').alloc _, Blk.new _ _ _, (h4.below hb').alloc _, (h5.trans (hb'.mono h5.size)).trans ((below_one _ _).mono (Nat.le_trans h5.size hb'.size)), Nat.lt_of_lt_of_le h3.lt hb'.size⟩
theorem pk_two {w W w2 : World} {lo g off n cap : Nat} {S : Dk} {o : Op5} {f : Fl} {z : Obj} (h1 : Blk W w.heap.size 30 (dC (.slice (some ⟨g, off, none⟩) n cap) S)) (h2 : Blk W (w.heap.size + 1) 34 (oC o)) (h3 : Blk W (w.heap.size + 1 + 1) 30 zC) (h4 : FsAt W lo (.slice (some ⟨g, off, none⟩) n cap) S.L) (h5 : Below w.heap.size w W) (hb : Below (W.alloc z).drew.heap.size (W.alloc z).drew w2)
    (hN : Blk w2 W.heap.size 54 #[.string ⟨#[]⟩, .string ⟨#[]⟩, .string ⟨#[]⟩]) :
    Pk w (((w2.setCell ⟨W.heap.size, 0, none⟩ (.string f.n)).setCell ⟨W.heap.size, 1, none⟩ (.string f.s)).setCell ⟨W.heap.size, 2, none⟩ (.string f.l)) W.heap.size lo (.slice (some ⟨g, off, none⟩) n cap) S o f := by
  have hb' : Below W.heap.size W w2 := (below_one W z).trans (⟨hb.os, hb.tape, hb.output, hb.size, fun k hk => hb.block k (by have : W.heap.size ≤ (W.alloc z).drew.heap.size := by simp
                                                                                                                              omega)⟩)
  have k3 := h3.lt
  have far3 : ∀ {q : Nat} {T : TypeId} {cs : Array Value}, Blk W q T cs → Blk (((w2.setCell ⟨W.heap.size, 0, none⟩ (.string f.n)).setCell ⟨W.heap.size, 1, none⟩ (.string f.s)).setCell ⟨W.heap.size, 2, none⟩ (.string f.l)) q T cs := fun {q T cs} h => by
    have hq : q ≠ W.heap.size := by have := h.lt; omega
    exact (((h.below' hb').far hq _).far hq _).far hq _
  refine ⟨far3 h1, far3 h2, far3 h3, ((hN.set_ 0 _).set_ 1 _).set_ 2 _, ?_, ?_, k3⟩
  · refine h4.keep ?_ (fun q _ hq => ?_)
    · simp; exact hb'.size
    · rw [Below.heap_setCell _ _ _ _ (by simp; omega), Below.heap_setCell _ _ _ _ (by simp; omega), Below.heap_setCell _ _ _ _ (by simp; omega)]
      exact hb'.block q hq
  · exact (((h5.trans (hb'.mono h5.size)).setCell h5.size _).setCell h5.size _).setCell h5.size _
theorem FsAt.far {W : World} {lo g off n cap N : Nat} {L : List Fl} (h : FsAt W lo (.slice (some ⟨g, off, none⟩) n cap) L) (hN : g ≠ N) (i : Nat) (u : Value) : FsAt (W.setCell ⟨N, i, none⟩ u) lo (.slice (some ⟨g, off, none⟩) n cap) L := by
  obtain ⟨A, c, h1, h2, h3⟩ := h
  refine ⟨A, c, h1, h2, fun hl => ?_⟩
  obtain ⟨g', off', e, hlo, hg, hc⟩ := h3 hl
  have hgg : g' = g := by rw [e] at h1; injection h1 with h1; injection h1 with h1; injection h1 with h1; exact h1.symm
  subst hgg
  have hb := Below.heap_setCell W ⟨N, i, none⟩ u g' hN
  refine ⟨g', off', e, hlo, by simpa using hg, fun k hk => ?_⟩
  obtain ⟨q0, q1, q2⟩ := hc k hk
  exact ⟨(World.cell?_of_block (w := W) hb).trans q0, (World.cell?_of_block (w := W) hb).trans q1, (World.cell?_of_block (w := W) hb).trans q2⟩
def rL (L : List Fl) (o : Op5) (f : Fl) : List Fl :=
  if o.k = 1 then putF L ⟨f.n, f.s, f.l ++ o.b⟩ else if o.k = 2 then putF L ⟨f.n, f.s ++ f.l, nul⟩ else if o.k = 3 then putF (wo L o.a) ⟨o.b, f.s, f.l⟩ else wo L o.a
end Go.Proofs.Ytgkphogefpmeaaa
