/- What the log leans on: Ds5. -/
import Derived.Test.YtefknfbmphdafaaGreatDs4
import Derived.Test.YtefknfbmphdafaaGreatDs3
namespace Go.Proofs.YtefknfbmphdafaaGreat.Ds
open Go.RowKit Go.Maps DkM

def dC (sl : Value) (S : Dk) : Array Value := #[sl, .int .i64 S.lim, .int .i64 S.fuse, .int .i64 S.ops, .int .i64 S.reads, .bool S.down]
def oC (o : Op5) : Array Value := #[.int .i64 o.k, .string o.a, .string o.b, .int .i64 o.n]
def zC : Array Value := #[.slice none 0 0, .int .i64 0, .int .i64 0, .int .i64 0, .int .i64 0, .bool false]
def fC (f : Fl) : Array Value := #[.string f.n, .string f.s, .string f.l]
theorem Blk.below' {w w' : World} {g : Nat} {t : TypeId} {cs : Array Value} (h : Blk w g t cs) (hb : Below w.heap.size w w') : Blk w' g t cs := (hb.block g h.lt).trans h
theorem three_boxes (w : World) (sl : Value) (S : Dk) (o : Op5) : ∃ W, W = ((w.alloc (.cells #[sl, .int .i64 S.lim, .int .i64 S.fuse, .int .i64 S.ops, .int .i64 S.reads, .bool S.down] 43)).alloc (.cells #[.int .i64 o.k, .string o.a, .string o.b, .int .i64 o.n] 64)).alloc (.cells #[.slice none 0 0, .int .i64 0, .int .i64 0, .int .i64 0, .int .i64 0, .bool false] 43) ∧
    Blk W w.heap.size 43 (dC sl S) ∧ Blk W (w.heap.size + 1) 64 (oC o) ∧ Blk W (w.heap.size + 1 + 1) 43 zC ∧ Below w.heap.size w W := by
  refine ⟨_, rfl, ((Blk.new w _ (dC sl S)).alloc _).alloc _, Blk.alloc ?_ _, ?_, (below_two _ _ _).trans ((below_one _ _).mono (by simp; omega))⟩
  · have := Blk.new (w.alloc (.cells (dC sl S) 43)) 64 (oC o)
    rw [show (w.alloc (.cells (dC sl S) 43)).heap.size = w.heap.size + 1 by simp] at this
    exact this
  · have := Blk.new ((w.alloc (.cells (dC sl S) 43)).alloc (.cells (oC o) 64)) 43 zC
    rw [show ((w.alloc (.cells (dC sl S) 43)).alloc (.cells (oC o) 64)).heap.size = w.heap.size + 1 + 1 by simp] at this
    exact this
theorem results_row1 {P : Program} {fn : Func} {p : Tmp} {ty : TypeId} (h : fn.results = #[.cell p ty]) (tmps : Array Value) (w : World) (g : Nat) (t : TypeId) (cs : Array Value) (fr : Nat × Nat) (d : TypeDesc)
    (hp : tmps.getD p undef = .pointer (some ⟨g, 0, none⟩)) (hg : w.heap[g]? = some (.cells cs t fr))
    (hu : P.underlying ty = some d) (hd : (match d with | .struct _ | .array _ _ => true | _ => false) = true) (hi : (P.info? ty).map (·.size) = some cs.size) :
    (results fn tmps).run P w = .ok (.agg cs) w := by
  have hp' : tmps[p]?.getD undef = .pointer (some ⟨g, 0, none⟩) := by simpa using hp
  simp [results, h, hp', asAddr, run_loadVar_row w g t ty cs fr d hg hu hd hi]
theorem results_row2 {P : Program} {fn : Func} {p a : Tmp} {ty : TypeId} (h : fn.results = #[.cell p ty, .tmp a]) (tmps : Array Value) (w : World) (g : Nat) (t : TypeId) (cs : Array Value) (fr : Nat × Nat) (d : TypeDesc)
    (hp : tmps.getD p undef = .pointer (some ⟨g, 0, none⟩)) (hg : w.heap[g]? = some (.cells cs t fr))
    (hu : P.underlying ty = some d) (hd : (match d with | .struct _ | .array _ _ => true | _ => false) = true) (hi : (P.info? ty).map (·.size) = some cs.size) :
    (results fn tmps).run P w = .ok (.tuple #[.agg cs, tmps.getD a undef]) w := by
  have hp' : tmps[p]?.getD undef = .pointer (some ⟨g, 0, none⟩) := by simpa using hp
  simp [results, h, hp', asAddr, run_loadVar_row w g t ty cs fr d hg hu hd hi]
theorem results_row3 {P : Program} {fn : Func} {p a b : Tmp} {ty : TypeId} (h : fn.results = #[.cell p ty, .tmp a, .tmp b]) (tmps : Array Value) (w : World) (g : Nat) (t : TypeId) (cs : Array Value) (fr : Nat × Nat) (d : TypeDesc)
    (hp : tmps.getD p undef = .pointer (some ⟨g, 0, none⟩)) (hg : w.heap[g]? = some (.cells cs t fr))
    (hu : P.underlying ty = some d) (hd : (match d with | .struct _ | .array _ _ => true | _ => false) = true) (hi : (P.info? ty).map (·.size) = some cs.size) :
    (results fn tmps).run P w = .ok (.tuple #[.agg cs, tmps.getD a undef, tmps.getD b undef]) w := by
  have hp' : tmps[p]?.getD undef = .pointer (some ⟨g, 0, none⟩) := by simpa using hp
  simp [results, h, hp', asAddr, run_loadVar_row w g t ty cs fr d hg hu hd hi]
theorem info_disk : (Tryz.prog.info? 43).map (·.size) = some 6 := by kernel_rfl
/-- A disk that is handed back, with files of its own. -/
def RfPost (L' : List Fl) (S : Dk) (w : World) (e : Ending) (w' : World) : Prop := ∃ sl', e = .returned (rfV sl' S) ∧ FsAt w' w.heap.size sl' L' ∧ Below w.heap.size w w'
/-- A struct of six cells, stored over the one of block R. -/
theorem six_set {W : World} {R : Nat} {cs : Array Value} (h : Blk W R 43 zC) (sl : Value) (S : Dk) (hcs : cs = dC sl S) :
    Blk ((((((W.setCell ⟨R, 0, none⟩ sl).setCell ⟨R, 1, none⟩ (.int .i64 S.lim)).setCell ⟨R, 2, none⟩ (.int .i64 S.fuse)).setCell ⟨R, 3, none⟩ (.int .i64 S.ops)).setCell ⟨R, 4, none⟩ (.int .i64 S.reads)).setCell ⟨R, 5, none⟩ (.bool S.down)) R 43 cs := by
  subst hcs
  exact (((((h.set_ 0 _).set_ 1 _).set_ 2 _).set_ 3 _).set_ 4 _).set_ 5 _
theorem six_below {w W : World} {R : Nat} (h : Below w.heap.size w W) (hR : w.heap.size ≤ R) (a b c d e f : Value) :
    Below w.heap.size w ((((((W.setCell ⟨R, 0, none⟩ a).setCell ⟨R, 1, none⟩ b).setCell ⟨R, 2, none⟩ c).setCell ⟨R, 3, none⟩ d).setCell ⟨R, 4, none⟩ e).setCell ⟨R, 5, none⟩ f) :=
  (((((h.setCell hR _).setCell hR _).setCell hR _).setCell hR _).setCell hR _).setCell hR _
theorem FsAt.six {W : World} {lo R : Nat} {v : Value} {L : List Fl} (h : FsAt W lo v L) (hR : R < lo) (a b c d e f : Value) :
    FsAt ((((((W.setCell ⟨R, 0, none⟩ a).setCell ⟨R, 1, none⟩ b).setCell ⟨R, 2, none⟩ c).setCell ⟨R, 3, none⟩ d).setCell ⟨R, 4, none⟩ e).setCell ⟨R, 5, none⟩ f) lo v L := by
  have one : ∀ {W : World} (i : Nat) (u : Value), FsAt W lo v L → FsAt (W.setCell ⟨R, i, none⟩ u) lo v L := fun i u h => h.keep (by simp) (fun g hg _ => Below.heap_setCell _ _ _ _ (by simp; omega))
  exact one _ _ (one _ _ (one _ _ (one _ _ (one _ _ (one _ _ h)))))
theorem FsAt.one {W : World} {lo R : Nat} {v : Value} {L : List Fl} (h : FsAt W lo v L) (hR : R < lo) (i : Nat) (u : Value) : FsAt (W.setCell ⟨R, i, none⟩ u) lo v L :=
  h.keep (by simp) (fun g hg _ => Below.heap_setCell _ _ _ _ (by simp; omega))

set_option maxRecDepth 100000 in
set_option maxHeartbeats 4000000 in
theorem does_zero {w : World} {lo : Nat} {sl : Value} {S : Dk} (h : RfAt w lo sl S) {o : Op5} (ho : OkOp o) (hk : o.k = 0) :
    Calls Tryz.prog 52 #[rfV sl S, opV o] w (RfPost (putF S.L ⟨o.a, nul, nul⟩) S w) := by
  have ha1 : o.a.size ≤ 9223372036854775807 := by have := ho.a1; omega
  have hb1' : o.b.size ≤ 9223372036854775807 := by have := ho.b1; omega
  have hb2' := ho.b1
  have hlen := h.len
  obtain ⟨W, hW, bD, bO, bR, hbW⟩ := three_boxes w sl S o
  have HW := Lib.hid hW
  have BD := Lib.hid bD
  have BO := Lib.hid bO
  have BR := Lib.hid bR
  have HRW := Lib.hid (h.below hbW)
  clear bD bO bR hW
  have d0 : W.cell? ⟨w.heap.size, 0, none⟩ = some (sl) := BD.out.cell 0
  have d1 : W.cell? ⟨w.heap.size, 1, none⟩ = some (.int .i64 S.lim) := BD.out.cell 1
  have d2 : W.cell? ⟨w.heap.size, 2, none⟩ = some (.int .i64 S.fuse) := BD.out.cell 2
  have d3 : W.cell? ⟨w.heap.size, 3, none⟩ = some (.int .i64 S.ops) := BD.out.cell 3
  have d4 : W.cell? ⟨w.heap.size, 4, none⟩ = some (.int .i64 S.reads) := BD.out.cell 4
  have d5 : W.cell? ⟨w.heap.size, 5, none⟩ = some (.bool S.down) := BD.out.cell 5
  have fd0 := BD.out.frozen 0
  have o0 : W.cell? ⟨w.heap.size + 1, 0, none⟩ = some (.int .i64 o.k) := BO.out.cell 0
  have o1 : W.cell? ⟨w.heap.size + 1, 1, none⟩ = some (.string o.a) := BO.out.cell 1
  have o2 : W.cell? ⟨w.heap.size + 1, 2, none⟩ = some (.string o.b) := BO.out.cell 2
  have o3 : W.cell? ⟨w.heap.size + 1, 3, none⟩ = some (.int .i64 o.n) := BO.out.cell 3
  have r0 : W.cell? ⟨w.heap.size + 1 + 1, 0, none⟩ = some (.slice none 0 0) := BR.out.cell 0
  have r1 : W.cell? ⟨w.heap.size + 1 + 1, 1, none⟩ = some (.int .i64 0) := BR.out.cell 1
  have r2 : W.cell? ⟨w.heap.size + 1 + 1, 2, none⟩ = some (.int .i64 0) := BR.out.cell 2
  have r3 : W.cell? ⟨w.heap.size + 1 + 1, 3, none⟩ = some (.int .i64 0) := BR.out.cell 3
  have r4 : W.cell? ⟨w.heap.size + 1 + 1, 4, none⟩ = some (.int .i64 0) := BR.out.cell 4
  have r5 : W.cell? ⟨w.heap.size + 1 + 1, 5, none⟩ = some (.bool false) := BR.out.cell 5
  have fr0 := BR.out.frozen 0
  have fr1 := BR.out.frozen 1
  have fr2 := BR.out.frozen 2
  have fr3 := BR.out.frozen 3
  have fr4 := BR.out.frozen 4
  have fr5 := BR.out.frozen 5
  rw [hk] at o0
  have hk' := Lib.hid hk
  have kb : (o.k == 0) = true := by simp [hk]
  clear hk
  have PU := Lib.hid (put_any HRW.out.fs HRW.out.len ⟨o.a, nul, nul⟩ ha1 HRW.out.names)
  go_enter Tryz.func52, Tryz.ntmps52
  go_wp2_with fail
  rw [← HW.out]
  refine PU.out.mono ?_
  rintro e w1 ⟨v, rfl, hown, hb1⟩
  clear d0 d1 d2 d3 d4 d5 fd0 o0 o1 o2 o3 r0 r1 r2 r3 r4 r5 fr0 fr1 fr2 fr3 fr4 fr5
  have BD1 := Lib.hid (BD.out.below' hb1)
  have BO1 := Lib.hid (BO.out.below' hb1)
  have BR1 := Lib.hid (BR.out.below' hb1)
  have HF := Lib.hid (FsAt.own hown (lo := w.heap.size + 1 + 1 + 1) (by have := BR.out.lt; omega))
  have hbw : Below w.heap.size w w1 := hbW.trans (hb1.mono hbW.size)
  clear hown hb1
  obtain ⟨VA, vcap, hv, -, -⟩ := HF.out
  subst hv
  have d0 : w1.cell? ⟨w.heap.size, 0, none⟩ = some (sl) := BD1.out.cell 0
  have d1 : w1.cell? ⟨w.heap.size, 1, none⟩ = some (.int .i64 S.lim) := BD1.out.cell 1
  have d2 : w1.cell? ⟨w.heap.size, 2, none⟩ = some (.int .i64 S.fuse) := BD1.out.cell 2
  have d3 : w1.cell? ⟨w.heap.size, 3, none⟩ = some (.int .i64 S.ops) := BD1.out.cell 3
  have d4 : w1.cell? ⟨w.heap.size, 4, none⟩ = some (.int .i64 S.reads) := BD1.out.cell 4
  have d5 : w1.cell? ⟨w.heap.size, 5, none⟩ = some (.bool S.down) := BD1.out.cell 5
  have fd0 := BD1.out.frozen 0
  have o0 : w1.cell? ⟨w.heap.size + 1, 0, none⟩ = some (.int .i64 o.k) := BO1.out.cell 0
  have o1 : w1.cell? ⟨w.heap.size + 1, 1, none⟩ = some (.string o.a) := BO1.out.cell 1
  have o2 : w1.cell? ⟨w.heap.size + 1, 2, none⟩ = some (.string o.b) := BO1.out.cell 2
  have o3 : w1.cell? ⟨w.heap.size + 1, 3, none⟩ = some (.int .i64 o.n) := BO1.out.cell 3
  have r0 : w1.cell? ⟨w.heap.size + 1 + 1, 0, none⟩ = some (.slice none 0 0) := BR1.out.cell 0
  have r1 : w1.cell? ⟨w.heap.size + 1 + 1, 1, none⟩ = some (.int .i64 0) := BR1.out.cell 1
  have r2 : w1.cell? ⟨w.heap.size + 1 + 1, 2, none⟩ = some (.int .i64 0) := BR1.out.cell 2
  have r3 : w1.cell? ⟨w.heap.size + 1 + 1, 3, none⟩ = some (.int .i64 0) := BR1.out.cell 3
  have r4 : w1.cell? ⟨w.heap.size + 1 + 1, 4, none⟩ = some (.int .i64 0) := BR1.out.cell 4
  have r5 : w1.cell? ⟨w.heap.size + 1 + 1, 5, none⟩ = some (.bool false) := BR1.out.cell 5
  have fr0 := BR1.out.frozen 0
  have fr1 := BR1.out.frozen 1
  have fr2 := BR1.out.frozen 2
  have fr3 := BR1.out.frozen 3
  have fr4 := BR1.out.frozen 4
  have fr5 := BR1.out.frozen 5
  rw [hk'.out] at o0
  have ltR : w.heap.size + 1 + 1 < w1.heap.size := BR1.out.lt
  go_wp2_with fail
  refine bodyPost_ret (results_row1 (p := 4) rfl _ _ _ _ _ _ _ rfl (six_set (BR1.out.far (by simp; omega) _) _ S rfl) Tryz.underlying43 rfl info_disk) rfl ?_
  exact ⟨_, rfl, (((HF.out.one (by omega) _ _).six (by omega) _ _ _ _ _ _).mono (by omega)), six_below (hbw.setCell (by simp) _) (by omega) _ _ _ _ _ _⟩

theorem ds_below {w x x' : World} {sl : Value} {S : Dk} {o : Op5} {f : Fl} {g off j : Nat} (h : (x.cell? ⟨w.heap.size, 0, none⟩ = some sl ∧ x.cell? ⟨w.heap.size, 1, none⟩ = some (.int .i64 S.lim) ∧ x.cell? ⟨w.heap.size, 2, none⟩ = some (.int .i64 S.fuse) ∧ x.cell? ⟨w.heap.size, 3, none⟩ = some (.int .i64 S.ops) ∧ x.cell? ⟨w.heap.size, 4, none⟩ = some (.int .i64 S.reads) ∧ x.cell? ⟨w.heap.size, 5, none⟩ = some (.bool S.down)) ∧ x.cell? ⟨w.heap.size + 1, 1, none⟩ = some (.string o.a) ∧ x.cell? ⟨g, off + j * 3, none⟩ = some (.string f.n) ∧ x.cell? ⟨g, off + j * 3 + 1, none⟩ = some (.string f.s) ∧ x.cell? ⟨g, off + j * 3 + 2, none⟩ = some (.string f.l)) (hb : Below x.heap.size x x') : (x'.cell? ⟨w.heap.size, 0, none⟩ = some sl ∧ x'.cell? ⟨w.heap.size, 1, none⟩ = some (.int .i64 S.lim) ∧ x'.cell? ⟨w.heap.size, 2, none⟩ = some (.int .i64 S.fuse) ∧ x'.cell? ⟨w.heap.size, 3, none⟩ = some (.int .i64 S.ops) ∧ x'.cell? ⟨w.heap.size, 4, none⟩ = some (.int .i64 S.reads) ∧ x'.cell? ⟨w.heap.size, 5, none⟩ = some (.bool S.down)) ∧ x'.cell? ⟨w.heap.size + 1, 1, none⟩ = some (.string o.a) ∧ x'.cell? ⟨g, off + j * 3, none⟩ = some (.string f.n) ∧ x'.cell? ⟨g, off + j * 3 + 1, none⟩ = some (.string f.s) ∧ x'.cell? ⟨g, off + j * 3 + 2, none⟩ = some (.string f.l) := by
  obtain ⟨⟨a0, a1, a2, a3, a4, a5⟩, b1, c0, c1, c2⟩ := h
  exact ⟨⟨(hb.cell (cell_lt a0)).trans a0, (hb.cell (cell_lt a1)).trans a1, (hb.cell (cell_lt a2)).trans a2, (hb.cell (cell_lt a3)).trans a3, (hb.cell (cell_lt a4)).trans a4, (hb.cell (cell_lt a5)).trans a5⟩, (hb.cell (cell_lt b1)).trans b1, (hb.cell (cell_lt c0)).trans c0, (hb.cell (cell_lt c1)).trans c1, (hb.cell (cell_lt c2)).trans c2⟩
theorem ds_drew {w x : World} {sl : Value} {S : Dk} {o : Op5} {f : Fl} {g off j : Nat} (h : (x.cell? ⟨w.heap.size, 0, none⟩ = some sl ∧ x.cell? ⟨w.heap.size, 1, none⟩ = some (.int .i64 S.lim) ∧ x.cell? ⟨w.heap.size, 2, none⟩ = some (.int .i64 S.fuse) ∧ x.cell? ⟨w.heap.size, 3, none⟩ = some (.int .i64 S.ops) ∧ x.cell? ⟨w.heap.size, 4, none⟩ = some (.int .i64 S.reads) ∧ x.cell? ⟨w.heap.size, 5, none⟩ = some (.bool S.down)) ∧ x.cell? ⟨w.heap.size + 1, 1, none⟩ = some (.string o.a) ∧ x.cell? ⟨g, off + j * 3, none⟩ = some (.string f.n) ∧ x.cell? ⟨g, off + j * 3 + 1, none⟩ = some (.string f.s) ∧ x.cell? ⟨g, off + j * 3 + 2, none⟩ = some (.string f.l)) : (x.drew.cell? ⟨w.heap.size, 0, none⟩ = some sl ∧ x.drew.cell? ⟨w.heap.size, 1, none⟩ = some (.int .i64 S.lim) ∧ x.drew.cell? ⟨w.heap.size, 2, none⟩ = some (.int .i64 S.fuse) ∧ x.drew.cell? ⟨w.heap.size, 3, none⟩ = some (.int .i64 S.ops) ∧ x.drew.cell? ⟨w.heap.size, 4, none⟩ = some (.int .i64 S.reads) ∧ x.drew.cell? ⟨w.heap.size, 5, none⟩ = some (.bool S.down)) ∧ x.drew.cell? ⟨w.heap.size + 1, 1, none⟩ = some (.string o.a) ∧ x.drew.cell? ⟨g, off + j * 3, none⟩ = some (.string f.n) ∧ x.drew.cell? ⟨g, off + j * 3 + 1, none⟩ = some (.string f.s) ∧ x.drew.cell? ⟨g, off + j * 3 + 2, none⟩ = some (.string f.l) := h
theorem ds_set {w x : World} {sl : Value} {S : Dk} {o : Op5} {f : Fl} {g off j N : Nat} (h : (x.cell? ⟨w.heap.size, 0, none⟩ = some sl ∧ x.cell? ⟨w.heap.size, 1, none⟩ = some (.int .i64 S.lim) ∧ x.cell? ⟨w.heap.size, 2, none⟩ = some (.int .i64 S.fuse) ∧ x.cell? ⟨w.heap.size, 3, none⟩ = some (.int .i64 S.ops) ∧ x.cell? ⟨w.heap.size, 4, none⟩ = some (.int .i64 S.reads) ∧ x.cell? ⟨w.heap.size, 5, none⟩ = some (.bool S.down)) ∧ x.cell? ⟨w.heap.size + 1, 1, none⟩ = some (.string o.a) ∧ x.cell? ⟨g, off + j * 3, none⟩ = some (.string f.n) ∧ x.cell? ⟨g, off + j * 3 + 1, none⟩ = some (.string f.s) ∧ x.cell? ⟨g, off + j * 3 + 2, none⟩ = some (.string f.l)) (hD : w.heap.size ≠ N) (hO : w.heap.size + 1 ≠ N) (hg : g ≠ N) (i : Nat) (v : Value) : ((x.setCell ⟨N, i, none⟩ v).cell? ⟨w.heap.size, 0, none⟩ = some sl ∧ (x.setCell ⟨N, i, none⟩ v).cell? ⟨w.heap.size, 1, none⟩ = some (.int .i64 S.lim) ∧ (x.setCell ⟨N, i, none⟩ v).cell? ⟨w.heap.size, 2, none⟩ = some (.int .i64 S.fuse) ∧ (x.setCell ⟨N, i, none⟩ v).cell? ⟨w.heap.size, 3, none⟩ = some (.int .i64 S.ops) ∧ (x.setCell ⟨N, i, none⟩ v).cell? ⟨w.heap.size, 4, none⟩ = some (.int .i64 S.reads) ∧ (x.setCell ⟨N, i, none⟩ v).cell? ⟨w.heap.size, 5, none⟩ = some (.bool S.down)) ∧ (x.setCell ⟨N, i, none⟩ v).cell? ⟨w.heap.size + 1, 1, none⟩ = some (.string o.a) ∧ (x.setCell ⟨N, i, none⟩ v).cell? ⟨g, off + j * 3, none⟩ = some (.string f.n) ∧ (x.setCell ⟨N, i, none⟩ v).cell? ⟨g, off + j * 3 + 1, none⟩ = some (.string f.s) ∧ (x.setCell ⟨N, i, none⟩ v).cell? ⟨g, off + j * 3 + 2, none⟩ = some (.string f.l) := by
  obtain ⟨⟨a0, a1, a2, a3, a4, a5⟩, b1, c0, c1, c2⟩ := h
  have k : ∀ (b c : Nat), b ≠ N → (x.setCell ⟨N, i, none⟩ v).cell? ⟨b, c, none⟩ = x.cell? ⟨b, c, none⟩ := fun b c hb => World.cell?_setCell_other _ _ _ _ (by intro e; injection e with e; exact hb e.symm)
  rw [k _ _ hD, k _ _ hD, k _ _ hD, k _ _ hD, k _ _ hD, k _ _ hD, k _ _ hO, k _ _ hg, k _ _ hg, k _ _ hg]
  exact ⟨⟨a0, a1, a2, a3, a4, a5⟩, b1, c0, c1, c2⟩

/-- What stands behind the fourth region of does. -/
structure Pk (w W4 : World) (Fb lo : Nat) (sl : Value) (S : Dk) (o : Op5) (f : Fl) : Prop where
  bd : Blk W4 w.heap.size 43 (dC sl S)
  bo : Blk W4 (w.heap.size + 1) 64 (oC o)
  br : Blk W4 (w.heap.size + 1 + 1) 43 zC
  bf : Blk W4 Fb 89 (fC f)
  fs : FsAt W4 lo sl S.L
  bel : Below w.heap.size w W4
  far : w.heap.size + 1 + 1 < Fb
theorem pk_one {w W w2 : World} {lo : Nat} {sl : Value} {S : Dk} {o : Op5} {f : Fl} (h1 : Blk W w.heap.size 43 (dC sl S)) (h2 : Blk W (w.heap.size + 1) 64 (oC o)) (h3 : Blk W (w.heap.size + 1 + 1) 43 zC) (h4 : FsAt W lo sl S.L) (h5 : Below w.heap.size w W) (hb : Below W.drew.heap.size W.drew w2) :
    Pk w (w2.alloc (.cells #[.string f.n, .string f.s, .string f.l] 89)) w2.heap.size lo sl S o f := by
  have hb' := below_undrew hb
  exact ⟨(h1.below' hb').alloc _, (h2.below' hb').alloc _, (h3.below' hb').alloc _, Blk.new _ _ _, (h4.below hb').alloc _, (h5.trans (hb'.mono h5.size)).trans ((below_one _ _).mono (Nat.le_trans h5.size hb'.size)), Nat.lt_of_lt_of_le h3.lt hb'.size⟩
theorem pk_two {w W w2 : World} {lo g off n cap : Nat} {S : Dk} {o : Op5} {f : Fl} {z : Obj} (h1 : Blk W w.heap.size 43 (dC (.slice (some ⟨g, off, none⟩) n cap) S)) (h2 : Blk W (w.heap.size + 1) 64 (oC o)) (h3 : Blk W (w.heap.size + 1 + 1) 43 zC) (h4 : FsAt W lo (.slice (some ⟨g, off, none⟩) n cap) S.L) (h5 : Below w.heap.size w W) (hb : Below (W.alloc z).drew.heap.size (W.alloc z).drew w2)
    (hN : Blk w2 W.heap.size 89 #[.string ⟨#[]⟩, .string ⟨#[]⟩, .string ⟨#[]⟩]) :
    Pk w (((w2.setCell ⟨W.heap.size, 0, none⟩ (.string f.n)).setCell ⟨W.heap.size, 1, none⟩ (.string f.s)).setCell ⟨W.heap.size, 2, none⟩ (.string f.l)) W.heap.size lo (.slice (some ⟨g, off, none⟩) n cap) S o f := by
  have hb' : Below W.heap.size W w2 := (below_one W z).trans (⟨hb.os, hb.tape, hb.output, hb.size, fun k hk => hb.block k (by have : W.heap.size ≤ (W.alloc z).drew.heap.size := by simp
                                                                                                                              omega)⟩)
  have k3 := h3.lt
  have far3 : ∀ {q : Nat} {T : TypeId} {cs : Array Value}, Blk W q T cs → Blk (((w2.setCell ⟨W.heap.size, 0, none⟩ (.string f.n)).setCell ⟨W.heap.size, 1, none⟩ (.string f.s)).setCell ⟨W.heap.size, 2, none⟩ (.string f.l)) q T cs := fun {q T cs} h => by
    have hq : q ≠ W.heap.size := by have := h.lt; omega
    exact (((h.below' hb').far hq _).far hq _).far hq _
  refine ⟨far3 h1, far3 h2, far3 h3, ((hN.set_ 0 _).set_ 1 _).set_ 2 _, ?_, ?_, k3⟩
  · refine h4.keep ?_ (fun q _ hq => ?_)
    · simp; exact hb'.size
    · rw [Below.heap_setCell _ _ _ _ (by simp; omega), Below.heap_setCell _ _ _ _ (by simp; omega), Below.heap_setCell _ _ _ _ (by simp; omega)]
      exact hb'.block q hq
  · exact (((h5.trans (hb'.mono h5.size)).setCell h5.size _).setCell h5.size _).setCell h5.size _
theorem FsAt.far {W : World} {lo g off n cap N : Nat} {L : List Fl} (h : FsAt W lo (.slice (some ⟨g, off, none⟩) n cap) L) (hN : g ≠ N) (i : Nat) (u : Value) : FsAt (W.setCell ⟨N, i, none⟩ u) lo (.slice (some ⟨g, off, none⟩) n cap) L := by
  obtain ⟨A, c, h1, h2, h3⟩ := h
  refine ⟨A, c, h1, h2, fun hl => ?_⟩
  obtain ⟨g', off', e, hlo, hg, hc⟩ := h3 hl
  have hgg : g' = g := by rw [e] at h1; injection h1 with h1; injection h1 with h1; injection h1 with h1; exact h1.symm
  subst hgg
  have hb := Below.heap_setCell W ⟨N, i, none⟩ u g' hN
  refine ⟨g', off', e, hlo, by simpa using hg, fun k hk => ?_⟩
  obtain ⟨q0, q1, q2⟩ := hc k hk
  exact ⟨(World.cell?_of_block (w := W) hb).trans q0, (World.cell?_of_block (w := W) hb).trans q1, (World.cell?_of_block (w := W) hb).trans q2⟩
def rL (L : List Fl) (o : Op5) (f : Fl) : List Fl :=
  if o.k = 1 then putF L ⟨f.n, f.s, f.l ++ o.b⟩ else if o.k = 2 then putF L ⟨f.n, f.s ++ f.l, nul⟩ else if o.k = 3 then putF (wo L o.a) ⟨o.b, f.s, f.l⟩ else wo L o.a
end Go.Proofs.YtefknfbmphdafaaGreat.Ds
namespace Go.Proofs.YtefknfbmphdafaaGreat.Ds
open Go.RowKit Go.Maps DkM

set_option maxRecDepth 100000 in
set_option maxHeartbeats 4000000 in
theorem does_some {w : World} {lo : Nat} {sl : Value} {S : Dk} (h : RfAt w lo sl S) {o : Op5} (ho : OkOp o) (hkk : o.k = 1 ∨ o.k = 2 ∨ o.k = 3 ∨ o.k = 4) {f : Fl} (hl : lkF S.L o.a = some f) :
    Calls Tryz.prog 52 #[rfV sl S, opV o] w (RfPost (rL S.L o f) S w) := by
  have ha1 : o.a.size ≤ 9223372036854775807 := by have := ho.a1; omega
  have hb1' : o.b.size ≤ 9223372036854775807 := by have := ho.b1; omega
  have hb2' := ho.b1
  have hlen := h.len
  have hfn := h.names f (lkF_some hl).1
  have hfs : f.s.size + f.l.size ≤ 1073741824 := by have := usd_le (lkF_some hl).1; have := h.usd; omega
  have hcat : f.l.size + o.b.size ≤ 9223372036854775807 := by omega
  have HN := Lib.hid h.names
  obtain ⟨W, hW, bD, bO, bR, hbW⟩ := three_boxes w sl S o
  have HW := Lib.hid hW
  have BD := Lib.hid bD
  have BO := Lib.hid bO
  have BR := Lib.hid bR
  have HRW := Lib.hid (h.below hbW)
  clear bD bO bR hW

  obtain ⟨j, hix, hj, hLj⟩ := idx_some hl
  have HIX := Lib.hid hix
  obtain ⟨A, cap, hsl, hcap, hA⟩ := HRW.out.fs
  obtain ⟨g, off, rfl, hg1, hg2, hc⟩ := hA (by omega)
  obtain ⟨q0, q1, q2⟩ := hc j hj
  rw [hLj] at q0 q1 q2
  have HAT := Lib.hid (fun (W' : World) (h' : FsAt W' lo sl S.L) => at_any h' o.a (by omega))
  have HFW := Lib.hid HRW.out.fs
  subst hsl
  have hjc : (j : Int) < (S.L.length : Int) := by omega
  have hj0 : (0 : Int) ≤ (j : Int) := by omega
  clear hix hA hc hLj hl
  have d0 : W.cell? ⟨w.heap.size, 0, none⟩ = some (.slice (some ⟨g, off, none⟩) S.L.length cap) := BD.out.cell 0
  have d1 : W.cell? ⟨w.heap.size, 1, none⟩ = some (.int .i64 S.lim) := BD.out.cell 1
  have d2 : W.cell? ⟨w.heap.size, 2, none⟩ = some (.int .i64 S.fuse) := BD.out.cell 2
  have d3 : W.cell? ⟨w.heap.size, 3, none⟩ = some (.int .i64 S.ops) := BD.out.cell 3
  have d4 : W.cell? ⟨w.heap.size, 4, none⟩ = some (.int .i64 S.reads) := BD.out.cell 4
  have d5 : W.cell? ⟨w.heap.size, 5, none⟩ = some (.bool S.down) := BD.out.cell 5
  have fd0 := BD.out.frozen 0
  have o0 : W.cell? ⟨w.heap.size + 1, 0, none⟩ = some (.int .i64 o.k) := BO.out.cell 0
  have o1 : W.cell? ⟨w.heap.size + 1, 1, none⟩ = some (.string o.a) := BO.out.cell 1
  have o2 : W.cell? ⟨w.heap.size + 1, 2, none⟩ = some (.string o.b) := BO.out.cell 2
  have o3 : W.cell? ⟨w.heap.size + 1, 3, none⟩ = some (.int .i64 o.n) := BO.out.cell 3
  have r0 : W.cell? ⟨w.heap.size + 1 + 1, 0, none⟩ = some (.slice none 0 0) := BR.out.cell 0
  have r1 : W.cell? ⟨w.heap.size + 1 + 1, 1, none⟩ = some (.int .i64 0) := BR.out.cell 1
  have r2 : W.cell? ⟨w.heap.size + 1 + 1, 2, none⟩ = some (.int .i64 0) := BR.out.cell 2
  have r3 : W.cell? ⟨w.heap.size + 1 + 1, 3, none⟩ = some (.int .i64 0) := BR.out.cell 3
  have r4 : W.cell? ⟨w.heap.size + 1 + 1, 4, none⟩ = some (.int .i64 0) := BR.out.cell 4
  have r5 : W.cell? ⟨w.heap.size + 1 + 1, 5, none⟩ = some (.bool false) := BR.out.cell 5
  have fr0 := BR.out.frozen 0
  have fr1 := BR.out.frozen 1
  have fr2 := BR.out.frozen 2
  have fr3 := BR.out.frozen 3
  have fr4 := BR.out.frozen 4
  have fr5 := BR.out.frozen 5
  have K : (W.cell? ⟨w.heap.size, 0, none⟩ = some (.slice (some ⟨g, off, none⟩) S.L.length cap) ∧ W.cell? ⟨w.heap.size, 1, none⟩ = some (.int .i64 S.lim) ∧ W.cell? ⟨w.heap.size, 2, none⟩ = some (.int .i64 S.fuse) ∧ W.cell? ⟨w.heap.size, 3, none⟩ = some (.int .i64 S.ops) ∧ W.cell? ⟨w.heap.size, 4, none⟩ = some (.int .i64 S.reads) ∧ W.cell? ⟨w.heap.size, 5, none⟩ = some (.bool S.down)) ∧ W.cell? ⟨w.heap.size + 1, 1, none⟩ = some (.string o.a) ∧ W.cell? ⟨g, off + j * 3, none⟩ = some (.string f.n) ∧ W.cell? ⟨g, off + j * 3 + 1, none⟩ = some (.string f.s) ∧ W.cell? ⟨g, off + j * 3 + 2, none⟩ = some (.string f.l) := ⟨⟨d0, d1, d2, d3, d4, d5⟩, o1, q0, q1, q2⟩

  have nD : w.heap.size ≠ W.heap.size := by have := BD.out.lt; omega
  have nO : w.heap.size + 1 ≠ W.heap.size := by have := BO.out.lt; omega
  have nG : g ≠ W.heap.size := by omega
  have kb : (o.k == 0) = false := by rcases hkk with h | h | h | h <;> simp [h]
  go_enter Tryz.func52, Tryz.ntmps52
  go_wp2_with fail
  rw [← HW.out]
  go_region_held3 (fun w' => (w'.cell? ⟨w.heap.size, 0, none⟩ = some (.slice (some ⟨g, off, none⟩) S.L.length cap) ∧ w'.cell? ⟨w.heap.size, 1, none⟩ = some (.int .i64 S.lim) ∧ w'.cell? ⟨w.heap.size, 2, none⟩ = some (.int .i64 S.fuse) ∧ w'.cell? ⟨w.heap.size, 3, none⟩ = some (.int .i64 S.ops) ∧ w'.cell? ⟨w.heap.size, 4, none⟩ = some (.int .i64 S.reads) ∧ w'.cell? ⟨w.heap.size, 5, none⟩ = some (.bool S.down)) ∧ w'.cell? ⟨w.heap.size + 1, 1, none⟩ = some (.string o.a) ∧ w'.cell? ⟨g, off + j * 3, none⟩ = some (.string f.n) ∧ w'.cell? ⟨g, off + j * 3 + 1, none⟩ = some (.string f.s) ∧ w'.cell? ⟨g, off + j * 3 + 2, none⟩ = some (.string f.l))
    (first | exact K | exact ds_below (x := W.drew) K hb3 | exact ds_drew (ds_below K (below_one _ _)) | exact ds_below K (below_one _ _) | exact ds_below (ds_below (x := W.drew) K hb3) (below_one _ _) | exact ds_below (ds_drew (ds_below K (below_one _ _))) hb3 | exact ds_set (ds_set (ds_set (ds_below (ds_drew (ds_below K (below_one _ _))) hb3) nD nO nG _ _) nD nO nG _ _) nD nO nG _ _)
    (first | (go_at_call 58; refine (HAT.out _ (by first | exact HFW.out | exact HFW.out.alloc _)).mono ?_; rw [HIX.out]; rintro e w2 ⟨rfl, hb3⟩; try (have NB : Blk w2 W.heap.size 89 #[.string ⟨#[]⟩, .string ⟨#[]⟩, .string ⟨#[]⟩] := (hb3.block W.heap.size (by simp)).trans (Blk.new W _ _); have n0 := NB.cell 0; have n1 := NB.cell 1; have n2 := NB.cell 2; have fn0 := NB.frozen 0; have fn1 := NB.frozen 1; have fn2 := NB.frozen 2; have NL := NB.lt; have NB' := Lib.hid NB; clear NB; simp only [List.getElem?_toArray, List.getElem?_cons_zero, List.getElem?_cons_succ] at n0 n1 n2)))
  all_goals
    first
    | (have PK0 := pk_one (f := f) BD.out BO.out BR.out HFW.out hbW hb3
       have hgF : g < w2.heap.size := Nat.lt_of_lt_of_le hg2 (below_undrew hb3).size
       obtain ⟨W4, hW4⟩ : ∃ W4, W4 = w2.alloc (.cells #[.string f.n, .string f.s, .string f.l] 89) := ⟨_, rfl⟩
       obtain ⟨Fb, hFb⟩ : ∃ Fb, Fb = w2.heap.size := ⟨_, rfl⟩
       rw [← hW4, ← hFb] at PK0
       rw [← hFb] at hgF
       rw [← hW4, ← hFb]
       have PK := Lib.hid PK0
       clear PK0 hW4 hFb hb3)
    | (have PK0 := pk_two (f := f) BD.out BO.out BR.out HFW.out hbW hb3 NB'.out
       have hgF : g < W.heap.size := hg2
       obtain ⟨W4, hW4⟩ : ∃ W4, W4 = ((w2.setCell ⟨W.heap.size, 0, none⟩ (.string f.n)).setCell ⟨W.heap.size, 1, none⟩ (.string f.s)).setCell ⟨W.heap.size, 2, none⟩ (.string f.l) := ⟨_, rfl⟩
       obtain ⟨Fb, hFb⟩ : ∃ Fb, Fb = W.heap.size := ⟨_, rfl⟩
       rw [← hFb] at hgF
       rw [← hW4]
       rw [← hW4, ← hFb] at PK0
       rw [← hFb]
       have PK := Lib.hid PK0
       clear PK0 hW4 hFb hb3 n0 n1 n2 fn0 fn1 fn2 NL NB')
    clear K nD nO nG q0 q1 q2
    clear d0 d1 d2 d3 d4 d5 fd0 o0 o1 o2 o3 r0 r1 r2 r3 r4 r5 fr0 fr1 fr2 fr3 fr4 fr5
    have hfar := PK.out.far
    have hFlt := PK.out.bf.lt
    have BD4 := Lib.hid PK.out.bd
    have BO4 := Lib.hid PK.out.bo
    have BR4 := Lib.hid PK.out.br
    have BF4 := Lib.hid PK.out.bf
    have d0 : W4.cell? ⟨w.heap.size, 0, none⟩ = some (.slice (some ⟨g, off, none⟩) S.L.length cap) := BD4.out.cell 0
    have d1 : W4.cell? ⟨w.heap.size, 1, none⟩ = some (.int .i64 S.lim) := BD4.out.cell 1
    have d2 : W4.cell? ⟨w.heap.size, 2, none⟩ = some (.int .i64 S.fuse) := BD4.out.cell 2
    have d3 : W4.cell? ⟨w.heap.size, 3, none⟩ = some (.int .i64 S.ops) := BD4.out.cell 3
    have d4 : W4.cell? ⟨w.heap.size, 4, none⟩ = some (.int .i64 S.reads) := BD4.out.cell 4
    have d5 : W4.cell? ⟨w.heap.size, 5, none⟩ = some (.bool S.down) := BD4.out.cell 5
    have fd0 := BD4.out.frozen 0
    have o0 : W4.cell? ⟨w.heap.size + 1, 0, none⟩ = some (.int .i64 o.k) := BO4.out.cell 0
    have o1 : W4.cell? ⟨w.heap.size + 1, 1, none⟩ = some (.string o.a) := BO4.out.cell 1
    have o2 : W4.cell? ⟨w.heap.size + 1, 2, none⟩ = some (.string o.b) := BO4.out.cell 2
    have o3 : W4.cell? ⟨w.heap.size + 1, 3, none⟩ = some (.int .i64 o.n) := BO4.out.cell 3
    have r0 : W4.cell? ⟨w.heap.size + 1 + 1, 0, none⟩ = some (.slice none 0 0) := BR4.out.cell 0
    have r1 : W4.cell? ⟨w.heap.size + 1 + 1, 1, none⟩ = some (.int .i64 0) := BR4.out.cell 1
    have r2 : W4.cell? ⟨w.heap.size + 1 + 1, 2, none⟩ = some (.int .i64 0) := BR4.out.cell 2
    have r3 : W4.cell? ⟨w.heap.size + 1 + 1, 3, none⟩ = some (.int .i64 0) := BR4.out.cell 3
    have r4 : W4.cell? ⟨w.heap.size + 1 + 1, 4, none⟩ = some (.int .i64 0) := BR4.out.cell 4
    have r5 : W4.cell? ⟨w.heap.size + 1 + 1, 5, none⟩ = some (.bool false) := BR4.out.cell 5
    have fr0 := BR4.out.frozen 0
    have fr1 := BR4.out.frozen 1
    have fr2 := BR4.out.frozen 2
    have fr3 := BR4.out.frozen 3
    have fr4 := BR4.out.frozen 4
    have fr5 := BR4.out.frozen 5
    have f0 : W4.cell? ⟨Fb, 0, none⟩ = some (.string f.n) := BF4.out.cell 0
    have ff0 := BF4.out.frozen 0
    have f1 : W4.cell? ⟨Fb, 1, none⟩ = some (.string f.s) := BF4.out.cell 1
    have ff1 := BF4.out.frozen 1
    have f2 : W4.cell? ⟨Fb, 2, none⟩ = some (.string f.l) := BF4.out.cell 2
    have ff2 := BF4.out.frozen 2
    rcases hkk with hk | hk | hk | hk
    · have hk' := Lib.hid hk
      rw [hk'.out] at o0
      have HRL : Hid (rL S.L o f = putF S.L ⟨f.n, f.s, f.l ++ o.b⟩) := Lib.hid (by unfold rL; simp [hk])
      clear hk
      go_wp2_with fail
      obtain ⟨W5, hW5⟩ : ∃ W5, W5 = W4.setCell ⟨Fb, 2, none⟩ (.string (f.l ++ o.b)) := ⟨_, rfl⟩
      have bD5 : Blk W5 w.heap.size 43 (dC (.slice (some ⟨g, off, none⟩) S.L.length cap) S) := by rw [hW5]; exact PK.out.bd.far (by simp; omega) _
      have bO5 : Blk W5 (w.heap.size + 1) 64 (oC o) := by rw [hW5]; exact PK.out.bo.far (by simp; omega) _
      have bR5 : Blk W5 (w.heap.size + 1 + 1) 43 zC := by rw [hW5]; exact PK.out.br.far (by simp; omega) _
      have FS5 : FsAt W5 lo (.slice (some ⟨g, off, none⟩) S.L.length cap) S.L := by rw [hW5]; exact PK.out.fs.far (by omega) _ _
      have bel5 : Below w.heap.size w W5 := by rw [hW5]; exact PK.out.bel.setCell (by simp; omega) _
      rw [← hW5]
      clear hW5
      refine (put_any FS5 (by omega) ⟨f.n, f.s, f.l ++ o.b⟩ hfn HN.out).mono ?_
      rintro e w5 ⟨v, rfl, hown, hb5⟩
      clear d0 d1 d2 d3 d4 d5 fd0 o0 o1 o2 o3 r0 r1 r2 r3 r4 r5 fr0 fr1 fr2 fr3 fr4 fr5
      clear f0 f1 f2 ff0 ff1 ff2
      have BD5 := Lib.hid ((bD5).below' hb5)
      have BO5 := Lib.hid ((bO5).below' hb5)
      have BR5 := Lib.hid ((bR5).below' hb5)
      have lt5 : w.heap.size + 1 + 1 < w5.heap.size := BR5.out.lt
      have HF := Lib.hid (FsAt.own hown (lo := w.heap.size + 1 + 1 + 1) (by have := bR5.lt; omega))
      have hbw : Below w.heap.size w w5 := bel5.trans (hb5.mono bel5.size)
      clear hown hb5 bD5 bO5 bR5 bel5
      obtain ⟨VA, vcap, hv, -, -⟩ := HF.out
      subst hv
      have d0 : w5.cell? ⟨w.heap.size, 0, none⟩ = some (.slice (some ⟨g, off, none⟩) S.L.length cap) := BD5.out.cell 0
      have d1 : w5.cell? ⟨w.heap.size, 1, none⟩ = some (.int .i64 S.lim) := BD5.out.cell 1
      have d2 : w5.cell? ⟨w.heap.size, 2, none⟩ = some (.int .i64 S.fuse) := BD5.out.cell 2
      have d3 : w5.cell? ⟨w.heap.size, 3, none⟩ = some (.int .i64 S.ops) := BD5.out.cell 3
      have d4 : w5.cell? ⟨w.heap.size, 4, none⟩ = some (.int .i64 S.reads) := BD5.out.cell 4
      have d5 : w5.cell? ⟨w.heap.size, 5, none⟩ = some (.bool S.down) := BD5.out.cell 5
      have fd0 := BD5.out.frozen 0
      have o0 : w5.cell? ⟨w.heap.size + 1, 0, none⟩ = some (.int .i64 o.k) := BO5.out.cell 0
      have o1 : w5.cell? ⟨w.heap.size + 1, 1, none⟩ = some (.string o.a) := BO5.out.cell 1
      have o2 : w5.cell? ⟨w.heap.size + 1, 2, none⟩ = some (.string o.b) := BO5.out.cell 2
      have o3 : w5.cell? ⟨w.heap.size + 1, 3, none⟩ = some (.int .i64 o.n) := BO5.out.cell 3
      have r0 : w5.cell? ⟨w.heap.size + 1 + 1, 0, none⟩ = some (.slice none 0 0) := BR5.out.cell 0
      have r1 : w5.cell? ⟨w.heap.size + 1 + 1, 1, none⟩ = some (.int .i64 0) := BR5.out.cell 1
      have r2 : w5.cell? ⟨w.heap.size + 1 + 1, 2, none⟩ = some (.int .i64 0) := BR5.out.cell 2
      have r3 : w5.cell? ⟨w.heap.size + 1 + 1, 3, none⟩ = some (.int .i64 0) := BR5.out.cell 3
      have r4 : w5.cell? ⟨w.heap.size + 1 + 1, 4, none⟩ = some (.int .i64 0) := BR5.out.cell 4
      have r5 : w5.cell? ⟨w.heap.size + 1 + 1, 5, none⟩ = some (.bool false) := BR5.out.cell 5
      have fr0 := BR5.out.frozen 0
      have fr1 := BR5.out.frozen 1
      have fr2 := BR5.out.frozen 2
      have fr3 := BR5.out.frozen 3
      have fr4 := BR5.out.frozen 4
      have fr5 := BR5.out.frozen 5
      rw [hk'.out] at o0
      go_wp2_with fail
      refine bodyPost_ret (results_row1 (p := 4) rfl _ _ _ _ _ _ _ rfl (six_set (BR5.out.far (by simp; omega) _) _ S rfl) Tryz.underlying43 rfl info_disk) rfl ?_
      rw [HRL.out]
      exact ⟨_, rfl, (((HF.out.one (by omega) _ _).six (by omega) _ _ _ _ _ _).mono (by omega)), six_below (hbw.setCell (by simp) _) (by omega) _ _ _ _ _ _⟩
    · have hk' := Lib.hid hk
      rw [hk'.out] at o0
      have HRL : Hid (rL S.L o f = putF S.L ⟨f.n, f.s ++ f.l, nul⟩) := Lib.hid (by unfold rL; simp [hk])
      clear hk
      go_wp2_with fail
      have bD5 := PK.out.bd
      have bO5 := PK.out.bo
      have bR5 := PK.out.br
      have bel5 := PK.out.bel
      refine (put_any PK.out.fs (by omega) ⟨f.n, f.s ++ f.l, nul⟩ hfn HN.out).mono ?_
      rintro e w5 ⟨v, rfl, hown, hb5⟩
      clear d0 d1 d2 d3 d4 d5 fd0 o0 o1 o2 o3 r0 r1 r2 r3 r4 r5 fr0 fr1 fr2 fr3 fr4 fr5
      clear f0 f1 f2 ff0 ff1 ff2
      have BD5 := Lib.hid ((bD5).below' hb5)
      have BO5 := Lib.hid ((bO5).below' hb5)
      have BR5 := Lib.hid ((bR5).below' hb5)
      have lt5 : w.heap.size + 1 + 1 < w5.heap.size := BR5.out.lt
      have HF := Lib.hid (FsAt.own hown (lo := w.heap.size + 1 + 1 + 1) (by have := bR5.lt; omega))
      have hbw : Below w.heap.size w w5 := bel5.trans (hb5.mono bel5.size)
      clear hown hb5 bD5 bO5 bR5 bel5
      obtain ⟨VA, vcap, hv, -, -⟩ := HF.out
      subst hv
      have d0 : w5.cell? ⟨w.heap.size, 0, none⟩ = some (.slice (some ⟨g, off, none⟩) S.L.length cap) := BD5.out.cell 0
      have d1 : w5.cell? ⟨w.heap.size, 1, none⟩ = some (.int .i64 S.lim) := BD5.out.cell 1
      have d2 : w5.cell? ⟨w.heap.size, 2, none⟩ = some (.int .i64 S.fuse) := BD5.out.cell 2
      have d3 : w5.cell? ⟨w.heap.size, 3, none⟩ = some (.int .i64 S.ops) := BD5.out.cell 3
      have d4 : w5.cell? ⟨w.heap.size, 4, none⟩ = some (.int .i64 S.reads) := BD5.out.cell 4
      have d5 : w5.cell? ⟨w.heap.size, 5, none⟩ = some (.bool S.down) := BD5.out.cell 5
      have fd0 := BD5.out.frozen 0
      have o0 : w5.cell? ⟨w.heap.size + 1, 0, none⟩ = some (.int .i64 o.k) := BO5.out.cell 0
      have o1 : w5.cell? ⟨w.heap.size + 1, 1, none⟩ = some (.string o.a) := BO5.out.cell 1
      have o2 : w5.cell? ⟨w.heap.size + 1, 2, none⟩ = some (.string o.b) := BO5.out.cell 2
      have o3 : w5.cell? ⟨w.heap.size + 1, 3, none⟩ = some (.int .i64 o.n) := BO5.out.cell 3
      have r0 : w5.cell? ⟨w.heap.size + 1 + 1, 0, none⟩ = some (.slice none 0 0) := BR5.out.cell 0
      have r1 : w5.cell? ⟨w.heap.size + 1 + 1, 1, none⟩ = some (.int .i64 0) := BR5.out.cell 1
      have r2 : w5.cell? ⟨w.heap.size + 1 + 1, 2, none⟩ = some (.int .i64 0) := BR5.out.cell 2
      have r3 : w5.cell? ⟨w.heap.size + 1 + 1, 3, none⟩ = some (.int .i64 0) := BR5.out.cell 3
      have r4 : w5.cell? ⟨w.heap.size + 1 + 1, 4, none⟩ = some (.int .i64 0) := BR5.out.cell 4
      have r5 : w5.cell? ⟨w.heap.size + 1 + 1, 5, none⟩ = some (.bool false) := BR5.out.cell 5
      have fr0 := BR5.out.frozen 0
      have fr1 := BR5.out.frozen 1
      have fr2 := BR5.out.frozen 2
      have fr3 := BR5.out.frozen 3
      have fr4 := BR5.out.frozen 4
      have fr5 := BR5.out.frozen 5
      rw [hk'.out] at o0
      go_wp2_with fail
      refine bodyPost_ret (results_row1 (p := 4) rfl _ _ _ _ _ _ _ rfl (six_set (BR5.out.far (by simp; omega) _) _ S rfl) Tryz.underlying43 rfl info_disk) rfl ?_
      rw [HRL.out]
      exact ⟨_, rfl, (((HF.out.one (by omega) _ _).six (by omega) _ _ _ _ _ _).mono (by omega)), six_below (hbw.setCell (by simp) _) (by omega) _ _ _ _ _ _⟩
    · have hk' := Lib.hid hk
      rw [hk'.out] at o0
      have HRL : Hid (rL S.L o f = putF (wo S.L o.a) ⟨o.b, f.s, f.l⟩) := Lib.hid (by unfold rL; simp [hk])
      clear hk
      go_wp2_with fail
      have bD5 := PK.out.bd
      have bO5 := PK.out.bo
      have bR5 := PK.out.br
      have bel5 := PK.out.bel
      refine (without_any PK.out.fs (by omega) o.a).mono ?_
      rintro e w5 ⟨v, rfl, hown, hb5⟩
      clear d0 d1 d2 d3 d4 d5 fd0 o0 o1 o2 o3 r0 r1 r2 r3 r4 r5 fr0 fr1 fr2 fr3 fr4 fr5
      clear f0 f1 f2 ff0 ff1 ff2
      have BD5 := Lib.hid ((bD5).below' hb5)
      have BO5 := Lib.hid ((bO5).below' hb5)
      have BR5 := Lib.hid ((bR5).below' hb5)
      have lt5 : w.heap.size + 1 + 1 < w5.heap.size := BR5.out.lt
      have BF5 := Lib.hid (PK.out.bf.below' hb5)
      have ltF : Fb < w5.heap.size := BF5.out.lt
      have HF := Lib.hid (FsAt.own hown (lo := Fb + 1) (by have := PK.out.bf.lt; omega))
      have hbw : Below w.heap.size w w5 := bel5.trans (hb5.mono bel5.size)
      clear hown hb5 bD5 bO5 bR5 bel5
      obtain ⟨VA, vcap, hv, -, -⟩ := HF.out
      subst hv
      have d0 : w5.cell? ⟨w.heap.size, 0, none⟩ = some (.slice (some ⟨g, off, none⟩) S.L.length cap) := BD5.out.cell 0
      have d1 : w5.cell? ⟨w.heap.size, 1, none⟩ = some (.int .i64 S.lim) := BD5.out.cell 1
      have d2 : w5.cell? ⟨w.heap.size, 2, none⟩ = some (.int .i64 S.fuse) := BD5.out.cell 2
      have d3 : w5.cell? ⟨w.heap.size, 3, none⟩ = some (.int .i64 S.ops) := BD5.out.cell 3
      have d4 : w5.cell? ⟨w.heap.size, 4, none⟩ = some (.int .i64 S.reads) := BD5.out.cell 4
      have d5 : w5.cell? ⟨w.heap.size, 5, none⟩ = some (.bool S.down) := BD5.out.cell 5
      have fd0 := BD5.out.frozen 0
      have o0 : w5.cell? ⟨w.heap.size + 1, 0, none⟩ = some (.int .i64 o.k) := BO5.out.cell 0
      have o1 : w5.cell? ⟨w.heap.size + 1, 1, none⟩ = some (.string o.a) := BO5.out.cell 1
      have o2 : w5.cell? ⟨w.heap.size + 1, 2, none⟩ = some (.string o.b) := BO5.out.cell 2
      have o3 : w5.cell? ⟨w.heap.size + 1, 3, none⟩ = some (.int .i64 o.n) := BO5.out.cell 3
      have r0 : w5.cell? ⟨w.heap.size + 1 + 1, 0, none⟩ = some (.slice none 0 0) := BR5.out.cell 0
      have r1 : w5.cell? ⟨w.heap.size + 1 + 1, 1, none⟩ = some (.int .i64 0) := BR5.out.cell 1
      have r2 : w5.cell? ⟨w.heap.size + 1 + 1, 2, none⟩ = some (.int .i64 0) := BR5.out.cell 2
      have r3 : w5.cell? ⟨w.heap.size + 1 + 1, 3, none⟩ = some (.int .i64 0) := BR5.out.cell 3
      have r4 : w5.cell? ⟨w.heap.size + 1 + 1, 4, none⟩ = some (.int .i64 0) := BR5.out.cell 4
      have r5 : w5.cell? ⟨w.heap.size + 1 + 1, 5, none⟩ = some (.bool false) := BR5.out.cell 5
      have fr0 := BR5.out.frozen 0
      have fr1 := BR5.out.frozen 1
      have fr2 := BR5.out.frozen 2
      have fr3 := BR5.out.frozen 3
      have fr4 := BR5.out.frozen 4
      have fr5 := BR5.out.frozen 5
      rw [hk'.out] at o0
      have f0 : w5.cell? ⟨Fb, 0, none⟩ = some (.string f.n) := BF5.out.cell 0
      have ff0 := BF5.out.frozen 0
      have f1 : w5.cell? ⟨Fb, 1, none⟩ = some (.string f.s) := BF5.out.cell 1
      have ff1 := BF5.out.frozen 1
      have f2 : w5.cell? ⟨Fb, 2, none⟩ = some (.string f.l) := BF5.out.cell 2
      have ff2 := BF5.out.frozen 2
      go_wp2_with fail
      obtain ⟨W6, hW6⟩ : ∃ W6, W6 = (w5.setCell ⟨w.heap.size, 0, none⟩ (.slice VA (wo S.L o.a).length vcap)).setCell ⟨Fb, 0, none⟩ (.string o.b) := ⟨_, rfl⟩
      have bD6 : Blk W6 w.heap.size 43 (dC (.slice VA (wo S.L o.a).length vcap) S) := by rw [hW6]; exact (BD5.out.set_ 0 _).far (by simp; omega) _
      have bO6 : Blk W6 (w.heap.size + 1) 64 (oC o) := by rw [hW6]; exact (BO5.out.far (by simp) _).far (by simp; omega) _
      have bR6 : Blk W6 (w.heap.size + 1 + 1) 43 zC := by rw [hW6]; exact (BR5.out.far (by simp; omega) _).far (by simp; omega) _
      have FS6 : FsAt W6 (Fb + 1) (.slice VA (wo S.L o.a).length vcap) (wo S.L o.a) := by rw [hW6]; exact (HF.out.one (by omega) _ _).one (by omega) _ _
      have bel6 : Below w.heap.size w W6 := by rw [hW6]; exact (hbw.setCell (by simp) _).setCell (by simp; omega) _
      rw [← hW6]
      clear hW6
      clear d0 d1 d2 d3 d4 d5 fd0 o0 o1 o2 o3 r0 r1 r2 r3 r4 r5 fr0 fr1 fr2 fr3 fr4 fr5
      clear f0 f1 f2 ff0 ff1 ff2
      refine (put_any FS6 (by have := len_wo S.L o.a; omega) ⟨o.b, f.s, f.l⟩ hb1' (fun q hq => HN.out q (mem_wo.1 hq).1)).mono ?_
      rintro e w6 ⟨v6, rfl, hown, hb6⟩
      have BD7 := Lib.hid (bD6.below' hb6)
      have BO7 := Lib.hid (bO6.below' hb6)
      have BR7 := Lib.hid (bR6.below' hb6)
      have lt7 : w.heap.size + 1 + 1 < w6.heap.size := BR7.out.lt
      have HF7 := Lib.hid (FsAt.own hown (lo := w.heap.size + 1 + 1 + 1) (by have := bR6.lt; omega))
      have hbw7 : Below w.heap.size w w6 := bel6.trans (hb6.mono bel6.size)
      clear hown hb6 bD6 bO6 bR6 bel6 FS6
      obtain ⟨VA7, vcap7, hv, -, -⟩ := HF7.out
      subst hv
      have d0 : w6.cell? ⟨w.heap.size, 0, none⟩ = some (.slice VA (wo S.L o.a).length vcap) := BD7.out.cell 0
      have d1 : w6.cell? ⟨w.heap.size, 1, none⟩ = some (.int .i64 S.lim) := BD7.out.cell 1
      have d2 : w6.cell? ⟨w.heap.size, 2, none⟩ = some (.int .i64 S.fuse) := BD7.out.cell 2
      have d3 : w6.cell? ⟨w.heap.size, 3, none⟩ = some (.int .i64 S.ops) := BD7.out.cell 3
      have d4 : w6.cell? ⟨w.heap.size, 4, none⟩ = some (.int .i64 S.reads) := BD7.out.cell 4
      have d5 : w6.cell? ⟨w.heap.size, 5, none⟩ = some (.bool S.down) := BD7.out.cell 5
      have fd0 := BD7.out.frozen 0
      have o0 : w6.cell? ⟨w.heap.size + 1, 0, none⟩ = some (.int .i64 o.k) := BO7.out.cell 0
      have o1 : w6.cell? ⟨w.heap.size + 1, 1, none⟩ = some (.string o.a) := BO7.out.cell 1
      have o2 : w6.cell? ⟨w.heap.size + 1, 2, none⟩ = some (.string o.b) := BO7.out.cell 2
      have o3 : w6.cell? ⟨w.heap.size + 1, 3, none⟩ = some (.int .i64 o.n) := BO7.out.cell 3
      have r0 : w6.cell? ⟨w.heap.size + 1 + 1, 0, none⟩ = some (.slice none 0 0) := BR7.out.cell 0
      have r1 : w6.cell? ⟨w.heap.size + 1 + 1, 1, none⟩ = some (.int .i64 0) := BR7.out.cell 1
      have r2 : w6.cell? ⟨w.heap.size + 1 + 1, 2, none⟩ = some (.int .i64 0) := BR7.out.cell 2
      have r3 : w6.cell? ⟨w.heap.size + 1 + 1, 3, none⟩ = some (.int .i64 0) := BR7.out.cell 3
      have r4 : w6.cell? ⟨w.heap.size + 1 + 1, 4, none⟩ = some (.int .i64 0) := BR7.out.cell 4
      have r5 : w6.cell? ⟨w.heap.size + 1 + 1, 5, none⟩ = some (.bool false) := BR7.out.cell 5
      have fr0 := BR7.out.frozen 0
      have fr1 := BR7.out.frozen 1
      have fr2 := BR7.out.frozen 2
      have fr3 := BR7.out.frozen 3
      have fr4 := BR7.out.frozen 4
      have fr5 := BR7.out.frozen 5
      rw [hk'.out] at o0
      go_wp2_with fail
      refine bodyPost_ret (results_row1 (p := 4) rfl _ _ _ _ _ _ _ rfl (six_set (BR7.out.far (by simp; omega) _) _ S rfl) Tryz.underlying43 rfl info_disk) rfl ?_
      rw [HRL.out]
      exact ⟨_, rfl, (((HF7.out.one (by omega) _ _).six (by omega) _ _ _ _ _ _).mono (by omega)), six_below (hbw7.setCell (by simp) _) (by omega) _ _ _ _ _ _⟩
    · have hk' := Lib.hid hk
      rw [hk'.out] at o0
      have HRL : Hid (rL S.L o f = wo S.L o.a) := Lib.hid (by unfold rL; simp [hk])
      clear hk
      go_wp2_with fail
      have bD5 := PK.out.bd
      have bO5 := PK.out.bo
      have bR5 := PK.out.br
      have bel5 := PK.out.bel
      refine (without_any PK.out.fs (by omega) o.a).mono ?_
      rintro e w5 ⟨v, rfl, hown, hb5⟩
      clear d0 d1 d2 d3 d4 d5 fd0 o0 o1 o2 o3 r0 r1 r2 r3 r4 r5 fr0 fr1 fr2 fr3 fr4 fr5
      clear f0 f1 f2 ff0 ff1 ff2
      have BD5 := Lib.hid ((bD5).below' hb5)
      have BO5 := Lib.hid ((bO5).below' hb5)
      have BR5 := Lib.hid ((bR5).below' hb5)
      have lt5 : w.heap.size + 1 + 1 < w5.heap.size := BR5.out.lt
      have HF := Lib.hid (FsAt.own hown (lo := w.heap.size + 1 + 1 + 1) (by have := bR5.lt; omega))
      have hbw : Below w.heap.size w w5 := bel5.trans (hb5.mono bel5.size)
      clear hown hb5 bD5 bO5 bR5 bel5
      obtain ⟨VA, vcap, hv, -, -⟩ := HF.out
      subst hv
      have d0 : w5.cell? ⟨w.heap.size, 0, none⟩ = some (.slice (some ⟨g, off, none⟩) S.L.length cap) := BD5.out.cell 0
      have d1 : w5.cell? ⟨w.heap.size, 1, none⟩ = some (.int .i64 S.lim) := BD5.out.cell 1
      have d2 : w5.cell? ⟨w.heap.size, 2, none⟩ = some (.int .i64 S.fuse) := BD5.out.cell 2
      have d3 : w5.cell? ⟨w.heap.size, 3, none⟩ = some (.int .i64 S.ops) := BD5.out.cell 3
      have d4 : w5.cell? ⟨w.heap.size, 4, none⟩ = some (.int .i64 S.reads) := BD5.out.cell 4
      have d5 : w5.cell? ⟨w.heap.size, 5, none⟩ = some (.bool S.down) := BD5.out.cell 5
      have fd0 := BD5.out.frozen 0
      have o0 : w5.cell? ⟨w.heap.size + 1, 0, none⟩ = some (.int .i64 o.k) := BO5.out.cell 0
      have o1 : w5.cell? ⟨w.heap.size + 1, 1, none⟩ = some (.string o.a) := BO5.out.cell 1
      have o2 : w5.cell? ⟨w.heap.size + 1, 2, none⟩ = some (.string o.b) := BO5.out.cell 2
      have o3 : w5.cell? ⟨w.heap.size + 1, 3, none⟩ = some (.int .i64 o.n) := BO5.out.cell 3
      have r0 : w5.cell? ⟨w.heap.size + 1 + 1, 0, none⟩ = some (.slice none 0 0) := BR5.out.cell 0
      have r1 : w5.cell? ⟨w.heap.size + 1 + 1, 1, none⟩ = some (.int .i64 0) := BR5.out.cell 1
      have r2 : w5.cell? ⟨w.heap.size + 1 + 1, 2, none⟩ = some (.int .i64 0) := BR5.out.cell 2
      have r3 : w5.cell? ⟨w.heap.size + 1 + 1, 3, none⟩ = some (.int .i64 0) := BR5.out.cell 3
      have r4 : w5.cell? ⟨w.heap.size + 1 + 1, 4, none⟩ = some (.int .i64 0) := BR5.out.cell 4
      have r5 : w5.cell? ⟨w.heap.size + 1 + 1, 5, none⟩ = some (.bool false) := BR5.out.cell 5
      have fr0 := BR5.out.frozen 0
      have fr1 := BR5.out.frozen 1
      have fr2 := BR5.out.frozen 2
      have fr3 := BR5.out.frozen 3
      have fr4 := BR5.out.frozen 4
      have fr5 := BR5.out.frozen 5
      rw [hk'.out] at o0
      go_wp2_with fail
      refine bodyPost_ret (results_row1 (p := 4) rfl _ _ _ _ _ _ _ rfl (six_set (BR5.out.far (by simp; omega) _) _ S rfl) Tryz.underlying43 rfl info_disk) rfl ?_
      rw [HRL.out]
      exact ⟨_, rfl, (((HF.out.one (by omega) _ _).six (by omega) _ _ _ _ _ _).mono (by omega)), six_below (hbw.setCell (by simp) _) (by omega) _ _ _ _ _ _⟩
end Go.Proofs.YtefknfbmphdafaaGreat.Ds
namespace Go.Proofs.YtefknfbmphdafaaGreat.Ds
open Go.RowKit Go.Maps DkM

theorem ren_same {L : List Fl} (h : Rise L) {a : ByteArray} {f : Fl} (hl : lkF L a = some f) : putF (wo L a) ⟨a, f.s, f.l⟩ = L := by
  obtain ⟨h1, h2⟩ := lkF_some hl
  have e : (⟨a, f.s, f.l⟩ : Fl) = f := by rw [← h2]
  rw [e]
  refine rise_ext ((h.wo a).put f) h fun x => ?_
  rw [mem_put, mem_wo]
  constructor
  · rintro (rfl | ⟨⟨hx, _⟩, _⟩)
    · exact h1
    · exact hx
  · intro hx
    by_cases he : x.n = a
    · left
      have := lkF_mem h hx
      rw [he, hl] at this
      exact (Option.some.inj this).symm
    · exact Or.inr ⟨⟨hx, he⟩, by rw [h2]; exact he⟩
theorem ren_other {L : List Fl} (h : Rise L) {a c : ByteArray} (hne : a ≠ c) (s l : ByteArray) : putF (wo L a) ⟨c, s, l⟩ = wo (putF L ⟨c, s, l⟩) a := by
  refine rise_ext ((h.wo a).put _) ((h.put _).wo a) fun x => ?_
  rw [mem_put, mem_wo, mem_wo, mem_put]
  constructor
  · rintro (rfl | ⟨⟨hx, h1⟩, h2⟩)
    · exact ⟨Or.inl rfl, fun e => hne e.symm⟩
    · exact ⟨Or.inr ⟨hx, h2⟩, h1⟩
  · rintro ⟨rfl | ⟨hx, h2⟩, h1⟩
    · exact Or.inl rfl
    · exact Or.inr ⟨⟨hx, h1⟩, h2⟩
def refL (S : Dk) (o : Op5) : List Fl := if o.k = 0 then putF S.L ⟨o.a, nul, nul⟩ else rL S.L o (gotF S o.a)
theorem got_some {S : Dk} {a : ByteArray} {f : Fl} (h : lkF S.L a = some f) : gotF S a = f := by unfold gotF; rw [h]; rfl
theorem why_file {S : Dk} {o : Op5} (_h0 : 0 ≤ o.k) (_h4 : o.k ≤ 4) (hk : o.k ≠ 0) (h : whyO S o = 0) : ∃ f, lkF S.L o.a = some f := by
  unfold whyO at h
  rw [if_neg hk] at h
  split at h
  · exact (whyA_zero h).1
  split at h
  · exact (whyR_zero h).2
  · exact thr_zero h
/-- One of the five ops, in the reference's words. -/
theorem op_ref (S : Dk) (hR : Rise S.L) {o : Op5} (ks : List Int) (h0 : 0 ≤ o.k) (h4 : o.k ≤ 4) :
    ∃ S' : Dk, doOp S o ks = opR S (whyO S o) S' ∧ S'.ops = S.ops + 1 ∧ S'.fuse = max (S.fuse - 1) (-1) ∧ S'.down = S.down ∧ S'.lim = S.lim ∧ S'.reads = S.reads ∧ (whyO S o = 0 → S'.L = refL S o) := by
  have hk : o.k = 0 ∨ o.k = 1 ∨ o.k = 2 ∨ o.k = 3 ∨ o.k = 4 := by omega
  unfold doOp
  rcases hk with h | h | h | h | h
  · rw [if_pos h]
    have hw : whyO S o = whyC S.L o.a := by unfold whyO; rw [if_pos h]
    exact ⟨{ tick S with L := putF S.L ⟨o.a, nul, nul⟩ }, by rw [hw]; rfl, rfl, rfl, rfl, rfl, rfl, fun _ => by unfold refL; rw [if_pos h]⟩
  · rw [if_neg (by omega), if_pos h]
    have hw : whyO S o = whyA S o.a o.b := by unfold whyO; rw [if_neg (by omega), if_pos h]
    refine ⟨didA S o.a o.b, by rw [hw]; rfl, rfl, rfl, rfl, rfl, rfl, fun hz => ?_⟩
    obtain ⟨f, hl⟩ := why_file h0 h4 (by omega) hz
    unfold refL rL
    rw [if_neg (by omega), if_pos h, got_some hl]
    unfold didA
    rw [hl]
    simp only [Option.getD_some]
    rw [(lkF_some hl).2]
  · rw [if_neg (by omega), if_neg (by omega), if_pos h]
    have hw : whyO S o = thr S.L o.a := by unfold whyO; rw [if_neg (by omega), if_neg (by omega), if_neg (by omega)]
    refine ⟨didS S o.a, by rw [hw]; rfl, rfl, rfl, rfl, rfl, rfl, fun hz => ?_⟩
    obtain ⟨f, hl⟩ := why_file h0 h4 (by omega) hz
    unfold refL rL
    rw [if_neg (by omega), if_neg (by omega), if_pos h, got_some hl]
    unfold didS
    simp only
    rw [got_some hl, (lkF_some hl).2]
  · rw [if_neg (by omega), if_neg (by omega), if_neg (by omega), if_pos h]
    have hw : whyO S o = whyR S o.a o.b := by unfold whyO; rw [if_neg (by omega), if_neg (by omega), if_pos h]
    refine ⟨didR S o.a o.b, by rw [hw]; rfl, ?_, ?_, ?_, ?_, ?_, fun hz => ?_⟩
    · unfold didR; split <;> rfl
    · unfold didR; split <;> rfl
    · unfold didR; split <;> rfl
    · unfold didR; split <;> rfl
    · unfold didR; split <;> rfl
    obtain ⟨f, hl⟩ := why_file h0 h4 (by omega) hz
    unfold refL rL
    rw [if_neg (by omega), if_neg (by omega), if_neg (by omega), if_pos h]
    unfold didR
    by_cases he : eqN o.a o.b = true
    · rw [if_pos he, got_some hl]
      have := eqN_iff.1 he
      rw [← this]
      exact (ren_same hR hl).symm
    · rw [if_neg he]
      simp only
      rw [got_some hl]
      exact (ren_other hR (fun e => he (eqN_iff.2 e)) _ _).symm
  · rw [if_neg (by omega), if_neg (by omega), if_neg (by omega), if_neg (by omega), if_pos h]
    have hw : whyO S o = thr S.L o.a := by unfold whyO; rw [if_neg (by omega), if_neg (by omega), if_neg (by omega)]
    refine ⟨didD S o.a, by rw [hw]; rfl, rfl, rfl, rfl, rfl, rfl, fun hz => ?_⟩
    unfold refL rL
    rw [if_neg (by omega), if_neg (by omega), if_neg (by omega), if_neg (by omega)]
    rfl
theorem does_any {w : World} {lo : Nat} {sl : Value} {S : Dk} (h : RfAt w lo sl S) {o : Op5} (ho : OkOp o) (h0 : 0 ≤ o.k) (h4 : o.k ≤ 4) {L : List Fl} (hL : L = refL S o) (hf : o.k ≠ 0 → ∃ f, lkF S.L o.a = some f) :
    Calls Tryz.prog 52 #[rfV sl S, opV o] w (RfPost L S w) := by
  subst hL
  unfold refL
  by_cases hk : o.k = 0
  · rw [if_pos hk]
    exact does_zero h ho hk
  · rw [if_neg hk]
    obtain ⟨f, hl⟩ := hf hk
    rw [got_some hl]
    exact does_some h ho (by omega) hl
theorem blk_third (w : World) (a c : Obj) (T : TypeId) (cs : Array Value) : Blk (((w.alloc a).alloc c).alloc (.cells cs T)) (w.heap.size + 1 + 1) T cs := by
  have := Blk.new ((w.alloc a).alloc c) T cs
  rw [show ((w.alloc a).alloc c).heap.size = w.heap.size + 1 + 1 by simp] at this
  exact this
theorem below_three (w : World) (a c e : Obj) : Below w.heap.size w (((w.alloc a).alloc c).alloc e) := (below_two _ _ _).trans ((below_one _ _).mono (by simp; omega))
/-- A disk and an error that are handed back. -/
def RdPost (sl : Value) (L : List Fl) (R : Dk × Nat) (w : World) (e : Ending) (w' : World) : Prop := ∃ sl', e = .returned (.tuple #[rfV sl' R.1, .int .i64 (R.2 : Nat)]) ∧ ((sl' = sl ∧ R.1.L = L) ∨ FsAt w' w.heap.size sl' R.1.L) ∧ Below w.heap.size w w'
theorem fs_six {W : World} {lo R : Nat} {v : Value} {L : List Fl} (h : FsAt W lo v L) (hR : ∀ g off n cap, v = .slice (some ⟨g, off, none⟩) n cap → 0 < L.length → g ≠ R) (a b c d e f : Value) :
    FsAt ((((((W.setCell ⟨R, 0, none⟩ a).setCell ⟨R, 1, none⟩ b).setCell ⟨R, 2, none⟩ c).setCell ⟨R, 3, none⟩ d).setCell ⟨R, 4, none⟩ e).setCell ⟨R, 5, none⟩ f) lo v L := by
  have one : ∀ {W : World} (i : Nat) (u : Value), FsAt W lo v L → FsAt (W.setCell ⟨R, i, none⟩ u) lo v L := fun {W} i u h => by
    obtain ⟨A, cap, h1, h2, h3⟩ := h
    refine ⟨A, cap, h1, h2, fun hl => ?_⟩
    obtain ⟨g, off, e, hlo, hg, hc⟩ := h3 hl
    have hne := hR g off _ _ (by rw [h1, e]) hl
    have hb := Below.heap_setCell W ⟨R, i, none⟩ u g hne
    refine ⟨g, off, e, hlo, by simpa using hg, fun k hk => ?_⟩
    obtain ⟨q0, q1, q2⟩ := hc k hk
    exact ⟨(World.cell?_of_block (w := W) hb).trans q0, (World.cell?_of_block (w := W) hb).trans q1, (World.cell?_of_block (w := W) hb).trans q2⟩
  exact one _ _ (one _ _ (one _ _ (one _ _ (one _ _ (one _ _ h)))))
/-- The slice's block was there before. -/
theorem FsAt.old {w : World} {lo : Nat} {v : Value} {L : List Fl} (h : FsAt w lo v L) {R : Nat} (hR : w.heap.size ≤ R) : ∀ g off n cap, v = .slice (some ⟨g, off, none⟩) n cap → 0 < L.length → g ≠ R := by
  intro g off n cap hv hl
  obtain ⟨A, c, h1, h2, h3⟩ := h
  obtain ⟨g', off', e, _, hg, _⟩ := h3 hl
  rw [h1, e] at hv
  injection hv with hv
  injection hv with hv
  injection hv with hv
  omega
theorem FsAt.oneR {W : World} {lo R : Nat} {v : Value} {L : List Fl} (h : FsAt W lo v L) (hR : ∀ g off n cap, v = .slice (some ⟨g, off, none⟩) n cap → 0 < L.length → g ≠ R) (i : Nat) (u : Value) : FsAt (W.setCell ⟨R, i, none⟩ u) lo v L := by
  obtain ⟨A, cap, h1, h2, h3⟩ := h
  refine ⟨A, cap, h1, h2, fun hl => ?_⟩
  obtain ⟨g, off, e, hlo, hg, hc⟩ := h3 hl
  have hne := hR g off _ _ (by rw [h1, e]) hl
  have hb := Below.heap_setCell W ⟨R, i, none⟩ u g hne
  refine ⟨g, off, e, hlo, by simpa using hg, fun k hk => ?_⟩
  obtain ⟨q0, q1, q2⟩ := hc k hk
  exact ⟨(World.cell?_of_block (w := W) hb).trans q0, (World.cell?_of_block (w := W) hb).trans q1, (World.cell?_of_block (w := W) hb).trans q2⟩
theorem RfAt.withS {w : World} {lo : Nat} {sl : Value} {S S2 : Dk} (h : RfAt w lo sl S) (hL : S2.L = S.L) (hu : S2.used = S.used) : RfAt w lo sl S2 := ⟨by rw [hL]; exact h.fs, by rw [hL]; exact h.len, by rw [hL]; exact h.usd, by rw [hu, hL]; exact h.used, by rw [hL]; exact h.names⟩

set_option maxRecDepth 100000 in
set_option maxHeartbeats 4000000 in
theorem rdo_any {w : World} {lo : Nat} {sl : Value} {S : Dk} (h : RfAt w lo sl S) (hRise : Rise S.L) {o : Op5} (ho : OkOp o) (h0 : 0 ≤ o.k) (h4 : o.k ≤ 4) (hlim : S.lim ≤ 1073741824) (hf0 : -1 ≤ S.fuse) (hf1 : S.fuse ≤ 9223372036854775807) (ho0 : 0 ≤ S.ops) (ho1 : S.ops ≤ 1099511627776) (ks : List Int) :
    Calls Tryz.prog 22 #[rfV sl S, opV o] w (RdPost sl S.L (doOp S o ks) w) := by
  obtain ⟨SA, scap, hsl, -, -⟩ := h.fs
  subst hsl
  obtain ⟨S', hop, s1, s2, s3, s4, s5, s6⟩ := op_ref S hRise ks h0 h4
  have HOP := Lib.hid hop
  obtain ⟨W, hW, bD, bO, bR, hbW⟩ := three_boxes w (.slice SA S.L.length scap) S o
  have HW := Lib.hid hW
  have BD := Lib.hid bD
  have BO := Lib.hid bO
  have BR := Lib.hid bR
  have HRW := Lib.hid (h.below hbW)
  have WY := Lib.hid (why_any (h.below hbW) ho h0 h4 hlim)
  have FO := Lib.hid (h.fs.old (R := w.heap.size) (Nat.le_refl _))
  have FO2 := Lib.hid (h.fs.old (R := w.heap.size + 1 + 1) (by omega))
  have hWF := Lib.hid (fun (hk : o.k ≠ 0) (hz : whyO S o = 0) => why_file (S := S) h0 h4 hk hz)
  clear bD bO bR hW hop
  cases hd : S.down with
  | true =>
    have HE := Lib.hid (show doOp S o ks = (S, 50) by rw [HOP.out]; unfold opR; rw [hd]; rfl)
    have d0 : W.cell? ⟨w.heap.size, 0, none⟩ = some ((.slice SA S.L.length scap)) := BD.out.cell 0
    have d1 : W.cell? ⟨w.heap.size, 1, none⟩ = some (.int .i64 S.lim) := BD.out.cell 1
    have d2 : W.cell? ⟨w.heap.size, 2, none⟩ = some (.int .i64 S.fuse) := BD.out.cell 2
    have d3 : W.cell? ⟨w.heap.size, 3, none⟩ = some (.int .i64 S.ops) := BD.out.cell 3
    have d4 : W.cell? ⟨w.heap.size, 4, none⟩ = some (.int .i64 S.reads) := BD.out.cell 4
    have d5 : W.cell? ⟨w.heap.size, 5, none⟩ = some (.bool S.down) := BD.out.cell 5
    have fd0 := BD.out.frozen 0
    have o0 : W.cell? ⟨w.heap.size + 1, 0, none⟩ = some (.int .i64 o.k) := BO.out.cell 0
    have o1 : W.cell? ⟨w.heap.size + 1, 1, none⟩ = some (.string o.a) := BO.out.cell 1
    have o2 : W.cell? ⟨w.heap.size + 1, 2, none⟩ = some (.string o.b) := BO.out.cell 2
    have o3 : W.cell? ⟨w.heap.size + 1, 3, none⟩ = some (.int .i64 o.n) := BO.out.cell 3
    have r0 : W.cell? ⟨w.heap.size + 1 + 1, 0, none⟩ = some (.slice none 0 0) := BR.out.cell 0
    have r1 : W.cell? ⟨w.heap.size + 1 + 1, 1, none⟩ = some (.int .i64 0) := BR.out.cell 1
    have r2 : W.cell? ⟨w.heap.size + 1 + 1, 2, none⟩ = some (.int .i64 0) := BR.out.cell 2
    have r3 : W.cell? ⟨w.heap.size + 1 + 1, 3, none⟩ = some (.int .i64 0) := BR.out.cell 3
    have r4 : W.cell? ⟨w.heap.size + 1 + 1, 4, none⟩ = some (.int .i64 0) := BR.out.cell 4
    have r5 : W.cell? ⟨w.heap.size + 1 + 1, 5, none⟩ = some (.bool false) := BR.out.cell 5
    have fr0 := BR.out.frozen 0
    have fr1 := BR.out.frozen 1
    have fr2 := BR.out.frozen 2
    have fr3 := BR.out.frozen 3
    have fr4 := BR.out.frozen 4
    have fr5 := BR.out.frozen 5
    have fd2 := BD.out.frozen 2
    have fd3 := BD.out.frozen 3
    have fd5 := BD.out.frozen 5
    have HDN := Lib.hid hd
    rw [hd] at d5
    have HWt := HW.out
    rw [hd] at HWt
    have HW2 := Lib.hid HWt
    clear HWt
    go_enter Tryz.func22, Tryz.ntmps22
    go_wp2_with fail
    refine bodyPost_ret (results_row2 (p := 4) (a := 5) rfl _ _ _ _ _ _ _ rfl (blk_third w _ _ 43 #[.slice SA S.L.length scap, .int .i64 S.lim, .int .i64 S.fuse, .int .i64 S.ops, .int .i64 S.reads, .bool true]) Tryz.underlying43 rfl info_disk) rfl ?_
    rw [HE.out]
    refine ⟨_, ?_, Or.inl ⟨rfl, rfl⟩, below_three _ _ _ _⟩
    show Ending.returned (.tuple #[.agg #[.slice SA S.L.length scap, .int .i64 S.lim, .int .i64 S.fuse, .int .i64 S.ops, .int .i64 S.reads, .bool true], _]) = Ending.returned (.tuple #[.agg #[.slice SA S.L.length scap, .int .i64 S.lim, .int .i64 S.fuse, .int .i64 S.ops, .int .i64 S.reads, .bool S.down], _])
    rw [HDN.out]
    rfl
  | false =>
    have WYt := WY.out
    unfold rfV at WYt
    rw [hd] at WYt
    have WY2 := Lib.hid WYt
    clear WYt
    have d0 : W.cell? ⟨w.heap.size, 0, none⟩ = some ((.slice SA S.L.length scap)) := BD.out.cell 0
    have d1 : W.cell? ⟨w.heap.size, 1, none⟩ = some (.int .i64 S.lim) := BD.out.cell 1
    have d2 : W.cell? ⟨w.heap.size, 2, none⟩ = some (.int .i64 S.fuse) := BD.out.cell 2
    have d3 : W.cell? ⟨w.heap.size, 3, none⟩ = some (.int .i64 S.ops) := BD.out.cell 3
    have d4 : W.cell? ⟨w.heap.size, 4, none⟩ = some (.int .i64 S.reads) := BD.out.cell 4
    have d5 : W.cell? ⟨w.heap.size, 5, none⟩ = some (.bool S.down) := BD.out.cell 5
    have fd0 := BD.out.frozen 0
    have o0 : W.cell? ⟨w.heap.size + 1, 0, none⟩ = some (.int .i64 o.k) := BO.out.cell 0
    have o1 : W.cell? ⟨w.heap.size + 1, 1, none⟩ = some (.string o.a) := BO.out.cell 1
    have o2 : W.cell? ⟨w.heap.size + 1, 2, none⟩ = some (.string o.b) := BO.out.cell 2
    have o3 : W.cell? ⟨w.heap.size + 1, 3, none⟩ = some (.int .i64 o.n) := BO.out.cell 3
    have r0 : W.cell? ⟨w.heap.size + 1 + 1, 0, none⟩ = some (.slice none 0 0) := BR.out.cell 0
    have r1 : W.cell? ⟨w.heap.size + 1 + 1, 1, none⟩ = some (.int .i64 0) := BR.out.cell 1
    have r2 : W.cell? ⟨w.heap.size + 1 + 1, 2, none⟩ = some (.int .i64 0) := BR.out.cell 2
    have r3 : W.cell? ⟨w.heap.size + 1 + 1, 3, none⟩ = some (.int .i64 0) := BR.out.cell 3
    have r4 : W.cell? ⟨w.heap.size + 1 + 1, 4, none⟩ = some (.int .i64 0) := BR.out.cell 4
    have r5 : W.cell? ⟨w.heap.size + 1 + 1, 5, none⟩ = some (.bool false) := BR.out.cell 5
    have fr0 := BR.out.frozen 0
    have fr1 := BR.out.frozen 1
    have fr2 := BR.out.frozen 2
    have fr3 := BR.out.frozen 3
    have fr4 := BR.out.frozen 4
    have fr5 := BR.out.frozen 5
    have fd2 := BD.out.frozen 2
    have fd3 := BD.out.frozen 3
    have fd5 := BD.out.frozen 5
    have HDN := Lib.hid hd
    rw [hd] at d5
    have HWt := HW.out
    rw [hd] at HWt
    have HW2 := Lib.hid HWt
    clear HWt
    go_enter Tryz.func22, Tryz.ntmps22
    go_wp2_with fail
    clear d0 d1 d2 d3 d4 d5 fd0 o0 o1 o2 o3 r0 r1 r2 r3 r4 r5 fr0 fr1 fr2 fr3 fr4 fr5 fd2 fd3 fd5
    rw [← HW2.out]
    refine WY2.out.mono ?_
    clear hd
    rintro e w1 ⟨rfl, hb1⟩
    have BD1 := Lib.hid (BD.out.below' hb1)
    have BO1 := Lib.hid (BO.out.below' hb1)
    have BR1 := Lib.hid (BR.out.below' hb1)
    have HR1 := Lib.hid (HRW.out.below hb1)
    have hbw : Below w.heap.size w w1 := hbW.trans (hb1.mono hbW.size)
    have ltR : w.heap.size + 1 + 1 < w1.heap.size := BR1.out.lt
    clear hb1
    by_cases hz : whyO S o = 0
    · by_cases hfu : S.fuse = 0
      · have HE := Lib.hid (show doOp S o ks = ({ S with down := true }, 50) by
          rw [HOP.out]; unfold opR; rw [HDN.out, if_neg (by decide), if_neg (by omega), if_pos hfu])
        have d0 : w1.cell? ⟨w.heap.size, 0, none⟩ = some ((.slice SA S.L.length scap)) := BD1.out.cell 0
        have d1 : w1.cell? ⟨w.heap.size, 1, none⟩ = some (.int .i64 S.lim) := BD1.out.cell 1
        have d2 : w1.cell? ⟨w.heap.size, 2, none⟩ = some (.int .i64 S.fuse) := BD1.out.cell 2
        have d3 : w1.cell? ⟨w.heap.size, 3, none⟩ = some (.int .i64 S.ops) := BD1.out.cell 3
        have d4 : w1.cell? ⟨w.heap.size, 4, none⟩ = some (.int .i64 S.reads) := BD1.out.cell 4
        have d5 : w1.cell? ⟨w.heap.size, 5, none⟩ = some (.bool S.down) := BD1.out.cell 5
        have fd0 := BD1.out.frozen 0
        have o0 : w1.cell? ⟨w.heap.size + 1, 0, none⟩ = some (.int .i64 o.k) := BO1.out.cell 0
        have o1 : w1.cell? ⟨w.heap.size + 1, 1, none⟩ = some (.string o.a) := BO1.out.cell 1
        have o2 : w1.cell? ⟨w.heap.size + 1, 2, none⟩ = some (.string o.b) := BO1.out.cell 2
        have o3 : w1.cell? ⟨w.heap.size + 1, 3, none⟩ = some (.int .i64 o.n) := BO1.out.cell 3
        have r0 : w1.cell? ⟨w.heap.size + 1 + 1, 0, none⟩ = some (.slice none 0 0) := BR1.out.cell 0
        have r1 : w1.cell? ⟨w.heap.size + 1 + 1, 1, none⟩ = some (.int .i64 0) := BR1.out.cell 1
        have r2 : w1.cell? ⟨w.heap.size + 1 + 1, 2, none⟩ = some (.int .i64 0) := BR1.out.cell 2
        have r3 : w1.cell? ⟨w.heap.size + 1 + 1, 3, none⟩ = some (.int .i64 0) := BR1.out.cell 3
        have r4 : w1.cell? ⟨w.heap.size + 1 + 1, 4, none⟩ = some (.int .i64 0) := BR1.out.cell 4
        have r5 : w1.cell? ⟨w.heap.size + 1 + 1, 5, none⟩ = some (.bool false) := BR1.out.cell 5
        have fr0 := BR1.out.frozen 0
        have fr1 := BR1.out.frozen 1
        have fr2 := BR1.out.frozen 2
        have fr3 := BR1.out.frozen 3
        have fr4 := BR1.out.frozen 4
        have fr5 := BR1.out.frozen 5
        have fd2 := BD1.out.frozen 2
        have fd3 := BD1.out.frozen 3
        have fd5 := BD1.out.frozen 5
        rw [hfu] at d2
        have HFU := Lib.hid hfu
        clear hfu
        rw [hz]
        have HZ := Lib.hid hz
        clear hz
        go_wp2_with fail
        refine bodyPost_ret (results_row2 (p := 4) (a := 5) rfl _ _ _ _ _ _ _ rfl (six_set (BR1.out.far (by simp; omega) _) (.slice SA S.L.length scap) { S with down := true, fuse := 0 } rfl) Tryz.underlying43 rfl info_disk) rfl ?_
        rw [HE.out]
        refine ⟨_, ?_, Or.inl ⟨rfl, rfl⟩, six_below (hbw.setCell (by simp) _) (by omega) _ _ _ _ _ _⟩
        show Ending.returned (.tuple #[.agg #[.slice SA S.L.length scap, .int .i64 S.lim, .int .i64 0, .int .i64 S.ops, .int .i64 S.reads, .bool true], _]) = Ending.returned (.tuple #[.agg #[.slice SA S.L.length scap, .int .i64 S.lim, .int .i64 S.fuse, .int .i64 S.ops, .int .i64 S.reads, .bool true], _])
        rw [HFU.out]
        rfl
      · have HE := Lib.hid (show doOp S o ks = (S', 0) by
          rw [HOP.out]; unfold opR; rw [HDN.out, if_neg (by decide), if_neg (by omega), if_neg hfu])
        have HV := Lib.hid (show ∀ v, Value.agg (dC v (tick S)) = rfV v S' from fun v => by
          show Value.agg #[v, .int .i64 S.lim, .int .i64 (max (S.fuse - 1) (-1)), .int .i64 (S.ops + 1), .int .i64 S.reads, .bool S.down] = _
          rw [← s1, ← s2, ← s3, ← s4, ← s5])
        have HL := Lib.hid (s6 hz)
        rw [hz]
        have HZ := Lib.hid hz
        clear s1 s2 s3 s4 s5 s6 hz
        have d0 : w1.cell? ⟨w.heap.size, 0, none⟩ = some ((.slice SA S.L.length scap)) := BD1.out.cell 0
        have d1 : w1.cell? ⟨w.heap.size, 1, none⟩ = some (.int .i64 S.lim) := BD1.out.cell 1
        have d2 : w1.cell? ⟨w.heap.size, 2, none⟩ = some (.int .i64 S.fuse) := BD1.out.cell 2
        have d3 : w1.cell? ⟨w.heap.size, 3, none⟩ = some (.int .i64 S.ops) := BD1.out.cell 3
        have d4 : w1.cell? ⟨w.heap.size, 4, none⟩ = some (.int .i64 S.reads) := BD1.out.cell 4
        have d5 : w1.cell? ⟨w.heap.size, 5, none⟩ = some (.bool S.down) := BD1.out.cell 5
        have fd0 := BD1.out.frozen 0
        have o0 : w1.cell? ⟨w.heap.size + 1, 0, none⟩ = some (.int .i64 o.k) := BO1.out.cell 0
        have o1 : w1.cell? ⟨w.heap.size + 1, 1, none⟩ = some (.string o.a) := BO1.out.cell 1
        have o2 : w1.cell? ⟨w.heap.size + 1, 2, none⟩ = some (.string o.b) := BO1.out.cell 2
        have o3 : w1.cell? ⟨w.heap.size + 1, 3, none⟩ = some (.int .i64 o.n) := BO1.out.cell 3
        have r0 : w1.cell? ⟨w.heap.size + 1 + 1, 0, none⟩ = some (.slice none 0 0) := BR1.out.cell 0
        have r1 : w1.cell? ⟨w.heap.size + 1 + 1, 1, none⟩ = some (.int .i64 0) := BR1.out.cell 1
        have r2 : w1.cell? ⟨w.heap.size + 1 + 1, 2, none⟩ = some (.int .i64 0) := BR1.out.cell 2
        have r3 : w1.cell? ⟨w.heap.size + 1 + 1, 3, none⟩ = some (.int .i64 0) := BR1.out.cell 3
        have r4 : w1.cell? ⟨w.heap.size + 1 + 1, 4, none⟩ = some (.int .i64 0) := BR1.out.cell 4
        have r5 : w1.cell? ⟨w.heap.size + 1 + 1, 5, none⟩ = some (.bool false) := BR1.out.cell 5
        have fr0 := BR1.out.frozen 0
        have fr1 := BR1.out.frozen 1
        have fr2 := BR1.out.frozen 2
        have fr3 := BR1.out.frozen 3
        have fr4 := BR1.out.frozen 4
        have fr5 := BR1.out.frozen 5
        have fd2 := BD1.out.frozen 2
        have fd3 := BD1.out.frozen 3
        have fd5 := BD1.out.frozen 5
        have hfb : (S.fuse == 0) = false := by simpa using hfu
        by_cases hpos : 0 < S.fuse
        · go_wp2_with fail
          obtain ⟨W2, hW2⟩ : ∃ W2, W2 = ((w1.setCell ⟨w.heap.size, 2, none⟩ (.int .i64 (S.fuse - 1))).setCell ⟨w.heap.size, 3, none⟩ (.int .i64 (S.ops + 1))) := ⟨_, rfl⟩
          have bR2 : Blk W2 (w.heap.size + 1 + 1) 43 zC := by rw [hW2]; exact (BR1.out.far (by simp; omega) _).far (by simp; omega) _
          have FS2 : FsAt W2 lo (.slice SA S.L.length scap) S.L := by rw [hW2]; exact (HR1.out.fs.oneR FO.out _ _).oneR FO.out _ _
          have bel2 : Below w.heap.size w W2 := by rw [hW2]; exact (hbw.setCell (by simp) _).setCell (by simp) _
          rw [← hW2]
          clear hW2
          clear d0 d1 d2 d3 d4 d5 fd0 o0 o1 o2 o3 r0 r1 r2 r3 r4 r5 fr0 fr1 fr2 fr3 fr4 fr5
          clear fd2 fd3 fd5
          have hDo : Calls Tryz.prog 52 #[rfV (.slice SA S.L.length scap) (tick S), opV o] W2 (RfPost (refL S o) (tick S) W2) :=
            does_any (S := tick S) ⟨FS2, HR1.out.len, HR1.out.usd, HR1.out.used, HR1.out.names⟩ ho h0 h4 rfl (fun hk => hWF.out hk HZ.out)
          have hTd : rfV (.slice SA S.L.length scap) (tick S) = .agg #[.slice SA S.L.length scap, .int .i64 S.lim, .int .i64 (S.fuse - 1), .int .i64 (S.ops + 1), .int .i64 S.reads, .bool S.down] := by
            unfold tick; rw [show max (S.fuse - 1) (-1) = S.fuse - 1 by omega]
          rw [hTd] at hDo
          refine hDo.mono ?_
          clear hDo hTd
          rintro e w5 ⟨v, rfl, hF5, hb5⟩
          have BR5 := Lib.hid (bR2.below' hb5)
          have HF5 := Lib.hid (hF5.mono (lo' := w.heap.size) (by have := bel2.size; omega))
          have FO5 := Lib.hid (show ∀ g off n cap, v = .slice (some ⟨g, off, none⟩) n cap → 0 < (refL S o).length → g ≠ w.heap.size + 1 + 1 from fun g off n cap hv hl => by
            obtain ⟨A, c, q1, q2, q3⟩ := hF5
            obtain ⟨g', off', e, hlo', _⟩ := q3 hl
            rw [q1, e] at hv
            injection hv with hv
            injection hv with hv
            injection hv with hv
            have := bR2.lt
            omega)
          have hbw5 : Below w.heap.size w w5 := bel2.trans (hb5.mono bel2.size)
          have ltR5 : w.heap.size + 1 + 1 < w5.heap.size := BR5.out.lt
          obtain ⟨VA, vcap, hv, -, -⟩ := HF5.out
          subst hv
          have HV2 := Lib.hid (HV.out (.slice VA (refL S o).length vcap))
          generalize tick S = T at *
          clear hF5 hb5 bR2 FS2 bel2
          have r0 : w5.cell? ⟨w.heap.size + 1 + 1, 0, none⟩ = some (.slice none 0 0) := BR5.out.cell 0
          have fr0 := BR5.out.frozen 0
          have r1 : w5.cell? ⟨w.heap.size + 1 + 1, 1, none⟩ = some (.int .i64 0) := BR5.out.cell 1
          have fr1 := BR5.out.frozen 1
          have r2 : w5.cell? ⟨w.heap.size + 1 + 1, 2, none⟩ = some (.int .i64 0) := BR5.out.cell 2
          have fr2 := BR5.out.frozen 2
          have r3 : w5.cell? ⟨w.heap.size + 1 + 1, 3, none⟩ = some (.int .i64 0) := BR5.out.cell 3
          have fr3 := BR5.out.frozen 3
          have r4 : w5.cell? ⟨w.heap.size + 1 + 1, 4, none⟩ = some (.int .i64 0) := BR5.out.cell 4
          have fr4 := BR5.out.frozen 4
          have r5 : w5.cell? ⟨w.heap.size + 1 + 1, 5, none⟩ = some (.bool false) := BR5.out.cell 5
          have fr5 := BR5.out.frozen 5
          go_wp2_with fail
          refine bodyPost_ret (results_row2 (p := 4) (a := 5) rfl _ _ _ _ _ _ _ rfl (six_set BR5.out (.slice VA (refL S o).length vcap) T rfl) Tryz.underlying43 rfl info_disk) rfl ?_
          rw [HE.out, HV2.out]
          exact ⟨_, rfl, Or.inr (fs_six (by rw [HL.out]; exact HF5.out) (by rw [HL.out]; exact FO5.out) _ _ _ _ _ _), six_below hbw5 (by omega) _ _ _ _ _ _⟩
        · have hng : S.fuse ≤ 0 := by omega
          go_wp2_with fail
          obtain ⟨W2, hW2⟩ : ∃ W2, W2 = (w1.setCell ⟨w.heap.size, 3, none⟩ (.int .i64 (S.ops + 1))) := ⟨_, rfl⟩
          have bR2 : Blk W2 (w.heap.size + 1 + 1) 43 zC := by rw [hW2]; exact BR1.out.far (by simp; omega) _
          have FS2 : FsAt W2 lo (.slice SA S.L.length scap) S.L := by rw [hW2]; exact HR1.out.fs.oneR FO.out _ _
          have bel2 : Below w.heap.size w W2 := by rw [hW2]; exact hbw.setCell (by simp) _
          rw [← hW2]
          clear hW2
          clear d0 d1 d2 d3 d4 d5 fd0 o0 o1 o2 o3 r0 r1 r2 r3 r4 r5 fr0 fr1 fr2 fr3 fr4 fr5
          clear fd2 fd3 fd5
          have hDo : Calls Tryz.prog 52 #[rfV (.slice SA S.L.length scap) (tick S), opV o] W2 (RfPost (refL S o) (tick S) W2) :=
            does_any (S := tick S) ⟨FS2, HR1.out.len, HR1.out.usd, HR1.out.used, HR1.out.names⟩ ho h0 h4 rfl (fun hk => hWF.out hk HZ.out)
          have hTd : rfV (.slice SA S.L.length scap) (tick S) = .agg #[.slice SA S.L.length scap, .int .i64 S.lim, .int .i64 (S.fuse), .int .i64 (S.ops + 1), .int .i64 S.reads, .bool S.down] := by
            unfold tick; rw [show max (S.fuse - 1) (-1) = S.fuse by omega]
          rw [hTd] at hDo
          refine hDo.mono ?_
          clear hDo hTd
          rintro e w5 ⟨v, rfl, hF5, hb5⟩
          have BR5 := Lib.hid (bR2.below' hb5)
          have HF5 := Lib.hid (hF5.mono (lo' := w.heap.size) (by have := bel2.size; omega))
          have FO5 := Lib.hid (show ∀ g off n cap, v = .slice (some ⟨g, off, none⟩) n cap → 0 < (refL S o).length → g ≠ w.heap.size + 1 + 1 from fun g off n cap hv hl => by
            obtain ⟨A, c, q1, q2, q3⟩ := hF5
            obtain ⟨g', off', e, hlo', _⟩ := q3 hl
            rw [q1, e] at hv
            injection hv with hv
            injection hv with hv
            injection hv with hv
            have := bR2.lt
            omega)
          have hbw5 : Below w.heap.size w w5 := bel2.trans (hb5.mono bel2.size)
          have ltR5 : w.heap.size + 1 + 1 < w5.heap.size := BR5.out.lt
          obtain ⟨VA, vcap, hv, -, -⟩ := HF5.out
          subst hv
          have HV2 := Lib.hid (HV.out (.slice VA (refL S o).length vcap))
          generalize tick S = T at *
          clear hF5 hb5 bR2 FS2 bel2
          have r0 : w5.cell? ⟨w.heap.size + 1 + 1, 0, none⟩ = some (.slice none 0 0) := BR5.out.cell 0
          have fr0 := BR5.out.frozen 0
          have r1 : w5.cell? ⟨w.heap.size + 1 + 1, 1, none⟩ = some (.int .i64 0) := BR5.out.cell 1
          have fr1 := BR5.out.frozen 1
          have r2 : w5.cell? ⟨w.heap.size + 1 + 1, 2, none⟩ = some (.int .i64 0) := BR5.out.cell 2
          have fr2 := BR5.out.frozen 2
          have r3 : w5.cell? ⟨w.heap.size + 1 + 1, 3, none⟩ = some (.int .i64 0) := BR5.out.cell 3
          have fr3 := BR5.out.frozen 3
          have r4 : w5.cell? ⟨w.heap.size + 1 + 1, 4, none⟩ = some (.int .i64 0) := BR5.out.cell 4
          have fr4 := BR5.out.frozen 4
          have r5 : w5.cell? ⟨w.heap.size + 1 + 1, 5, none⟩ = some (.bool false) := BR5.out.cell 5
          have fr5 := BR5.out.frozen 5
          go_wp2_with fail
          refine bodyPost_ret (results_row2 (p := 4) (a := 5) rfl _ _ _ _ _ _ _ rfl (six_set BR5.out (.slice VA (refL S o).length vcap) T rfl) Tryz.underlying43 rfl info_disk) rfl ?_
          rw [HE.out, HV2.out]
          exact ⟨_, rfl, Or.inr (fs_six (by rw [HL.out]; exact HF5.out) (by rw [HL.out]; exact FO5.out) _ _ _ _ _ _), six_below hbw5 (by omega) _ _ _ _ _ _⟩
    · have hop2 := HOP.out
      unfold opR at hop2
      rw [HDN.out, if_neg (by decide), if_pos hz] at hop2
      obtain ⟨E, hE⟩ : ∃ E : Nat, whyO S o = E := ⟨_, rfl⟩
      rw [hE] at hz hop2
      rw [hE]
      have hzb : ((E : Int) != 0) = true := by simp; omega
      have HE := Lib.hid hop2
      clear hop2 hE hz
      have d0 : w1.cell? ⟨w.heap.size, 0, none⟩ = some ((.slice SA S.L.length scap)) := BD1.out.cell 0
      have d1 : w1.cell? ⟨w.heap.size, 1, none⟩ = some (.int .i64 S.lim) := BD1.out.cell 1
      have d2 : w1.cell? ⟨w.heap.size, 2, none⟩ = some (.int .i64 S.fuse) := BD1.out.cell 2
      have d3 : w1.cell? ⟨w.heap.size, 3, none⟩ = some (.int .i64 S.ops) := BD1.out.cell 3
      have d4 : w1.cell? ⟨w.heap.size, 4, none⟩ = some (.int .i64 S.reads) := BD1.out.cell 4
      have d5 : w1.cell? ⟨w.heap.size, 5, none⟩ = some (.bool S.down) := BD1.out.cell 5
      have fd0 := BD1.out.frozen 0
      have o0 : w1.cell? ⟨w.heap.size + 1, 0, none⟩ = some (.int .i64 o.k) := BO1.out.cell 0
      have o1 : w1.cell? ⟨w.heap.size + 1, 1, none⟩ = some (.string o.a) := BO1.out.cell 1
      have o2 : w1.cell? ⟨w.heap.size + 1, 2, none⟩ = some (.string o.b) := BO1.out.cell 2
      have o3 : w1.cell? ⟨w.heap.size + 1, 3, none⟩ = some (.int .i64 o.n) := BO1.out.cell 3
      have r0 : w1.cell? ⟨w.heap.size + 1 + 1, 0, none⟩ = some (.slice none 0 0) := BR1.out.cell 0
      have r1 : w1.cell? ⟨w.heap.size + 1 + 1, 1, none⟩ = some (.int .i64 0) := BR1.out.cell 1
      have r2 : w1.cell? ⟨w.heap.size + 1 + 1, 2, none⟩ = some (.int .i64 0) := BR1.out.cell 2
      have r3 : w1.cell? ⟨w.heap.size + 1 + 1, 3, none⟩ = some (.int .i64 0) := BR1.out.cell 3
      have r4 : w1.cell? ⟨w.heap.size + 1 + 1, 4, none⟩ = some (.int .i64 0) := BR1.out.cell 4
      have r5 : w1.cell? ⟨w.heap.size + 1 + 1, 5, none⟩ = some (.bool false) := BR1.out.cell 5
      have fr0 := BR1.out.frozen 0
      have fr1 := BR1.out.frozen 1
      have fr2 := BR1.out.frozen 2
      have fr3 := BR1.out.frozen 3
      have fr4 := BR1.out.frozen 4
      have fr5 := BR1.out.frozen 5
      have fd2 := BD1.out.frozen 2
      have fd3 := BD1.out.frozen 3
      have fd5 := BD1.out.frozen 5
      go_wp2_with fail
      refine bodyPost_ret (results_row2 (p := 4) (a := 5) rfl _ _ _ _ _ _ _ rfl (six_set BR1.out (.slice SA S.L.length scap) S rfl) Tryz.underlying43 rfl info_disk) rfl ?_
      rw [HE.out]
      exact ⟨_, rfl, Or.inl ⟨rfl, rfl⟩, six_below hbw (by omega) _ _ _ _ _ _⟩
end Go.Proofs.YtefknfbmphdafaaGreat.Ds
