/- What the log leans on: Ds5. -/
import Derived.Test.YtefknfbmphdafaaDs4
import Derived.Test.YtefknfbmphdafaaDs3
namespace Go.Proofs.Ytefknfbmphdafaa.Ds
open Go.RowKit Go.Maps DkM

def dC (sl : Value) (S : Dk) : Array Value := #[sl, .int .i64 S.lim, .int .i64 S.fuse, .int .i64 S.ops, .int .i64 S.reads, .bool S.down]
def oC (o : Op5) : Array Value := #[.int .i64 o.k, .string o.a, .string o.b, .int .i64 o.n]
def zC : Array Value := #[.slice none 0 0, .int .i64 0, .int .i64 0, .int .i64 0, .int .i64 0, .bool false]
def fC (f : Fl) : Array Value := #[.string f.n, .string f.s, .string f.l]
theorem Blk.below' {w w' : World} {g : Nat} {t : TypeId} {cs : Array Value} (h : Blk w g t cs) (hb : Below w.heap.size w w') : Blk w' g t cs := (hb.block g h.lt).trans h
theorem results_row1 {P : Program} {fn : Func} {p : Tmp} {ty : TypeId} (h : fn.results = #[.cell p ty]) (tmps : Array Value) (w : World) (g : Nat) (t : TypeId) (cs : Array Value) (fr : Nat × Nat) (d : TypeDesc)
    (hp : tmps.getD p undef = .pointer (some ⟨g, 0, none⟩)) (hg : w.heap[g]? = some (.cells cs t fr))
    (hu : P.underlying ty = some d) (hd : (match d with | .struct _ | .array _ _ => true | _ => false) = true) (hi : (P.info? ty).map (·.size) = some cs.size) :
    (results fn tmps).run P w = .ok (.agg cs) w := by
  have hp' : tmps[p]?.getD undef = .pointer (some ⟨g, 0, none⟩) := by simpa using hp
  simp [results, h, hp', asAddr, run_loadVar_row w g t ty cs fr d hg hu hd hi]
theorem results_row2 {P : Program} {fn : Func} {p a : Tmp} {ty : TypeId} (h : fn.results = #[.cell p ty, .tmp a]) (tmps : Array Value) (w : World) (g : Nat) (t : TypeId) (cs : Array Value) (fr : Nat × Nat) (d : TypeDesc)
    (hp : tmps.getD p undef = .pointer (some ⟨g, 0, none⟩)) (hg : w.heap[g]? = some (.cells cs t fr))
    (hu : P.underlying ty = some d) (hd : (match d with | .struct _ | .array _ _ => true | _ => false) = true) (hi : (P.info? ty).map (·.size) = some cs.size) :
    (results fn tmps).run P w = .ok (.tuple #[.agg cs, tmps.getD a undef]) w := by
  have hp' : tmps[p]?.getD undef = .pointer (some ⟨g, 0, none⟩) := by simpa using hp
  simp [results, h, hp', asAddr, run_loadVar_row w g t ty cs fr d hg hu hd hi]
theorem results_row3 {P : Program} {fn : Func} {p a b : Tmp} {ty : TypeId} (h : fn.results = #[.cell p ty, .tmp a, .tmp b]) (tmps : Array Value) (w : World) (g : Nat) (t : TypeId) (cs : Array Value) (fr : Nat × Nat) (d : TypeDesc)
    (hp : tmps.getD p undef = .pointer (some ⟨g, 0, none⟩)) (hg : w.heap[g]? = some (.cells cs t fr))
    (hu : P.underlying ty = some d) (hd : (match d with | .struct _ | .array _ _ => true | _ => false) = true) (hi : (P.info? ty).map (·.size) = some cs.size) :
    (results fn tmps).run P w = .ok (.tuple #[.agg cs, tmps.getD a undef, tmps.getD b undef]) w := by
  have hp' : tmps[p]?.getD undef = .pointer (some ⟨g, 0, none⟩) := by simpa using hp
  simp [results, h, hp', asAddr, run_loadVar_row w g t ty cs fr d hg hu hd hi]
/-- A disk that is handed back, with files of its own. -/
def RfPost (L' : List Fl) (S : Dk) (w : World) (e : Ending) (w' : World) : Prop := ∃ sl', e = .returned (rfV sl' S) ∧ FsAt w' w.heap.size sl' L' ∧ Below w.heap.size w w'
theorem six_below {w W : World} {R : Nat} (h : Below w.heap.size w W) (hR : w.heap.size ≤ R) (a b c d e f : Value) :
    Below w.heap.size w ((((((W.setCell ⟨R, 0, none⟩ a).setCell ⟨R, 1, none⟩ b).setCell ⟨R, 2, none⟩ c).setCell ⟨R, 3, none⟩ d).setCell ⟨R, 4, none⟩ e).setCell ⟨R, 5, none⟩ f) :=
  (((((h.setCell hR _).setCell hR _).setCell hR _).setCell hR _).setCell hR _).setCell hR _
theorem FsAt.six {W : World} {lo R : Nat} {v : Value} {L : List Fl} (h : FsAt W lo v L) (hR : R < lo) (a b c d e f : Value) :
    FsAt ((((((W.setCell ⟨R, 0, none⟩ a).setCell ⟨R, 1, none⟩ b).setCell ⟨R, 2, none⟩ c).setCell ⟨R, 3, none⟩ d).setCell ⟨R, 4, none⟩ e).setCell ⟨R, 5, none⟩ f) lo v L := by
  have one : ∀ {W : World} (i : Nat) (u : Value), FsAt W lo v L → FsAt (W.setCell ⟨R, i, none⟩ u) lo v L := fun i u h => h.keep (by simp) (fun g hg _ => Below.heap_setCell _ _ _ _ (by simp; omega))
  exact one _ _ (one _ _ (one _ _ (one _ _ (one _ _ (one _ _ h)))))
theorem FsAt.one {W : World} {lo R : Nat} {v : Value} {L : List Fl} (h : FsAt W lo v L) (hR : R < lo) (i : Nat) (u : Value) : FsAt (W.setCell ⟨R, i, none⟩ u) lo v L :=
  h.keep (by simp) (fun g hg _ => Below.heap_setCell _ _ _ _ (by simp; omega))

theorem ds_below {w x x' : World} {sl : Value} {S : Dk} {o : Op5} {f : Fl} {g off j : Nat} (h : (x.cell? ⟨w.heap.size, 0, none⟩ = some sl ∧ x.cell? ⟨w.heap.size, 1, none⟩ = some (.int .i64 S.lim) ∧ x.cell? ⟨w.heap.size, 2, none⟩ = some (.int .i64 S.fuse) ∧ x.cell? ⟨w.heap.size, 3, none⟩ = some (.int .i64 S.ops) ∧ x.cell? ⟨w.heap.size, 4, none⟩ = some (.int .i64 S.reads) ∧ x.cell? ⟨w.heap.size, 5, none⟩ = some (.bool S.down)) ∧ x.cell? ⟨w.heap.size + 1, 1, none⟩ = some (.string o.a) ∧ x.cell? ⟨g, off + j * 3, none⟩ = some (.string f.n) ∧ x.cell? ⟨g, off + j * 3 + 1, none⟩ = some (.string f.s) ∧ x.cell? ⟨g, off + j * 3 + 2, none⟩ = some (.string f.l)) (hb : Below x.heap.size x x') : (x'.cell? ⟨w.heap.size, 0, none⟩ = some sl ∧ x'.cell? ⟨w.heap.size, 1, none⟩ = some (.int .i64 S.lim) ∧ x'.cell? ⟨w.heap.size, 2, none⟩ = some (.int .i64 S.fuse) ∧ x'.cell? ⟨w.heap.size, 3, none⟩ = some (.int .i64 S.ops) ∧ x'.cell? ⟨w.heap.size, 4, none⟩ = some (.int .i64 S.reads) ∧ x'.cell? ⟨w.heap.size, 5, none⟩ = some (.bool S.down)) ∧ x'.cell? ⟨w.heap.size + 1, 1, none⟩ = some (.string o.a) ∧ x'.cell? ⟨g, off + j * 3, none⟩ = some (.string f.n) ∧ x'.cell? ⟨g, off + j * 3 + 1, none⟩ = some (.string f.s) ∧ x'.cell? ⟨g, off + j * 3 + 2, none⟩ = some (.string f.l) := by
  obtain ⟨⟨a0, a1, a2, a3, a4, a5⟩, b1, c0, c1, c2⟩ := h
  exact ⟨⟨(hb.cell (cell_lt a0)).trans a0, (hb.cell (cell_lt a1)).trans a1, (hb.cell (cell_lt a2)).trans a2, (hb.cell (cell_lt a3)).trans a3, (hb.cell (cell_lt a4)).trans a4, (hb.cell (cell_lt a5)).trans a5⟩, (hb.cell (cell_lt b1)).trans b1, (hb.cell (cell_lt c0)).trans c0, (hb.cell (cell_lt c1)).trans c1, (hb.cell (cell_lt c2)).trans c2⟩
theorem ds_drew {w x : World} {sl : Value} {S : Dk} {o : Op5} {f : Fl} {g off j : Nat} (h : (x.cell? ⟨w.heap.size, 0, none⟩ = some sl ∧ x.cell? ⟨w.heap.size, 1, none⟩ = some (.int .i64 S.lim) ∧ x.cell? ⟨w.heap.size, 2, none⟩ = some (.int .i64 S.fuse) ∧ x.cell? ⟨w.heap.size, 3, none⟩ = some (.int .i64 S.ops) ∧ x.cell? ⟨w.heap.size, 4, none⟩ = some (.int .i64 S.reads) ∧ x.cell? ⟨w.heap.size, 5, none⟩ = some (.bool S.down)) ∧ x.cell? ⟨w.heap.size + 1, 1, none⟩ = some (.string o.a) ∧ x.cell? ⟨g, off + j * 3, none⟩ = some (.string f.n) ∧ x.cell? ⟨g, off + j * 3 + 1, none⟩ = some (.string f.s) ∧ x.cell? ⟨g, off + j * 3 + 2, none⟩ = some (.string f.l)) : (x.drew.cell? ⟨w.heap.size, 0, none⟩ = some sl ∧ x.drew.cell? ⟨w.heap.size, 1, none⟩ = some (.int .i64 S.lim) ∧ x.drew.cell? ⟨w.heap.size, 2, none⟩ = some (.int .i64 S.fuse) ∧ x.drew.cell? ⟨w.heap.size, 3, none⟩ = some (.int .i64 S.ops) ∧ x.drew.cell? ⟨w.heap.size, 4, none⟩ = some (.int .i64 S.reads) ∧ x.drew.cell? ⟨w.heap.size, 5, none⟩ = some (.bool S.down)) ∧ x.drew.cell? ⟨w.heap.size + 1, 1, none⟩ = some (.string o.a) ∧ x.drew.cell? ⟨g, off + j * 3, none⟩ = some (.string f.n) ∧ x.drew.cell? ⟨g, off + j * 3 + 1, none⟩ = some (.string f.s) ∧ x.drew.cell? ⟨g, off + j * 3 + 2, none⟩ = some (.string f.l) := h
theorem ds_set {w x : World} {sl : Value} {S : Dk} {o : Op5} {f : Fl} {g off j N : Nat} (h : (x.cell? ⟨w.heap.size, 0, none⟩ = some sl ∧ x.cell? ⟨w.heap.size, 1, none⟩ = some (.int .i64 S.lim) ∧ x.cell? ⟨w.heap.size, 2, none⟩ = some (.int .i64 S.fuse) ∧ x.cell? ⟨w.heap.size, 3, none⟩ = some (.int .i64 S.ops) ∧ x.cell? ⟨w.heap.size, 4, none⟩ = some (.int .i64 S.reads) ∧ x.cell? ⟨w.heap.size, 5, none⟩ = some (.bool S.down)) ∧ x.cell? ⟨w.heap.size + 1, 1, none⟩ = some (.string o.a) ∧ x.cell? ⟨g, off + j * 3, none⟩ = some (.string f.n) ∧ x.cell? ⟨g, off + j * 3 + 1, none⟩ = some (.string f.s) ∧ x.cell? ⟨g, off + j * 3 + 2, none⟩ = some (.string f.l)) (hD : w.heap.size ≠ N) (hO : w.heap.size + 1 ≠ N) (hg : g ≠ N) (i : Nat) (v : Value) : ((x.setCell ⟨N, i, none⟩ v).cell? ⟨w.heap.size, 0, none⟩ = some sl ∧ (x.setCell ⟨N, i, none⟩ v).cell? ⟨w.heap.size, 1, none⟩ = some (.int .i64 S.lim) ∧ (x.setCell ⟨N, i, none⟩ v).cell? ⟨w.heap.size, 2, none⟩ = some (.int .i64 S.fuse) ∧ (x.setCell ⟨N, i, none⟩ v).cell? ⟨w.heap.size, 3, none⟩ = some (.int .i64 S.ops) ∧ (x.setCell ⟨N, i, none⟩ v).cell? ⟨w.heap.size, 4, none⟩ = some (.int .i64 S.reads) ∧ (x.setCell ⟨N, i, none⟩ v).cell? ⟨w.heap.size, 5, none⟩ = some (.bool S.down)) ∧ (x.setCell ⟨N, i, none⟩ v).cell? ⟨w.heap.size + 1, 1, none⟩ = some (.string o.a) ∧ (x.setCell ⟨N, i, none⟩ v).cell? ⟨g, off + j * 3, none⟩ = some (.string f.n) ∧ (x.setCell ⟨N, i, none⟩ v).cell? ⟨g, off + j * 3 + 1, none⟩ = some (.string f.s) ∧ (x.setCell ⟨N, i, none⟩ v).cell? ⟨g, off + j * 3 + 2, none⟩ = some (.string f.l) := by
  obtain ⟨⟨a0, a1, a2, a3, a4, a5⟩, b1, c0, c1, c2⟩ := h
  have k : ∀ (b c : Nat), b ≠ N → (x.setCell ⟨N, i, none⟩ v).cell? ⟨b, c, none⟩ = x.cell? ⟨b, c, none⟩ := fun b c hb => World.cell?_setCell_other _ _ _ _ (by intro e; injection e with e; exact hb e.symm)
  rw [k _ _ hD, k _ _ hD, k _ _ hD, k _ _ hD, k _ _ hD, k _ _ hD, k _ _ hO, k _ _ hg, k _ _ hg, k _ _ hg]
  exact ⟨⟨a0, a1, a2, a3, a4, a5⟩, b1, c0, c1, c2⟩

theorem FsAt.far {W : World} {lo g off n cap N : Nat} {L : List Fl} (h : FsAt W lo (.slice (some ⟨g, off, none⟩) n cap) L) (hN : g ≠ N) (i : Nat) (u : Value) : FsAt (W.setCell ⟨N, i, none⟩ u) lo (.slice (some ⟨g, off, none⟩) n cap) L := by
  obtain ⟨A, c, h1, h2, h3⟩ := h
  refine ⟨A, c, h1, h2, fun hl => ?_⟩
  obtain ⟨g', off', e, hlo, hg, hc⟩ := h3 hl
  have hgg : g' = g := by rw [e] at h1; injection h1 with h1; injection h1 with h1; injection h1 with h1; exact h1.symm
  subst hgg
  have hb := Below.heap_setCell W ⟨N, i, none⟩ u g' hN
  refine ⟨g', off', e, hlo, by simpa using hg, fun k hk => ?_⟩
  obtain ⟨q0, q1, q2⟩ := hc k hk
  exact ⟨(World.cell?_of_block (w := W) hb).trans q0, (World.cell?_of_block (w := W) hb).trans q1, (World.cell?_of_block (w := W) hb).trans q2⟩
def rL (L : List Fl) (o : Op5) (f : Fl) : List Fl :=
  if o.k = 1 then putF L ⟨f.n, f.s, f.l ++ o.b⟩ else if o.k = 2 then putF L ⟨f.n, f.s ++ f.l, nul⟩ else if o.k = 3 then putF (wo L o.a) ⟨o.b, f.s, f.l⟩ else wo L o.a
end Go.Proofs.Ytefknfbmphdafaa.Ds
namespace Go.Proofs.Ytefknfbmphdafaa.Ds
open Go.RowKit Go.Maps DkM

end Go.Proofs.Ytefknfbmphdafaa.Ds
namespace Go.Proofs.Ytefknfbmphdafaa.Ds
open Go.RowKit Go.Maps DkM

theorem ren_same {L : List Fl} (h : Rise L) {a : ByteArray} {f : Fl} (hl : lkF L a = some f) : putF (wo L a) ⟨a, f.s, f.l⟩ = L := by
  obtain ⟨h1, h2⟩ := lkF_some hl
  have e : (⟨a, f.s, f.l⟩ : Fl) = f := by rw [← h2]
  rw [e]
  refine rise_ext ((h.wo a).put f) h fun x => ?_
  rw [mem_put, mem_wo]
  constructor
  · rintro (rfl | ⟨⟨hx, _⟩, _⟩)
    · exact h1
    · exact hx
  · intro hx
    by_cases he : x.n = a
    · left
      have := lkF_mem h hx
      rw [he, hl] at this
      exact (Option.some.inj this).symm
    · exact Or.inr ⟨⟨hx, he⟩, by rw [h2]; exact he⟩
theorem ren_other {L : List Fl} (h : Rise L) {a c : ByteArray} (hne : a ≠ c) (s l : ByteArray) : putF (wo L a) ⟨c, s, l⟩ = wo (putF L ⟨c, s, l⟩) a := by
  refine rise_ext ((h.wo a).put _) ((h.put _).wo a) fun x => ?_
  rw [mem_put, mem_wo, mem_wo, mem_put]
  constructor
  · rintro (rfl | ⟨⟨hx, h1⟩, h2⟩)
    · exact ⟨Or.inl rfl, fun e => hne e.symm⟩
    · exact ⟨Or.inr ⟨hx, h2⟩, h1⟩
  · rintro ⟨rfl | ⟨hx, h2⟩, h1⟩
    · exact Or.inl rfl
    · exact Or.inr ⟨⟨hx, h1⟩, h2⟩
def refL (S : Dk) (o : Op5) : List Fl := if o.k = 0 then putF S.L ⟨o.a, nul, nul⟩ else rL S.L o (gotF S o.a)
theorem got_some {S : Dk} {a : ByteArray} {f : Fl} (h : lkF S.L a = some f) : gotF S a = f := by unfold gotF; rw [h]; rfl
theorem why_file {S : Dk} {o : Op5} (_h0 : 0 ≤ o.k) (_h4 : o.k ≤ 4) (hk : o.k ≠ 0) (h : whyO S o = 0) : ∃ f, lkF S.L o.a = some f := by
  unfold whyO at h
  rw [if_neg hk] at h
  split at h
  · exact (whyA_zero h).1
  split at h
  · exact (whyR_zero h).2
  · exact thr_zero h
/-- One of the five ops, in the reference's words. -/
theorem op_ref (S : Dk) (hR : Rise S.L) {o : Op5} (ks : List Int) (h0 : 0 ≤ o.k) (h4 : o.k ≤ 4) :
    ∃ S' : Dk, doOp S o ks = opR S (whyO S o) S' ∧ S'.ops = S.ops + 1 ∧ S'.fuse = max (S.fuse - 1) (-1) ∧ S'.down = S.down ∧ S'.lim = S.lim ∧ S'.reads = S.reads ∧ (whyO S o = 0 → S'.L = refL S o) := by
  have hk : o.k = 0 ∨ o.k = 1 ∨ o.k = 2 ∨ o.k = 3 ∨ o.k = 4 := by omega
  unfold doOp
  rcases hk with h | h | h | h | h
  · rw [if_pos h]
    have hw : whyO S o = whyC S.L o.a := by unfold whyO; rw [if_pos h]
    exact ⟨{ tick S with L := putF S.L ⟨o.a, nul, nul⟩ }, by rw [hw]; rfl, rfl, rfl, rfl, rfl, rfl, fun _ => by unfold refL; rw [if_pos h]⟩
  · rw [if_neg (by omega), if_pos h]
    have hw : whyO S o = whyA S o.a o.b := by unfold whyO; rw [if_neg (by omega), if_pos h]
    refine ⟨didA S o.a o.b, by rw [hw]; rfl, rfl, rfl, rfl, rfl, rfl, fun hz => ?_⟩
    obtain ⟨f, hl⟩ := why_file h0 h4 (by omega) hz
    unfold refL rL
    rw [if_neg (by omega), if_pos h, got_some hl]
    unfold didA
    rw [hl]
    simp only [Option.getD_some]
    rw [(lkF_some hl).2]
  · rw [if_neg (by omega), if_neg (by omega), if_pos h]
    have hw : whyO S o = thr S.L o.a := by unfold whyO; rw [if_neg (by omega), if_neg (by omega), if_neg (by omega)]
    refine ⟨didS S o.a, by rw [hw]; rfl, rfl, rfl, rfl, rfl, rfl, fun hz => ?_⟩
    obtain ⟨f, hl⟩ := why_file h0 h4 (by omega) hz
    unfold refL rL
    rw [if_neg (by omega), if_neg (by omega), if_pos h, got_some hl]
    unfold didS
    simp only
    rw [got_some hl, (lkF_some hl).2]
  · rw [if_neg (by omega), if_neg (by omega), if_neg (by omega), if_pos h]
    have hw : whyO S o = whyR S o.a o.b := by unfold whyO; rw [if_neg (by omega), if_neg (by omega), if_pos h]
    refine ⟨didR S o.a o.b, by rw [hw]; rfl, ?_, ?_, ?_, ?_, ?_, fun hz => ?_⟩
    · unfold didR; split <;> rfl
    · unfold didR; split <;> rfl
    · unfold didR; split <;> rfl
    · unfold didR; split <;> rfl
    · unfold didR; split <;> rfl
    obtain ⟨f, hl⟩ := why_file h0 h4 (by omega) hz
    unfold refL rL
    rw [if_neg (by omega), if_neg (by omega), if_neg (by omega), if_pos h]
    unfold didR
    by_cases he : eqN o.a o.b = true
    · rw [if_pos he, got_some hl]
      have := eqN_iff.1 he
      rw [← this]
      exact (ren_same hR hl).symm
    · rw [if_neg he]
      simp only
      rw [got_some hl]
      exact (ren_other hR (fun e => he (eqN_iff.2 e)) _ _).symm
  · rw [if_neg (by omega), if_neg (by omega), if_neg (by omega), if_neg (by omega), if_pos h]
    have hw : whyO S o = thr S.L o.a := by unfold whyO; rw [if_neg (by omega), if_neg (by omega), if_neg (by omega)]
    refine ⟨didD S o.a, by rw [hw]; rfl, rfl, rfl, rfl, rfl, rfl, fun hz => ?_⟩
    unfold refL rL
    rw [if_neg (by omega), if_neg (by omega), if_neg (by omega), if_neg (by omega)]
    rfl
theorem blk_third (w : World) (a c : Obj) (T : TypeId) (cs : Array Value) : Blk (((w.alloc a).alloc c).alloc (.cells cs T)) (w.heap.size + 1 + 1) T cs := by
  have := Blk.new ((w.alloc a).alloc c) T cs
  rw [show ((w.alloc a).alloc c).heap.size = w.heap.size + 1 + 1 by simp] at this
  exact this
theorem below_three (w : World) (a c e : Obj) : Below w.heap.size w (((w.alloc a).alloc c).alloc e) := (below_two _ _ _).trans ((below_one _ _).mono (by simp; omega))
/-- A disk and an error that are handed back. -/
def RdPost (sl : Value) (L : List Fl) (R : Dk × Nat) (w : World) (e : Ending) (w' : World) : Prop := ∃ sl', e = .returned (.tuple #[rfV sl' R.1, .int .i64 (R.2 : Nat)]) ∧ ((sl' = sl ∧ R.1.L = L) ∨ FsAt w' w.heap.size sl' R.1.L) ∧ Below w.heap.size w w'
theorem fs_six {W : World} {lo R : Nat} {v : Value} {L : List Fl} (h : FsAt W lo v L) (hR : ∀ g off n cap, v = .slice (some ⟨g, off, none⟩) n cap → 0 < L.length → g ≠ R) (a b c d e f : Value) :
    FsAt ((((((W.setCell ⟨R, 0, none⟩ a).setCell ⟨R, 1, none⟩ b).setCell ⟨R, 2, none⟩ c).setCell ⟨R, 3, none⟩ d).setCell ⟨R, 4, none⟩ e).setCell ⟨R, 5, none⟩ f) lo v L := by
  have one : ∀ {W : World} (i : Nat) (u : Value), FsAt W lo v L → FsAt (W.setCell ⟨R, i, none⟩ u) lo v L := fun {W} i u h => by
    obtain ⟨A, cap, h1, h2, h3⟩ := h
    refine ⟨A, cap, h1, h2, fun hl => ?_⟩
    obtain ⟨g, off, e, hlo, hg, hc⟩ := h3 hl
    have hne := hR g off _ _ (by rw [h1, e]) hl
    have hb := Below.heap_setCell W ⟨R, i, none⟩ u g hne
    refine ⟨g, off, e, hlo, by simpa using hg, fun k hk => ?_⟩
    obtain ⟨q0, q1, q2⟩ := hc k hk
    exact ⟨(World.cell?_of_block (w := W) hb).trans q0, (World.cell?_of_block (w := W) hb).trans q1, (World.cell?_of_block (w := W) hb).trans q2⟩
  exact one _ _ (one _ _ (one _ _ (one _ _ (one _ _ (one _ _ h)))))
/-- The slice's block was there before. -/
theorem FsAt.old {w : World} {lo : Nat} {v : Value} {L : List Fl} (h : FsAt w lo v L) {R : Nat} (hR : w.heap.size ≤ R) : ∀ g off n cap, v = .slice (some ⟨g, off, none⟩) n cap → 0 < L.length → g ≠ R := by
  intro g off n cap hv hl
  obtain ⟨A, c, h1, h2, h3⟩ := h
  obtain ⟨g', off', e, _, hg, _⟩ := h3 hl
  rw [h1, e] at hv
  injection hv with hv
  injection hv with hv
  injection hv with hv
  omega
theorem FsAt.oneR {W : World} {lo R : Nat} {v : Value} {L : List Fl} (h : FsAt W lo v L) (hR : ∀ g off n cap, v = .slice (some ⟨g, off, none⟩) n cap → 0 < L.length → g ≠ R) (i : Nat) (u : Value) : FsAt (W.setCell ⟨R, i, none⟩ u) lo v L := by
  obtain ⟨A, cap, h1, h2, h3⟩ := h
  refine ⟨A, cap, h1, h2, fun hl => ?_⟩
  obtain ⟨g, off, e, hlo, hg, hc⟩ := h3 hl
  have hne := hR g off _ _ (by rw [h1, e]) hl
  have hb := Below.heap_setCell W ⟨R, i, none⟩ u g hne
  refine ⟨g, off, e, hlo, by simpa using hg, fun k hk => ?_⟩
  obtain ⟨q0, q1, q2⟩ := hc k hk
  exact ⟨(World.cell?_of_block (w := W) hb).trans q0, (World.cell?_of_block (w := W) hb).trans q1, (World.cell?_of_block (w := W) hb).trans q2⟩
theorem RfAt.withS {w : World} {lo : Nat} {sl : Value} {S S2 : Dk} (h : RfAt w lo sl S) (hL : S2.L = S.L) (hu : S2.used = S.used) : RfAt w lo sl S2 := ⟨by rw [hL]; exact h.fs, by rw [hL]; exact h.len, by rw [hL]; exact h.usd, by rw [hu, hL]; exact h.used, by rw [hL]; exact h.names⟩

end Go.Proofs.Ytefknfbmphdafaa.Ds
