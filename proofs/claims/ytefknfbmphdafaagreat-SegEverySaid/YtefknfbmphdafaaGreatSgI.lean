/- The law's made: the walk, and what holds of what it makes. -/
import Derived.Test.YtefknfbmphdafaaGreatDs5
import Derived.Test.YtefknfbmphdafaaGreatSgQ2
import Derived.IntWalk
namespace Go.Proofs.YtefknfbmphdafaaGreat.Ds
open Go.RowKit Go.Maps DkM

theorem rf_of {w : World} {lo : Nat} {sl : Value} {S : Dk} (hF : FsAt w lo sl S.L) (B : Bd S) (hl : S.L.length ≤ 1000000) (hnm : ∀ f ∈ S.L, f.n.size ≤ maxLen) : RfAt w lo sl S :=
  ⟨hF, hl, B.used1, B.used, fun f hf => by have := hnm f hf; unfold maxLen at this; omega⟩

theorem FsAt.drewN {w : World} {lo : Nat} {v : Value} {L : List Fl} (h : FsAt w lo v L) (n : Nat) : FsAt (w.drewN n) lo v L := h
theorem Blk.drew {w : World} {g : Nat} {t : TypeId} {cs : Array Value} (h : Blk w g t cs) : Blk w.drew g t cs := h
theorem below_drewN {B : Nat} {w W : World} (h : Below B w W) (n : Nat) : Below B w (W.drewN n) := ⟨h.os, h.tape, h.output, h.size, h.block⟩
theorem below_drew2 {B : Nat} {w W : World} (h : Below B w W) : Below B w W.drew := ⟨h.os, h.tape, h.output, h.size, h.block⟩
theorem results_tr {P : Program} {fn : Func} {p a : Tmp} {ty : TypeId} (h : fn.results = #[.tmp a, .cell p ty]) (tmps : Array Value) (w : World) (g : Nat) (t : TypeId) (cs : Array Value) (fr : Nat × Nat) (d : TypeDesc)
    (hp : tmps.getD p undef = .pointer (some ⟨g, 0, none⟩)) (hg : w.heap[g]? = some (.cells cs t fr))
    (hu : P.underlying ty = some d) (hd : (match d with | .struct _ | .array _ _ => true | _ => false) = true) (hi : (P.info? ty).map (·.size) = some cs.size) :
    (results fn tmps).run P w = .ok (.tuple #[tmps.getD a undef, .agg cs]) w := by
  have hp' : tmps[p]?.getD undef = .pointer (some ⟨g, 0, none⟩) := by simpa using hp
  simp [results, h, hp', asAddr, run_loadVar_row w g t ty cs fr d hg hu hd hi]
theorem disk_six {w : World} {p b R : Nat} {S : Dk} (h : DiskAt w p b S) (h1 : p ≠ R) (h2 : b ≠ R) (a0 a1 a2 a3 a4 a5 : Value) :
    DiskAt ((((((w.setCell ⟨R, 0, none⟩ a0).setCell ⟨R, 1, none⟩ a1).setCell ⟨R, 2, none⟩ a2).setCell ⟨R, 3, none⟩ a3).setCell ⟨R, 4, none⟩ a4).setCell ⟨R, 5, none⟩ a5) p b S := by
  have one : ∀ {w : World} (i : Nat) (u : Value), DiskAt w p b S → DiskAt (w.setCell ⟨R, i, none⟩ u) p b S := fun {w} i u h => ⟨h.blk.far (by simpa using h1) u, h.own.far (by simpa using h2) u⟩
  exact one _ _ (one _ _ (one _ _ (one _ _ (one _ _ (one _ _ h)))))
theorem blk_six {w : World} {g R : Nat} {t : TypeId} {cs : Array Value} (h : Blk w g t cs) (h1 : g ≠ R) (a0 a1 a2 a3 a4 a5 : Value) :
    Blk ((((((w.setCell ⟨R, 0, none⟩ a0).setCell ⟨R, 1, none⟩ a1).setCell ⟨R, 2, none⟩ a2).setCell ⟨R, 3, none⟩ a3).setCell ⟨R, 4, none⟩ a4).setCell ⟨R, 5, none⟩ a5) g t cs :=
  (((((h.far (by simpa using h1) _).far (by simpa using h1) _).far (by simpa using h1) _).far (by simpa using h1) _).far (by simpa using h1) _).far (by simpa using h1) _
theorem six_any {W : World} {R : Nat} {sl' : Value} {S' : Dk} {cs : Array Value} (h : Blk W R 43 (dC sl' S')) {sl : Value} {S : Dk} (hcs : cs = dC sl S) :
    Blk ((((((W.setCell ⟨R, 0, none⟩ sl).setCell ⟨R, 1, none⟩ (.int .i64 S.lim)).setCell ⟨R, 2, none⟩ (.int .i64 S.fuse)).setCell ⟨R, 3, none⟩ (.int .i64 S.ops)).setCell ⟨R, 4, none⟩ (.int .i64 S.reads)).setCell ⟨R, 5, none⟩ (.bool S.down)) R 43 cs := by
  subst hcs
  exact (((((h.set_ 0 _).set_ 1 _).set_ 2 _).set_ 3 _).set_ 4 _).set_ 5 _

def ops4 (f : Fl) : List Op5 := [⟨0, f.n, nul, 0⟩, ⟨1, f.n, f.s, 0⟩, ⟨2, f.n, nul, 0⟩, ⟨1, f.n, f.l, 0⟩]
def op16 (f : Fl) : Array Value := #[.int .i64 0, .string f.n, .string nul, .int .i64 0, .int .i64 1, .string f.n, .string f.s, .int .i64 0, .int .i64 2, .string f.n, .string nul, .int .i64 0, .int .i64 1, .string f.n, .string f.l, .int .i64 0]
theorem four_cells {w : World} {g : Nat} {t : TypeId} {f : Fl} (h : Blk w g t (op16 f)) {q : Nat} (hq : q < 4) (o : Op5) (ho : o = (ops4 f)[q]) :
    w.cell? ⟨g, q * 4, none⟩ = some (.int .i64 o.k) ∧ w.cell? ⟨g, q * 4 + 1, none⟩ = some (.string o.a) ∧ w.cell? ⟨g, q * 4 + 2, none⟩ = some (.string o.b) ∧ w.cell? ⟨g, q * 4 + 3, none⟩ = some (.int .i64 o.n) := by
  subst ho
  rcases (show q = 0 ∨ q = 1 ∨ q = 2 ∨ q = 3 by omega) with rfl | rfl | rfl | rfl
  · exact ⟨h.cell 0, h.cell 1, h.cell 2, h.cell 3⟩
  · exact ⟨h.cell 4, h.cell 5, h.cell 6, h.cell 7⟩
  · exact ⟨h.cell 8, h.cell 9, h.cell 10, h.cell 11⟩
  · exact ⟨h.cell 12, h.cell 13, h.cell 14, h.cell 15⟩
theorem ops4_ok {f : Fl} (h : OkFl f) : ∀ o ∈ ops4 f, OkOp o ∧ (o.k = 0 ∨ o.k = 1 ∨ o.k = 2) := by
  intro o ho
  obtain ⟨h1, h2, h3⟩ := h
  have z : nul.size = 0 := rfl
  unfold ops4 at ho
  simp only [List.mem_cons, List.not_mem_nil, or_false] at ho
  rcases ho with rfl | rfl | rfl | rfl
  · exact ⟨⟨by simp, by simp, h1, by rw [z]; omega, by simp, by simp⟩, Or.inl rfl⟩
  · exact ⟨⟨by simp, by simp, h1, h2, by simp, by simp⟩, Or.inr (Or.inl rfl)⟩
  · exact ⟨⟨by simp, by simp, h1, by rw [z]; omega, by simp, by simp⟩, Or.inr (Or.inr rfl)⟩
  · exact ⟨⟨by simp, by simp, h1, h3, by simp, by simp⟩, Or.inr (Or.inl rfl)⟩
def mdO (S : Dk) (l : List Op5) : Dk := l.foldl (fun S o => (doOp S o []).1) S
theorem mdO_next (S : Dk) (l : List Op5) (k : Nat) (h : k < l.length) : mdO S (l.take (k + 1)) = (doOp (mdO S (l.take k)) l[k] []).1 := by
  unfold mdO; rw [List.take_succ_eq_append_getElem h, List.foldl_append]; rfl
def mdS (L : List Fl) : Dk := L.foldl (fun S f => mdO S (ops4 f)) (newS 1048576)
theorem mdS_next (L : List Fl) (k : Nat) (h : k < L.length) : mdS (L.take (k + 1)) = mdO (mdS (L.take k)) (ops4 L[k]) := by
  unfold mdS; rw [List.take_succ_eq_append_getElem h, List.foldl_append]; rfl
/-- What holds of a disk that is made. -/
structure Md (N u : Nat) (S : Dk) : Prop where
  iv : Iv N S
  us : usd S.L ≤ u
  rd : S.reads = 0
  dn : S.down = false
  fu : S.fuse = -1
theorem opR_live {S S' : Dk} {e : Nat} (hd : S.down = false) (hf : S.fuse = -1) : (opR S e S').1 = if e = 0 then S' else S := by
  unfold opR; rw [hd, hf]; by_cases he : e = 0 <;> simp [he]
theorem Md.op {N u : Nat} {S : Dk} (h : Md N u S) {o : Op5} (ho : OkOp o) (hk : o.k = 0 ∨ o.k = 1 ∨ o.k = 2) : Md (N + 1) (u + o.b.size) (doOp S o []).1 := by
  obtain ⟨h1, h2, h3, h4, h5⟩ := h
  have hi := h1.doOp ho []
  have z : nul.size = 0 := rfl
  have hfu : max (S.fuse - 1) (-1) = (-1 : Int) := by rw [h5]; decide
  rcases hk with hk | hk | hk
  · have e : doOp S o [] = doC S o.a := by unfold doOp; rw [if_pos hk]
    rw [e] at hi ⊢
    unfold doC at hi ⊢
    rw [opR_live h4 h5] at hi ⊢
    by_cases he : whyC S.L o.a = 0
    · rw [if_pos he] at hi ⊢
      obtain ⟨_, hl⟩ := whyC_zero he
      have hu := usd_put h1.rise ⟨o.a, nul, nul⟩
      simp only [hl, flS] at hu
      rw [z] at hu
      exact ⟨hi, by show usd (putF S.L ⟨o.a, nul, nul⟩) ≤ _; omega, h3, h4, hfu⟩
    · rw [if_neg he] at hi ⊢
      exact ⟨hi, by omega, h3, h4, h5⟩
  · have e : doOp S o [] = doA S o.a o.b := by unfold doOp; rw [if_neg (by omega), if_pos hk]
    rw [e] at hi ⊢
    unfold doA at hi ⊢
    rw [opR_live h4 h5] at hi ⊢
    by_cases he : whyA S o.a o.b = 0
    · rw [if_pos he] at hi ⊢
      obtain ⟨⟨f, hl⟩, _⟩ := whyA_zero he
      have hu := usd_put h1.rise ⟨o.a, f.s, f.l ++ o.b⟩
      simp only [hl, app_size, flS] at hu
      unfold didA at hi ⊢
      rw [hl] at hi ⊢
      simp only [Option.getD_some] at hi ⊢
      exact ⟨hi, by show usd (putF S.L ⟨o.a, f.s, f.l ++ o.b⟩) ≤ _; omega, h3, h4, hfu⟩
    · rw [if_neg he] at hi ⊢
      exact ⟨hi, by omega, h3, h4, h5⟩
  · have e : doOp S o [] = doS S o.a := by unfold doOp; rw [if_neg (by omega), if_neg (by omega), if_pos hk]
    rw [e] at hi ⊢
    unfold doS at hi ⊢
    rw [opR_live h4 h5] at hi ⊢
    by_cases he : thr S.L o.a = 0
    · rw [if_pos he] at hi ⊢
      obtain ⟨f, hl⟩ := thr_zero he
      have hu := usd_put h1.rise ⟨o.a, f.s ++ f.l, nul⟩
      simp only [hl, app_size, flS] at hu
      rw [z] at hu
      unfold didS gotF at hi ⊢
      rw [hl] at hi ⊢
      simp only [Option.getD_some] at hi ⊢
      exact ⟨hi, by show usd (putF S.L ⟨o.a, f.s ++ f.l, nul⟩) ≤ _; omega, h3, h4, hfu⟩
    · rw [if_neg he] at hi ⊢
      exact ⟨hi, by omega, h3, h4, h5⟩
theorem Md.mono {N u u' : Nat} {S : Dk} (h : Md N u S) (hu : u ≤ u') : Md N u' S := ⟨h.iv, Nat.le_trans h.us hu, h.rd, h.dn, h.fu⟩
theorem Md.take {N u : Nat} {S : Dk} (h : Md N u S) {f : Fl} (hf : OkFl f) : ∀ q, q ≤ 4 → Md (N + q) (u + f.s.size + f.l.size) (mdO S ((ops4 f).take q)) := by
  have hk := ops4_ok hf
  have z : nul.size = 0 := rfl
  have g1 := h.op (hk _ (show (⟨0, f.n, nul, 0⟩ : Op5) ∈ ops4 f by simp [ops4])).1 (Or.inl rfl)
  have g2 := g1.op (hk _ (show (⟨1, f.n, f.s, 0⟩ : Op5) ∈ ops4 f by simp [ops4])).1 (Or.inr (Or.inl rfl))
  have g3 := g2.op (hk _ (show (⟨2, f.n, nul, 0⟩ : Op5) ∈ ops4 f by simp [ops4])).1 (Or.inr (Or.inr rfl))
  have g4 := g3.op (hk _ (show (⟨1, f.n, f.l, 0⟩ : Op5) ∈ ops4 f by simp [ops4])).1 (Or.inr (Or.inl rfl))
  simp only [z] at g1 g2 g3 g4
  intro q hq
  rcases (show q = 0 ∨ q = 1 ∨ q = 2 ∨ q = 3 ∨ q = 4 by omega) with rfl | rfl | rfl | rfl | rfl
  · exact h.mono (by omega)
  · exact g1.mono (by omega)
  · exact g2.mono (by omega)
  · exact g3.mono (by omega)
  · exact g4.mono (by omega)
theorem md_all {L : List Fl} (h : ∀ f ∈ L, OkFl f) : ∀ k, k ≤ L.length → Md (4 * k) (usd (L.take k)) (mdS (L.take k))
  | 0, _ => ⟨Iv.new _, by simp [mdS, newS, usd], rfl, rfl, rfl⟩
  | k + 1, hk => by
    have ih := md_all h k (by omega)
    have h2 := ih.take (h L[k] (List.getElem_mem _)) 4 (Nat.le_refl _)
    rw [mdS_next L k (by omega), usd_take L k (by omega), show 4 * (k + 1) = 4 * k + 4 by omega]
    have e : (ops4 L[k]).take 4 = ops4 L[k] := rfl
    rw [e] at h2
    exact h2
def MadePost (S : Dk) (w : World) (e : Ending) (w' : World) : Prop := ∃ (p b lo : Nat) (sl : Value), e = .returned (.tuple #[ptr p, rfV sl S]) ∧ w.heap.size ≤ p ∧ w.heap.size ≤ b ∧ p < lo ∧ b < lo ∧ DiskAt w' p b S ∧ FsAt w' lo sl S.L ∧ Below w.heap.size w w'
def MadeAll (L : List Fl) (w : World) (e : Ending) (w' : World) : Prop :=
  (L.length ≤ 12 ∧ usd L ≤ 4000 ∧ MadePost (mdS L) w e w') ∨ (L ≠ [] ∧ (∃ A c S, e = .returned (.tuple #[.pointer none, rfV (.slice A S.L.length c) S])) ∧ Below w.heap.size w w')

set_option maxRecDepth 100000 in
set_option maxHeartbeats 8000000 in
theorem made16_any {w : World} {lo0 : Nat} {v : Value} {L : List Fl} (hl : FsAt w lo0 v L) (hok : ∀ f ∈ L, OkFl f) (hlen : L.length ≤ 140737488355328) :
    Calls Tryz.prog 13 #[v] w (MadeAll L w) := by
  obtain ⟨A, cap, rfl, hcap, hA⟩ := hl
  obtain ⟨m, hm⟩ : ∃ m, m = L.length := ⟨_, rfl⟩
  have HM := Lib.hid hm
  rw [← hm] at hlen ⊢
  have HA := Lib.hid hA
  have HOK := Lib.hid hok
  have HMD := Lib.hid (md_all hok)
  clear hA hcap hm hok
  go_enter Tryz.func13, Tryz.ntmps13
  go_wp2_with fail
  obtain ⟨W, hW⟩ : ∃ W, W = w.alloc (.cells #[.slice none 0 0, .int .i64 0, .int .i64 0, .int .i64 0, .int .i64 0, .bool false] 43) := ⟨_, rfl⟩
  have bR : Blk W w.heap.size 43 zC := by rw [hW]; exact Blk.new _ _ _
  have hbW : Below w.heap.size w W := by rw [hW]; exact below_one _ _
  rw [← hW]
  clear hW
  refine (new_lo 1048576 _).mono ?_
  rintro e w1 ⟨p, b, rfl, hp, hb, hD, hb1⟩
  have BR1 := Lib.hid (bR.below' hb1)
  have HD1 := Lib.hid hD
  have hB1 : Below w.heap.size w w1 := hbW.trans (hb1.mono hbW.size)
  have hwp : w.heap.size < p := Nat.lt_of_lt_of_le bR.lt hp
  have hwb : w.heap.size < b := Nat.lt_of_lt_of_le bR.lt hb
  have hp1 : p < w1.heap.size := hD.blk.lt
  have hb1' : b < w1.heap.size := hD.own.lt
  clear hD hb1 hp hb bR hbW
  go_wp2_with fail
  refine (rnew_any 1048576 _).mono ?_
  rintro e w2 ⟨rfl, hb2⟩
  have BR2 := Lib.hid (BR1.out.below' hb2)
  have HD2 := Lib.hid (HD1.out.belowS hb2)
  have hB2 : Below w.heap.size w w2 := hB1.trans (hb2.mono hB1.size)
  have hp2 : p < w2.heap.size := Nat.lt_of_lt_of_le hp1 hb2.size
  have hb2' : b < w2.heap.size := Nat.lt_of_lt_of_le hb1' hb2.size
  clear hb2 hp1 hb1'
  have HS0 := Lib.hid (show mdS (L.take 0) = newS 1048576 from rfl)
  go_upto_region 2 with fail
  obtain ⟨Q, hQ⟩ : ∃ Q, Q = w2.heap.size := ⟨_, rfl⟩
  generalize hN : newS 1048576 = N at *
  obtain ⟨W3, hW3⟩ : ∃ W3, W3 = w2.alloc (.cells #[.slice none 0 0, .int .i64 N.lim, .int .i64 N.fuse, .int .i64 N.ops, .int .i64 N.reads, .bool N.down] 43) := ⟨_, rfl⟩
  have B3 := Lib.hid (show Blk W3 Q 43 (dC (.slice none 0 0) N) by rw [hW3, hQ]; exact Blk.new _ _ _)
  have HD3 := Lib.hid (show DiskAt W3 p b N by rw [hW3]; exact HD2.out.alloc _)
  have BR3 := Lib.hid (show Blk W3 w.heap.size 43 zC by rw [hW3]; exact BR2.out.alloc _)
  have hB3 : Below w.heap.size w W3 := by rw [hW3]; exact hB2.alloc hB2.size _
  have HF3 := Lib.hid (show FsAt W3 (Q + 1) (.slice none 0 0) N.L by rw [← hN]; exact FsAt.nil _ _ _ _)
  have hpQ : p < Q := by omega
  have hbQ : b < Q := by omega
  rw [← hW3, ← hQ]
  clear hW3 hQ hB2 hp2 hb2' hN
  go_wp2_with fail
  go_loopw [6, 15] (fun nv i wr => ∃ (k : Nat) (S : Dk) (sl : Value), k ≤ m ∧ i = .int .i64 k ∧ nv = .int .i64 (usd (L.take k) : Nat) ∧ mdS (L.take k) = S ∧ (0 < k → m ≤ 12 ∧ usd (L.take k) ≤ 4000) ∧ DiskAt wr p b S ∧ Blk wr Q 43 (dC sl S) ∧ FsAt wr (Q + 1) sl S.L ∧ Blk wr w.heap.size 43 zC ∧ Below w.heap.size w wr) (fun _ i _ => m - (intOf i).toNat)
  case atStart => exact ⟨0, N, .slice none 0 0, Nat.zero_le _, rfl, rfl, HS0.out, fun h => absurd h (by omega), HD3.out, B3.out, HF3.out, BR3.out, hB3⟩
  case round =>
    obtain ⟨k, T, sl, hk, rfl, rfl, hS, hlim, hD, hQ, hF, hR, hb⟩ := hrel
    have HDr := Lib.hid hD
    have HSr := Lib.hid hS
    have HQr := Lib.hid hQ
    have HFr := Lib.hid hF
    have HRr := Lib.hid hR
    have hwr : w.heap.size < wr.heap.size := hR.lt
    have hQr : Q < wr.heap.size := hQ.lt
    obtain ⟨SA, scap, hsl, -, -⟩ := hF
    subst hsl
    clear hD hS hQ hR
    have hu0 : usd (L.take k) ≤ 4000 := by
      by_cases h0 : 0 < k
      · exact (hlim h0).2
      · obtain rfl : k = 0 := by omega
        simp [usd]
    by_cases hlt : k < m
    · have hlt' : k < L.length := by rw [← HM.out]; exact hlt
      have hLne : L ≠ [] := by intro h; rw [h] at hlt'; simp at hlt'
      obtain ⟨g, off, rfl, _, hg, hcl⟩ := HA.out (by omega)
      have c0 := (hb.cell (by exact hg)).trans (hcl k hlt').1
      have c1 := (hb.cell (by exact hg)).trans (hcl k hlt').2.1
      have c2 := (hb.cell (by exact hg)).trans (hcl k hlt').2.2
      have hfo := HOK.out L[k] (List.getElem_mem _)
      have hun := usd_take L k hlt'
      have hmn := mdS_next L k hlt'
      obtain ⟨f, hf⟩ : ∃ f, f = L[k] := ⟨_, rfl⟩
      rw [← hf] at c0 c1 c2 hfo hun hmn
      rw [HSr.out] at hmn
      have HMN := Lib.hid hmn
      have HUN := Lib.hid hun
      have HFO := Lib.hid hfo
      have hs1 := hfo.s1
      have hl1 := hfo.l1
      have hgr : g < wr.heap.size := Nat.lt_of_lt_of_le hg hb.size
      have hmd := HMD.out k (by omega)
      rw [HSr.out] at hmd
      have HTK := Lib.hid (fun q h => hmd.take hfo q h)
      clear hcl hf hmn hfo hmd
      have i0' : (0 : Int) ≤ (k : Int) := by omega
      have i1' : (k : Int) < (m : Int) := by omega
      obtain ⟨V, hV⟩ : ∃ V, V = wr.alloc (.cells #[.string f.n, .string f.s, .string f.l] 89) := ⟨_, rfl⟩
      have FV := Lib.hid (show Blk V wr.heap.size 89 (fC f) by rw [hV]; exact Blk.new _ _ _)
      have DV := Lib.hid (show DiskAt V p b T by rw [hV]; exact HDr.out.alloc _)
      have QV := Lib.hid (show Blk V Q 43 (dC (.slice SA T.L.length scap) T) by rw [hV]; exact HQr.out.alloc _)
      have FsV := Lib.hid (show FsAt V (Q + 1) (.slice SA T.L.length scap) T.L by rw [hV]; exact HFr.out.alloc _)
      have RV := Lib.hid (show Blk V w.heap.size 43 zC by rw [hV]; exact HRr.out.alloc _)
      have hbV : Below w.heap.size w V := by rw [hV]; exact hb.alloc hb.size _
      have f0 : V.cell? ⟨wr.heap.size, 0, none⟩ = some (.string f.n) := FV.out.cell 0
      have f1 : V.cell? ⟨wr.heap.size, 1, none⟩ = some (.string f.s) := FV.out.cell 1
      have f2 : V.cell? ⟨wr.heap.size, 2, none⟩ = some (.string f.l) := FV.out.cell 2
      have hw1 : IntKind.i64.wrap ((f.s.size : Int) + (f.l.size : Int)) = (f.s.size : Int) + (f.l.size : Int) := IntWalk.i64_in _ (by omega)
      have hw2 : IntKind.i64.wrap (((usd (L.take k) : Nat) : Int) + ((f.s.size : Int) + (f.l.size : Int))) = ((usd (L.take (k + 1)) : Nat) : Int) := by rw [IntWalk.i64_in _ (by omega), HUN.out]; omega
      go_upto_region 6 with fail
      rw [← hV]
      clear hV c0 c1 c2
      go_upto_region 7 with fail
      have hVr : wr.heap.size < V.heap.size := FV.out.lt
      obtain ⟨FB, hFB⟩ : ∃ FB, FB = wr.heap.size := ⟨_, rfl⟩
      rw [← hFB] at FV f0 f1 f2 hVr hQr hwr hgr ⊢
      clear hw1 hw2 hFB
      by_cases h4 : 4000 < usd (L.take (k + 1))
      · have h4' : (4000 : Int) < ((usd (L.take (k + 1)) : Nat) : Int) := by omega
        have h4'' : decide ((4000 : Int) < ((usd (L.take (k + 1)) : Nat) : Int)) = true := decide_eq_true h4'
        have d0 : V.cell? ⟨Q, 0, none⟩ = some (.slice SA T.L.length scap) := QV.out.cell 0
        have d1 : V.cell? ⟨Q, 1, none⟩ = some (.int .i64 T.lim) := QV.out.cell 1
        have d2 : V.cell? ⟨Q, 2, none⟩ = some (.int .i64 T.fuse) := QV.out.cell 2
        have d3 : V.cell? ⟨Q, 3, none⟩ = some (.int .i64 T.ops) := QV.out.cell 3
        have d4 : V.cell? ⟨Q, 4, none⟩ = some (.int .i64 T.reads) := QV.out.cell 4
        have d5 : V.cell? ⟨Q, 5, none⟩ = some (.bool T.down) := QV.out.cell 5
        have r0 : V.cell? ⟨w.heap.size, 0, none⟩ = some (.slice none 0 0) := RV.out.cell 0
        have r1 : V.cell? ⟨w.heap.size, 1, none⟩ = some (.int .i64 0) := RV.out.cell 1
        have r2 : V.cell? ⟨w.heap.size, 2, none⟩ = some (.int .i64 0) := RV.out.cell 2
        have r3 : V.cell? ⟨w.heap.size, 3, none⟩ = some (.int .i64 0) := RV.out.cell 3
        have r4 : V.cell? ⟨w.heap.size, 4, none⟩ = some (.int .i64 0) := RV.out.cell 4
        have r5 : V.cell? ⟨w.heap.size, 5, none⟩ = some (.bool false) := RV.out.cell 5
        have fr0 := RV.out.frozen 0
        have fr1 := RV.out.frozen 1
        have fr2 := RV.out.frozen 2
        have fr3 := RV.out.frozen 3
        have fr4 := RV.out.frozen 4
        have fr5 := RV.out.frozen 5
        go_wp2_with fail
        go_region
        go_wp2_with fail
        refine bodyPost_ret (results_tr (a := 2) (p := 3) rfl _ _ _ _ _ _ _ rfl (Blk.drew (six_set RV.out (.slice SA T.L.length scap) T rfl)) Tryz.underlying43 rfl info_disk) rfl ?_
        exact Or.inr ⟨hLne, ⟨_, _, T, rfl⟩, below_drew2 (six_below hbV (Nat.le_refl _) _ _ _ _ _ _)⟩
      by_cases h12 : 12 < m
      · have h4' : ¬ (4000 : Int) < ((usd (L.take (k + 1)) : Nat) : Int) := by omega
        have h4'' : decide ((4000 : Int) < ((usd (L.take (k + 1)) : Nat) : Int)) = false := decide_eq_false h4'
        have h4b : ((usd (L.take (k + 1)) : Nat) : Int) ≤ 4000 := by omega
        have h12' : (12 : Int) < (m : Int) := by omega
        have h12'' : decide ((12 : Int) < (m : Int)) = true := decide_eq_true h12'
        have d0 : V.cell? ⟨Q, 0, none⟩ = some (.slice SA T.L.length scap) := QV.out.cell 0
        have d1 : V.cell? ⟨Q, 1, none⟩ = some (.int .i64 T.lim) := QV.out.cell 1
        have d2 : V.cell? ⟨Q, 2, none⟩ = some (.int .i64 T.fuse) := QV.out.cell 2
        have d3 : V.cell? ⟨Q, 3, none⟩ = some (.int .i64 T.ops) := QV.out.cell 3
        have d4 : V.cell? ⟨Q, 4, none⟩ = some (.int .i64 T.reads) := QV.out.cell 4
        have d5 : V.cell? ⟨Q, 5, none⟩ = some (.bool T.down) := QV.out.cell 5
        have r0 : V.cell? ⟨w.heap.size, 0, none⟩ = some (.slice none 0 0) := RV.out.cell 0
        have r1 : V.cell? ⟨w.heap.size, 1, none⟩ = some (.int .i64 0) := RV.out.cell 1
        have r2 : V.cell? ⟨w.heap.size, 2, none⟩ = some (.int .i64 0) := RV.out.cell 2
        have r3 : V.cell? ⟨w.heap.size, 3, none⟩ = some (.int .i64 0) := RV.out.cell 3
        have r4 : V.cell? ⟨w.heap.size, 4, none⟩ = some (.int .i64 0) := RV.out.cell 4
        have r5 : V.cell? ⟨w.heap.size, 5, none⟩ = some (.bool false) := RV.out.cell 5
        have fr0 := RV.out.frozen 0
        have fr1 := RV.out.frozen 1
        have fr2 := RV.out.frozen 2
        have fr3 := RV.out.frozen 3
        have fr4 := RV.out.frozen 4
        have fr5 := RV.out.frozen 5
        go_wp2_with fail
        go_region
        go_wp2_with fail
        refine bodyPost_ret (results_tr (a := 2) (p := 3) rfl _ _ _ _ _ _ _ rfl (Blk.drew (six_set RV.out (.slice SA T.L.length scap) T rfl)) Tryz.underlying43 rfl info_disk) rfl ?_
        exact Or.inr ⟨hLne, ⟨_, _, T, rfl⟩, below_drew2 (six_below hbV (Nat.le_refl _) _ _ _ _ _ _)⟩
      have h4' : ¬ (4000 : Int) < ((usd (L.take (k + 1)) : Nat) : Int) := by omega
      have h4'' : decide ((4000 : Int) < ((usd (L.take (k + 1)) : Nat) : Int)) = false := decide_eq_false h4'
      have h4b : ((usd (L.take (k + 1)) : Nat) : Int) ≤ 4000 := by omega
      have h12' : ¬ (12 : Int) < (m : Int) := by omega
      have h12'' : decide ((12 : Int) < (m : Int)) = false := decide_eq_false h12'
      have h12b : (m : Int) ≤ 12 := by omega
      go_upto_region 9 with fail
      obtain ⟨X, hX⟩ : ∃ X, X = V.alloc (.cells (op16 f) 64) := ⟨_, rfl⟩
      have HX := Lib.hid (show V.alloc (.cells #[.int .i64 0, .string f.n, .string ⟨#[]⟩, .int .i64 0, .int .i64 1, .string f.n, .string f.s, .int .i64 0, .int .i64 2, .string f.n, .string ⟨#[]⟩, .int .i64 0, .int .i64 1, .string f.n, .string f.l, .int .i64 0] 64) = X from hX.symm)
      have UX := Lib.hid (show Blk X V.heap.size 64 (op16 f) by rw [hX]; exact Blk.new _ _ _)
      have DX := Lib.hid (show DiskAt X p b T by rw [hX]; exact DV.out.alloc _)
      have QX := Lib.hid (show Blk X Q 43 (dC (.slice SA T.L.length scap) T) by rw [hX]; exact QV.out.alloc _)
      have FsX := Lib.hid (show FsAt X (Q + 1) (.slice SA T.L.length scap) T.L by rw [hX]; exact FsV.out.alloc _)
      have RX := Lib.hid (show Blk X w.heap.size 43 zC by rw [hX]; exact RV.out.alloc _)
      have hbX : Below w.heap.size w X := by rw [hX]; exact hbV.alloc hbV.size _
      have hVX : V.heap.size < X.heap.size := UX.out.lt
      obtain ⟨UB, hUB⟩ : ∃ UB, UB = V.heap.size := ⟨_, rfl⟩
      rw [← hUB] at UX hVX hVr
      clear hX
      obtain ⟨S0, hS0⟩ : ∃ S0, S0 = T := ⟨_, rfl⟩
      rw [← hS0] at HTK HMN
      have HT0 := Lib.hid (show T = mdO S0 ((ops4 f).take 0) from hS0.symm)
      clear hS0
      go_wp2_with fail
      rw [HX.out, ← hUB]
      clear hUB
      go_loopw [58] (fun i wr => ∃ (q : Nat) (T : Dk) (sl : Value), q ≤ 4 ∧ i = .int .i64 q ∧ T = mdO S0 ((ops4 f).take q) ∧ DiskAt wr p b T ∧ Blk wr Q 43 (dC sl T) ∧ FsAt wr (Q + 1) sl T.L ∧ Blk wr w.heap.size 43 zC ∧ Blk wr UB 64 (op16 f) ∧ Below w.heap.size w wr) (fun i _ => 4 - (intOf i).toNat)
      case atStart => exact ⟨0, T, _, by omega, rfl, HT0.out, DX.out, QX.out, FsX.out, RX.out, UX.out, hbX⟩
      case round =>
        clear f0 f1 f2
        obtain ⟨q, T, sl, hq, rfl, hTq, hD, hQ, hF, hR, hU, hb⟩ := hrel
        have HDr := Lib.hid hD
        have HQr := Lib.hid hQ
        have HFr := Lib.hid hF
        have HRr := Lib.hid hR
        have HUr := Lib.hid hU
        have hwr' : w.heap.size < wr.heap.size := hR.lt
        have hQr' : Q < wr.heap.size := hQ.lt
        have hUr' : UB < wr.heap.size := hU.lt
        have hmd := HTK.out q hq
        rw [← hTq] at hmd
        have HTQ := Lib.hid hTq
        have HI := Lib.hid hmd.iv
        clear hTq hD hQ hR hU hmd
        by_cases hlq : q < 4
        · obtain ⟨SA, scap, hsl, -, -⟩ := hF
          subst hsl
          have hlq' : q < (ops4 f).length := hlq
          obtain ⟨o, ho⟩ : ∃ o, o = (ops4 f)[q] := ⟨_, rfl⟩
          obtain ⟨q0, q1, q2, q3⟩ := four_cells HUr.out hlq o ho
          obtain ⟨hoo, hok2⟩ := ops4_ok HFO.out o (by rw [ho]; exact List.getElem_mem _)
          have hko : 0 ≤ o.k ∧ o.k ≤ 4 := by omega
          have HOO := Lib.hid hoo
          have HSN := Lib.hid (show mdO S0 ((ops4 f).take (q + 1)) = (doOp T o []).1 by rw [mdO_next S0 (ops4 f) q hlq', ← HTQ.out, ho])
          have j0 : (0 : Int) ≤ (q : Int) := by omega
          have j1 : (q : Int) < 4 := by omega
          clear ho hoo hok2
          obtain ⟨Y, hY⟩ : ∃ Y, Y = wr.alloc (.cells #[.int .i64 o.k, .string o.a, .string o.b, .int .i64 o.n] 64) := ⟨_, rfl⟩
          have DY := Lib.hid (show DiskAt Y p b T by rw [hY]; exact HDr.out.alloc _)
          have QY := Lib.hid (show Blk Y Q 43 (dC (.slice SA T.L.length scap) T) by rw [hY]; exact HQr.out.alloc _)
          have FY := Lib.hid (show FsAt Y (Q + 1) (.slice SA T.L.length scap) T.L by rw [hY]; exact HFr.out.alloc _)
          have RY := Lib.hid (show Blk Y w.heap.size 43 zC by rw [hY]; exact HRr.out.alloc _)
          have UY := Lib.hid (show Blk Y UB 64 (op16 f) by rw [hY]; exact HUr.out.alloc _)
          have OY := Lib.hid (show Blk Y wr.heap.size 64 (oC o) by rw [hY]; exact Blk.new _ _ _)
          have hbY : Below w.heap.size w Y := by rw [hY]; exact hb.alloc hb.size _
          go_upto_region 12 with fail
          rw [← hY]
          clear hY q0 q1 q2 q3
          have o0 : Y.cell? ⟨wr.heap.size, 0, none⟩ = some (.int .i64 o.k) := OY.out.cell 0
          have o1 : Y.cell? ⟨wr.heap.size, 1, none⟩ = some (.string o.a) := OY.out.cell 1
          have o2 : Y.cell? ⟨wr.heap.size, 2, none⟩ = some (.string o.b) := OY.out.cell 2
          have o3 : Y.cell? ⟨wr.heap.size, 3, none⟩ = some (.int .i64 o.n) := OY.out.cell 3
          go_wp2_with fail
          refine (do_any DY.out (HI.out.bd (by omega)) HI.out.names HOO.out (IntsAt.none_ _ 0 _ _) (fun h => by simp at h) (fun x hx => by simp at hx)).mono ?_
          rintro e w4 ⟨rfl, D4, K4⟩
          have Q4 := Lib.hid (K4.blk QY.out (by omega) (by omega))
          have F4 := Lib.hid (FY.out.kp K4 (by omega) (by omega))
          have R4 := Lib.hid (K4.blk RY.out (by omega) (by omega))
          have U4 := Lib.hid (K4.blk UY.out (by omega) (by omega))
          have O4 := Lib.hid (K4.blk OY.out (by omega) (by omega))
          have HD4 := Lib.hid D4
          have hb4 : Below w.heap.size w w4 := hbY.trans (K4.below (by omega) (by omega) hbY.size)
          have hQ4 : Q < w4.heap.size := Q4.out.lt
          have hr4 : wr.heap.size < w4.heap.size := O4.out.lt
          clear D4 K4 hbY o0 o1 o2 o3
          have d0 : w4.cell? ⟨Q, 0, none⟩ = some (.slice SA T.L.length scap) := Q4.out.cell 0
          have d1 : w4.cell? ⟨Q, 1, none⟩ = some (.int .i64 T.lim) := Q4.out.cell 1
          have d2 : w4.cell? ⟨Q, 2, none⟩ = some (.int .i64 T.fuse) := Q4.out.cell 2
          have d3 : w4.cell? ⟨Q, 3, none⟩ = some (.int .i64 T.ops) := Q4.out.cell 3
          have d4 : w4.cell? ⟨Q, 4, none⟩ = some (.int .i64 T.reads) := Q4.out.cell 4
          have d5 : w4.cell? ⟨Q, 5, none⟩ = some (.bool T.down) := Q4.out.cell 5
          have fd0 := Q4.out.frozen 0
          have fd1 := Q4.out.frozen 1
          have fd2 := Q4.out.frozen 2
          have fd3 := Q4.out.frozen 3
          have fd4 := Q4.out.frozen 4
          have fd5 := Q4.out.frozen 5
          have o0 : w4.cell? ⟨wr.heap.size, 0, none⟩ = some (.int .i64 o.k) := O4.out.cell 0
          have o1 : w4.cell? ⟨wr.heap.size, 1, none⟩ = some (.string o.a) := O4.out.cell 1
          have o2 : w4.cell? ⟨wr.heap.size, 2, none⟩ = some (.string o.b) := O4.out.cell 2
          have o3 : w4.cell? ⟨wr.heap.size, 3, none⟩ = some (.int .i64 o.n) := O4.out.cell 3
          go_wp2_with fail
          have DO := Lib.hid (rdo_any (rf_of F4.out (HI.out.bd (by omega)) (by have := HI.out.len; omega) HI.out.names) HI.out.rise HOO.out hko.1 hko.2 HI.out.lim1 HI.out.fuse0 HI.out.fuse1 HI.out.ops0 (by have := HI.out.ops1; omega) [])
          generalize hT : doOp T o [] = T2 at DO HD4 HSN
          clear hT
          refine DO.out.mono ?_
          rintro e w5 ⟨v5, rfl, hF5, hb5⟩
          have HD5 := Lib.hid (HD4.out.belowS hb5)
          have Q5 := Lib.hid (Q4.out.below' hb5)
          have R5 := Lib.hid (R4.out.below' hb5)
          have U5 := Lib.hid (U4.out.below' hb5)
          have hbw5 : Below w.heap.size w w5 := hb4.trans (hb5.mono hb4.size)
          have HF5 : Hid (FsAt w5 (Q + 1) v5 T2.1.L) := Lib.hid (by
            rcases hF5 with ⟨h1, h2⟩ | h1
            · rw [h1, h2]; exact F4.out.below hb5
            · exact h1.mono (by omega))
          have hQ5 : Q < w5.heap.size := Q5.out.lt
          clear hF5 hb5 d0 d1 d2 d3 d4 d5 fd0 fd1 fd2 fd3 fd4 fd5 o0 o1 o2 o3
          obtain ⟨VA, vcap, hv, -, -⟩ := HF5.out
          subst hv
          have d0 : w5.cell? ⟨Q, 0, none⟩ = some (.slice SA T.L.length scap) := Q5.out.cell 0
          have d1 : w5.cell? ⟨Q, 1, none⟩ = some (.int .i64 T.lim) := Q5.out.cell 1
          have d2 : w5.cell? ⟨Q, 2, none⟩ = some (.int .i64 T.fuse) := Q5.out.cell 2
          have d3 : w5.cell? ⟨Q, 3, none⟩ = some (.int .i64 T.ops) := Q5.out.cell 3
          have d4 : w5.cell? ⟨Q, 4, none⟩ = some (.int .i64 T.reads) := Q5.out.cell 4
          have d5 : w5.cell? ⟨Q, 5, none⟩ = some (.bool T.down) := Q5.out.cell 5
          have fd0 := Q5.out.frozen 0
          have fd1 := Q5.out.frozen 1
          have fd2 := Q5.out.frozen 2
          have fd3 := Q5.out.frozen 3
          have fd4 := Q5.out.frozen 4
          have fd5 := Q5.out.frozen 5
          go_wp2_with fail
          go_roundw
          case rel =>
            refine ⟨q + 1, T2.1, .slice VA T2.1.L.length vcap, by omega, by go_num, HSN.out.symm, ?_, ?_, ?_, ?_, ?_, ?_⟩
            · exact disk_six HD5.out (by omega) (by omega) _ _ _ _ _ _
            · exact six_any Q5.out rfl
            · exact HF5.out.six (by omega) _ _ _ _ _ _
            · exact blk_six R5.out (by omega) _ _ _ _ _ _
            · exact blk_six U5.out (by omega) _ _ _ _ _ _
            · exact six_below hbw5 (by omega) _ _ _ _ _ _
          case measure => simp [intOf]; omega
        · obtain rfl : q = 4 := by omega
          have HTE := Lib.hid (show mdS (L.take (k + 1)) = T by rw [HMN.out, HTQ.out]; rfl)
          go_wp2_with fail
          go_roundw
          case rel => exact ⟨k + 1, T, sl, by omega, by go_num, congrArg (Value.int IntKind.i64) (by rw [HUN.out]; omega), HTE.out, fun _ => ⟨by omega, by omega⟩, HDr.out, HQr.out, HFr.out, HRr.out, hb⟩
          case measure => simp [intOf]; omega
    · have hke : k = L.length := by rw [← HM.out]; omega
      have HSE := Lib.hid (show mdS L = T by rw [← HSr.out, hke, List.take_length])
      have HUE := Lib.hid (show usd L ≤ 4000 by rw [hke, List.take_length] at hu0; exact hu0)
      have hm12 : m ≤ 12 := by
        by_cases h0 : 0 < k
        · exact (hlim h0).1
        · rw [HM.out]; omega
      clear hke
      have d0 : wr.cell? ⟨Q, 0, none⟩ = some (.slice SA T.L.length scap) := HQr.out.cell 0
      have d1 : wr.cell? ⟨Q, 1, none⟩ = some (.int .i64 T.lim) := HQr.out.cell 1
      have d2 : wr.cell? ⟨Q, 2, none⟩ = some (.int .i64 T.fuse) := HQr.out.cell 2
      have d3 : wr.cell? ⟨Q, 3, none⟩ = some (.int .i64 T.ops) := HQr.out.cell 3
      have d4 : wr.cell? ⟨Q, 4, none⟩ = some (.int .i64 T.reads) := HQr.out.cell 4
      have d5 : wr.cell? ⟨Q, 5, none⟩ = some (.bool T.down) := HQr.out.cell 5
      have r0 : wr.cell? ⟨w.heap.size, 0, none⟩ = some (.slice none 0 0) := HRr.out.cell 0
      have r1 : wr.cell? ⟨w.heap.size, 1, none⟩ = some (.int .i64 0) := HRr.out.cell 1
      have r2 : wr.cell? ⟨w.heap.size, 2, none⟩ = some (.int .i64 0) := HRr.out.cell 2
      have r3 : wr.cell? ⟨w.heap.size, 3, none⟩ = some (.int .i64 0) := HRr.out.cell 3
      have r4 : wr.cell? ⟨w.heap.size, 4, none⟩ = some (.int .i64 0) := HRr.out.cell 4
      have r5 : wr.cell? ⟨w.heap.size, 5, none⟩ = some (.bool false) := HRr.out.cell 5
      have fr0 := HRr.out.frozen 0
      have fr1 := HRr.out.frozen 1
      have fr2 := HRr.out.frozen 2
      have fr3 := HRr.out.frozen 3
      have fr4 := HRr.out.frozen 4
      have fr5 := HRr.out.frozen 5
      go_wp2_with fail
      go_region
      go_wp2_with fail
      refine bodyPost_ret (results_tr (a := 2) (p := 3) rfl _ _ _ _ _ _ _ rfl (Blk.drew (six_set HRr.out (.slice SA T.L.length scap) T rfl)) Tryz.underlying43 rfl info_disk) rfl ?_
      refine Or.inl ⟨by rw [← HM.out]; exact hm12, HUE.out, ?_⟩
      rw [HSE.out]
      exact ⟨p, b, Q + 1, _, rfl, by omega, by omega, by omega, by omega, (disk_six HDr.out (by omega) (by omega) _ _ _ _ _ _).drew, FsAt.drewN (HFr.out.six (by omega) _ _ _ _ _ _) 1, below_drew2 (six_below hb (Nat.le_refl _) _ _ _ _ _ _)⟩
end Go.Proofs.YtefknfbmphdafaaGreat.Ds
