/- The document's Whole and Every, names, Same: the walks. -/
import Derived.Test.YtefknfbmphdafaaGreatSgI
import Derived.Test.YtefknfbmphdafaaGreatSgV
namespace Go.Proofs.YtefknfbmphdafaaGreat
namespace SgM
open Go Go.RowKit CrcM FrM
open Ds (Blk DiskAt Kp Bd flB nul ptr Dk FsAt rfV dC)
open Ds.DkM (Fl lkF usd Rise)

/-- The cells of a row of frames. -/
def FrCells (w : World) (b off : Nat) (l : List Fr) : Prop :=
  ∀ j (h : j < l.length), w.cell? ⟨b, off + j * 2, none⟩ = some (.int .u8 (l[j].1.toNat : Int)) ∧ w.cell? ⟨b, off + j * 2 + 1, none⟩ = some (.string l[j].2)
/-- A slice value that reads as a row of frames. -/
def FrRow (w : World) (v : Value) (l : List Fr) : Prop :=
  (∃ a cap, v = .slice a 0 cap ∧ l = []) ∨ ∃ b off cap, v = .slice (some ⟨b, off, none⟩) l.length cap ∧ FrCells w b off l ∧ b < w.heap.size
theorem FrCells.below {w w' : World} {b off : Nat} {l : List Fr} (h : FrCells w b off l) (hb : Below w.heap.size w w') (hlt : b < w.heap.size) : FrCells w' b off l := by
  intro j hj
  obtain ⟨h1, h2⟩ := h j hj
  exact ⟨(hb.cell hlt).trans h1, (hb.cell hlt).trans h2⟩
theorem FrRow.below {w w' : World} {v : Value} {l : List Fr} (h : FrRow w v l) (hb : Below w.heap.size w w') : FrRow w' v l := by
  rcases h with h | ⟨b, off, cap, h1, h2, h3⟩
  · exact Or.inl h
  · exact Or.inr ⟨b, off, cap, h1, h2.below hb h3, Nat.lt_of_lt_of_le h3 hb.size⟩
theorem frC_at (l : List Fr) (j : Nat) (h : j < l.length) : (frC l)[j * 2]? = some (.int .u8 (l[j].1.toNat : Int)) ∧ (frC l)[j * 2 + 1]? = some (.string l[j].2) := by
  induction l generalizing j with
  | nil => simp at h
  | cons a r ih =>
    cases j with
    | zero => exact ⟨rfl, rfl⟩
    | succ j =>
      have := ih j (by simpa using h)
      rw [show (j + 1) * 2 = j * 2 + 1 + 1 by omega]
      exact this
theorem FrRow.own {w : World} {base : Nat} {T : TypeId} {v : Value} {l : List Fr} (h : w.ownsRow base T 2 v l.length (frC l)) : FrRow w v l := by
  rcases h.2 with ⟨rfl, h0⟩ | ⟨g, cap, cur, rfl, hbase, hg, h3⟩
  · exact Or.inl ⟨none, 0, rfl, List.length_eq_zero_iff.1 h0⟩
  · refine Or.inr ⟨g, 0, cap, rfl, fun j hj => ?_, (h.lt g rfl).2⟩
    obtain ⟨a1, a2⟩ := frC_at l j hj
    rw [Nat.zero_add]
    exact ⟨(h.cellAt (j * 2) (by omega)).trans a1, (h.cellAt (j * 2 + 1) (by omega)).trans a2⟩
theorem frC_take (l : List Fr) (k : Nat) (h : k < l.length) : l.take (k + 1) = l.take k ++ [l[k]] := by rw [List.take_succ_eq_append_getElem h]

set_option maxRecDepth 100000 in
set_option maxHeartbeats 4000000 in
theorem sameF_any {w : World} {v u : Value} {l : List Fr} (h : FrRow w v l) (h' : FrRow w u l) (hl : l.length ≤ 1000000) :
    Calls Tryz.prog 15 #[v, u] w fun e w' => e = .returned (.bool true) ∧ Below w.heap.size w w' := by
  have key : ∀ {v : Value}, FrRow w v l → ∃ A cap, v = .slice A l.length cap ∧ (l ≠ [] → ∃ g off, A = some ⟨g, off, none⟩ ∧ FrCells w g off l ∧ g < w.heap.size) := by
    rintro v (⟨a, cap, rfl, rfl⟩ | ⟨g, off, cap, rfl, hc, hg⟩)
    · exact ⟨a, cap, rfl, fun h => absurd rfl h⟩
    · exact ⟨_, cap, rfl, fun _ => ⟨g, off, rfl, hc, hg⟩⟩
  obtain ⟨A, cap, rfl, hc⟩ := key h
  obtain ⟨B, bc, rfl, hc'⟩ := key h'
  obtain ⟨n, hn⟩ : ∃ n, n = l.length := ⟨_, rfl⟩
  have HN := Lib.hid hn
  rw [← hn] at hl ⊢
  have HC := Lib.hid hc
  have HC' := Lib.hid hc'
  clear hc hc' hn key h h'
  go_enter Tryz.func15, Tryz.ntmps15
  go_wp2_with fail
  go_loopw [5] (fun i wr => ∃ k : Nat, k ≤ n ∧ i = .int .i64 (k : Nat) ∧ Below w.heap.size w wr) (fun i _ => n - (intOf i).toNat)
  case atStart => exact ⟨0, Nat.zero_le _, rfl, Below.refl _ _⟩
  case round =>
    obtain ⟨k, hk, rfl, hb⟩ := hrel
    by_cases hlk : k < n
    · have hlk' : k < l.length := by rw [← HN.out]; exact hlk
      obtain ⟨g, off, rfl, hcl, hg⟩ := HC.out (by intro h; rw [h] at hlk'; simp at hlk')
      obtain ⟨g', off', rfl, hcl', hg'⟩ := HC'.out (by intro h; rw [h] at hlk'; simp at hlk')
      have c0 := (hb.cell (by exact hg)).trans (hcl k hlk').1
      have c1 := (hb.cell (by exact hg)).trans (hcl k hlk').2
      have d0 := (hb.cell (by exact hg')).trans (hcl' k hlk').1
      have d1 := (hb.cell (by exact hg')).trans (hcl' k hlk').2
      have i0 : (0 : Int) ≤ (k : Int) := by omega
      have i1 : (k : Int) < (n : Int) := by omega
      clear hcl hcl'
      generalize ((l[k].1.toNat : Nat) : Int) = xk at c0 d0
      generalize l[k].2 = xs at c1 d1
      go_wp2_with fail
      go_quiet (fail)
      have hbq : Below w.heap.size w (wr.drewN nq) := hb.trans ⟨rfl, rfl, rfl, Nat.le_refl _, fun _ _ => rfl⟩
      go_wp2_with fail
      go_roundw
      case rel => exact ⟨k + 1, by omega, by go_num, hbq⟩
      case measure => simp [intOf]; omega
    · obtain rfl : n = k := by omega
      go_wp2_with fail
      go_ret
      exact ⟨rfl, hb⟩

def RWPost (S : Dk) (n : ByteArray) (w : World) (e : Ending) (w' : World) : Prop := e = .returned (.tuple #[.string (if whE S n = 0 then whX S n else nul), .int .i64 (whN S n : Nat), .int .i64 (whE S n : Nat)]) ∧ Below w.heap.size w w'
set_option maxRecDepth 100000 in
set_option maxHeartbeats 4000000 in
theorem rwhole_any {w : World} {lo : Nat} {sl : Value} {S : Dk} (h : FsAt w lo sl S.L) (hB : Bd S) (hlen : S.L.length ≤ 1000000) (n : ByteArray) :
    Calls Tryz.prog 24 #[rfV sl S, .string n] w (RWPost S n w) := by
  have HFS := Lib.hid h
  obtain ⟨SA, scap, rfl, -, hA⟩ := h
  have HA := Lib.hid hA
  have HBd := Lib.hid hB
  obtain ⟨W, hW⟩ : ∃ W, W = w.alloc (.cells (dC (.slice SA S.L.length scap) S) 43) := ⟨_, rfl⟩
  have HW := Lib.hid (show w.alloc (.cells #[.slice SA S.L.length scap, .int .i64 S.lim, .int .i64 S.fuse, .int .i64 S.ops, .int .i64 S.reads, .bool S.down] 43) = W from hW.symm)
  have HBW := Lib.hid (show Below w.heap.size w W by rw [hW]; exact below_box _ _)
  have BD : Blk W w.heap.size 43 (dC (.slice SA S.L.length scap) S) := by rw [hW]; exact Blk.new _ _ _
  have HBD := Lib.hid BD
  have HAT := Lib.hid (Ds.at_any (S := S) (HFS.out.below HBW.out) n (by omega))
  have d0 : W.cell? ⟨w.heap.size, 0, none⟩ = some (.slice SA S.L.length scap) := BD.cell 0
  have d1 : W.cell? ⟨w.heap.size, 1, none⟩ = some (.int .i64 S.lim) := BD.cell 1
  have d2 : W.cell? ⟨w.heap.size, 2, none⟩ = some (.int .i64 S.fuse) := BD.cell 2
  have d3 : W.cell? ⟨w.heap.size, 3, none⟩ = some (.int .i64 S.ops) := BD.cell 3
  have d4 : W.cell? ⟨w.heap.size, 4, none⟩ = some (.int .i64 S.reads) := BD.cell 4
  have d5 : W.cell? ⟨w.heap.size, 5, none⟩ = some (.bool S.down) := BD.cell 5
  have hwW := BD.lt
  clear hW BD hA hB
  go_enter Tryz.func24, Tryz.ntmps24
  go_upto_region 1 with fail
  rw [HW.out]
  go_wp2_with fail
  refine HAT.out.mono ?_
  rintro e w1 ⟨rfl, hb1⟩
  have BD1 := blk_step HBD.out hb1
  have HB1 := Lib.hid (keepW HBW.out hb1)
  clear d0 d1 d2 d3 d4 d5 hb1
  have d0 : w1.cell? ⟨w.heap.size, 0, none⟩ = some (.slice SA S.L.length scap) := BD1.cell 0
  have d1 : w1.cell? ⟨w.heap.size, 1, none⟩ = some (.int .i64 S.lim) := BD1.cell 1
  have d2 : w1.cell? ⟨w.heap.size, 2, none⟩ = some (.int .i64 S.fuse) := BD1.cell 2
  have d3 : w1.cell? ⟨w.heap.size, 3, none⟩ = some (.int .i64 S.ops) := BD1.cell 3
  have d4 : w1.cell? ⟨w.heap.size, 4, none⟩ = some (.int .i64 S.reads) := BD1.cell 4
  have d5 : w1.cell? ⟨w.heap.size, 5, none⟩ = some (.bool S.down) := BD1.cell 5
  have hw1 := BD1.lt
  clear BD1
  cases hd : S.down with
  | true =>
    have HE := Lib.hid (show whE S n = 50 by unfold whE; rw [if_pos hd])
    have HN := Lib.hid (show whN S n = 0 by unfold whN; rw [HE.out]; rfl)
    rw [hd] at d5
    clear hd
    go_wp2_with fail
    go_ret3
    exact ⟨by rw [HE.out, HN.out]; rfl, HB1.out⟩
  | false =>
    rw [hd] at d5
    cases hlk : lkF S.L n with
    | none =>
      have HE := Lib.hid (show whE S n = 51 by unfold whE; rw [hd, hlk]; rfl)
      have HN := Lib.hid (show whN S n = 0 by unfold whN; rw [HE.out]; rfl)
      rw [Ds.idx_none hlk]
      clear hd hlk
      go_wp2_with fail
      go_ret3
      exact ⟨by rw [HE.out, HN.out]; rfl, HB1.out⟩
    | some f =>
      have HE := Lib.hid (show whE S n = 0 by unfold whE; rw [hd, hlk]; rfl)
      have HX := Lib.hid (show whX S n = f.s ++ f.l by unfold whX; rw [hlk])
      obtain ⟨k, hk, hkl, hLk⟩ := Ds.idx_some hlk
      have hsz : f.s.size + f.l.size ≤ 1073741824 := by
        have h1 := HBd.out.used1
        have h2 := Ds.DkM.usd_le (Ds.DkM.lkF_some hlk).1
        omega
      rw [hk]
      obtain ⟨g, off, rfl, _, hg, hcl⟩ := HA.out (by omega)
      have c0 := (HB1.out.cell (by exact hg)).trans (hcl k hkl).1
      have c1 := (HB1.out.cell (by exact hg)).trans (hcl k hkl).2.1
      have c2 := (HB1.out.cell (by exact hg)).trans (hcl k hkl).2.2
      rw [hLk] at c0 c1 c2
      have hg1 : g < w1.heap.size := Nat.lt_of_lt_of_le hg HB1.out.size
      have i0 : (0 : Int) ≤ (k : Int) := by omega
      have i1 : (k : Int) < (S.L.length : Int) := by omega
      have ine : ¬ (k : Int) < 0 := by omega
      clear hd hlk hcl hLk hk
      go_wp2_with fail
      refine (Ds.rbytes_any f _ (by omega)).mono ?_
      rintro e w2 ⟨rfl, hb2⟩
      obtain ⟨X, hX⟩ : ∃ X, X = f.s ++ f.l := ⟨_, rfl⟩
      have hXs : X.size ≤ 1073741824 := by rw [hX, ByteArray.size_append]; omega
      have HX2 := Lib.hid (show whX S n = X by rw [HX.out, hX])
      have HN := Lib.hid (show whN S n = max 1 ((X.size + 63) / 64) by unfold whN; rw [if_pos HE.out, HX2.out])
      rw [← hX]
      clear hX
      have HB2 := Lib.hid (keepW HB1.out hb2)
      have hq : ((X.size : Int) + 63).tdiv 64 = (((X.size + 63) / 64 : Nat) : Int) := by
        rw [Int.tdiv_eq_ediv_of_nonneg (by omega)]; omega
      have hw63 : IntKind.i64.wrap ((X.size : Int) + 63) = (X.size : Int) + 63 := IntWalk.i64_in _ (by omega)
      have hwq : IntKind.i64.wrap (((X.size + 63) / 64 : Nat) : Int) = (((X.size + 63) / 64 : Nat) : Int) := IntWalk.i64_in _ (by omega)
      clear hb2 c0 c1 c2 d0 d1 d2 d3 d4 d5
      go_wp2_with fail
      go_ret3
      have hmax : ((max 1 ((X.size + 63) / 64) : Nat) : Int) = max 1 (((X.size : Int) + 63) / 64) := by omega
      exact ⟨by rw [HE.out, HN.out, HX2.out, hmax]; rfl, HB2.out⟩

/-- The frames of a disk that is not down. -/
def evA (L : List Fl) : List Fr := L.flatMap fun f => fnd (f.s ++ f.l) (f.s ++ f.l).size
theorem evA_take (L : List Fl) (k : Nat) (h : k < L.length) : evA (L.take (k + 1)) = evA (L.take k) ++ fnd (L[k].s ++ L[k].l) (L[k].s ++ L[k].l).size := by
  rw [List.take_succ_eq_append_getElem h]; unfold evA; rw [List.flatMap_append]; simp
theorem evA_le (L : List Fl) : (evA L).length ≤ usd L := by
  induction L with
  | nil => simp [evA]
  | cons f r ih =>
    have h1 := fnd_le (f.s ++ f.l) (f.s ++ f.l).size
    have : evA (f :: r) = fnd (f.s ++ f.l) (f.s ++ f.l).size ++ evA r := by unfold evA; simp
    rw [this, List.length_append]
    have e : usd (f :: r) = f.s.size + f.l.size + usd r := rfl
    rw [ByteArray.size_append] at h1
    rw [ByteArray.size_append]
    omega
theorem evS_evA {S : Dk} (hd : S.down = false) (hR : Rise S.L) : evS S S.L = evA S.L := by
  unfold evS evA
  have key : ∀ M : List Fl, (∀ f ∈ M, f ∈ S.L) → M.flatMap (evF S) = M.flatMap fun f => fnd (f.s ++ f.l) (f.s ++ f.l).size := by
    intro M
    induction M with
    | nil => intro _; rfl
    | cons f r ih =>
      intro h
      have hf := Ds.DkM.lkF_mem hR (h f (by simp))
      have e : evY S f = f.s ++ f.l := by
        unfold evY whE whX
        rw [hd, hf]
        rfl
      rw [List.flatMap_cons, List.flatMap_cons, ih (fun g hg => h g (by simp [hg]))]
      unfold evF
      rw [e]
  exact key S.L (fun f hf => hf)
def REvPost (S : Dk) (w : World) (e : Ending) (w' : World) : Prop := ∃ v, e = .returned v ∧ w'.ownsRow w.heap.size 51 2 v (evA S.L).length (frC (evA S.L)) ∧ Below w.heap.size w w'
set_option maxRecDepth 100000 in
set_option maxHeartbeats 4000000 in
theorem revery_any {w : World} {lo : Nat} {sl : Value} {S : Dk} (h : FsAt w lo sl S.L) (hd : S.down = false) (hu : usd S.L ≤ 5000) (hlen : S.L.length ≤ 100) :
    Calls Tryz.prog 16 #[rfV sl S] w (REvPost S w) := by
  obtain ⟨i0, hi, hz0, hz1, hz2⟩ := info_parts info_frame04Row
  obtain ⟨SA, scap, rfl, -, hA⟩ := h
  have HA := Lib.hid hA
  obtain ⟨m, hm⟩ : ∃ m, m = S.L.length := ⟨_, rfl⟩
  have HM := Lib.hid hm
  obtain ⟨W, hW⟩ : ∃ W, W = w.alloc (.cells (dC (.slice SA S.L.length scap) S) 43) := ⟨_, rfl⟩
  have HW := Lib.hid (show w.alloc (.cells #[.slice SA m scap, .int .i64 S.lim, .int .i64 S.fuse, .int .i64 S.ops, .int .i64 S.reads, .bool false] 43) = W by rw [hW]; unfold dC; rw [hd, hm])
  have HBW := Lib.hid (show Below w.heap.size w W by rw [hW]; exact below_box _ _)
  have BD : Blk W w.heap.size 43 (dC (.slice SA S.L.length scap) S) := by rw [hW]; exact Blk.new _ _ _
  have HBD := Lib.hid BD
  have d0 : W.cell? ⟨w.heap.size, 0, none⟩ = some (.slice SA m scap) := by rw [hm]; exact BD.cell 0
  have d5 : W.cell? ⟨w.heap.size, 5, none⟩ = some (.bool false) := by rw [← hd]; exact BD.cell 5
  have H0 := Lib.hid d0
  have H5 := Lib.hid d5
  have hwW := BD.lt
  rw [← hm] at hlen ⊢
  have HD := Lib.hid hd
  clear hW BD hA hm d0 d5
  rw [show rfV (.slice SA m scap) S = .agg #[.slice SA m scap, .int .i64 S.lim, .int .i64 S.fuse, .int .i64 S.ops, .int .i64 S.reads, .bool S.down] from rfl, hd]
  clear hd
  go_enter Tryz.func16, Tryz.ntmps16
  go_upto_region 1 with fail
  rw [HW.out]
  go_wp2_with fail
  go_loopw [3, 4] (fun v i wr => ∃ k : Nat, k ≤ m ∧ i = .int .i64 (k : Nat) ∧ wr.ownsRow W.heap.size 51 2 v (evA (S.L.take k)).length (frC (evA (S.L.take k))) ∧ Below W.heap.size W wr) (fun _ i _ => m - (intOf i).toNat)
  case atStart => exact ⟨0, Nat.zero_le _, rfl, World.ownsRow_nil _ _ _ _, Below.refl _ _⟩
  case round =>
    obtain ⟨k, hk, rfl, hown, hb⟩ := hrel
    have d0 := (hb.cell (p := ⟨w.heap.size, 0, none⟩) hwW).trans H0.out
    have d5 := (hb.cell (p := ⟨w.heap.size, 5, none⟩) hwW).trans H5.out
    have hev : (evA (S.L.take k)).length ≤ 5000 := Nat.le_trans (evA_le _) (Nat.le_trans (Ds.usd_take_le S.L k) hu)
    have hWr := hb.size
    by_cases hlk : k < m
    · have hlk' : k < S.L.length := by rw [← HM.out]; exact hlk
      obtain ⟨g, off, rfl, _, hg, hcl⟩ := HA.out (by omega)
      have hbw := keepW HBW.out hb
      have c0 := (hbw.cell (by exact hg)).trans (hcl k hlk').1
      have c1 := (hbw.cell (by exact hg)).trans (hcl k hlk').2.1
      have c2 := (hbw.cell (by exact hg)).trans (hcl k hlk').2.2
      have ht := evA_take S.L k hlk'
      have hfs := Ds.DkM.usd_le (show S.L[k] ∈ S.L from List.getElem_mem _)
      generalize S.L[k] = f at c0 c1 c2 ht hfs
      have HT := Lib.hid ht
      have HOW := Lib.hid hown
      have HB := Lib.hid hb
      have hgr : g < wr.heap.size := Nat.lt_of_lt_of_le hg hbw.size
      have i0' : (0 : Int) ≤ (k : Int) := by omega
      have i1' : (k : Int) < (m : Int) := by omega
      clear hcl hbw ht hown hb
      go_wp2_with fail
      refine (Ds.rbytes_any f _ (by omega)).mono ?_
      rintro e w1 ⟨rfl, hb1⟩
      obtain ⟨Y, hY⟩ : ∃ Y, Y = f.s ++ f.l := ⟨_, rfl⟩
      have hYs : Y.size ≤ 5000 := by rw [hY, ByteArray.size_append]; omega
      rw [← hY] at HT
      rw [← hY]
      have HOW1 := Lib.hid (ownsRow_below' HOW.out hb1)
      have HB1 := Lib.hid (keepW HB.out hb1)
      clear hY hb1 c0 c1 c2
      go_wp2_with fail
      refine (find04_any Y _ (by omega)).mono ?_
      rintro e w3 ⟨vf, rfl, hf, hb3⟩
      have HOW3 := Lib.hid (ownsRow_below' HOW1.out hb3)
      have HB3 := Lib.hid (keepW HB1.out hb3)
      have hs3 := HB3.out.size
      have hYf := fnd_le Y Y.size
      rcases hf.2 with ⟨rfl, h0⟩ | ⟨gf, capf, cur, rfl, hgf, hgh, _⟩
      · have hz : fnd Y Y.size = [] := List.length_eq_zero_iff.1 h0
        have HT2 := Lib.hid (show evA (S.L.take (k + 1)) = evA (S.L.take k) by rw [HT.out, hz, List.append_nil])
        clear hf hb3 h0 hz
        go_wp2_with (at_builtin; refine wpList_append_own_none rfl _ _ 46 rfl W.heap.size 51 i0 2 Tryz.underlying46 hi _ _ _ rfl HOW3.out rfl ?_)
        go_roundw
        case rel => exact ⟨k + 1, by omega, by go_num, by rw [HT2.out]; exact HOW3.out, HB3.out⟩
        case measure => simp [intOf]; omega
      · have hcf : ∀ j u, (frC (fnd Y Y.size))[j]? = some u → w3.cell? ((⟨gf, 0, none⟩ : Addr).add j) = some u := hf.cells rfl
        have hlf : (frC (fnd Y Y.size)).length = (fnd Y Y.size).length * 2 := hf.1
        have HCF := Lib.hid hcf
        clear hf hb3 hcf
        go_wp2_with (at_builtin; refine wpList_append_own _ rfl _ _ 46 rfl W.heap.size 51 i0 (.agg #[.int .u8 0, .string ⟨#[]⟩]) 2 24 Tryz.underlying46 hi hz0 hz1 hz2 rfl (by decide) _ _ _ rfl HOW3.out ⟨gf, 0, none⟩ (fnd Y Y.size).length capf (frC (fnd Y Y.size)) rfl hlf HCF.out (frC_one _) (by unfold maxLen; omega) (by omega) (by omega) ?_; intro v' w' hown' hgrow _; have HOW4 := Lib.hid hown'; have HB4 := Lib.hid (Below.grown HB3.out hgrow HB3.out.size (fun k hk => (HOW3.out.lt k hk).1)); clear hown' hgrow)
        go_roundw
        case rel => exact ⟨k + 1, by omega, by go_num, by rw [HT.out, List.length_append, frC_app]; exact HOW4.out, HB4.out⟩
        case measure => simp [intOf]; omega
    · obtain rfl : m = k := by omega
      rw [show S.L.take m = S.L by rw [HM.out, List.take_length]] at hown
      have HO := Lib.hid hown
      have HB := Lib.hid (keepW HBW.out hb)
      clear hown hb
      go_wp2_with fail
      go_ret
      exact ⟨_, rfl, own_lower HO.out HBW.out.size, HB.out⟩
def NmPost (S : Dk) (w : World) (e : Ending) (w' : World) : Prop := ∃ v, e = .returned v ∧ w'.ownsRow w.heap.size 9 1 v S.L.length (S.L.map fun f => Value.string f.n) ∧ Below w.heap.size w w'
set_option maxRecDepth 100000 in
set_option maxHeartbeats 4000000 in
theorem names_any {w : World} {lo : Nat} {sl : Value} {S : Dk} (h : FsAt w lo sl S.L) (hlen : S.L.length ≤ 100) :
    Calls Tryz.prog 19 #[rfV sl S] w (NmPost S w) := by
  obtain ⟨s0, hs, si0, si1, si2⟩ := info_parts info_strRow
  obtain ⟨SA, scap, rfl, -, hA⟩ := h
  have HA := Lib.hid hA
  obtain ⟨m, hm⟩ : ∃ m, m = S.L.length := ⟨_, rfl⟩
  have HM := Lib.hid hm
  obtain ⟨W, hW⟩ : ∃ W, W = w.alloc (.cells (dC (.slice SA S.L.length scap) S) 43) := ⟨_, rfl⟩
  have HW := Lib.hid (show w.alloc (.cells #[.slice SA m scap, .int .i64 S.lim, .int .i64 S.fuse, .int .i64 S.ops, .int .i64 S.reads, .bool S.down] 43) = W by rw [hW]; unfold dC; rw [hm])
  have HBW := Lib.hid (show Below w.heap.size w W by rw [hW]; exact below_box _ _)
  have BD : Blk W w.heap.size 43 (dC (.slice SA S.L.length scap) S) := by rw [hW]; exact Blk.new _ _ _
  have d0 : W.cell? ⟨w.heap.size, 0, none⟩ = some (.slice SA m scap) := by rw [hm]; exact BD.cell 0
  have hwW := BD.lt
  rw [← hm] at hlen ⊢
  clear hW BD hA hm
  go_enter Tryz.func19, Tryz.ntmps19
  go_upto_region 1 with fail
  rw [HW.out]
  go_wp2_with fail
  go_loopw [3, 9] (fun v i wr => ∃ k : Nat, k ≤ m ∧ i = .int .i64 (k : Nat) ∧ wr.ownsRow W.heap.size 9 1 v k ((S.L.take k).map fun f => Value.string f.n) ∧ Below W.heap.size W wr) (fun _ i _ => m - (intOf i).toNat)
  case atStart => exact ⟨0, Nat.zero_le _, rfl, World.ownsRow_nil _ _ _ _, Below.refl _ _⟩
  case round =>
    obtain ⟨k, hk, rfl, hown, hb⟩ := hrel
    clear d0
    have hWr := hb.size
    by_cases hlk : k < m
    · have hlk' : k < S.L.length := by rw [← HM.out]; exact hlk
      obtain ⟨g, off, rfl, _, hg, hcl⟩ := HA.out (by omega)
      have hbw := keepW HBW.out hb
      have c0 := (hbw.cell (by exact hg)).trans (hcl k hlk').1
      have c1 := (hbw.cell (by exact hg)).trans (hcl k hlk').2.1
      have c2 := (hbw.cell (by exact hg)).trans (hcl k hlk').2.2
      have ht : (S.L.take (k + 1)).map (fun f => Value.string f.n) = (S.L.take k).map (fun f => Value.string f.n) ++ [.string S.L[k].n] := by rw [List.take_succ_eq_append_getElem hlk', List.map_append]; rfl
      generalize S.L[k] = f at c0 c1 c2 ht
      have HT := Lib.hid ht
      have hgr : g < wr.heap.size := Nat.lt_of_lt_of_le hg hbw.size
      obtain ⟨V, hV⟩ : ∃ V, V = wr.alloc (.cells #[.string f.n, .string f.s, .string f.l] 89) := ⟨_, rfl⟩
      have BV : Blk V wr.heap.size 89 #[.string f.n, .string f.s, .string f.l] := by rw [hV]; exact Blk.new _ _ _
      have HOW := Lib.hid (show V.ownsRow W.heap.size 9 1 _ k _ by rw [hV]; exact hown.alloc _)
      have HB := Lib.hid (show Below W.heap.size W V by rw [hV]; exact hb.alloc hb.size _)
      have x0 : V.cell? ⟨wr.heap.size, 0, none⟩ = some (.string f.n) := BV.cell 0
      have hxV := BV.lt
      have hVs := HB.out.size
      clear hcl hbw ht hown hb
      go_upto_region 5 with fail
      rw [← hV]
      clear hV BV c0 c1 c2
      go_wp2_with (at_builtin; refine wpList_append_own _ rfl _ _ 22 rfl W.heap.size 9 s0 (.string ⟨#[]⟩) 1 16 Tryz.underlying22 hs si0 si1 si2 rfl (by decide) _ _ _ rfl (HOW.out.alloc _) ⟨V.heap.size, 0, none⟩ 1 1 [.string f.n] rfl rfl (new_one V _ _ _ rfl) (one_str _) (by unfold maxLen; omega) (by omega) (by simp; omega) ?_; intro v' w' hown' hgrow _; have HO2 := Lib.hid hown'; have HB3 := Lib.hid (Ds.below_grown (w := W) HB.out HOW.out hgrow); clear hown' hgrow)
      go_roundw
      case rel => exact ⟨k + 1, by omega, by go_num, by rw [HT.out]; exact HO2.out, HB3.out⟩
      case measure => simp [intOf]; omega
    · obtain rfl : m = k := by omega
      rw [show S.L.take m = S.L by rw [HM.out, List.take_length]] at hown
      have HO := Lib.hid hown
      have HB := Lib.hid (keepW HBW.out hb)
      clear hown hb
      go_wp2_with fail
      go_ret
      exact ⟨_, rfl, by rw [← HM.out]; exact own_lower HO.out HBW.out.size, HB.out⟩
end SgM
end Go.Proofs.YtefknfbmphdafaaGreat
