/- The walk of the reference's does, where there is such a file. -/
import Derived.Test.YtgkphogefpmeaaaRfF
namespace Go.Proofs.Ytgkphogefpmeaaa
open Go.RowKit Go.Maps DkM

set_option maxRecDepth 100000 in
set_option maxHeartbeats 4000000 in
theorem does_some {w : World} {lo : Nat} {sl : Value} {S : Dk} (h : RfAt w lo sl S) {o : Op5} (ho : OkOp o) (hkk : o.k = 1 ∨ o.k = 2 ∨ o.k = 3 ∨ o.k = 4) {f : Fl} (hl : lkF S.L o.a = some f) :
    Calls Try.prog 56 #[rfV sl S, opV o] w (RfPost (rL S.L o f) S w) := by
  have ha1 : o.a.size ≤ 9223372036854775807 := by have := ho.a1; omega
  have hb1' : o.b.size ≤ 9223372036854775807 := by have := ho.b1; omega
  have hb2' := ho.b1
  have hlen := h.len
  have hfn := h.names f (lkF_some hl).1
  have hfs : f.s.size + f.l.size ≤ 1073741824 := by have := usd_le (lkF_some hl).1; have := h.usd; omega
  have hcat : f.l.size + o.b.size ≤ 9223372036854775807 := by omega
  have HN := Lib.hid h.names
  obtain ⟨W, hW, bD, bO, bR, hbW⟩ := three_boxes w sl S o
  have HW := Lib.hid hW
  have BD := Lib.hid bD
  have BO := Lib.hid bO
  have BR := Lib.hid bR
  have HRW := Lib.hid (h.below hbW)
  clear bD bO bR hW

  obtain ⟨j, hix, hj, hLj⟩ := idx_some hl
  have HIX := Lib.hid hix
  obtain ⟨A, cap, hsl, hcap, hA⟩ := HRW.out.fs
  obtain ⟨g, off, rfl, hg1, hg2, hc⟩ := hA (by omega)
  obtain ⟨q0, q1, q2⟩ := hc j hj
  rw [hLj] at q0 q1 q2
  have HAT := Lib.hid (fun (W' : World) (h' : FsAt W' lo sl S.L) => at_any h' o.a (by omega))
  have HFW := Lib.hid HRW.out.fs
  subst hsl
  have hjc : (j : Int) < (S.L.length : Int) := by omega
  have hj0 : (0 : Int) ≤ (j : Int) := by omega
  clear hix hA hc hLj hl
  have d0 : W.cell? ⟨w.heap.size, 0, none⟩ = some (.slice (some ⟨g, off, none⟩) S.L.length cap) := BD.out.cell 0
  have d1 : W.cell? ⟨w.heap.size, 1, none⟩ = some (.int .i64 S.lim) := BD.out.cell 1
  have d2 : W.cell? ⟨w.heap.size, 2, none⟩ = some (.int .i64 S.fuse) := BD.out.cell 2
  have d3 : W.cell? ⟨w.heap.size, 3, none⟩ = some (.int .i64 S.ops) := BD.out.cell 3
  have d4 : W.cell? ⟨w.heap.size, 4, none⟩ = some (.int .i64 S.reads) := BD.out.cell 4
  have d5 : W.cell? ⟨w.heap.size, 5, none⟩ = some (.bool S.down) := BD.out.cell 5
  have fd0 := BD.out.frozen 0
  have o0 : W.cell? ⟨w.heap.size + 1, 0, none⟩ = some (.int .i64 o.k) := BO.out.cell 0
  have o1 : W.cell? ⟨w.heap.size + 1, 1, none⟩ = some (.string o.a) := BO.out.cell 1
  have o2 : W.cell? ⟨w.heap.size + 1, 2, none⟩ = some (.string o.b) := BO.out.cell 2
  have o3 : W.cell? ⟨w.heap.size + 1, 3, none⟩ = some (.int .i64 o.n) := BO.out.cell 3
  have r0 : W.cell? ⟨w.heap.size + 1 + 1, 0, none⟩ = some (.slice none 0 0) := BR.out.cell 0
  have r1 : W.cell? ⟨w.heap.size + 1 + 1, 1, none⟩ = some (.int .i64 0) := BR.out.cell 1
  have r2 : W.cell? ⟨w.heap.size + 1 + 1, 2, none⟩ = some (.int .i64 0) := BR.out.cell 2
  have r3 : W.cell? ⟨w.heap.size + 1 + 1, 3, none⟩ = some (.int .i64 0) := BR.out.cell 3
  have r4 : W.cell? ⟨w.heap.size + 1 + 1, 4, none⟩ = some (.int .i64 0) := BR.out.cell 4
  have r5 : W.cell? ⟨w.heap.size + 1 + 1, 5, none⟩ = some (.bool false) := BR.out.cell 5
  have fr0 := BR.out.frozen 0
  have fr1 := BR.out.frozen 1
  have fr2 := BR.out.frozen 2
  have fr3 := BR.out.frozen 3
  have fr4 := BR.out.frozen 4
  have fr5 := BR.out.frozen 5
  have K : (W.cell? ⟨w.heap.size, 0, none⟩ = some (.slice (some ⟨g, off, none⟩) S.L.length cap) ∧ W.cell? ⟨w.heap.size, 1, none⟩ = some (.int .i64 S.lim) ∧ W.cell? ⟨w.heap.size, 2, none⟩ = some (.int .i64 S.fuse) ∧ W.cell? ⟨w.heap.size, 3, none⟩ = some (.int .i64 S.ops) ∧ W.cell? ⟨w.heap.size, 4, none⟩ = some (.int .i64 S.reads) ∧ W.cell? ⟨w.heap.size, 5, none⟩ = some (.bool S.down)) ∧ W.cell? ⟨w.heap.size + 1, 1, none⟩ = some (.string o.a) ∧ W.cell? ⟨g, off + j * 3, none⟩ = some (.string f.n) ∧ W.cell? ⟨g, off + j * 3 + 1, none⟩ = some (.string f.s) ∧ W.cell? ⟨g, off + j * 3 + 2, none⟩ = some (.string f.l) := ⟨⟨d0, d1, d2, d3, d4, d5⟩, o1, q0, q1, q2⟩

  have nD : w.heap.size ≠ W.heap.size := by have := BD.out.lt; omega
  have nO : w.heap.size + 1 ≠ W.heap.size := by have := BO.out.lt; omega
  have nG : g ≠ W.heap.size := by omega
  have kb : (o.k == 0) = false := by rcases hkk with h | h | h | h <;> simp [h]
  go_enter Try.func56, Try.ntmps56
  go_wp2_with fail
  rw [← HW.out]
  go_region_held3 (fun w' => (w'.cell? ⟨w.heap.size, 0, none⟩ = some (.slice (some ⟨g, off, none⟩) S.L.length cap) ∧ w'.cell? ⟨w.heap.size, 1, none⟩ = some (.int .i64 S.lim) ∧ w'.cell? ⟨w.heap.size, 2, none⟩ = some (.int .i64 S.fuse) ∧ w'.cell? ⟨w.heap.size, 3, none⟩ = some (.int .i64 S.ops) ∧ w'.cell? ⟨w.heap.size, 4, none⟩ = some (.int .i64 S.reads) ∧ w'.cell? ⟨w.heap.size, 5, none⟩ = some (.bool S.down)) ∧ w'.cell? ⟨w.heap.size + 1, 1, none⟩ = some (.string o.a) ∧ w'.cell? ⟨g, off + j * 3, none⟩ = some (.string f.n) ∧ w'.cell? ⟨g, off + j * 3 + 1, none⟩ = some (.string f.s) ∧ w'.cell? ⟨g, off + j * 3 + 2, none⟩ = some (.string f.l))
    (first | exact K | exact ds_below (x := W.drew) K hb3 | exact ds_drew (ds_below K (below_one _ _)) | exact ds_below K (below_one _ _) | exact ds_below (ds_below (x := W.drew) K hb3) (below_one _ _) | exact ds_below (ds_drew (ds_below K (below_one _ _))) hb3 | exact ds_set (ds_set (ds_set (ds_below (ds_drew (ds_below K (below_one _ _))) hb3) nD nO nG _ _) nD nO nG _ _) nD nO nG _ _)
    (first | (go_at_call 23; refine (HAT.out _ (by first | exact HFW.out | exact HFW.out.alloc _)).mono ?_; rw [HIX.out]; rintro e w2 ⟨rfl, hb3⟩; try (have NB : Blk w2 W.heap.size 54 #[.string ⟨#[]⟩, .string ⟨#[]⟩, .string ⟨#[]⟩] := (hb3.block W.heap.size (by simp)).trans (Blk.new W _ _); have n0 := NB.cell 0; have n1 := NB.cell 1; have n2 := NB.cell 2; have fn0 := NB.frozen 0; have fn1 := NB.frozen 1; have fn2 := NB.frozen 2; have NL := NB.lt; have NB' := Lib.hid NB; clear NB; simp only [List.getElem?_toArray, List.getElem?_cons_zero, List.getElem?_cons_succ] at n0 n1 n2)))
  all_goals
    first
    | (have PK0 := pk_one (f := f) BD.out BO.out BR.out HFW.out hbW hb3
       have hgF : g < w2.heap.size := Nat.lt_of_lt_of_le hg2 (below_undrew hb3).size
       obtain ⟨W4, hW4⟩ : ∃ W4, W4 = w2.alloc (.cells #[.string f.n, .string f.s, .string f.l] 54) := ⟨_, rfl⟩
       obtain ⟨Fb, hFb⟩ : ∃ Fb, Fb = w2.heap.size := ⟨_, rfl⟩
       rw [← hW4, ← hFb] at PK0
       rw [← hFb] at hgF
       rw [← hW4, ← hFb]
       have PK := Lib.hid PK0
       clear PK0 hW4 hFb hb3)
    | (have PK0 := pk_two (f := f) BD.out BO.out BR.out HFW.out hbW hb3 NB'.out
       have hgF : g < W.heap.size := hg2
       obtain ⟨W4, hW4⟩ : ∃ W4, W4 = ((w2.setCell ⟨W.heap.size, 0, none⟩ (.string f.n)).setCell ⟨W.heap.size, 1, none⟩ (.string f.s)).setCell ⟨W.heap.size, 2, none⟩ (.string f.l) := ⟨_, rfl⟩
       obtain ⟨Fb, hFb⟩ : ∃ Fb, Fb = W.heap.size := ⟨_, rfl⟩
       rw [← hFb] at hgF
       rw [← hW4]
       rw [← hW4, ← hFb] at PK0
       rw [← hFb]
       have PK := Lib.hid PK0
       clear PK0 hW4 hFb hb3 n0 n1 n2 fn0 fn1 fn2 NL NB')
    clear K nD nO nG q0 q1 q2
    clear d0 d1 d2 d3 d4 d5 fd0 o0 o1 o2 o3 r0 r1 r2 r3 r4 r5 fr0 fr1 fr2 fr3 fr4 fr5
    have hfar := PK.out.far
    have hFlt := PK.out.bf.lt
    have BD4 := Lib.hid PK.out.bd
    have BO4 := Lib.hid PK.out.bo
    have BR4 := Lib.hid PK.out.br
    have BF4 := Lib.hid PK.out.bf
    have d0 : W4.cell? ⟨w.heap.size, 0, none⟩ = some (.slice (some ⟨g, off, none⟩) S.L.length cap) := BD4.out.cell 0
    have d1 : W4.cell? ⟨w.heap.size, 1, none⟩ = some (.int .i64 S.lim) := BD4.out.cell 1
    have d2 : W4.cell? ⟨w.heap.size, 2, none⟩ = some (.int .i64 S.fuse) := BD4.out.cell 2
    have d3 : W4.cell? ⟨w.heap.size, 3, none⟩ = some (.int .i64 S.ops) := BD4.out.cell 3
    have d4 : W4.cell? ⟨w.heap.size, 4, none⟩ = some (.int .i64 S.reads) := BD4.out.cell 4
    have d5 : W4.cell? ⟨w.heap.size, 5, none⟩ = some (.bool S.down) := BD4.out.cell 5
    have fd0 := BD4.out.frozen 0
    have o0 : W4.cell? ⟨w.heap.size + 1, 0, none⟩ = some (.int .i64 o.k) := BO4.out.cell 0
    have o1 : W4.cell? ⟨w.heap.size + 1, 1, none⟩ = some (.string o.a) := BO4.out.cell 1
    have o2 : W4.cell? ⟨w.heap.size + 1, 2, none⟩ = some (.string o.b) := BO4.out.cell 2
    have o3 : W4.cell? ⟨w.heap.size + 1, 3, none⟩ = some (.int .i64 o.n) := BO4.out.cell 3
    have r0 : W4.cell? ⟨w.heap.size + 1 + 1, 0, none⟩ = some (.slice none 0 0) := BR4.out.cell 0
    have r1 : W4.cell? ⟨w.heap.size + 1 + 1, 1, none⟩ = some (.int .i64 0) := BR4.out.cell 1
    have r2 : W4.cell? ⟨w.heap.size + 1 + 1, 2, none⟩ = some (.int .i64 0) := BR4.out.cell 2
    have r3 : W4.cell? ⟨w.heap.size + 1 + 1, 3, none⟩ = some (.int .i64 0) := BR4.out.cell 3
    have r4 : W4.cell? ⟨w.heap.size + 1 + 1, 4, none⟩ = some (.int .i64 0) := BR4.out.cell 4
    have r5 : W4.cell? ⟨w.heap.size + 1 + 1, 5, none⟩ = some (.bool false) := BR4.out.cell 5
    have fr0 := BR4.out.frozen 0
    have fr1 := BR4.out.frozen 1
    have fr2 := BR4.out.frozen 2
    have fr3 := BR4.out.frozen 3
    have fr4 := BR4.out.frozen 4
    have fr5 := BR4.out.frozen 5
    have f0 : W4.cell? ⟨Fb, 0, none⟩ = some (.string f.n) := BF4.out.cell 0
    have ff0 := BF4.out.frozen 0
    have f1 : W4.cell? ⟨Fb, 1, none⟩ = some (.string f.s) := BF4.out.cell 1
    have ff1 := BF4.out.frozen 1
    have f2 : W4.cell? ⟨Fb, 2, none⟩ = some (.string f.l) := BF4.out.cell 2
    have ff2 := BF4.out.frozen 2
    rcases hkk with hk | hk | hk | hk
    · have hk' := Lib.hid hk
      rw [hk'.out] at o0
      have HRL : Hid (rL S.L o f = putF S.L ⟨f.n, f.s, f.l ++ o.b⟩) := Lib.hid (by unfold rL; simp [hk])
      clear hk
      go_wp2_with fail
      obtain ⟨W5, hW5⟩ : ∃ W5, W5 = W4.setCell ⟨Fb, 2, none⟩ (.string (f.l ++ o.b)) := ⟨_, rfl⟩
      have bD5 : Blk W5 w.heap.size 30 (dC (.slice (some ⟨g, off, none⟩) S.L.length cap) S) := by rw [hW5]; exact PK.out.bd.far (by simp; omega) _
      have bO5 : Blk W5 (w.heap.size + 1) 34 (oC o) := by rw [hW5]; exact PK.out.bo.far (by simp; omega) _
      have bR5 : Blk W5 (w.heap.size + 1 + 1) 30 zC := by rw [hW5]; exact PK.out.br.far (by simp; omega) _
      have FS5 : FsAt W5 lo (.slice (some ⟨g, off, none⟩) S.L.length cap) S.L := by rw [hW5]; exact PK.out.fs.far (by omega) _ _
      have bel5 : Below w.heap.size w W5 := by rw [hW5]; exact PK.out.bel.setCell (by simp; omega) _
      rw [← hW5]
      clear hW5
      refine (put_any FS5 (by omega) ⟨f.n, f.s, f.l ++ o.b⟩ hfn HN.out).mono ?_
      rintro e w5 ⟨v, rfl, hown, hb5⟩
      clear d0 d1 d2 d3 d4 d5 fd0 o0 o1 o2 o3 r0 r1 r2 r3 r4 r5 fr0 fr1 fr2 fr3 fr4 fr5
      clear f0 f1 f2 ff0 ff1 ff2
      have BD5 := Lib.hid ((bD5).below' hb5)
      have BO5 := Lib.hid ((bO5).below' hb5)
      have BR5 := Lib.hid ((bR5).below' hb5)
      have lt5 : w.heap.size + 1 + 1 < w5.heap.size := BR5.out.lt
      have HF := Lib.hid (FsAt.own hown (lo := w.heap.size + 1 + 1 + 1) (by have := bR5.lt; omega))
      have hbw : Below w.heap.size w w5 := bel5.trans (hb5.mono bel5.size)
      clear hown hb5 bD5 bO5 bR5 bel5
      obtain ⟨VA, vcap, hv, -, -⟩ := HF.out
      subst hv
      have d0 : w5.cell? ⟨w.heap.size, 0, none⟩ = some (.slice (some ⟨g, off, none⟩) S.L.length cap) := BD5.out.cell 0
      have d1 : w5.cell? ⟨w.heap.size, 1, none⟩ = some (.int .i64 S.lim) := BD5.out.cell 1
      have d2 : w5.cell? ⟨w.heap.size, 2, none⟩ = some (.int .i64 S.fuse) := BD5.out.cell 2
      have d3 : w5.cell? ⟨w.heap.size, 3, none⟩ = some (.int .i64 S.ops) := BD5.out.cell 3
      have d4 : w5.cell? ⟨w.heap.size, 4, none⟩ = some (.int .i64 S.reads) := BD5.out.cell 4
      have d5 : w5.cell? ⟨w.heap.size, 5, none⟩ = some (.bool S.down) := BD5.out.cell 5
      have fd0 := BD5.out.frozen 0
      have o0 : w5.cell? ⟨w.heap.size + 1, 0, none⟩ = some (.int .i64 o.k) := BO5.out.cell 0
      have o1 : w5.cell? ⟨w.heap.size + 1, 1, none⟩ = some (.string o.a) := BO5.out.cell 1
      have o2 : w5.cell? ⟨w.heap.size + 1, 2, none⟩ = some (.string o.b) := BO5.out.cell 2
      have o3 : w5.cell? ⟨w.heap.size + 1, 3, none⟩ = some (.int .i64 o.n) := BO5.out.cell 3
      have r0 : w5.cell? ⟨w.heap.size + 1 + 1, 0, none⟩ = some (.slice none 0 0) := BR5.out.cell 0
      have r1 : w5.cell? ⟨w.heap.size + 1 + 1, 1, none⟩ = some (.int .i64 0) := BR5.out.cell 1
      have r2 : w5.cell? ⟨w.heap.size + 1 + 1, 2, none⟩ = some (.int .i64 0) := BR5.out.cell 2
      have r3 : w5.cell? ⟨w.heap.size + 1 + 1, 3, none⟩ = some (.int .i64 0) := BR5.out.cell 3
      have r4 : w5.cell? ⟨w.heap.size + 1 + 1, 4, none⟩ = some (.int .i64 0) := BR5.out.cell 4
      have r5 : w5.cell? ⟨w.heap.size + 1 + 1, 5, none⟩ = some (.bool false) := BR5.out.cell 5
      have fr0 := BR5.out.frozen 0
      have fr1 := BR5.out.frozen 1
      have fr2 := BR5.out.frozen 2
      have fr3 := BR5.out.frozen 3
      have fr4 := BR5.out.frozen 4
      have fr5 := BR5.out.frozen 5
      rw [hk'.out] at o0
      go_wp2_with fail
      refine bodyPost_ret (results_row1 (p := 4) rfl _ _ _ _ _ _ _ rfl (six_set (BR5.out.far (by simp; omega) _) _ S rfl) Try.underlying30 rfl info_disk) rfl ?_
      rw [HRL.out]
      exact ⟨_, rfl, (((HF.out.one (by omega) _ _).six (by omega) _ _ _ _ _ _).mono (by omega)), six_below (hbw.setCell (by simp) _) (by omega) _ _ _ _ _ _⟩
    · have hk' := Lib.hid hk
      rw [hk'.out] at o0
      have HRL : Hid (rL S.L o f = putF S.L ⟨f.n, f.s ++ f.l, nul⟩) := Lib.hid (by unfold rL; simp [hk])
      clear hk
      go_wp2_with fail
      have bD5 := PK.out.bd
      have bO5 := PK.out.bo
      have bR5 := PK.out.br
      have bel5 := PK.out.bel
      refine (put_any PK.out.fs (by omega) ⟨f.n, f.s ++ f.l, nul⟩ hfn HN.out).mono ?_
      rintro e w5 ⟨v, rfl, hown, hb5⟩
      clear d0 d1 d2 d3 d4 d5 fd0 o0 o1 o2 o3 r0 r1 r2 r3 r4 r5 fr0 fr1 fr2 fr3 fr4 fr5
      clear f0 f1 f2 ff0 ff1 ff2
      have BD5 := Lib.hid ((bD5).below' hb5)
      have BO5 := Lib.hid ((bO5).below' hb5)
      have BR5 := Lib.hid ((bR5).below' hb5)
      have lt5 : w.heap.size + 1 + 1 < w5.heap.size := BR5.out.lt
      have HF := Lib.hid (FsAt.own hown (lo := w.heap.size + 1 + 1 + 1) (by have := bR5.lt; omega))
      have hbw : Below w.heap.size w w5 := bel5.trans (hb5.mono bel5.size)
      clear hown hb5 bD5 bO5 bR5 bel5
      obtain ⟨VA, vcap, hv, -, -⟩ := HF.out
      subst hv
      have d0 : w5.cell? ⟨w.heap.size, 0, none⟩ = some (.slice (some ⟨g, off, none⟩) S.L.length cap) := BD5.out.cell 0
      have d1 : w5.cell? ⟨w.heap.size, 1, none⟩ = some (.int .i64 S.lim) := BD5.out.cell 1
      have d2 : w5.cell? ⟨w.heap.size, 2, none⟩ = some (.int .i64 S.fuse) := BD5.out.cell 2
      have d3 : w5.cell? ⟨w.heap.size, 3, none⟩ = some (.int .i64 S.ops) := BD5.out.cell 3
      have d4 : w5.cell? ⟨w.heap.size, 4, none⟩ = some (.int .i64 S.reads) := BD5.out.cell 4
      have d5 : w5.cell? ⟨w.heap.size, 5, none⟩ = some (.bool S.down) := BD5.out.cell 5
      have fd0 := BD5.out.frozen 0
      have o0 : w5.cell? ⟨w.heap.size + 1, 0, none⟩ = some (.int .i64 o.k) := BO5.out.cell 0
      have o1 : w5.cell? ⟨w.heap.size + 1, 1, none⟩ = some (.string o.a) := BO5.out.cell 1
      have o2 : w5.cell? ⟨w.heap.size + 1, 2, none⟩ = some (.string o.b) := BO5.out.cell 2
      have o3 : w5.cell? ⟨w.heap.size + 1, 3, none⟩ = some (.int .i64 o.n) := BO5.out.cell 3
      have r0 : w5.cell? ⟨w.heap.size + 1 + 1, 0, none⟩ = some (.slice none 0 0) := BR5.out.cell 0
      have r1 : w5.cell? ⟨w.heap.size + 1 + 1, 1, none⟩ = some (.int .i64 0) := BR5.out.cell 1
      have r2 : w5.cell? ⟨w.heap.size + 1 + 1, 2, none⟩ = some (.int .i64 0) := BR5.out.cell 2
      have r3 : w5.cell? ⟨w.heap.size + 1 + 1, 3, none⟩ = some (.int .i64 0) := BR5.out.cell 3
      have r4 : w5.cell? ⟨w.heap.size + 1 + 1, 4, none⟩ = some (.int .i64 0) := BR5.out.cell 4
      have r5 : w5.cell? ⟨w.heap.size + 1 + 1, 5, none⟩ = some (.bool false) := BR5.out.cell 5
      have fr0 := BR5.out.frozen 0
      have fr1 := BR5.out.frozen 1
      have fr2 := BR5.out.frozen 2
      have fr3 := BR5.out.frozen 3
      have fr4 := BR5.out.frozen 4
      have fr5 := BR5.out.frozen 5
      rw [hk'.out] at o0
      go_wp2_with fail
      refine bodyPost_ret (results_row1 (p := 4) rfl _ _ _ _ _ _ _ rfl (six_set (BR5.out.far (by simp; omega) _) _ S rfl) Try.underlying30 rfl info_disk) rfl ?_
      rw [HRL.out]
      exact ⟨_, rfl, (((HF.out.one (by omega) _ _).six (by omega) _ _ _ _ _ _).mono (by omega)), six_below (hbw.setCell (by simp) _) (by omega) _ _ _ _ _ _⟩
    · have hk' := Lib.hid hk
      rw [hk'.out] at o0
      have HRL : Hid (rL S.L o f = putF (wo S.L o.a) ⟨o.b, f.s, f.l⟩) := Lib.hid (by unfold rL; simp [hk])
      clear hk
      go_wp2_with fail
      have bD5 := PK.out.bd
      have bO5 := PK.out.bo
      have bR5 := PK.out.br
      have bel5 := PK.out.bel
      refine (without_any PK.out.fs (by omega) o.a).mono ?_
      rintro e w5 ⟨v, rfl, hown, hb5⟩
      clear d0 d1 d2 d3 d4 d5 fd0 o0 o1 o2 o3 r0 r1 r2 r3 r4 r5 fr0 fr1 fr2 fr3 fr4 fr5
      clear f0 f1 f2 ff0 ff1 ff2
      have BD5 := Lib.hid ((bD5).below' hb5)
      have BO5 := Lib.hid ((bO5).below' hb5)
      have BR5 := Lib.hid ((bR5).below' hb5)
      have lt5 : w.heap.size + 1 + 1 < w5.heap.size := BR5.out.lt
      have BF5 := Lib.hid (PK.out.bf.below' hb5)
      have ltF : Fb < w5.heap.size := BF5.out.lt
      have HF := Lib.hid (FsAt.own hown (lo := Fb + 1) (by have := PK.out.bf.lt; omega))
      have hbw : Below w.heap.size w w5 := bel5.trans (hb5.mono bel5.size)
      clear hown hb5 bD5 bO5 bR5 bel5
      obtain ⟨VA, vcap, hv, -, -⟩ := HF.out
      subst hv
      have d0 : w5.cell? ⟨w.heap.size, 0, none⟩ = some (.slice (some ⟨g, off, none⟩) S.L.length cap) := BD5.out.cell 0
      have d1 : w5.cell? ⟨w.heap.size, 1, none⟩ = some (.int .i64 S.lim) := BD5.out.cell 1
      have d2 : w5.cell? ⟨w.heap.size, 2, none⟩ = some (.int .i64 S.fuse) := BD5.out.cell 2
      have d3 : w5.cell? ⟨w.heap.size, 3, none⟩ = some (.int .i64 S.ops) := BD5.out.cell 3
      have d4 : w5.cell? ⟨w.heap.size, 4, none⟩ = some (.int .i64 S.reads) := BD5.out.cell 4
      have d5 : w5.cell? ⟨w.heap.size, 5, none⟩ = some (.bool S.down) := BD5.out.cell 5
      have fd0 := BD5.out.frozen 0
      have o0 : w5.cell? ⟨w.heap.size + 1, 0, none⟩ = some (.int .i64 o.k) := BO5.out.cell 0
      have o1 : w5.cell? ⟨w.heap.size + 1, 1, none⟩ = some (.string o.a) := BO5.out.cell 1
      have o2 : w5.cell? ⟨w.heap.size + 1, 2, none⟩ = some (.string o.b) := BO5.out.cell 2
      have o3 : w5.cell? ⟨w.heap.size + 1, 3, none⟩ = some (.int .i64 o.n) := BO5.out.cell 3
      have r0 : w5.cell? ⟨w.heap.size + 1 + 1, 0, none⟩ = some (.slice none 0 0) := BR5.out.cell 0
      have r1 : w5.cell? ⟨w.heap.size + 1 + 1, 1, none⟩ = some (.int .i64 0) := BR5.out.cell 1
      have r2 : w5.cell? ⟨w.heap.size + 1 + 1, 2, none⟩ = some (.int .i64 0) := BR5.out.cell 2
      have r3 : w5.cell? ⟨w.heap.size + 1 + 1, 3, none⟩ = some (.int .i64 0) := BR5.out.cell 3
      have r4 : w5.cell? ⟨w.heap.size + 1 + 1, 4, none⟩ = some (.int .i64 0) := BR5.out.cell 4
      have r5 : w5.cell? ⟨w.heap.size + 1 + 1, 5, none⟩ = some (.bool false) := BR5.out.cell 5
      have fr0 := BR5.out.frozen 0
      have fr1 := BR5.out.frozen 1
      have fr2 := BR5.out.frozen 2
      have fr3 := BR5.out.frozen 3
      have fr4 := BR5.out.frozen 4
      have fr5 := BR5.out.frozen 5
      rw [hk'.out] at o0
      have f0 : w5.cell? ⟨Fb, 0, none⟩ = some (.string f.n) := BF5.out.cell 0
      have ff0 := BF5.out.frozen 0
      have f1 : w5.cell? ⟨Fb, 1, none⟩ = some (.string f.s) := BF5.out.cell 1
      have ff1 := BF5.out.frozen 1
      have f2 : w5.cell? ⟨Fb, 2, none⟩ = some (.string f.l) := BF5.out.cell 2
      have ff2 := BF5.out.frozen 2
      go_wp2_with fail
      obtain ⟨W6, hW6⟩ : ∃ W6, W6 = (w5.setCell ⟨w.heap.size, 0, none⟩ (.slice VA (wo S.L o.a).length vcap)).setCell ⟨Fb, 0, none⟩ (.string o.b) := ⟨_, rfl⟩
      have bD6 : Blk W6 w.heap.size 30 (dC (.slice VA (wo S.L o.a).length vcap) S) := by rw [hW6]; exact (BD5.out.set_ 0 _).far (by simp; omega) _
      have bO6 : Blk W6 (w.heap.size + 1) 34 (oC o) := by rw [hW6]; exact (BO5.out.far (by simp) _).far (by simp; omega) _
      have bR6 : Blk W6 (w.heap.size + 1 + 1) 30 zC := by rw [hW6]; exact (BR5.out.far (by simp; omega) _).far (by simp; omega) _
      have FS6 : FsAt W6 (Fb + 1) (.slice VA (wo S.L o.a).length vcap) (wo S.L o.a) := by rw [hW6]; exact (HF.out.one (by omega) _ _).one (by omega) _ _
      have bel6 : Below w.heap.size w W6 := by rw [hW6]; exact (hbw.setCell (by simp) _).setCell (by simp; omega) _
      rw [← hW6]
      clear hW6
      clear d0 d1 d2 d3 d4 d5 fd0 o0 o1 o2 o3 r0 r1 r2 r3 r4 r5 fr0 fr1 fr2 fr3 fr4 fr5
      clear f0 f1 f2 ff0 ff1 ff2
      refine (put_any FS6 (by have := len_wo S.L o.a; omega) ⟨o.b, f.s, f.l⟩ hb1' (fun q hq => HN.out q (mem_wo.1 hq).1)).mono ?_
      rintro e w6 ⟨v6, rfl, hown, hb6⟩
      have BD7 := Lib.hid (bD6.below' hb6)
      have BO7 := Lib.hid (bO6.below' hb6)
      have BR7 := Lib.hid (bR6.below' hb6)
      have lt7 : w.heap.size + 1 + 1 < w6.heap.size := BR7.out.lt
      have HF7 := Lib.hid (FsAt.own hown (lo := w.heap.size + 1 + 1 + 1) (by have := bR6.lt; omega))
      have hbw7 : Below w.heap.size w w6 := bel6.trans (hb6.mono bel6.size)
      clear hown hb6 bD6 bO6 bR6 bel6 FS6
      obtain ⟨VA7, vcap7, hv, -, -⟩ := HF7.out
      subst hv
      have d0 : w6.cell? ⟨w.heap.size, 0, none⟩ = some (.slice VA (wo S.L o.a).length vcap) := BD7.out.cell 0
      have d1 : w6.cell? ⟨w.heap.size, 1, none⟩ = some (.int .i64 S.lim) := BD7.out.cell 1
      have d2 : w6.cell? ⟨w.heap.size, 2, none⟩ = some (.int .i64 S.fuse) := BD7.out.cell 2
      have d3 : w6.cell? ⟨w.heap.size, 3, none⟩ = some (.int .i64 S.ops) := BD7.out.cell 3
      have d4 : w6.cell? ⟨w.heap.size, 4, none⟩ = some (.int .i64 S.reads) := BD7.out.cell 4
      have d5 : w6.cell? ⟨w.heap.size, 5, none⟩ = some (.bool S.down) := BD7.out.cell 5
      have fd0 := BD7.out.frozen 0
      have o0 : w6.cell? ⟨w.heap.size + 1, 0, none⟩ = some (.int .i64 o.k) := BO7.out.cell 0
      have o1 : w6.cell? ⟨w.heap.size + 1, 1, none⟩ = some (.string o.a) := BO7.out.cell 1
      have o2 : w6.cell? ⟨w.heap.size + 1, 2, none⟩ = some (.string o.b) := BO7.out.cell 2
      have o3 : w6.cell? ⟨w.heap.size + 1, 3, none⟩ = some (.int .i64 o.n) := BO7.out.cell 3
      have r0 : w6.cell? ⟨w.heap.size + 1 + 1, 0, none⟩ = some (.slice none 0 0) := BR7.out.cell 0
      have r1 : w6.cell? ⟨w.heap.size + 1 + 1, 1, none⟩ = some (.int .i64 0) := BR7.out.cell 1
      have r2 : w6.cell? ⟨w.heap.size + 1 + 1, 2, none⟩ = some (.int .i64 0) := BR7.out.cell 2
      have r3 : w6.cell? ⟨w.heap.size + 1 + 1, 3, none⟩ = some (.int .i64 0) := BR7.out.cell 3
      have r4 : w6.cell? ⟨w.heap.size + 1 + 1, 4, none⟩ = some (.int .i64 0) := BR7.out.cell 4
      have r5 : w6.cell? ⟨w.heap.size + 1 + 1, 5, none⟩ = some (.bool false) := BR7.out.cell 5
      have fr0 := BR7.out.frozen 0
      have fr1 := BR7.out.frozen 1
      have fr2 := BR7.out.frozen 2
      have fr3 := BR7.out.frozen 3
      have fr4 := BR7.out.frozen 4
      have fr5 := BR7.out.frozen 5
      rw [hk'.out] at o0
      go_wp2_with fail
      refine bodyPost_ret (results_row1 (p := 4) rfl _ _ _ _ _ _ _ rfl (six_set (BR7.out.far (by simp; omega) _) _ S rfl) Try.underlying30 rfl info_disk) rfl ?_
      rw [HRL.out]
      exact ⟨_, rfl, (((HF7.out.one (by omega) _ _).six (by omega) _ _ _ _ _ _).mono (by omega)), six_below (hbw7.setCell (by simp) _) (by omega) _ _ _ _ _ _⟩
    · have hk' := Lib.hid hk
      rw [hk'.out] at o0
      have HRL : Hid (rL S.L o f = wo S.L o.a) := Lib.hid (by unfold rL; simp [hk])
      clear hk
      go_wp2_with fail
      have bD5 := PK.out.bd
      have bO5 := PK.out.bo
      have bR5 := PK.out.br
      have bel5 := PK.out.bel
      refine (without_any PK.out.fs (by omega) o.a).mono ?_
      rintro e w5 ⟨v, rfl, hown, hb5⟩
      clear d0 d1 d2 d3 d4 d5 fd0 o0 o1 o2 o3 r0 r1 r2 r3 r4 r5 fr0 fr1 fr2 fr3 fr4 fr5
      clear f0 f1 f2 ff0 ff1 ff2
      have BD5 := Lib.hid ((bD5).below' hb5)
      have BO5 := Lib.hid ((bO5).below' hb5)
      have BR5 := Lib.hid ((bR5).below' hb5)
      have lt5 : w.heap.size + 1 + 1 < w5.heap.size := BR5.out.lt
      have HF := Lib.hid (FsAt.own hown (lo := w.heap.size + 1 + 1 + 1) (by have := bR5.lt; omega))
      have hbw : Below w.heap.size w w5 := bel5.trans (hb5.mono bel5.size)
      clear hown hb5 bD5 bO5 bR5 bel5
      obtain ⟨VA, vcap, hv, -, -⟩ := HF.out
      subst hv
      have d0 : w5.cell? ⟨w.heap.size, 0, none⟩ = some (.slice (some ⟨g, off, none⟩) S.L.length cap) := BD5.out.cell 0
      have d1 : w5.cell? ⟨w.heap.size, 1, none⟩ = some (.int .i64 S.lim) := BD5.out.cell 1
      have d2 : w5.cell? ⟨w.heap.size, 2, none⟩ = some (.int .i64 S.fuse) := BD5.out.cell 2
      have d3 : w5.cell? ⟨w.heap.size, 3, none⟩ = some (.int .i64 S.ops) := BD5.out.cell 3
      have d4 : w5.cell? ⟨w.heap.size, 4, none⟩ = some (.int .i64 S.reads) := BD5.out.cell 4
      have d5 : w5.cell? ⟨w.heap.size, 5, none⟩ = some (.bool S.down) := BD5.out.cell 5
      have fd0 := BD5.out.frozen 0
      have o0 : w5.cell? ⟨w.heap.size + 1, 0, none⟩ = some (.int .i64 o.k) := BO5.out.cell 0
      have o1 : w5.cell? ⟨w.heap.size + 1, 1, none⟩ = some (.string o.a) := BO5.out.cell 1
      have o2 : w5.cell? ⟨w.heap.size + 1, 2, none⟩ = some (.string o.b) := BO5.out.cell 2
      have o3 : w5.cell? ⟨w.heap.size + 1, 3, none⟩ = some (.int .i64 o.n) := BO5.out.cell 3
      have r0 : w5.cell? ⟨w.heap.size + 1 + 1, 0, none⟩ = some (.slice none 0 0) := BR5.out.cell 0
      have r1 : w5.cell? ⟨w.heap.size + 1 + 1, 1, none⟩ = some (.int .i64 0) := BR5.out.cell 1
      have r2 : w5.cell? ⟨w.heap.size + 1 + 1, 2, none⟩ = some (.int .i64 0) := BR5.out.cell 2
      have r3 : w5.cell? ⟨w.heap.size + 1 + 1, 3, none⟩ = some (.int .i64 0) := BR5.out.cell 3
      have r4 : w5.cell? ⟨w.heap.size + 1 + 1, 4, none⟩ = some (.int .i64 0) := BR5.out.cell 4
      have r5 : w5.cell? ⟨w.heap.size + 1 + 1, 5, none⟩ = some (.bool false) := BR5.out.cell 5
      have fr0 := BR5.out.frozen 0
      have fr1 := BR5.out.frozen 1
      have fr2 := BR5.out.frozen 2
      have fr3 := BR5.out.frozen 3
      have fr4 := BR5.out.frozen 4
      have fr5 := BR5.out.frozen 5
      rw [hk'.out] at o0
      go_wp2_with fail
      refine bodyPost_ret (results_row1 (p := 4) rfl _ _ _ _ _ _ _ rfl (six_set (BR5.out.far (by simp; omega) _) _ S rfl) Try.underlying30 rfl info_disk) rfl ?_
      rw [HRL.out]
      exact ⟨_, rfl, (((HF.out.one (by omega) _ _).six (by omega) _ _ _ _ _ _).mono (by omega)), six_below (hbw.setCell (by simp) _) (by omega) _ _ _ _ _ _⟩
end Go.Proofs.Ytgkphogefpmeaaa
