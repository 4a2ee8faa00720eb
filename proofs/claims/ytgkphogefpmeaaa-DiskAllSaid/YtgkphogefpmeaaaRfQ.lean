/- The walk of DiskAll. -/
import Derived.Test.YtgkphogefpmeaaaRfP
namespace Go.Proofs.Ytgkphogefpmeaaa
open Go.RowKit Go.Maps DkM

set_option maxRecDepth 100000 in
set_option maxHeartbeats 1000000 in
theorem walk_DiskAll (w : World) (lim : Int) (_w0 : (Lit.int .i64 lim).wf = true) (v : Value) (hv : ReadOps w v) (u : Value) (hu : ReadInts w u) :
    Calls Try.prog 3 #[.int .i64 lim, v, u] w fun e w' => e = .returned (.bool true) ∧ Below w.heap.size w w' := by
  obtain ⟨l, hl, hok, hlen⟩ := hv
  obtain ⟨ks, kb, hks, hkb, hkw, hkl, hkc⟩ := hu
  have FW := Lib.hid (few_any hl hok hlen)
  have AL := Lib.hid alive_any
  have HI := Lib.hid hks
  obtain ⟨A, cap, rfl, hcap, hA⟩ := hl
  obtain ⟨KA, kcap, rfl, hkcap, -⟩ := hks
  have HA := Lib.hid hA
  replace hok := Lib.hid hok
  replace hkb := Lib.hid hkb
  replace hkw := Lib.hid hkw
  clear hkc hA
  cases hf : fewB l with
  | false =>
    have HF := Lib.hid hf
    clear hf
    go_enter Try.func3, Try.ntmps3
    go_wp2_with fail
    refine FW.out.mono ?_
    rw [HF.out]
    rintro e w1 ⟨rfl, hb1⟩
    go_wp2_with fail
    refine (AL.out _).mono ?_
    rintro e w2 ⟨rfl, hb2⟩
    go_wp2_with fail
    go_ret
    exact ⟨rfl, hb1.trans (hb2.mono hb1.size)⟩
  | true =>
    have hl60 : l.length ≤ 60 := by unfold fewB at hf; simp at hf; exact hf.2
    have HF := Lib.hid hf
    clear hf
    by_cases hk60 : 60 < ks.length
    · go_enter Try.func3, Try.ntmps3
      go_wp2_with fail
      refine FW.out.mono ?_
      rw [HF.out]
      rintro e w1 ⟨rfl, hb1⟩
      go_wp2_with fail
      refine (AL.out _).mono ?_
      rintro e w2 ⟨rfl, hb2⟩
      go_wp2_with fail
      go_ret
      exact ⟨rfl, hb1.trans (hb2.mono hb1.size)⟩
    · have hk60' : ks.length ≤ 60 := by omega
      go_enter Try.func3, Try.ntmps3
      go_wp2_with fail
      refine FW.out.mono ?_
      rw [HF.out]
      rintro e w0 ⟨rfl, hb0'⟩
      go_wp2_with fail
      refine (new_lo lim _).mono ?_
      rintro e w1 ⟨p, b, rfl, hp, hb, hD, hb1⟩
      have HD1 := Lib.hid hD
      have hB1 : Below w.heap.size w w1 := hb0'.trans (hb1.mono hb0'.size)
      have hwp : w.heap.size ≤ p := Nat.le_trans hb0'.size hp
      have hwb : w.heap.size ≤ b := Nat.le_trans hb0'.size hb
      have hp1 : p < w1.heap.size := hD.blk.lt
      have hb1' : b < w1.heap.size := hD.own.lt
      clear hD hb1 hp hb hb0'
      go_wp2_with fail
      refine (rnew_any lim _).mono ?_
      rintro e w2 ⟨rfl, hb2⟩
      have HD2 := Lib.hid (HD1.out.belowS hb2)
      have hB2 : Below w.heap.size w w2 := hB1.trans (hb2.mono hB1.size)
      have hp2 : p < w2.heap.size := Nat.lt_of_lt_of_le hp1 hb2.size
      have hb2' : b < w2.heap.size := Nat.lt_of_lt_of_le hb1' hb2.size
      clear hb2 hp1 hb1'
      have HS0 := Lib.hid (show scr lim (l.take 0) ks = newS lim from rfl)
      go_wp2_with fail
      obtain ⟨Q, hQ⟩ : ∃ Q, Q = w2.heap.size := ⟨_, rfl⟩
      generalize hN : newS lim = N at *
      obtain ⟨W3, hW3⟩ : ∃ W3, W3 = w2.alloc (.cells #[.slice none 0 0, .int .i64 N.lim, .int .i64 N.fuse, .int .i64 N.ops, .int .i64 N.reads, .bool N.down] 30) := ⟨_, rfl⟩
      have B3 := Lib.hid (show Blk W3 Q 30 (dC (.slice none 0 0) N) by rw [hW3, hQ]; exact Blk.new _ _ _)
      have HD3 := Lib.hid (show DiskAt W3 p b N by rw [hW3]; exact HD2.out.alloc _)
      have hB3 : Below w.heap.size w W3 := by rw [hW3]; exact hB2.alloc hB2.size _
      have HF3 := Lib.hid (show FsAt W3 (Q + 1) (.slice none 0 0) N.L by rw [← hN]; exact FsAt.nil _ _ _ _)
      have HI3 := Lib.hid (show Iv 0 N by rw [← hN]; exact Iv.new lim)
      have hpQ : p < Q := by omega
      have hbQ : b < Q := by omega
      rw [← hW3, ← hQ]
      clear hW3 hQ hB2 hp2 hb2' hN HD2 HD1
      refine (same_any HD3.out HF3.out HI3.out (by omega)).mono ?_
      rintro e w3 ⟨rfl, hb3⟩
      have HD4 := Lib.hid (HD3.out.belowS hb3)
      have HF4 := Lib.hid (HF3.out.below hb3)
      have B4 := Lib.hid (B3.out.below' hb3)
      have hB4 : Below w.heap.size w w3 := hB3.trans (hb3.mono hB3.size)
      clear hb3 HD3 HF3 B3 hB3
      go_wp2_with fail
      go_loopw [36] (fun i wr => ∃ (k : Nat) (S : Dk) (sl : Value), k ≤ l.length ∧ i = .int .i64 k ∧ scr lim (l.take k) ks = S ∧ Iv k S ∧ DiskAt wr p b S ∧ Blk wr Q 30 (dC sl S) ∧ FsAt wr (Q + 1) sl S.L ∧ Below w.heap.size w wr) (fun i _ => l.length - (intOf i).toNat)
      case atStart => exact ⟨0, N, .slice none 0 0, Nat.zero_le _, rfl, HS0.out, HI3.out, HD4.out, B4.out, HF4.out, hB4⟩
      case round =>
        obtain ⟨k, S, sl, hk, rfl, hS, hI, hD, hQ, hF, hb⟩ := hrel
        have HDr := Lib.hid hD
        have HIr := Lib.hid hI
        have HSr := Lib.hid hS
        have HQr := Lib.hid hQ
        have HFr := Lib.hid hF
        obtain ⟨SA, scap, hsl, -, -⟩ := hF
        subst hsl
        clear hD hI hS hQ
        by_cases hlt : k < l.length
        · obtain ⟨g, off, rfl, hgl, hgc⟩ := OpsAt.at_ HA.out hb hlt
          obtain ⟨o, ho⟩ : ∃ o, o = l[k] := ⟨_, rfl⟩
          obtain ⟨q0, q1, q2, q3⟩ := hgc o ho
          have hoo := Lib.hid (hok.out o (by rw [ho]; exact List.getElem_mem _))
          have HSN := Lib.hid (scr_next lim l ks k hlt)
          rw [← ho, HSr.out] at HSN
          clear hgc ho
          obtain ⟨W, hW⟩ : ∃ W, W = wr.alloc (.cells #[.int .i64 o.k, .string o.a, .string o.b, .int .i64 o.n] 34) := ⟨_, rfl⟩
          have DW := Lib.hid (show DiskAt W p b S by rw [hW]; exact HDr.out.alloc _)
          have QW := Lib.hid (show Blk W Q 30 (dC (.slice SA S.L.length scap) S) by rw [hW]; exact HQr.out.alloc _)
          have FW2 := Lib.hid (show FsAt W (Q + 1) (.slice SA S.L.length scap) S.L by rw [hW]; exact HFr.out.alloc _)
          have OW := Lib.hid (show Blk W wr.heap.size 34 (oC o) by rw [hW]; exact Blk.new _ _ _)
          have hbW : Below w.heap.size w W := by rw [hW]; exact hb.alloc hb.size _
          have IW := Lib.hid (IntsAt.keep HI.out (fun h => hbW.block kb (hkb.out h)))
          have HWW := Lib.hid hW
          have hQr : Q < wr.heap.size := HQr.out.lt
          have nQp : Q ≠ p := by omega
          have nQb : Q ≠ b := by omega
          have nRp : wr.heap.size ≠ p := by omega
          have nRb : wr.heap.size ≠ b := by omega
          have DO := Lib.hid (does5_any FW2.out (HIr.out.bd (by omega)) (by have := HIr.out.len; omega) HIr.out.names hoo.out IW.out (fun h => Nat.lt_of_lt_of_le (hkb.out h) hbW.size) hkw.out)
          have DOC := Lib.hid (fun (W' : World) (hb' : Below w.heap.size w W') (hD' : DiskAt W' p b S) => do_any hD' (HIr.out.bd (by omega)) HIr.out.names hoo.out (IntsAt.keep HI.out (fun h => hb'.block kb (hkb.out h))) (fun h => ⟨Nat.lt_of_lt_of_le (hkb.out h) hb'.size, by have := hkb.out h; omega, by have := hkb.out h; omega⟩) hkw.out)
          have IN := Lib.hid (HIr.out.doOp hoo.out ks)
          generalize hT : doOp S o ks = T at DO DOC HSN IN
          clear hT hW
          have c0 : wr.cell? ⟨Q, 0, none⟩ = some (.slice SA S.L.length scap) := HQr.out.cell 0
          have c1 : wr.cell? ⟨Q, 1, none⟩ = some (.int .i64 S.lim) := HQr.out.cell 1
          have c2 : wr.cell? ⟨Q, 2, none⟩ = some (.int .i64 S.fuse) := HQr.out.cell 2
          have c3 : wr.cell? ⟨Q, 3, none⟩ = some (.int .i64 S.ops) := HQr.out.cell 3
          have c4 : wr.cell? ⟨Q, 4, none⟩ = some (.int .i64 S.reads) := HQr.out.cell 4
          have c5 : wr.cell? ⟨Q, 5, none⟩ = some (.bool S.down) := HQr.out.cell 5
          have hgr : g < wr.heap.size := Nat.lt_of_lt_of_le hgl hb.size
          go_wp2_with fail
          rw [← HWW.out]
          refine DO.out.mono ?_
          clear q0 q1 q2 q3 c0 c1 c2 c3 c4 c5
          rintro e w5 ⟨v5, rfl, hF5, hb5⟩
          have HD5 := Lib.hid (DW.out.belowS hb5)
          have Q5 := Lib.hid (QW.out.below' hb5)
          have O5 := Lib.hid (OW.out.below' hb5)
          have hbw5 : Below w.heap.size w w5 := hbW.trans (hb5.mono hbW.size)
          have HF5 : Hid (FsAt w5 (Q + 1) v5 T.1.L) := Lib.hid (by
            rcases hF5 with ⟨h1, h2⟩ | h1
            · rw [h1, h2]; exact FW2.out.below hb5
            · exact h1.mono (by have := hbW.size; have := QW.out.lt; omega))
          have hQ5 : Q < w5.heap.size := Q5.out.lt
          have hr5 : wr.heap.size < w5.heap.size := O5.out.lt
          clear hF5 hb5
          obtain ⟨VA, vcap, hv, -, -⟩ := HF5.out
          subst hv
          have d0 : w5.cell? ⟨Q, 0, none⟩ = some ((.slice SA S.L.length scap)) := Q5.out.cell 0
          have d1 : w5.cell? ⟨Q, 1, none⟩ = some (.int .i64 S.lim) := Q5.out.cell 1
          have d2 : w5.cell? ⟨Q, 2, none⟩ = some (.int .i64 S.fuse) := Q5.out.cell 2
          have d3 : w5.cell? ⟨Q, 3, none⟩ = some (.int .i64 S.ops) := Q5.out.cell 3
          have d4 : w5.cell? ⟨Q, 4, none⟩ = some (.int .i64 S.reads) := Q5.out.cell 4
          have d5 : w5.cell? ⟨Q, 5, none⟩ = some (.bool S.down) := Q5.out.cell 5
          have fd0 := Q5.out.frozen 0
          have fd1 := Q5.out.frozen 1
          have fd2 := Q5.out.frozen 2
          have fd3 := Q5.out.frozen 3
          have fd4 := Q5.out.frozen 4
          have fd5 := Q5.out.frozen 5
          go_wp2_with fail
          obtain ⟨W7, hW7⟩ : ∃ W7, W7 = (((((((w5.setCell ⟨Q, 0, none⟩ (.slice VA T.1.L.length vcap)).setCell ⟨Q, 1, none⟩ (.int .i64 T.1.lim)).setCell ⟨Q, 2, none⟩ (.int .i64 T.1.fuse)).setCell ⟨Q, 3, none⟩ (.int .i64 T.1.ops)).setCell ⟨Q, 4, none⟩ (.int .i64 T.1.reads)).setCell ⟨Q, 5, none⟩ (.bool T.1.down)).alloc (.cells #[(.slice VA T.1.L.length vcap), .int .i64 T.1.lim, .int .i64 T.1.fuse, .int .i64 T.1.ops, .int .i64 T.1.reads, .bool T.1.down] 30)) := ⟨_, rfl⟩
          have D7 := Lib.hid (show DiskAt W7 p b S by rw [hW7]; exact (disk_six HD5.out (by omega) (by omega) _ _ _ _ _ _).alloc _)
          have Q7 := Lib.hid (show Blk W7 Q 30 (dC (.slice VA T.1.L.length vcap) T.1) by rw [hW7]; exact (six_any Q5.out rfl).alloc _)
          have F7 := Lib.hid (show FsAt W7 (Q + 1) (.slice VA T.1.L.length vcap) T.1.L by rw [hW7]; exact (HF5.out.six (by omega) _ _ _ _ _ _).alloc _)
          have O7 := Lib.hid (show Blk W7 wr.heap.size 34 (oC o) by rw [hW7]; exact (blk_six O5.out (by omega) _ _ _ _ _ _).alloc _)
          have hb7 : Below w.heap.size w W7 := by rw [hW7]; exact (six_below hbw5 (by omega) _ _ _ _ _ _).alloc (by simp; exact hbw5.size) _
          rw [← hW7]
          clear hW7 d0 d1 d2 d3 d4 d5 fd0 fd1 fd2 fd3 fd4 fd5 HD5 Q5 O5 HF5 hbw5
          have hQ7 : Q < W7.heap.size := Q7.out.lt
          have hr7 : wr.heap.size < W7.heap.size := O7.out.lt
          have d0 : W7.cell? ⟨Q, 0, none⟩ = some ((.slice VA T.1.L.length vcap)) := Q7.out.cell 0
          have d1 : W7.cell? ⟨Q, 1, none⟩ = some (.int .i64 T.1.lim) := Q7.out.cell 1
          have d2 : W7.cell? ⟨Q, 2, none⟩ = some (.int .i64 T.1.fuse) := Q7.out.cell 2
          have d3 : W7.cell? ⟨Q, 3, none⟩ = some (.int .i64 T.1.ops) := Q7.out.cell 3
          have d4 : W7.cell? ⟨Q, 4, none⟩ = some (.int .i64 T.1.reads) := Q7.out.cell 4
          have d5 : W7.cell? ⟨Q, 5, none⟩ = some (.bool T.1.down) := Q7.out.cell 5
          have o0 : W7.cell? ⟨wr.heap.size, 0, none⟩ = some (.int .i64 o.k) := O7.out.cell 0
          have o1 : W7.cell? ⟨wr.heap.size, 1, none⟩ = some (.string o.a) := O7.out.cell 1
          have o2 : W7.cell? ⟨wr.heap.size, 2, none⟩ = some (.string o.b) := O7.out.cell 2
          have o3 : W7.cell? ⟨wr.heap.size, 3, none⟩ = some (.int .i64 o.n) := O7.out.cell 3
          refine wp_region_noPanic ?_
          refine wp_region_held_drew (S := fun w' => Kp p b W7 w' ∧ w'.cell? ⟨Q, 0, none⟩ = some ((.slice VA T.1.L.length vcap)) ∧ w'.cell? ⟨Q, 1, none⟩ = some (.int .i64 T.1.lim) ∧ w'.cell? ⟨Q, 2, none⟩ = some (.int .i64 T.1.fuse) ∧ w'.cell? ⟨Q, 3, none⟩ = some (.int .i64 T.1.ops) ∧ w'.cell? ⟨Q, 4, none⟩ = some (.int .i64 T.1.reads) ∧ w'.cell? ⟨Q, 5, none⟩ = some (.bool T.1.down) ∧ w'.cell? ⟨wr.heap.size, 0, none⟩ = some (.int .i64 o.k) ∧ w'.cell? ⟨wr.heap.size, 1, none⟩ = some (.string o.a) ∧ w'.cell? ⟨wr.heap.size, 2, none⟩ = some (.string o.b) ∧ w'.cell? ⟨wr.heap.size, 3, none⟩ = some (.int .i64 o.n)) (by kernel_rfl) ⟨Kp.drew _, d0, d1, d2, d3, d4, d5, o0, o1, o2, o3⟩ (fun hS => ?_)
          refine wpAnyH_take (i := 0) (v := ?_) rfl (by kernel_rfl) (by kernel_rfl) (by kernel_rfl) (fun _ _ _ h => h) (Or.inl ⟨by rfl, ?_⟩) hS ?_
          rotate_left
          · intro wx hSx
            try dsimp only at hSx
            go_simp
            try with_reducible rfl
          simp only [Act.put, List.getElem_toArray, List.getElem_cons_zero, List.setIfInBounds_toArray, List.set_cons_zero, List.set_cons_succ]
          refine wpAnyH_take (i := 1) (v := ?_) rfl (by kernel_rfl) (by kernel_rfl) (by kernel_rfl) (fun _ _ _ h => h) (Or.inl ⟨by rfl, ?_⟩) hS ?_
          rotate_left
          · intro wx hSx
            try dsimp only at hSx
            go_simp
            try with_reducible rfl
          simp only [Act.put, List.getElem_toArray, List.getElem_cons_zero, List.getElem_cons_succ, List.setIfInBounds_toArray, List.set_cons_zero, List.set_cons_succ]
          refine wpAnyH_take (i := 2) (v := ?_) rfl (by kernel_rfl) (by kernel_rfl) (by kernel_rfl) (fun _ _ _ h => h) (Or.inl ⟨by rfl, ?_⟩) hS ?_
          rotate_left
          · intro wx hSx
            try dsimp only at hSx
            go_simp
            try with_reducible rfl
          simp only [Act.put, List.getElem_toArray, List.getElem_cons_zero, List.getElem_cons_succ, List.setIfInBounds_toArray, List.set_cons_zero, List.set_cons_succ]
          refine wpAnyH_take (i := 4) (v := ?_) rfl (by kernel_rfl) (by kernel_rfl) (by kernel_rfl) (fun _ _ _ h => h) (Or.inl ⟨by rfl, ?_⟩) hS ?_
          rotate_left
          · intro wx hSx
            try dsimp only at hSx
            go_simp
            try with_reducible rfl
          simp only [Act.put, List.getElem_toArray, List.getElem_cons_zero, List.getElem_cons_succ, List.setIfInBounds_toArray, List.set_cons_zero, List.set_cons_succ]
          refine wpAnyH_ready (rs := [3]) (by kernel_rfl) (by simp) ?_
          refine AllReadyH.cons rfl (fun K hK => ?_) AllReadyH.nil
          simp only [List.getElem_toArray, List.getElem_cons_zero, List.getElem_cons_succ]
          go_simp
          refine (DOC.out _ (hb7.trans (hS.1.below (by omega) (by omega) hb7.size)) (D7.out.drew)).mono ?_
          rintro e w8 ⟨rfl, hd8, hk8⟩
          refine hK.out _ _ ⟨Kp.comp hS.1 hk8, (Kp.cell (a := ⟨Q, 0, none⟩) hk8 (cell_lt hS.2.1) nQp nQb).trans hS.2.1, (Kp.cell (a := ⟨Q, 1, none⟩) hk8 (cell_lt hS.2.2.1) nQp nQb).trans hS.2.2.1, (Kp.cell (a := ⟨Q, 2, none⟩) hk8 (cell_lt hS.2.2.2.1) nQp nQb).trans hS.2.2.2.1, (Kp.cell (a := ⟨Q, 3, none⟩) hk8 (cell_lt hS.2.2.2.2.1) nQp nQb).trans hS.2.2.2.2.1, (Kp.cell (a := ⟨Q, 4, none⟩) hk8 (cell_lt hS.2.2.2.2.2.1) nQp nQb).trans hS.2.2.2.2.2.1, (Kp.cell (a := ⟨Q, 5, none⟩) hk8 (cell_lt hS.2.2.2.2.2.2.1) nQp nQb).trans hS.2.2.2.2.2.2.1, (Kp.cell (a := ⟨wr.heap.size, 0, none⟩) hk8 (cell_lt hS.2.2.2.2.2.2.2.1) nRp nRb).trans hS.2.2.2.2.2.2.2.1, (Kp.cell (a := ⟨wr.heap.size, 1, none⟩) hk8 (cell_lt hS.2.2.2.2.2.2.2.2.1) nRp nRb).trans hS.2.2.2.2.2.2.2.2.1, (Kp.cell (a := ⟨wr.heap.size, 2, none⟩) hk8 (cell_lt hS.2.2.2.2.2.2.2.2.2.1) nRp nRb).trans hS.2.2.2.2.2.2.2.2.2.1, (Kp.cell (a := ⟨wr.heap.size, 3, none⟩) hk8 (cell_lt hS.2.2.2.2.2.2.2.2.2.2) nRp nRb).trans hS.2.2.2.2.2.2.2.2.2.2⟩ (fun hS1 => ?_)
          clear hK
          have HD8 := Lib.hid hd8
          have K8 := Lib.hid (Kp.comp (Kp.drew W7) hk8)
          have F8 := Lib.hid (F7.out.kp K8.out (by omega) (by omega))
          have Q8 := Lib.hid (K8.out.blk Q7.out (by omega) (by omega))
          have hb8 : Below w.heap.size w w8 := hb7.trans (K8.out.below (by omega) (by omega) hb7.size)
          clear hd8 hk8
          refine wpAnyH_take (i := 5) (v := ?_) rfl (by kernel_rfl) (by kernel_rfl) (by kernel_rfl) (fun _ _ _ h => h) (Or.inl ⟨by rfl, ?_⟩) hS1 ?_
          rotate_left
          · intro wx hSx
            try dsimp only at hSx
            go_simp
            try with_reducible rfl
          simp only [Act.put, List.getElem_toArray, List.getElem_cons_zero, List.getElem_cons_succ, List.setIfInBounds_toArray, List.set_cons_zero, List.set_cons_succ]
          refine wpAnyH_take (i := 6) (v := ?_) rfl (by kernel_rfl) (by kernel_rfl) (by kernel_rfl) (fun _ _ _ h => h) (Or.inl ⟨by rfl, ?_⟩) hS1 ?_
          rotate_left
          · intro wx hSx
            try dsimp only at hSx
            go_simp
            try with_reducible rfl
          simp only [Act.put, List.getElem_toArray, List.getElem_cons_zero, List.getElem_cons_succ, List.setIfInBounds_toArray, List.set_cons_zero, List.set_cons_succ]
          refine wpAnyH_take (i := 7) (v := ?_) rfl (by kernel_rfl) (by kernel_rfl) (by kernel_rfl) (fun _ _ _ h => h) (Or.inl ⟨by rfl, ?_⟩) hS1 ?_
          rotate_left
          · intro wx hSx
            try dsimp only at hSx
            go_simp
            try with_reducible rfl
          simp only [Act.put, List.getElem_toArray, List.getElem_cons_zero, List.getElem_cons_succ, List.setIfInBounds_toArray, List.set_cons_zero, List.set_cons_succ]
          refine wpAnyH_take (i := 8) (v := ?_) rfl (by kernel_rfl) (by kernel_rfl) (by kernel_rfl) (fun _ _ _ h => h) (Or.inl ⟨by rfl, ?_⟩) hS1 ?_
          rotate_left
          · intro wx hSx
            try dsimp only at hSx
            go_simp
            try with_reducible rfl
          simp only [Act.put, List.getElem_toArray, List.getElem_cons_zero, List.getElem_cons_succ, List.setIfInBounds_toArray, List.set_cons_zero, List.set_cons_succ]
          refine wpAnyH_ready (rs := [9]) (by kernel_rfl) (by simp) ?_
          refine AllReadyH.cons rfl (fun K hK => ?_) AllReadyH.nil
          simp only [List.getElem_toArray, List.getElem_cons_zero, List.getElem_cons_succ]
          go_simp
          refine (same_any HD8.out F8.out IN.out (by omega)).mono ?_
          rintro e w9 ⟨rfl, hs9⟩
          refine hK.out _ _ ⟨Kp.comp hS1.1 (Kp.of_below hs9), (Kp.cell (a := ⟨Q, 0, none⟩) (Kp.of_below hs9) (cell_lt hS1.2.1) nQp nQb).trans hS1.2.1, (Kp.cell (a := ⟨Q, 1, none⟩) (Kp.of_below hs9) (cell_lt hS1.2.2.1) nQp nQb).trans hS1.2.2.1, (Kp.cell (a := ⟨Q, 2, none⟩) (Kp.of_below hs9) (cell_lt hS1.2.2.2.1) nQp nQb).trans hS1.2.2.2.1, (Kp.cell (a := ⟨Q, 3, none⟩) (Kp.of_below hs9) (cell_lt hS1.2.2.2.2.1) nQp nQb).trans hS1.2.2.2.2.1, (Kp.cell (a := ⟨Q, 4, none⟩) (Kp.of_below hs9) (cell_lt hS1.2.2.2.2.2.1) nQp nQb).trans hS1.2.2.2.2.2.1, (Kp.cell (a := ⟨Q, 5, none⟩) (Kp.of_below hs9) (cell_lt hS1.2.2.2.2.2.2.1) nQp nQb).trans hS1.2.2.2.2.2.2.1, (Kp.cell (a := ⟨wr.heap.size, 0, none⟩) (Kp.of_below hs9) (cell_lt hS1.2.2.2.2.2.2.2.1) nRp nRb).trans hS1.2.2.2.2.2.2.2.1, (Kp.cell (a := ⟨wr.heap.size, 1, none⟩) (Kp.of_below hs9) (cell_lt hS1.2.2.2.2.2.2.2.2.1) nRp nRb).trans hS1.2.2.2.2.2.2.2.2.1, (Kp.cell (a := ⟨wr.heap.size, 2, none⟩) (Kp.of_below hs9) (cell_lt hS1.2.2.2.2.2.2.2.2.2.1) nRp nRb).trans hS1.2.2.2.2.2.2.2.2.2.1, (Kp.cell (a := ⟨wr.heap.size, 3, none⟩) (Kp.of_below hs9) (cell_lt hS1.2.2.2.2.2.2.2.2.2.2) nRp nRb).trans hS1.2.2.2.2.2.2.2.2.2.2⟩ (fun hS2 => ?_)
          clear hK
          have H9 := Lib.hid (And.intro (HD8.out.belowS hs9) (And.intro (Q8.out.below' hs9) (And.intro (F8.out.below hs9) (hb8.trans (hs9.mono hb8.size)))))
          clear hs9
          refine wpAnyH_take (i := 10) (v := ?_) rfl (by kernel_rfl) (by kernel_rfl) (by kernel_rfl) (fun _ _ _ h => h) (Or.inl ⟨by rfl, ?_⟩) hS2 ?_
          rotate_left
          · intro wx hSx
            try dsimp only at hSx
            go_simp
            try with_reducible rfl
          simp only [Act.put, List.getElem_toArray, List.getElem_cons_zero, List.getElem_cons_succ, List.setIfInBounds_toArray, List.set_cons_zero, List.set_cons_succ]
          refine wpAnyH_take (i := 11) (v := ?_) rfl (by kernel_rfl) (by kernel_rfl) (by kernel_rfl) (fun _ _ _ h => h) (Or.inl ⟨by rfl, ?_⟩) hS2 ?_
          rotate_left
          · intro wx hSx
            try dsimp only at hSx
            go_simp
            try with_reducible rfl
          simp only [Act.put, List.getElem_toArray, List.getElem_cons_zero, List.getElem_cons_succ, List.setIfInBounds_toArray, List.set_cons_zero, List.set_cons_succ]
          refine wpAnyH_take (i := 12) (v := ?_) rfl (by kernel_rfl) (by kernel_rfl) (by kernel_rfl) (fun _ _ _ h => h) (Or.inl ⟨by rfl, ?_⟩) hS2 ?_
          rotate_left
          · intro wx hSx
            try dsimp only at hSx
            go_simp
            try with_reducible rfl
          simp only [Act.put, List.getElem_toArray, List.getElem_cons_zero, List.getElem_cons_succ, List.setIfInBounds_toArray, List.set_cons_zero, List.set_cons_succ]
          refine wpAnyH_take (i := 13) (v := ?_) rfl (by kernel_rfl) (by kernel_rfl) (by kernel_rfl) (fun _ _ _ h => h) (Or.inl ⟨by rfl, ?_⟩) hS2 ?_
          rotate_left
          · intro wx hSx
            try dsimp only at hSx
            go_simp
            try with_reducible rfl
          simp only [Act.put, List.getElem_toArray, List.getElem_cons_zero, List.getElem_cons_succ, List.setIfInBounds_toArray, List.set_cons_zero, List.set_cons_succ]
          refine wpAnyH_take (i := 15) (v := ?_) rfl (by kernel_rfl) (by kernel_rfl) (by kernel_rfl) (fun _ _ _ h => h) (Or.inl ⟨by rfl, ?_⟩) hS2 ?_
          rotate_left
          · intro wx hSx
            try dsimp only at hSx
            go_simp
            try with_reducible rfl
          simp only [Act.put, List.getElem_toArray, List.getElem_cons_zero, List.getElem_cons_succ, List.setIfInBounds_toArray, List.set_cons_zero, List.set_cons_succ]
          refine wpAnyH_take (i := 16) (v := ?_) rfl (by kernel_rfl) (by kernel_rfl) (by kernel_rfl) (fun _ _ _ h => h) (Or.inl ⟨by rfl, ?_⟩) hS2 ?_
          rotate_left
          · intro wx hSx
            try dsimp only at hSx
            go_simp
            try with_reducible rfl
          simp only [Act.put, List.getElem_toArray, List.getElem_cons_zero, List.getElem_cons_succ, List.setIfInBounds_toArray, List.set_cons_zero, List.set_cons_succ]
          refine wpAnyH_ready (rs := [14]) (by kernel_rfl) (by simp) ?_
          refine AllReadyH.cons rfl (fun K hK => ?_) AllReadyH.nil
          simp only [List.getElem_toArray, List.getElem_cons_zero, List.getElem_cons_succ]
          go_simp
          refine (reads_any H9.out.1).mono ?_
          rintro e wq ⟨rfl, rfl⟩
          refine hK.out _ _ hS2 (fun hS3 => ?_)
          clear hK
          refine wpAnyH_take (i := 17) (v := ?_) rfl (by kernel_rfl) (by kernel_rfl) (by kernel_rfl) (fun _ _ _ h => h) (Or.inl ⟨by rfl, ?_⟩) hS3 ?_
          rotate_left
          · intro wx hSx
            try dsimp only at hSx
            go_simp
            try with_reducible rfl
          simp only [Act.put, List.getElem_toArray, List.getElem_cons_zero, List.getElem_cons_succ, List.setIfInBounds_toArray, List.set_cons_zero, List.set_cons_succ]
          refine wpAnyH_take (i := 18) (v := ?_) rfl (by kernel_rfl) (by kernel_rfl) (by kernel_rfl) (fun _ _ _ h => h) (Or.inl ⟨by rfl, ?_⟩) hS3 ?_
          rotate_left
          · intro wx hSx
            try dsimp only at hSx
            go_simp
            try with_reducible rfl
          simp only [Act.put, List.getElem_toArray, List.getElem_cons_zero, List.getElem_cons_succ, List.setIfInBounds_toArray, List.set_cons_zero, List.set_cons_succ]
          refine wpAnyH_done (by kernel_rfl) ?_ _
          refine NoPanic.normal ?_
          clear hS hS1 hS2 hS3 d0 d1 d2 d3 d4 d5 o0 o1 o2 o3
          go_wp2_with fail
          go_roundw
          case rel => exact ⟨k + 1, T.1, (.slice VA T.1.L.length vcap), by omega, by go_num, HSN.out, IN.out, H9.out.1, H9.out.2.1, H9.out.2.2.1, H9.out.2.2.2⟩
          case measure => simp [intOf]; omega
        · go_wp2_with fail
          refine (AL.out _).mono ?_
          rintro e w4 ⟨rfl, hb4⟩
          go_wp2_with fail
          go_ret
          exact ⟨rfl, hb.trans (hb4.mono hb.size)⟩
end Go.Proofs.Ytgkphogefpmeaaa
