/- The walk of DiskOwn. -/
import Derived.Test.YtgkphogefpmeaaaRfP
namespace Go.Proofs.Ytgkphogefpmeaaa
open Go.RowKit Go.Maps DkM

/-- Whatever lies in an elder block than the copy's stays. -/
theorem FsAt.keepK {w w' : World} {lo p b e0 : Nat} {v : Value} {L : List Fl} (h : FsAt w lo v L) (hK : Kp p b w w') (hp : e0 ≤ p) (hb : e0 ≤ b) (hl : ∀ g off n cap, v = .slice (some ⟨g, off, none⟩) n cap → 0 < L.length → g < e0) : FsAt w' lo v L := by
  obtain ⟨A, c, h1, h2, h3⟩ := h
  refine ⟨A, c, h1, h2, fun h0 => ?_⟩
  obtain ⟨g, off, e, hlo, hg, hc⟩ := h3 h0
  have hlt := hl g off _ _ (by rw [h1, e]) h0
  have hb := hK.block g hg (by omega) (by omega)
  refine ⟨g, off, e, hlo, Nat.lt_of_lt_of_le hg hK.size, fun k hk => ?_⟩
  obtain ⟨q0, q1, q2⟩ := hc k hk
  exact ⟨(World.cell?_of_block (w := w) hb).trans q0, (World.cell?_of_block (w := w) hb).trans q1, (World.cell?_of_block (w := w) hb).trans q2⟩
theorem FsAt.lts {w : World} {lo : Nat} {v : Value} {L : List Fl} (h : FsAt w lo v L) : ∀ g off n cap, v = .slice (some ⟨g, off, none⟩) n cap → 0 < L.length → g < w.heap.size := by
  intro g off n cap hv hl
  obtain ⟨A, c, h1, h2, h3⟩ := h
  obtain ⟨g', off', e, _, hg, _⟩ := h3 hl
  rw [h1, e] at hv
  injection hv with hv
  injection hv with hv
  injection hv with hv
  omega
set_option maxRecDepth 100000 in
set_option maxHeartbeats 1000000 in
theorem walk_DiskOwn (w : World) (v : Value) (hv : ReadOps w v) (u : Value) (hu : ReadOps w u) :
    Calls Try.prog 8 #[v, u] w fun e w' => e = .returned (.bool true) ∧ Below w.heap.size w w' := by
  obtain ⟨l, hl, hok, hlen⟩ := hv
  obtain ⟨m, hm, hokm, hlenm⟩ := hu
  have FW := Lib.hid (few_any hl hok hlen)
  have FM := Lib.hid (fun (W : World) (hb : Below w.heap.size w W) => few_any (hm.below hb) hokm hlenm)
  have AL := Lib.hid alive_any
  have HOP := Lib.hid hl
  obtain ⟨A, cap, rfl, hcap, -⟩ := hl
  obtain ⟨Am, capm, rfl, hcapm, hAm⟩ := hm
  have HAm := Lib.hid hAm
  replace hok := Lib.hid hok
  replace hokm := Lib.hid hokm
  clear hAm
  cases hf : fewB l with
  | false =>
    have HF := Lib.hid hf
    clear hf
    go_enter Try.func8, Try.ntmps8
    go_wp2_with fail
    refine FW.out.mono ?_
    rw [HF.out]
    rintro e w1 ⟨rfl, hb1⟩
    go_wp2_with fail
    refine (AL.out _).mono ?_
    rintro e w2 ⟨rfl, hb2⟩
    go_wp2_with fail
    go_ret
    exact ⟨rfl, hb1.trans (hb2.mono hb1.size)⟩
  | true =>
    have hl60 : l.length ≤ 60 := by unfold fewB at hf; simp at hf; exact hf.2
    have HF := Lib.hid hf
    clear hf
    cases hfm : fewB m with
    | false =>
      have HFm := Lib.hid hfm
      clear hfm
      go_enter Try.func8, Try.ntmps8
      go_wp2_with fail
      refine FW.out.mono ?_
      rw [HF.out]
      rintro e w1 ⟨rfl, hb1⟩
      go_wp2_with fail
      refine (FM.out _ hb1).mono ?_
      rw [HFm.out]
      rintro e w1' ⟨rfl, hb1'⟩
      have hb1 := hb1.trans (hb1'.mono hb1.size)
      go_wp2_with fail
      refine (AL.out _).mono ?_
      rintro e w2 ⟨rfl, hb2⟩
      go_wp2_with fail
      go_ret
      exact ⟨rfl, hb1.trans (hb2.mono hb1.size)⟩
    | true =>
      have hm60 : m.length ≤ 60 := by unfold fewB at hfm; simp at hfm; exact hfm.2
      have HFm := Lib.hid hfm
      clear hfm
      have HIV := Lib.hid (Iv.scr (lim := 1000) (ks := []) hok.out)
      have MD := fun (W : World) (hb : Below w.heap.size w W) => made_any (w := W) 1000 (HOP.out.below hb) hok.out hl60 (kb := 0) (IntsAt.none_ W 0 none 0) (fun h => absurd h (by simp)) (by simp)
      replace MD := Lib.hid MD
      generalize scr 1000 l [] = S at *
      have HIS := Lib.hid (HIV.out.mono (M := 60 + 0) (by omega))
      go_enter Try.func8, Try.ntmps8
      go_wp2_with fail
      refine FW.out.mono ?_
      rw [HF.out]
      rintro e w1 ⟨rfl, hb1⟩
      go_wp2_with fail
      refine (FM.out _ hb1).mono ?_
      rw [HFm.out]
      rintro e w1' ⟨rfl, hb1'⟩
      have hb1x := hb1.trans (hb1'.mono hb1.size)
      clear hb1 hb1'
      go_wp2_with fail
      refine (MD.out _ hb1x).mono ?_
      rintro e w2 ⟨p, b, lo, sl, rfl, hp, hb, hplo, hblo, hD, hFs, hb2⟩
      have HD2 := Lib.hid hD
      have HF2 := Lib.hid hFs
      obtain ⟨SA, scap, hsl, -, -⟩ := hFs
      subst hsl
      have hB2 : Below w.heap.size w w2 := hb1x.trans (hb2.mono hb1x.size)
      have hp0 : w.heap.size ≤ p := Nat.le_trans hb1x.size hp
      have hb0 : w.heap.size ≤ b := Nat.le_trans hb1x.size hb
      have hp2 : p < w2.heap.size := hD.blk.lt
      have hb2' : b < w2.heap.size := hD.own.lt
      clear hD hb1x hb2 hp hb
      go_wp2_with fail
      obtain ⟨Q, hQ⟩ : ∃ Q, Q = w2.heap.size := ⟨_, rfl⟩
      obtain ⟨W, hW⟩ : ∃ W, W = w2.alloc (.cells #[(.slice SA S.L.length scap), .int .i64 S.lim, .int .i64 S.fuse, .int .i64 S.ops, .int .i64 S.reads, .bool S.down] 30) := ⟨_, rfl⟩
      have HDW := Lib.hid (show DiskAt W p b S by rw [hW]; exact HD2.out.alloc _)
      have HFW := Lib.hid (show FsAt W lo (.slice SA S.L.length scap) S.L by rw [hW]; exact HF2.out.alloc _)
      have BW := Lib.hid (show Blk W Q 30 (dC (.slice SA S.L.length scap) S) by rw [hW, hQ]; exact Blk.new _ _ _)
      have hBW : Below w.heap.size w W := by rw [hW]; exact hB2.alloc hB2.size _
      have hpQ : p < Q := by omega
      have hbQ : b < Q := by omega
      have hQW : Q < W.heap.size := BW.out.lt
      rw [← hW, ← hQ]
      clear hW hB2 HD2 HF2 hp2 hb2' hQ
      refine (copy_any HDW.out).mono ?_
      rintro e w3 ⟨rfl, hC3, hD3, hb3⟩
      obtain ⟨c0, hc0⟩ : ∃ c0, c0 = W.heap.size := ⟨_, rfl⟩
      rw [← hc0]
      rw [← hc0] at hC3
      have HC3 := Lib.hid hC3
      have HD3 := Lib.hid hD3
      have HF3 := Lib.hid (HFW.out.below hb3)
      have B3 := Lib.hid (BW.out.below' hb3)
      have hB3 : Below w.heap.size w w3 := hBW.trans (hb3.mono hBW.size)
      have hc0Q : Q < c0 := by omega
      have hW0 : w.heap.size ≤ Q := by omega
      clear hC3 hD3 hb3 hc0 HDW HFW BW hBW hQW
      go_wp2_with fail
      go_loopw [35] (fun i wr => ∃ (k : Nat) (S1 : Dk), k ≤ m.length ∧ i = .int .i64 k ∧ Iv (60 + k) S1 ∧ DiskAt wr p b S1 ∧ Kp p b w3 wr) (fun i _ => m.length - (intOf i).toNat)
      case atStart => exact ⟨0, S, Nat.zero_le _, rfl, HIS.out, HD3.out, Kp.refl _ _ _⟩
      case round =>
        obtain ⟨k, S1, hk, rfl, hI1, hD1, hK1⟩ := hrel
        have HDr := Lib.hid hD1
        have HIr := Lib.hid hI1
        have hbr : Below w.heap.size w wr := hB3.trans (hK1.below (by omega) (by omega) hB3.size)
        clear hD1 hI1
        by_cases hlt : k < m.length
        · obtain ⟨g, off, rfl, hgl, hgc⟩ := OpsAt.at_ HAm.out hbr hlt
          obtain ⟨o, ho⟩ : ∃ o, o = m[k] := ⟨_, rfl⟩
          obtain ⟨q0, q1, q2, q3⟩ := hgc o ho
          have hoo := Lib.hid (hokm.out o (by rw [ho]; exact List.getElem_mem _))
          clear hgc ho
          go_wp2_with fail
          obtain ⟨V, hV⟩ : ∃ V, V = wr.alloc (.cells #[.int .i64 o.k, .string o.a, .string o.b, .int .i64 o.n] 34) := ⟨_, rfl⟩
          rw [← hV]
          have DV := Lib.hid (show DiskAt V p b S1 by rw [hV]; exact HDr.out.alloc _)
          have KV : Kp p b w3 V := by rw [hV]; exact hK1.trans (Kp.alloc _ _)
          clear hV q0 q1 q2 q3
          refine (do_any DV.out (HIr.out.bd (by omega)) HIr.out.names hoo.out (kb := 0) (ks := []) (IntsAt.none_ V 0 none 0) (fun h => absurd h (by simp)) (by simp)).mono ?_
          rintro e w9 ⟨rfl, D9, K9⟩
          have HD9 := Lib.hid D9
          have I9 := Lib.hid (HIr.out.doOp hoo.out [])
          have K9' := KV.trans K9
          clear D9 K9 KV
          go_wp2_with fail
          go_roundw
          case rel => exact ⟨k + 1, _, by omega, by go_num, I9.out, HD9.out, K9'⟩
          case measure => simp [intOf]; omega
        · have HCr := Lib.hid (HC3.out.kp hK1 (by omega) (by omega) (by omega) (by omega))
          have HFr := Lib.hid (hK1.fs HF3.out hplo hblo)
          have Br := Lib.hid (hK1.blk B3.out (by omega) (by omega))
          have hQr : Q < wr.heap.size := Br.out.lt
          have d0 : wr.cell? ⟨Q, 0, none⟩ = some ((.slice SA S.L.length scap)) := Br.out.cell 0
          have d1 : wr.cell? ⟨Q, 1, none⟩ = some (.int .i64 S.lim) := Br.out.cell 1
          have d2 : wr.cell? ⟨Q, 2, none⟩ = some (.int .i64 S.fuse) := Br.out.cell 2
          have d3 : wr.cell? ⟨Q, 3, none⟩ = some (.int .i64 S.ops) := Br.out.cell 3
          have d4 : wr.cell? ⟨Q, 4, none⟩ = some (.int .i64 S.reads) := Br.out.cell 4
          have d5 : wr.cell? ⟨Q, 5, none⟩ = some (.bool S.down) := Br.out.cell 5
          go_wp2_with fail
          refine (same_any HCr.out HFr.out HIS.out (by omega)).mono ?_
          rintro e w6 ⟨rfl, hb6⟩
          have HC6 := Lib.hid (HCr.out.belowS hb6)
          have HF6 := Lib.hid (HFr.out.below hb6)
          have B6 := Lib.hid (Br.out.below' hb6)
          have hB6 : Below w.heap.size w w6 := hbr.trans (hb6.mono hbr.size)
          have hlo6 : ∀ g off n cap, (Value.slice SA S.L.length scap) = .slice (some ⟨g, off, none⟩) n cap → 0 < S.L.length → g < w6.heap.size := HF6.out.lts
          have hQ6 : Q < w6.heap.size := B6.out.lt
          have hc06 : c0 + 1 < w6.heap.size := HC6.out.own.lt
          clear hb6 HCr HFr Br d0 d1 d2 d3 d4 d5
          go_wp2_with fail
          refine (copy_any HC6.out).mono ?_
          rintro e w7 ⟨rfl, hE7, hC7, hb7⟩
          obtain ⟨e0, he0⟩ : ∃ e0, e0 = w6.heap.size := ⟨_, rfl⟩
          rw [← he0]
          rw [← he0] at hE7
          have HE7 := Lib.hid hE7
          have HC7 := Lib.hid hC7
          have HF7 := Lib.hid (HF6.out.below hb7)
          have B7 := Lib.hid (B6.out.below' hb7)
          have hB7 : Below w.heap.size w w7 := hB6.trans (hb7.mono hB6.size)
          have he06 : c0 + 1 < e0 := by omega
          have hlo7 : ∀ g off n cap, (Value.slice SA S.L.length scap) = .slice (some ⟨g, off, none⟩) n cap → 0 < S.L.length → g < e0 := by rw [he0]; exact hlo6
          clear hE7 hC7 hb7 HC6 HF6 B6 hlo6 he0 hc06 hQ6 hbr hK1
          go_wp2_with fail
          go_loopw [53] (fun i wr => ∃ (k : Nat) (S1 : Dk), k ≤ m.length ∧ i = .int .i64 k ∧ Iv (60 + k) S1 ∧ DiskAt wr e0 (e0 + 1) S1 ∧ Kp e0 (e0 + 1) w7 wr) (fun i _ => m.length - (intOf i).toNat)
          case atStart => exact ⟨0, S, Nat.zero_le _, rfl, HIS.out, HE7.out, Kp.refl _ _ _⟩
          case round =>
            obtain ⟨k, S1, hk, rfl, hI1, hD1, hK1⟩ := hrel
            have HDr := Lib.hid hD1
            have HIr := Lib.hid hI1
            have hbr : Below w.heap.size w wr := hB7.trans (hK1.below (by omega) (by omega) hB7.size)
            clear hD1 hI1
            by_cases hlt : k < m.length
            · obtain ⟨g, off, rfl, hgl, hgc⟩ := OpsAt.at_ HAm.out hbr hlt
              obtain ⟨o, ho⟩ : ∃ o, o = m[k] := ⟨_, rfl⟩
              obtain ⟨q0, q1, q2, q3⟩ := hgc o ho
              have hoo := Lib.hid (hokm.out o (by rw [ho]; exact List.getElem_mem _))
              clear hgc ho
              go_wp2_with fail
              obtain ⟨V, hV⟩ : ∃ V, V = wr.alloc (.cells #[.int .i64 o.k, .string o.a, .string o.b, .int .i64 o.n] 34) := ⟨_, rfl⟩
              rw [← hV]
              have DV := Lib.hid (show DiskAt V e0 (e0 + 1) S1 by rw [hV]; exact HDr.out.alloc _)
              have KV : Kp e0 (e0 + 1) w7 V := by rw [hV]; exact hK1.trans (Kp.alloc _ _)
              clear hV q0 q1 q2 q3
              refine (do_any DV.out (HIr.out.bd (by omega)) HIr.out.names hoo.out (kb := 0) (ks := []) (IntsAt.none_ V 0 none 0) (fun h => absurd h (by simp)) (by simp)).mono ?_
              rintro e w9 ⟨rfl, D9, K9⟩
              have HD9 := Lib.hid D9
              have I9 := Lib.hid (HIr.out.doOp hoo.out [])
              have K9' := KV.trans K9
              clear D9 K9 KV
              go_wp2_with fail
              go_roundw
              case rel => exact ⟨k + 1, _, by omega, by go_num, I9.out, HD9.out, K9'⟩
              case measure => simp [intOf]; omega
            · have HCr2 := Lib.hid (HC7.out.kp hK1 (by omega) (by omega) (by omega) (by omega))
              have HFr2 := Lib.hid (HF7.out.keepK hK1 (by omega) (by omega) hlo7)
              have Br2 := Lib.hid (hK1.blk B7.out (by omega) (by omega))
              have hQr2 : Q < wr.heap.size := Br2.out.lt
              have d0 : wr.cell? ⟨Q, 0, none⟩ = some ((.slice SA S.L.length scap)) := Br2.out.cell 0
              have d1 : wr.cell? ⟨Q, 1, none⟩ = some (.int .i64 S.lim) := Br2.out.cell 1
              have d2 : wr.cell? ⟨Q, 2, none⟩ = some (.int .i64 S.fuse) := Br2.out.cell 2
              have d3 : wr.cell? ⟨Q, 3, none⟩ = some (.int .i64 S.ops) := Br2.out.cell 3
              have d4 : wr.cell? ⟨Q, 4, none⟩ = some (.int .i64 S.reads) := Br2.out.cell 4
              have d5 : wr.cell? ⟨Q, 5, none⟩ = some (.bool S.down) := Br2.out.cell 5
              go_wp2_with fail
              refine wp_region_noPanic ?_
              refine wp_region_held_drew (S := fun w' => Below wr.heap.size wr w' ∧ w'.cell? ⟨Q, 0, none⟩ = some ((.slice SA S.L.length scap)) ∧ w'.cell? ⟨Q, 1, none⟩ = some (.int .i64 S.lim) ∧ w'.cell? ⟨Q, 2, none⟩ = some (.int .i64 S.fuse) ∧ w'.cell? ⟨Q, 3, none⟩ = some (.int .i64 S.ops) ∧ w'.cell? ⟨Q, 4, none⟩ = some (.int .i64 S.reads) ∧ w'.cell? ⟨Q, 5, none⟩ = some (.bool S.down)) (by kernel_rfl) ⟨below_draw', d0, d1, d2, d3, d4, d5⟩ (fun hS => ?_)
              refine wpAnyH_ready (rs := [0]) (by kernel_rfl) (by simp) ?_
              refine AllReadyH.cons rfl (fun K hK => ?_) AllReadyH.nil
              simp only [List.getElem_toArray, List.getElem_cons_zero]
              go_simp
              refine (AL.out _).mono ?_
              rintro e wa ⟨rfl, ha0⟩
              refine hK.out _ _ ⟨(hS.1).trans ((ha0).mono (hS.1).size), ((ha0).cell (cell_lt hS.2.1)).trans hS.2.1, ((ha0).cell (cell_lt hS.2.2.1)).trans hS.2.2.1, ((ha0).cell (cell_lt hS.2.2.2.1)).trans hS.2.2.2.1, ((ha0).cell (cell_lt hS.2.2.2.2.1)).trans hS.2.2.2.2.1, ((ha0).cell (cell_lt hS.2.2.2.2.2.1)).trans hS.2.2.2.2.2.1, ((ha0).cell (cell_lt hS.2.2.2.2.2.2)).trans hS.2.2.2.2.2.2⟩ (fun hS1 => ?_)
              clear hK
              refine wpAnyH_take (i := 1) (v := ?_) rfl (by kernel_rfl) (by kernel_rfl) (by kernel_rfl) (fun _ _ _ h => h) (Or.inl ⟨by rfl, ?_⟩) hS1 ?_
              rotate_left
              · intro wx hSx
                try dsimp only at hSx
                go_simp
                try with_reducible rfl
              simp only [Act.put, List.getElem_toArray, List.getElem_cons_zero, List.getElem_cons_succ, List.setIfInBounds_toArray, List.set_cons_zero, List.set_cons_succ]
              refine wpAnyH_take (i := 2) (v := ?_) rfl (by kernel_rfl) (by kernel_rfl) (by kernel_rfl) (fun _ _ _ h => h) (Or.inl ⟨by rfl, ?_⟩) hS1 ?_
              rotate_left
              · intro wx hSx
                try dsimp only at hSx
                go_simp
                try with_reducible rfl
              simp only [Act.put, List.getElem_toArray, List.getElem_cons_zero, List.getElem_cons_succ, List.setIfInBounds_toArray, List.set_cons_zero, List.set_cons_succ]
              refine wpAnyH_take (i := 3) (v := ?_) rfl (by kernel_rfl) (by kernel_rfl) (by kernel_rfl) (fun _ _ _ h => h) (Or.inl ⟨by rfl, ?_⟩) hS1 ?_
              rotate_left
              · intro wx hSx
                try dsimp only at hSx
                go_simp
                try with_reducible rfl
              simp only [Act.put, List.getElem_toArray, List.getElem_cons_zero, List.getElem_cons_succ, List.setIfInBounds_toArray, List.set_cons_zero, List.set_cons_succ]
              refine wpAnyH_ready (rs := [4]) (by kernel_rfl) (by simp) ?_
              refine AllReadyH.cons rfl (fun K hK => ?_) AllReadyH.nil
              simp only [List.getElem_toArray, List.getElem_cons_zero, List.getElem_cons_succ]
              go_simp
              refine (same_any (HCr2.out.belowS hS1.1) (HFr2.out.below hS1.1) HIS.out (by omega)).mono ?_
              rintro e wb ⟨rfl, ha4⟩
              refine hK.out _ _ ⟨(hS1.1).trans ((ha4).mono (hS1.1).size), ((ha4).cell (cell_lt hS1.2.1)).trans hS1.2.1, ((ha4).cell (cell_lt hS1.2.2.1)).trans hS1.2.2.1, ((ha4).cell (cell_lt hS1.2.2.2.1)).trans hS1.2.2.2.1, ((ha4).cell (cell_lt hS1.2.2.2.2.1)).trans hS1.2.2.2.2.1, ((ha4).cell (cell_lt hS1.2.2.2.2.2.1)).trans hS1.2.2.2.2.2.1, ((ha4).cell (cell_lt hS1.2.2.2.2.2.2)).trans hS1.2.2.2.2.2.2⟩ (fun hS2 => ?_)
              clear hK
              refine wpAnyH_take (i := 5) (v := ?_) rfl (by kernel_rfl) (by kernel_rfl) (by kernel_rfl) (fun _ _ _ h => h) (Or.inl ⟨by rfl, ?_⟩) hS2 ?_
              rotate_left
              · intro wx hSx
                try dsimp only at hSx
                go_simp
                try with_reducible rfl
              simp only [Act.put, List.getElem_toArray, List.getElem_cons_zero, List.getElem_cons_succ, List.setIfInBounds_toArray, List.set_cons_zero, List.set_cons_succ]
              refine wpAnyH_take (i := 6) (v := ?_) rfl (by kernel_rfl) (by kernel_rfl) (by kernel_rfl) (fun _ _ _ h => h) (Or.inl ⟨by rfl, ?_⟩) hS2 ?_
              rotate_left
              · intro wx hSx
                try dsimp only at hSx
                go_simp
                try with_reducible rfl
              simp only [Act.put, List.getElem_toArray, List.getElem_cons_zero, List.getElem_cons_succ, List.setIfInBounds_toArray, List.set_cons_zero, List.set_cons_succ]
              refine wpAnyH_take (i := 7) (v := ?_) rfl (by kernel_rfl) (by kernel_rfl) (by kernel_rfl) (fun _ _ _ h => h) (Or.inl ⟨by rfl, ?_⟩) hS2 ?_
              rotate_left
              · intro wx hSx
                try dsimp only at hSx
                go_simp
                try with_reducible rfl
              simp only [Act.put, List.getElem_toArray, List.getElem_cons_zero, List.getElem_cons_succ, List.setIfInBounds_toArray, List.set_cons_zero, List.set_cons_succ]
              refine wpAnyH_take (i := 8) (v := ?_) rfl (by kernel_rfl) (by kernel_rfl) (by kernel_rfl) (fun _ _ _ h => h) (Or.inl ⟨by rfl, ?_⟩) hS2 ?_
              rotate_left
              · intro wx hSx
                try dsimp only at hSx
                go_simp
                try with_reducible rfl
              simp only [Act.put, List.getElem_toArray, List.getElem_cons_zero, List.getElem_cons_succ, List.setIfInBounds_toArray, List.set_cons_zero, List.set_cons_succ]
              refine wpAnyH_take (i := 10) (v := ?_) rfl (by kernel_rfl) (by kernel_rfl) (by kernel_rfl) (fun _ _ _ h => h) (Or.inl ⟨by rfl, ?_⟩) hS2 ?_
              rotate_left
              · intro wx hSx
                try dsimp only at hSx
                go_simp
                try with_reducible rfl
              simp only [Act.put, List.getElem_toArray, List.getElem_cons_zero, List.getElem_cons_succ, List.setIfInBounds_toArray, List.set_cons_zero, List.set_cons_succ]
              refine wpAnyH_take (i := 11) (v := ?_) rfl (by kernel_rfl) (by kernel_rfl) (by kernel_rfl) (fun _ _ _ h => h) (Or.inl ⟨by rfl, ?_⟩) hS2 ?_
              rotate_left
              · intro wx hSx
                try dsimp only at hSx
                go_simp
                try with_reducible rfl
              simp only [Act.put, List.getElem_toArray, List.getElem_cons_zero, List.getElem_cons_succ, List.setIfInBounds_toArray, List.set_cons_zero, List.set_cons_succ]
              refine wpAnyH_ready (rs := [9]) (by kernel_rfl) (by simp) ?_
              refine AllReadyH.cons rfl (fun K hK => ?_) AllReadyH.nil
              simp only [List.getElem_toArray, List.getElem_cons_zero, List.getElem_cons_succ]
              go_simp
              refine (reads_any (HCr2.out.belowS hS2.1)).mono ?_
              rintro e wq ⟨rfl, rfl⟩
              refine hK.out _ _ hS2 (fun hS3 => ?_)
              clear hK
              refine wpAnyH_take (i := 12) (v := ?_) rfl (by kernel_rfl) (by kernel_rfl) (by kernel_rfl) (fun _ _ _ h => h) (Or.inl ⟨by rfl, ?_⟩) hS3 ?_
              rotate_left
              · intro wx hSx
                try dsimp only at hSx
                go_simp
                try with_reducible rfl
              simp only [Act.put, List.getElem_toArray, List.getElem_cons_zero, List.getElem_cons_succ, List.setIfInBounds_toArray, List.set_cons_zero, List.set_cons_succ]
              refine wpAnyH_take (i := 13) (v := ?_) rfl (by kernel_rfl) (by kernel_rfl) (by kernel_rfl) (fun _ _ _ h => h) (Or.inl ⟨by rfl, ?_⟩) hS3 ?_
              rotate_left
              · intro wx hSx
                try dsimp only at hSx
                go_simp
                try with_reducible rfl
              simp only [Act.put, List.getElem_toArray, List.getElem_cons_zero, List.getElem_cons_succ, List.setIfInBounds_toArray, List.set_cons_zero, List.set_cons_succ]
              refine wpAnyH_take (i := 14) (v := ?_) rfl (by kernel_rfl) (by kernel_rfl) (by kernel_rfl) (fun _ _ _ h => h) (Or.inl ⟨by rfl, ?_⟩) hS3 ?_
              rotate_left
              · intro wx hSx
                try dsimp only at hSx
                go_simp
                try with_reducible rfl
              simp only [Act.put, List.getElem_toArray, List.getElem_cons_zero, List.getElem_cons_succ, List.setIfInBounds_toArray, List.set_cons_zero, List.set_cons_succ]
              refine wpAnyH_done (by kernel_rfl) ?_ _
              refine NoPanic.normal ?_
              go_wp2_with fail
              go_ret
              exact ⟨rfl, hbr.trans (hS3.1.mono hbr.size)⟩
end Go.Proofs.Ytgkphogefpmeaaa
