/- The walk of DiskReads. -/
import Derived.Test.YtgkphogefpmeaaaRfM
namespace Go.Proofs.Ytgkphogefpmeaaa
open Go.RowKit Go.Maps DkM

theorem size_n {w : World} {p b : Nat} {S : Dk} (h : DiskAt w p b S) {n : ByteArray} (hf : lkF S.L n = none) (hn : n.size ≤ maxLen) : Calls Try.prog 22 #[ptr p, .string n] w fun e w' => e = .returned (.tuple #[.int .i64 0, .bool false]) ∧ Below w.heap.size w w' := by
  have := size_any h hn
  rw [hf] at this
  exact this
theorem loose_n {w : World} {p b : Nat} {S : Dk} (h : DiskAt w p b S) {n : ByteArray} (hf : lkF S.L n = none) (hn : n.size ≤ maxLen) : Calls Try.prog 26 #[ptr p, .string n] w fun e w' => e = .returned (.int .i64 0) ∧ Below w.heap.size w w' := by
  have := loose_any h hn
  rw [hf] at this
  exact (this (by decide) (by decide)).mono fun e w' ⟨h1, h2⟩ => ⟨h1, h2⟩
theorem Kp.fs {p b lo : Nat} {w w' : World} {v : Value} {L : List Fl} (k : Kp p b w w') (h : FsAt w lo v L) (hp : p < lo) (hb : b < lo) : FsAt w' lo v L := h.kp k hp hb
theorem doRd_L (S : Dk) (n : ByteArray) (a : Int) : (doRd S n a).L = S.L := by unfold doRd; split <;> rfl
theorem FsAt.cells {w : World} {lo : Nat} {A : Option Addr} {n cap : Nat} {L : List Fl} (h : FsAt w lo (.slice A n cap) L) {k : Nat} (hk : k < L.length) {f : Fl} (hf : L[k] = f) :
    ∃ g off, A = some ⟨g, off, none⟩ ∧ g < w.heap.size ∧ w.cell? ⟨g, off + k * 3, none⟩ = some (.string f.n) ∧ w.cell? ⟨g, off + k * 3 + 1, none⟩ = some (.string f.s) ∧ w.cell? ⟨g, off + k * 3 + 2, none⟩ = some (.string f.l) := by
  obtain ⟨g, off, e, hg, hc⟩ := h.at_ (Below.refl _ w) hk
  exact ⟨g, off, e, hg, hc f hf.symm⟩

set_option maxRecDepth 100000 in
set_option maxHeartbeats 1000000 in
theorem walk_DiskReads (w : World) (v : Value) (hv : ReadOps w v) (n : ByteArray) (hn : n.size ≤ maxLen) (a : Int) (wa' : (Lit.int .i64 a).wf = true) :
    Calls Try.prog 4 #[v, .string n, .int .i64 a] w fun e w' => e = .returned (.bool true) ∧ Below w.heap.size w w' := by
  obtain ⟨l, hl, hok, hlen⟩ := hv
  have ha0 := (bounds_i64 wa').1
  have ha1 := (bounds_i64 wa').2
  have FW := Lib.hid (few_any hl hok hlen)
  have AL := Lib.hid alive_any
  have HOP := Lib.hid hl
  obtain ⟨A, cap, rfl, hcap, -⟩ := hl
  replace hok := Lib.hid hok
  have HNS := Lib.hid hn
  have hn' : n.size ≤ 9223372036854775807 := by unfold maxLen at hn; omega
  clear wa' hn
  cases hf : fewB l with
  | false =>
    have HF := Lib.hid hf
    clear hf
    go_enter Try.func4, Try.ntmps4
    go_wp2_with fail
    refine FW.out.mono ?_
    rw [HF.out]
    rintro e w1 ⟨rfl, hb1⟩
    go_wp2_with fail
    refine (AL.out _).mono ?_
    rintro e w2 ⟨rfl, hb2⟩
    go_wp2_with fail
    go_ret
    exact ⟨rfl, hb1.trans (hb2.mono hb1.size)⟩
  | true =>
    have hl60 : l.length ≤ 60 := by unfold fewB at hf; simp at hf; exact hf.2
    have HF := Lib.hid hf
    clear hf
    have HIV := Lib.hid (Iv.scr (lim := 1000) (ks := []) hok.out)
    have MD := fun (W : World) (hb : Below w.heap.size w W) => made_any (w := W) 1000 (HOP.out.below hb) hok.out hl60 (kb := 0) (IntsAt.none_ W 0 none 0) (fun h => absurd h (by simp)) (by simp)
    replace MD := Lib.hid MD
    generalize scr 1000 l [] = S at *
    have HR10 := HIV.out.reads0
    have HR11 : S.reads ≤ 1099511627776 := by have := HIV.out.reads1; omega
    have HQ1 := seq_yes (rdS S n a).1
    have HQ2 : ((((rdS S n a).2 : Nat) : Int) != (((rdS S n a).2 : Nat) : Int)) = false := by simp
    have HQ3 : (Rgt n != Rgt n) = false := by simp
    have hus : usd S.L ≤ 1073741824 := (HIV.out.bd (by omega)).used1
    have hle60 : S.L.length ≤ 60 := by have := HIV.out.len; omega
    cases hl : lkF S.L n with
    | none =>
      have HL := Lib.hid hl
      have HX := Lib.hid (idx_none hl)
      clear hl
      go_enter Try.func4, Try.ntmps4
      go_wp2_with fail
      refine FW.out.mono ?_
      rw [HF.out]
      rintro e w1 ⟨rfl, hb1⟩
      go_wp2_with fail
      refine (MD.out _ hb1).mono ?_
      rintro e w2 ⟨p, b, lo, sl, rfl, hp, hb, hplo, hblo, hD, hFs, hb2⟩
      have HD2 := Lib.hid hD
      have HF2 := Lib.hid hFs
      obtain ⟨SA, scap, hsl, -, -⟩ := hFs
      subst hsl
      have hB2 : Below w.heap.size w w2 := hb1.trans (hb2.mono hb1.size)
      have hp0 : w.heap.size ≤ p := Nat.le_trans hb1.size hp
      have hb0 : w.heap.size ≤ b := Nat.le_trans hb1.size hb
      have hp2 : p < w2.heap.size := hD.blk.lt
      have hb2' : b < w2.heap.size := hD.own.lt
      clear hD hb1 hb2 hp hb
      go_wp2_with fail
      obtain ⟨W, hW⟩ : ∃ W, W = w2.alloc (.cells #[(.slice SA S.L.length scap), .int .i64 S.lim, .int .i64 S.fuse, .int .i64 S.ops, .int .i64 S.reads, .bool S.down] 30) := ⟨_, rfl⟩
      have HDW := Lib.hid (show DiskAt W p b S by rw [hW]; exact HD2.out.alloc _)
      have HFW := Lib.hid (show FsAt W lo (.slice SA S.L.length scap) S.L by rw [hW]; exact HF2.out.alloc _)
      have BW := Lib.hid (show Blk W w2.heap.size 30 (dC (.slice SA S.L.length scap) S) by rw [hW]; exact Blk.new _ _ _)
      have hBW : Below w.heap.size w W := by rw [hW]; exact hB2.alloc hB2.size _
      rw [← hW]
      clear hW hB2 HD2 HF2
      refine (read_any HDW.out (HIV.out.bd (by omega)) HNS.out a ha0 ha1).mono ?_
      rintro e w3 ⟨rfl, hD3, K3⟩
      have HD3 := Lib.hid hD3
      have HF3 := Lib.hid (K3.fs HFW.out hplo hblo)
      have B3 := Lib.hid (K3.blk BW.out (by omega) (by omega))
      have hB3 : Below w.heap.size w w3 := hBW.trans (K3.below hp0 hb0 hBW.size)
      have hq3 : w2.heap.size < w3.heap.size := B3.out.lt
      clear hD3 K3 hBW HDW HFW BW
      have d0 : w3.cell? ⟨w2.heap.size, 0, none⟩ = some ((.slice SA S.L.length scap)) := B3.out.cell 0
      have d1 : w3.cell? ⟨w2.heap.size, 1, none⟩ = some (.int .i64 S.lim) := B3.out.cell 1
      have d2 : w3.cell? ⟨w2.heap.size, 2, none⟩ = some (.int .i64 S.fuse) := B3.out.cell 2
      have d3 : w3.cell? ⟨w2.heap.size, 3, none⟩ = some (.int .i64 S.ops) := B3.out.cell 3
      have d4 : w3.cell? ⟨w2.heap.size, 4, none⟩ = some (.int .i64 S.reads) := B3.out.cell 4
      have d5 : w3.cell? ⟨w2.heap.size, 5, none⟩ = some (.bool S.down) := B3.out.cell 5
      go_wp2_with fail
      refine (rread_any (rf_of HF3.out (HIV.out.bd (by omega)) (by omega) HIV.out.names) a ha0 ha1 HR10 HR11).mono ?_
      rintro e w4 ⟨rfl, hb4⟩
      have HD4 := Lib.hid (HD3.out.belowS hb4)
      have HF4 := Lib.hid (HF3.out.below hb4)
      have B4 := Lib.hid (B3.out.below' hb4)
      have hB4 : Below w.heap.size w w4 := hB3.trans (hb4.mono hB3.size)
      have hq4 : w2.heap.size < w4.heap.size := B4.out.lt
      clear hb4 hB3 HD3 HF3 B3 d0 d1 d2 d3 d4 d5
      obtain ⟨T, hT⟩ : ∃ T, doRd S n a = T := ⟨_, rfl⟩
      have HTL := Lib.hid (show T.L = S.L by rw [← hT]; exact doRd_L S n a)
      rw [hT] at HD4
      go_wp2_with fail
      clear hT
      obtain ⟨W5, hW5⟩ : ∃ W5, W5 = w4.alloc (.cells #[(.slice SA S.L.length scap), .int .i64 T.lim, .int .i64 T.fuse, .int .i64 T.ops, .int .i64 T.reads, .bool T.down] 30) := ⟨_, rfl⟩
      have HD5 := Lib.hid (show DiskAt W5 p b T by rw [hW5]; exact HD4.out.alloc _)
      have HF5 := Lib.hid (show FsAt W5 lo (.slice SA S.L.length scap) S.L by rw [hW5]; exact HF4.out.alloc _)
      have B5 := Lib.hid (show Blk W5 w2.heap.size 30 (dC (.slice SA S.L.length scap) S) by rw [hW5]; exact B4.out.alloc _)
      have hB5 : Below w.heap.size w W5 := by rw [hW5]; exact hB4.alloc hB4.size _
      rw [← hW5]
      clear hW5 hB4 HD4 HF4 B4
      refine (size_n HD5.out (by rw [HTL.out]; exact HL.out) HNS.out).mono ?_
      rintro e w6 ⟨rfl, hb6⟩
      have HD6 := Lib.hid (HD5.out.belowS hb6)
      have HF6 := Lib.hid (HF5.out.below hb6)
      have B6 := Lib.hid (B5.out.below' hb6)
      have hB6 : Below w.heap.size w w6 := hB5.trans (hb6.mono hB5.size)
      have hq6 : w2.heap.size < w6.heap.size := B6.out.lt
      clear hb6 hB5 HD5 HF5 B5
      have d0 : w6.cell? ⟨w2.heap.size, 0, none⟩ = some ((.slice SA S.L.length scap)) := B6.out.cell 0
      have d1 : w6.cell? ⟨w2.heap.size, 1, none⟩ = some (.int .i64 S.lim) := B6.out.cell 1
      have d2 : w6.cell? ⟨w2.heap.size, 2, none⟩ = some (.int .i64 S.fuse) := B6.out.cell 2
      have d3 : w6.cell? ⟨w2.heap.size, 3, none⟩ = some (.int .i64 S.ops) := B6.out.cell 3
      have d4 : w6.cell? ⟨w2.heap.size, 4, none⟩ = some (.int .i64 S.reads) := B6.out.cell 4
      have d5 : w6.cell? ⟨w2.heap.size, 5, none⟩ = some (.bool S.down) := B6.out.cell 5
      go_wp2_with fail
      refine (at_any HF6.out n (by omega)).mono ?_
      rw [HX.out]
      rintro e w7 ⟨rfl, hb7⟩
      have HD7 := Lib.hid (HD6.out.belowS hb7)
      have hB7 : Below w.heap.size w w7 := hB6.trans (hb7.mono hB6.size)
      clear hb7 hB6 HD6 HF6 B6 d0 d1 d2 d3 d4 d5
      go_wp2_with (first | (go_at_call 24; refine (right_any n _ hn').mono ?_; rintro e wb ⟨rfl, rfl⟩) | (go_at_call 25; refine (right_ref n _ hn').mono ?_; rintro e wb ⟨rfl, rfl⟩))
      refine wp_region_noPanic ?_
      refine wp_region_held_drew (S := fun w' => Below w7.heap.size w7 w') (by kernel_rfl) below_draw' (fun hS => ?_)
      refine wpAnyH_ready (rs := [0]) (by kernel_rfl) (by simp) ?_
      refine AllReadyH.cons rfl (fun K hK => ?_) AllReadyH.nil
      simp only [List.getElem_toArray, List.getElem_cons_zero]
      go_simp
      refine (AL.out _).mono ?_
      rintro e wa0 ⟨rfl, ha0⟩
      refine hK.out _ _ ((hS).trans ((ha0).mono (hS).size)) (fun hS1 => ?_)
      clear hK
      refine wpAnyH_take (i := 1) (v := ?_) rfl (by kernel_rfl) (by kernel_rfl) (by kernel_rfl) (fun _ _ _ h => h) (Or.inl ⟨by rfl, ?_⟩) hS1 ?_
      rotate_left
      · intro wx hSx
        try dsimp only at hSx
        go_simp
        try with_reducible rfl
      simp only [Act.put, List.getElem_toArray, List.getElem_cons_zero, List.getElem_cons_succ, List.setIfInBounds_toArray, List.set_cons_zero, List.set_cons_succ]
      refine wpAnyH_take (i := 2) (v := ?_) rfl (by kernel_rfl) (by kernel_rfl) (by kernel_rfl) (fun _ _ _ h => h) (Or.inl ⟨by rfl, ?_⟩) hS1 ?_
      rotate_left
      · intro wx hSx
        try dsimp only at hSx
        go_simp
        try with_reducible rfl
      simp only [Act.put, List.getElem_toArray, List.getElem_cons_zero, List.getElem_cons_succ, List.setIfInBounds_toArray, List.set_cons_zero, List.set_cons_succ]
      refine wpAnyH_take (i := 3) (v := ?_) rfl (by kernel_rfl) (by kernel_rfl) (by kernel_rfl) (fun _ _ _ h => h) (Or.inl ⟨by rfl, ?_⟩) hS1 ?_
      rotate_left
      · intro wx hSx
        try dsimp only at hSx
        go_simp
        try with_reducible rfl
      simp only [Act.put, List.getElem_toArray, List.getElem_cons_zero, List.getElem_cons_succ, List.setIfInBounds_toArray, List.set_cons_zero, List.set_cons_succ]
      refine wpAnyH_take (i := 4) (v := ?_) rfl (by kernel_rfl) (by kernel_rfl) (by kernel_rfl) (fun _ _ _ h => h) (Or.inl ⟨by rfl, ?_⟩) hS1 ?_
      rotate_left
      · intro wx hSx
        try dsimp only at hSx
        go_simp
        try with_reducible rfl
      simp only [Act.put, List.getElem_toArray, List.getElem_cons_zero, List.getElem_cons_succ, List.setIfInBounds_toArray, List.set_cons_zero, List.set_cons_succ]
      refine wpAnyH_take (i := 5) (v := ?_) rfl (by kernel_rfl) (by kernel_rfl) (by kernel_rfl) (fun _ _ _ h => h) (Or.inl ⟨by rfl, ?_⟩) hS1 ?_
      rotate_left
      · intro wx hSx
        try dsimp only at hSx
        go_simp
        try with_reducible rfl
      simp only [Act.put, List.getElem_toArray, List.getElem_cons_zero, List.getElem_cons_succ, List.setIfInBounds_toArray, List.set_cons_zero, List.set_cons_succ]
      refine wpAnyH_take (i := 6) (v := ?_) rfl (by kernel_rfl) (by kernel_rfl) (by kernel_rfl) (fun _ _ _ h => h) (Or.inl ⟨by rfl, ?_⟩) hS1 ?_
      rotate_left
      · intro wx hSx
        try dsimp only at hSx
        go_simp
        try with_reducible rfl
      simp only [Act.put, List.getElem_toArray, List.getElem_cons_zero, List.getElem_cons_succ, List.setIfInBounds_toArray, List.set_cons_zero, List.set_cons_succ]
      refine wpAnyH_take (i := 7) (v := ?_) rfl (by kernel_rfl) (by kernel_rfl) (by kernel_rfl) (fun _ _ _ h => h) (Or.inl ⟨by rfl, ?_⟩) hS1 ?_
      rotate_left
      · intro wx hSx
        try dsimp only at hSx
        go_simp
        try with_reducible rfl
      simp only [Act.put, List.getElem_toArray, List.getElem_cons_zero, List.getElem_cons_succ, List.setIfInBounds_toArray, List.set_cons_zero, List.set_cons_succ]
      refine wpAnyH_take (i := 8) (v := ?_) rfl (by kernel_rfl) (by kernel_rfl) (by kernel_rfl) (fun _ _ _ h => h) (Or.inl ⟨by rfl, ?_⟩) hS1 ?_
      rotate_left
      · intro wx hSx
        try dsimp only at hSx
        go_simp
        try with_reducible rfl
      simp only [Act.put, List.getElem_toArray, List.getElem_cons_zero, List.getElem_cons_succ, List.setIfInBounds_toArray, List.set_cons_zero, List.set_cons_succ]
      refine wpAnyH_take (i := 9) (v := ?_) rfl (by kernel_rfl) (by kernel_rfl) (by kernel_rfl) (fun _ _ _ h => h) (Or.inl ⟨by rfl, ?_⟩) hS1 ?_
      rotate_left
      · intro wx hSx
        try dsimp only at hSx
        go_simp
        try with_reducible rfl
      simp only [Act.put, List.getElem_toArray, List.getElem_cons_zero, List.getElem_cons_succ, List.setIfInBounds_toArray, List.set_cons_zero, List.set_cons_succ]
      refine wpAnyH_take (i := 10) (v := ?_) rfl (by kernel_rfl) (by kernel_rfl) (by kernel_rfl) (fun _ _ _ h => h) (Or.inl ⟨by rfl, ?_⟩) hS1 ?_
      rotate_left
      · intro wx hSx
        try dsimp only at hSx
        go_simp
        try with_reducible rfl
      simp only [Act.put, List.getElem_toArray, List.getElem_cons_zero, List.getElem_cons_succ, List.setIfInBounds_toArray, List.set_cons_zero, List.set_cons_succ]
      refine wpAnyH_ready (rs := [11]) (by kernel_rfl) (by simp) ?_
      refine AllReadyH.cons rfl (fun K hK => ?_) AllReadyH.nil
      simp only [List.getElem_toArray, List.getElem_cons_zero, List.getElem_cons_succ]
      go_simp
      refine (loose_n (HD7.out.belowS hS1) (by rw [HTL.out]; exact HL.out) HNS.out).mono ?_
      rintro e wa11 ⟨rfl, ha11⟩
      refine hK.out _ _ ((hS1).trans ((ha11).mono (hS1).size)) (fun hS2 => ?_)
      clear hK
      refine wpAnyH_take (i := 12) (v := ?_) rfl (by kernel_rfl) (by kernel_rfl) (by kernel_rfl) (fun _ _ _ h => h) (Or.inl ⟨by rfl, ?_⟩) hS2 ?_
      rotate_left
      · intro wx hSx
        try dsimp only at hSx
        go_simp
        try with_reducible rfl
      simp only [Act.put, List.getElem_toArray, List.getElem_cons_zero, List.getElem_cons_succ, List.setIfInBounds_toArray, List.set_cons_zero, List.set_cons_succ]
      refine wpAnyH_take (i := 13) (v := ?_) rfl (by kernel_rfl) (by kernel_rfl) (by kernel_rfl) (fun _ _ _ h => h) (Or.inl ⟨by rfl, ?_⟩) hS2 ?_
      rotate_left
      · intro wx hSx
        try dsimp only at hSx
        go_simp
        try with_reducible rfl
      simp only [Act.put, List.getElem_toArray, List.getElem_cons_zero, List.getElem_cons_succ, List.setIfInBounds_toArray, List.set_cons_zero, List.set_cons_succ]
      refine wpAnyH_take (i := 14) (v := ?_) rfl (by kernel_rfl) (by kernel_rfl) (by kernel_rfl) (fun _ _ _ h => h) (Or.inl ⟨by rfl, ?_⟩) hS2 ?_
      rotate_left
      · intro wx hSx
        try dsimp only at hSx
        go_simp
        try with_reducible rfl
      simp only [Act.put, List.getElem_toArray, List.getElem_cons_zero, List.getElem_cons_succ, List.setIfInBounds_toArray, List.set_cons_zero, List.set_cons_succ]
      refine wpAnyH_take (i := 15) (v := undef) rfl (by kernel_rfl) (by kernel_rfl) (by kernel_rfl) (fun _ _ _ h => h) (Or.inr ⟨by rfl, rfl⟩) hS2 ?_
      simp only [Act.put, List.getElem_toArray, List.getElem_cons_zero, List.getElem_cons_succ, List.setIfInBounds_toArray, List.set_cons_zero, List.set_cons_succ]
      refine wpAnyH_take (i := 16) (v := undef) rfl (by kernel_rfl) (by kernel_rfl) (by kernel_rfl) (fun _ _ _ h => h) (Or.inr ⟨by rfl, rfl⟩) hS2 ?_
      simp only [Act.put, List.getElem_toArray, List.getElem_cons_zero, List.getElem_cons_succ, List.setIfInBounds_toArray, List.set_cons_zero, List.set_cons_succ]
      refine wpAnyH_take (i := 17) (v := undef) rfl (by kernel_rfl) (by kernel_rfl) (by kernel_rfl) (fun _ _ _ h => h) (Or.inr ⟨by rfl, rfl⟩) hS2 ?_
      simp only [Act.put, List.getElem_toArray, List.getElem_cons_zero, List.getElem_cons_succ, List.setIfInBounds_toArray, List.set_cons_zero, List.set_cons_succ]
      refine wpAnyH_take (i := 18) (v := undef) rfl (by kernel_rfl) (by kernel_rfl) (by kernel_rfl) (fun _ _ _ h => h) (Or.inr ⟨by rfl, rfl⟩) hS2 ?_
      simp only [Act.put, List.getElem_toArray, List.getElem_cons_zero, List.getElem_cons_succ, List.setIfInBounds_toArray, List.set_cons_zero, List.set_cons_succ]
      refine wpAnyH_take (i := 19) (v := undef) rfl (by kernel_rfl) (by kernel_rfl) (by kernel_rfl) (fun _ _ _ h => h) (Or.inr ⟨by rfl, rfl⟩) hS2 ?_
      simp only [Act.put, List.getElem_toArray, List.getElem_cons_zero, List.getElem_cons_succ, List.setIfInBounds_toArray, List.set_cons_zero, List.set_cons_succ]
      refine wpAnyH_take (i := 20) (v := undef) rfl (by kernel_rfl) (by kernel_rfl) (by kernel_rfl) (fun _ _ _ h => h) (Or.inr ⟨by rfl, rfl⟩) hS2 ?_
      simp only [Act.put, List.getElem_toArray, List.getElem_cons_zero, List.getElem_cons_succ, List.setIfInBounds_toArray, List.set_cons_zero, List.set_cons_succ]
      refine wpAnyH_take (i := 21) (v := undef) rfl (by kernel_rfl) (by kernel_rfl) (by kernel_rfl) (fun _ _ _ h => h) (Or.inr ⟨by rfl, rfl⟩) hS2 ?_
      simp only [Act.put, List.getElem_toArray, List.getElem_cons_zero, List.getElem_cons_succ, List.setIfInBounds_toArray, List.set_cons_zero, List.set_cons_succ]
      refine wpAnyH_take (i := 22) (v := undef) rfl (by kernel_rfl) (by kernel_rfl) (by kernel_rfl) (fun _ _ _ h => h) (Or.inr ⟨by rfl, rfl⟩) hS2 ?_
      simp only [Act.put, List.getElem_toArray, List.getElem_cons_zero, List.getElem_cons_succ, List.setIfInBounds_toArray, List.set_cons_zero, List.set_cons_succ]
      refine wpAnyH_take (i := 23) (v := undef) rfl (by kernel_rfl) (by kernel_rfl) (by kernel_rfl) (fun _ _ _ h => h) (Or.inr ⟨by rfl, rfl⟩) hS2 ?_
      simp only [Act.put, List.getElem_toArray, List.getElem_cons_zero, List.getElem_cons_succ, List.setIfInBounds_toArray, List.set_cons_zero, List.set_cons_succ]
      refine wpAnyH_take (i := 24) (v := undef) rfl (by kernel_rfl) (by kernel_rfl) (by kernel_rfl) (fun _ _ _ h => h) (Or.inr ⟨by rfl, rfl⟩) hS2 ?_
      simp only [Act.put, List.getElem_toArray, List.getElem_cons_zero, List.getElem_cons_succ, List.setIfInBounds_toArray, List.set_cons_zero, List.set_cons_succ]
      refine wpAnyH_take (i := 25) (v := undef) rfl (by kernel_rfl) (by kernel_rfl) (by kernel_rfl) (fun _ _ _ h => h) (Or.inr ⟨by rfl, rfl⟩) hS2 ?_
      simp only [Act.put, List.getElem_toArray, List.getElem_cons_zero, List.getElem_cons_succ, List.setIfInBounds_toArray, List.set_cons_zero, List.set_cons_succ]
      refine wpAnyH_take (i := 26) (v := undef) rfl (by kernel_rfl) (by kernel_rfl) (by kernel_rfl) (fun _ _ _ h => h) (Or.inr ⟨by rfl, rfl⟩) hS2 ?_
      simp only [Act.put, List.getElem_toArray, List.getElem_cons_zero, List.getElem_cons_succ, List.setIfInBounds_toArray, List.set_cons_zero, List.set_cons_succ]
      refine wpAnyH_take (i := 27) (v := undef) rfl (by kernel_rfl) (by kernel_rfl) (by kernel_rfl) (fun _ _ _ h => h) (Or.inr ⟨by rfl, rfl⟩) hS2 ?_
      simp only [Act.put, List.getElem_toArray, List.getElem_cons_zero, List.getElem_cons_succ, List.setIfInBounds_toArray, List.set_cons_zero, List.set_cons_succ]
      refine wpAnyH_take (i := 28) (v := undef) rfl (by kernel_rfl) (by kernel_rfl) (by kernel_rfl) (fun _ _ _ h => h) (Or.inr ⟨by rfl, rfl⟩) hS2 ?_
      simp only [Act.put, List.getElem_toArray, List.getElem_cons_zero, List.getElem_cons_succ, List.setIfInBounds_toArray, List.set_cons_zero, List.set_cons_succ]
      refine wpAnyH_take (i := 29) (v := undef) rfl (by kernel_rfl) (by kernel_rfl) (by kernel_rfl) (fun _ _ _ h => h) (Or.inr ⟨by rfl, rfl⟩) hS2 ?_
      simp only [Act.put, List.getElem_toArray, List.getElem_cons_zero, List.getElem_cons_succ, List.setIfInBounds_toArray, List.set_cons_zero, List.set_cons_succ]
      refine wpAnyH_take (i := 30) (v := undef) rfl (by kernel_rfl) (by kernel_rfl) (by kernel_rfl) (fun _ _ _ h => h) (Or.inr ⟨by rfl, rfl⟩) hS2 ?_
      simp only [Act.put, List.getElem_toArray, List.getElem_cons_zero, List.getElem_cons_succ, List.setIfInBounds_toArray, List.set_cons_zero, List.set_cons_succ]
      refine wpAnyH_take (i := 31) (v := undef) rfl (by kernel_rfl) (by kernel_rfl) (by kernel_rfl) (fun _ _ _ h => h) (Or.inr ⟨by rfl, rfl⟩) hS2 ?_
      simp only [Act.put, List.getElem_toArray, List.getElem_cons_zero, List.getElem_cons_succ, List.setIfInBounds_toArray, List.set_cons_zero, List.set_cons_succ]
      refine wpAnyH_take (i := 32) (v := undef) rfl (by kernel_rfl) (by kernel_rfl) (by kernel_rfl) (fun _ _ _ h => h) (Or.inr ⟨by rfl, rfl⟩) hS2 ?_
      simp only [Act.put, List.getElem_toArray, List.getElem_cons_zero, List.getElem_cons_succ, List.setIfInBounds_toArray, List.set_cons_zero, List.set_cons_succ]
      refine wpAnyH_take (i := 33) (v := undef) rfl (by kernel_rfl) (by kernel_rfl) (by kernel_rfl) (fun _ _ _ h => h) (Or.inr ⟨by rfl, rfl⟩) hS2 ?_
      simp only [Act.put, List.getElem_toArray, List.getElem_cons_zero, List.getElem_cons_succ, List.setIfInBounds_toArray, List.set_cons_zero, List.set_cons_succ]
      refine wpAnyH_take (i := 34) (v := undef) rfl (by kernel_rfl) (by kernel_rfl) (by kernel_rfl) (fun _ _ _ h => h) (Or.inr ⟨by rfl, rfl⟩) hS2 ?_
      simp only [Act.put, List.getElem_toArray, List.getElem_cons_zero, List.getElem_cons_succ, List.setIfInBounds_toArray, List.set_cons_zero, List.set_cons_succ]
      refine wpAnyH_take (i := 35) (v := undef) rfl (by kernel_rfl) (by kernel_rfl) (by kernel_rfl) (fun _ _ _ h => h) (Or.inr ⟨by rfl, rfl⟩) hS2 ?_
      simp only [Act.put, List.getElem_toArray, List.getElem_cons_zero, List.getElem_cons_succ, List.setIfInBounds_toArray, List.set_cons_zero, List.set_cons_succ]
      refine wpAnyH_take (i := 36) (v := undef) rfl (by kernel_rfl) (by kernel_rfl) (by kernel_rfl) (fun _ _ _ h => h) (Or.inr ⟨by rfl, rfl⟩) hS2 ?_
      simp only [Act.put, List.getElem_toArray, List.getElem_cons_zero, List.getElem_cons_succ, List.setIfInBounds_toArray, List.set_cons_zero, List.set_cons_succ]
      refine wpAnyH_take (i := 37) (v := undef) rfl (by kernel_rfl) (by kernel_rfl) (by kernel_rfl) (fun _ _ _ h => h) (Or.inr ⟨by rfl, rfl⟩) hS2 ?_
      simp only [Act.put, List.getElem_toArray, List.getElem_cons_zero, List.getElem_cons_succ, List.setIfInBounds_toArray, List.set_cons_zero, List.set_cons_succ]
      refine wpAnyH_take (i := 38) (v := undef) rfl (by kernel_rfl) (by kernel_rfl) (by kernel_rfl) (fun _ _ _ h => h) (Or.inr ⟨by rfl, rfl⟩) hS2 ?_
      simp only [Act.put, List.getElem_toArray, List.getElem_cons_zero, List.getElem_cons_succ, List.setIfInBounds_toArray, List.set_cons_zero, List.set_cons_succ]
      refine wpAnyH_take (i := 39) (v := undef) rfl (by kernel_rfl) (by kernel_rfl) (by kernel_rfl) (fun _ _ _ h => h) (Or.inr ⟨by rfl, rfl⟩) hS2 ?_
      simp only [Act.put, List.getElem_toArray, List.getElem_cons_zero, List.getElem_cons_succ, List.setIfInBounds_toArray, List.set_cons_zero, List.set_cons_succ]
      refine wpAnyH_take (i := 40) (v := ?_) rfl (by kernel_rfl) (by kernel_rfl) (by kernel_rfl) (fun _ _ _ h => h) (Or.inl ⟨by rfl, ?_⟩) hS2 ?_
      rotate_left
      · intro wx hSx
        try dsimp only at hSx
        go_simp
        try with_reducible rfl
      simp only [Act.put, List.getElem_toArray, List.getElem_cons_zero, List.getElem_cons_succ, List.setIfInBounds_toArray, List.set_cons_zero, List.set_cons_succ]
      refine wpAnyH_take (i := 41) (v := ?_) rfl (by kernel_rfl) (by kernel_rfl) (by kernel_rfl) (fun _ _ _ h => h) (Or.inl ⟨by rfl, ?_⟩) hS2 ?_
      rotate_left
      · intro wx hSx
        try dsimp only at hSx
        go_simp
        try with_reducible rfl
      simp only [Act.put, List.getElem_toArray, List.getElem_cons_zero, List.getElem_cons_succ, List.setIfInBounds_toArray, List.set_cons_zero, List.set_cons_succ]
      refine wpAnyH_take (i := 42) (v := ?_) rfl (by kernel_rfl) (by kernel_rfl) (by kernel_rfl) (fun _ _ _ h => h) (Or.inl ⟨by rfl, ?_⟩) hS2 ?_
      rotate_left
      · intro wx hSx
        try dsimp only at hSx
        go_simp
        try with_reducible rfl
      simp only [Act.put, List.getElem_toArray, List.getElem_cons_zero, List.getElem_cons_succ, List.setIfInBounds_toArray, List.set_cons_zero, List.set_cons_succ]
      refine wpAnyH_done (by kernel_rfl) ?_ _
      refine NoPanic.normal ?_
      go_wp2_with fail
      go_ret
      exact ⟨rfl, hB7.trans (hS2.mono hB7.size)⟩
    | some f =>
      obtain ⟨j, hix, hj, hLj⟩ := idx_some hl
      have HL := Lib.hid hl
      have HX := Lib.hid hix
      have HJ := Lib.hid hLj
      have hfs : f.s.size + f.l.size ≤ usd S.L := usd_le (lkF_some hl).1
      have nj0 : (0 : Int) ≤ (j : Int) := by omega
      have nj1 : (j : Int) < (S.L.length : Int) := by omega
      clear hl hix hLj
      go_enter Try.func4, Try.ntmps4
      go_wp2_with fail
      refine FW.out.mono ?_
      rw [HF.out]
      rintro e w1 ⟨rfl, hb1⟩
      go_wp2_with fail
      refine (MD.out _ hb1).mono ?_
      rintro e w2 ⟨p, b, lo, sl, rfl, hp, hb, hplo, hblo, hD, hFs, hb2⟩
      have HD2 := Lib.hid hD
      have HF2 := Lib.hid hFs
      obtain ⟨SA, scap, hsl, -, -⟩ := hFs
      subst hsl
      have hB2 : Below w.heap.size w w2 := hb1.trans (hb2.mono hb1.size)
      have hp0 : w.heap.size ≤ p := Nat.le_trans hb1.size hp
      have hb0 : w.heap.size ≤ b := Nat.le_trans hb1.size hb
      have hp2 : p < w2.heap.size := hD.blk.lt
      have hb2' : b < w2.heap.size := hD.own.lt
      clear hD hb1 hb2 hp hb
      go_wp2_with fail
      obtain ⟨W, hW⟩ : ∃ W, W = w2.alloc (.cells #[(.slice SA S.L.length scap), .int .i64 S.lim, .int .i64 S.fuse, .int .i64 S.ops, .int .i64 S.reads, .bool S.down] 30) := ⟨_, rfl⟩
      have HDW := Lib.hid (show DiskAt W p b S by rw [hW]; exact HD2.out.alloc _)
      have HFW := Lib.hid (show FsAt W lo (.slice SA S.L.length scap) S.L by rw [hW]; exact HF2.out.alloc _)
      have BW := Lib.hid (show Blk W w2.heap.size 30 (dC (.slice SA S.L.length scap) S) by rw [hW]; exact Blk.new _ _ _)
      have hBW : Below w.heap.size w W := by rw [hW]; exact hB2.alloc hB2.size _
      rw [← hW]
      clear hW hB2 HD2 HF2
      refine (read_any HDW.out (HIV.out.bd (by omega)) HNS.out a ha0 ha1).mono ?_
      rintro e w3 ⟨rfl, hD3, K3⟩
      have HD3 := Lib.hid hD3
      have HF3 := Lib.hid (K3.fs HFW.out hplo hblo)
      have B3 := Lib.hid (K3.blk BW.out (by omega) (by omega))
      have hB3 : Below w.heap.size w w3 := hBW.trans (K3.below hp0 hb0 hBW.size)
      have hq3 : w2.heap.size < w3.heap.size := B3.out.lt
      clear hD3 K3 hBW HDW HFW BW
      have d0 : w3.cell? ⟨w2.heap.size, 0, none⟩ = some ((.slice SA S.L.length scap)) := B3.out.cell 0
      have d1 : w3.cell? ⟨w2.heap.size, 1, none⟩ = some (.int .i64 S.lim) := B3.out.cell 1
      have d2 : w3.cell? ⟨w2.heap.size, 2, none⟩ = some (.int .i64 S.fuse) := B3.out.cell 2
      have d3 : w3.cell? ⟨w2.heap.size, 3, none⟩ = some (.int .i64 S.ops) := B3.out.cell 3
      have d4 : w3.cell? ⟨w2.heap.size, 4, none⟩ = some (.int .i64 S.reads) := B3.out.cell 4
      have d5 : w3.cell? ⟨w2.heap.size, 5, none⟩ = some (.bool S.down) := B3.out.cell 5
      go_wp2_with fail
      refine (rread_any (rf_of HF3.out (HIV.out.bd (by omega)) (by omega) HIV.out.names) a ha0 ha1 HR10 HR11).mono ?_
      rintro e w4 ⟨rfl, hb4⟩
      have HD4 := Lib.hid (HD3.out.belowS hb4)
      have HF4 := Lib.hid (HF3.out.below hb4)
      have B4 := Lib.hid (B3.out.below' hb4)
      have hB4 : Below w.heap.size w w4 := hB3.trans (hb4.mono hB3.size)
      have hq4 : w2.heap.size < w4.heap.size := B4.out.lt
      clear hb4 hB3 HD3 HF3 B3 d0 d1 d2 d3 d4 d5
      obtain ⟨T, hT⟩ : ∃ T, doRd S n a = T := ⟨_, rfl⟩
      have HTL := Lib.hid (show T.L = S.L by rw [← hT]; exact doRd_L S n a)
      rw [hT] at HD4
      go_wp2_with fail
      clear hT
      obtain ⟨W5, hW5⟩ : ∃ W5, W5 = w4.alloc (.cells #[(.slice SA S.L.length scap), .int .i64 T.lim, .int .i64 T.fuse, .int .i64 T.ops, .int .i64 T.reads, .bool T.down] 30) := ⟨_, rfl⟩
      have HD5 := Lib.hid (show DiskAt W5 p b T by rw [hW5]; exact HD4.out.alloc _)
      have HF5 := Lib.hid (show FsAt W5 lo (.slice SA S.L.length scap) S.L by rw [hW5]; exact HF4.out.alloc _)
      have B5 := Lib.hid (show Blk W5 w2.heap.size 30 (dC (.slice SA S.L.length scap) S) by rw [hW5]; exact B4.out.alloc _)
      have hB5 : Below w.heap.size w W5 := by rw [hW5]; exact hB4.alloc hB4.size _
      rw [← hW5]
      clear hW5 hB4 HD4 HF4 B4
      refine (size_f HD5.out (by rw [HTL.out]; exact HL.out) HNS.out).mono ?_
      rintro e w6 ⟨rfl, hb6⟩
      have HD6 := Lib.hid (HD5.out.belowS hb6)
      have HF6 := Lib.hid (HF5.out.below hb6)
      have B6 := Lib.hid (B5.out.below' hb6)
      have hB6 : Below w.heap.size w w6 := hB5.trans (hb6.mono hB5.size)
      have hq6 : w2.heap.size < w6.heap.size := B6.out.lt
      clear hb6 hB5 HD5 HF5 B5
      have d0 : w6.cell? ⟨w2.heap.size, 0, none⟩ = some ((.slice SA S.L.length scap)) := B6.out.cell 0
      have d1 : w6.cell? ⟨w2.heap.size, 1, none⟩ = some (.int .i64 S.lim) := B6.out.cell 1
      have d2 : w6.cell? ⟨w2.heap.size, 2, none⟩ = some (.int .i64 S.fuse) := B6.out.cell 2
      have d3 : w6.cell? ⟨w2.heap.size, 3, none⟩ = some (.int .i64 S.ops) := B6.out.cell 3
      have d4 : w6.cell? ⟨w2.heap.size, 4, none⟩ = some (.int .i64 S.reads) := B6.out.cell 4
      have d5 : w6.cell? ⟨w2.heap.size, 5, none⟩ = some (.bool S.down) := B6.out.cell 5
      go_wp2_with fail
      refine (at_any HF6.out n (by omega)).mono ?_
      rw [HX.out]
      rintro e w7 ⟨rfl, hb7⟩
      have HD7 := Lib.hid (HD6.out.belowS hb7)
      have HF7 := Lib.hid (HF6.out.below hb7)
      have B7 := Lib.hid (B6.out.below' hb7)
      have hB7 : Below w.heap.size w w7 := hB6.trans (hb7.mono hB6.size)
      have hq7 : w2.heap.size < w7.heap.size := B7.out.lt
      clear hb7 hB6 HD6 HF6 B6 d0 d1 d2 d3 d4 d5
      obtain ⟨g, off, eg, hg, q0, q1, q2⟩ := HF7.out.cells hj HJ.out
      subst eg
      have d0 : w7.cell? ⟨w2.heap.size, 0, none⟩ = some (.slice (some ⟨g, off, none⟩) S.L.length scap) := B7.out.cell 0
      go_wp2_with (first | (go_at_call 24; refine (right_any n _ hn').mono ?_; rintro e wb ⟨rfl, rfl⟩) | (go_at_call 25; refine (right_ref n _ hn').mono ?_; rintro e wb ⟨rfl, rfl⟩))
      refine wp_region_noPanic ?_
      refine wp_region_held_drew (S := fun w' => Below w7.heap.size w7 w' ∧ w'.cell? ⟨w2.heap.size, 0, none⟩ = some (.slice (some ⟨g, off, none⟩) S.L.length scap) ∧ w'.cell? ⟨g, off + j * 3, none⟩ = some (.string f.n) ∧ w'.cell? ⟨g, off + j * 3 + 1, none⟩ = some (.string f.s) ∧ w'.cell? ⟨g, off + j * 3 + 2, none⟩ = some (.string f.l)) (by kernel_rfl) ⟨below_draw', d0, q0, q1, q2⟩ (fun hS => ?_)
      refine wpAnyH_ready (rs := [0]) (by kernel_rfl) (by simp) ?_
      refine AllReadyH.cons rfl (fun K hK => ?_) AllReadyH.nil
      simp only [List.getElem_toArray, List.getElem_cons_zero]
      go_simp
      refine (AL.out _).mono ?_
      rintro e wa0 ⟨rfl, ha0⟩
      refine hK.out _ _ ⟨(hS.1).trans ((ha0).mono (hS.1).size), ((ha0).cell (cell_lt hS.2.1)).trans hS.2.1, ((ha0).cell (cell_lt hS.2.2.1)).trans hS.2.2.1, ((ha0).cell (cell_lt hS.2.2.2.1)).trans hS.2.2.2.1, ((ha0).cell (cell_lt hS.2.2.2.2)).trans hS.2.2.2.2⟩ (fun hS1 => ?_)
      clear hK
      refine wpAnyH_take (i := 1) (v := ?_) rfl (by kernel_rfl) (by kernel_rfl) (by kernel_rfl) (fun _ _ _ h => h) (Or.inl ⟨by rfl, ?_⟩) hS1 ?_
      rotate_left
      · intro wx hSx
        try dsimp only at hSx
        go_simp
        try with_reducible rfl
      simp only [Act.put, List.getElem_toArray, List.getElem_cons_zero, List.getElem_cons_succ, List.setIfInBounds_toArray, List.set_cons_zero, List.set_cons_succ]
      refine wpAnyH_take (i := 2) (v := ?_) rfl (by kernel_rfl) (by kernel_rfl) (by kernel_rfl) (fun _ _ _ h => h) (Or.inl ⟨by rfl, ?_⟩) hS1 ?_
      rotate_left
      · intro wx hSx
        try dsimp only at hSx
        go_simp
        try with_reducible rfl
      simp only [Act.put, List.getElem_toArray, List.getElem_cons_zero, List.getElem_cons_succ, List.setIfInBounds_toArray, List.set_cons_zero, List.set_cons_succ]
      refine wpAnyH_take (i := 3) (v := ?_) rfl (by kernel_rfl) (by kernel_rfl) (by kernel_rfl) (fun _ _ _ h => h) (Or.inl ⟨by rfl, ?_⟩) hS1 ?_
      rotate_left
      · intro wx hSx
        try dsimp only at hSx
        go_simp
        try with_reducible rfl
      simp only [Act.put, List.getElem_toArray, List.getElem_cons_zero, List.getElem_cons_succ, List.setIfInBounds_toArray, List.set_cons_zero, List.set_cons_succ]
      refine wpAnyH_take (i := 4) (v := ?_) rfl (by kernel_rfl) (by kernel_rfl) (by kernel_rfl) (fun _ _ _ h => h) (Or.inl ⟨by rfl, ?_⟩) hS1 ?_
      rotate_left
      · intro wx hSx
        try dsimp only at hSx
        go_simp
        try with_reducible rfl
      simp only [Act.put, List.getElem_toArray, List.getElem_cons_zero, List.getElem_cons_succ, List.setIfInBounds_toArray, List.set_cons_zero, List.set_cons_succ]
      refine wpAnyH_take (i := 5) (v := undef) rfl (by kernel_rfl) (by kernel_rfl) (by kernel_rfl) (fun _ _ _ h => h) (Or.inr ⟨by rfl, rfl⟩) hS1 ?_
      simp only [Act.put, List.getElem_toArray, List.getElem_cons_zero, List.getElem_cons_succ, List.setIfInBounds_toArray, List.set_cons_zero, List.set_cons_succ]
      refine wpAnyH_take (i := 6) (v := undef) rfl (by kernel_rfl) (by kernel_rfl) (by kernel_rfl) (fun _ _ _ h => h) (Or.inr ⟨by rfl, rfl⟩) hS1 ?_
      simp only [Act.put, List.getElem_toArray, List.getElem_cons_zero, List.getElem_cons_succ, List.setIfInBounds_toArray, List.set_cons_zero, List.set_cons_succ]
      refine wpAnyH_take (i := 7) (v := ?_) rfl (by kernel_rfl) (by kernel_rfl) (by kernel_rfl) (fun _ _ _ h => h) (Or.inl ⟨by rfl, ?_⟩) hS1 ?_
      rotate_left
      · intro wx hSx
        try dsimp only at hSx
        go_simp
        try with_reducible rfl
      simp only [Act.put, List.getElem_toArray, List.getElem_cons_zero, List.getElem_cons_succ, List.setIfInBounds_toArray, List.set_cons_zero, List.set_cons_succ]
      refine wpAnyH_take (i := 8) (v := ?_) rfl (by kernel_rfl) (by kernel_rfl) (by kernel_rfl) (fun _ _ _ h => h) (Or.inl ⟨by rfl, ?_⟩) hS1 ?_
      rotate_left
      · intro wx hSx
        try dsimp only at hSx
        go_simp
        try with_reducible rfl
      simp only [Act.put, List.getElem_toArray, List.getElem_cons_zero, List.getElem_cons_succ, List.setIfInBounds_toArray, List.set_cons_zero, List.set_cons_succ]
      refine wpAnyH_take (i := 9) (v := undef) rfl (by kernel_rfl) (by kernel_rfl) (by kernel_rfl) (fun _ _ _ h => h) (Or.inr ⟨by rfl, rfl⟩) hS1 ?_
      simp only [Act.put, List.getElem_toArray, List.getElem_cons_zero, List.getElem_cons_succ, List.setIfInBounds_toArray, List.set_cons_zero, List.set_cons_succ]
      refine wpAnyH_take (i := 10) (v := undef) rfl (by kernel_rfl) (by kernel_rfl) (by kernel_rfl) (fun _ _ _ h => h) (Or.inr ⟨by rfl, rfl⟩) hS1 ?_
      simp only [Act.put, List.getElem_toArray, List.getElem_cons_zero, List.getElem_cons_succ, List.setIfInBounds_toArray, List.set_cons_zero, List.set_cons_succ]
      refine wpAnyH_take (i := 11) (v := undef) rfl (by kernel_rfl) (by kernel_rfl) (by kernel_rfl) (fun _ _ _ h => h) (Or.inr ⟨by rfl, rfl⟩) hS1 ?_
      simp only [Act.put, List.getElem_toArray, List.getElem_cons_zero, List.getElem_cons_succ, List.setIfInBounds_toArray, List.set_cons_zero, List.set_cons_succ]
      refine wpAnyH_take (i := 12) (v := undef) rfl (by kernel_rfl) (by kernel_rfl) (by kernel_rfl) (fun _ _ _ h => h) (Or.inr ⟨by rfl, rfl⟩) hS1 ?_
      simp only [Act.put, List.getElem_toArray, List.getElem_cons_zero, List.getElem_cons_succ, List.setIfInBounds_toArray, List.set_cons_zero, List.set_cons_succ]
      refine wpAnyH_take (i := 13) (v := ?_) rfl (by kernel_rfl) (by kernel_rfl) (by kernel_rfl) (fun _ _ _ h => h) (Or.inl ⟨by rfl, ?_⟩) hS1 ?_
      rotate_left
      · intro wx hSx
        try dsimp only at hSx
        go_simp
        try with_reducible rfl
      simp only [Act.put, List.getElem_toArray, List.getElem_cons_zero, List.getElem_cons_succ, List.setIfInBounds_toArray, List.set_cons_zero, List.set_cons_succ]
      refine wpAnyH_take (i := 14) (v := ?_) rfl (by kernel_rfl) (by kernel_rfl) (by kernel_rfl) (fun _ _ _ h => h) (Or.inl ⟨by rfl, ?_⟩) hS1 ?_
      rotate_left
      · intro wx hSx
        try dsimp only at hSx
        go_simp
        try with_reducible rfl
      simp only [Act.put, List.getElem_toArray, List.getElem_cons_zero, List.getElem_cons_succ, List.setIfInBounds_toArray, List.set_cons_zero, List.set_cons_succ]
      refine wpAnyH_take (i := 15) (v := ?_) rfl (by kernel_rfl) (by kernel_rfl) (by kernel_rfl) (fun _ _ _ h => h) (Or.inl ⟨by rfl, ?_⟩) hS1 ?_
      rotate_left
      · intro wx hSx
        try dsimp only at hSx
        go_simp
        try with_reducible rfl
      simp only [Act.put, List.getElem_toArray, List.getElem_cons_zero, List.getElem_cons_succ, List.setIfInBounds_toArray, List.set_cons_zero, List.set_cons_succ]
      refine wpAnyH_take (i := 16) (v := ?_) rfl (by kernel_rfl) (by kernel_rfl) (by kernel_rfl) (fun _ _ _ h => h) (Or.inl ⟨by rfl, ?_⟩) hS1 ?_
      rotate_left
      · intro wx hSx
        try dsimp only at hSx
        go_simp
        try with_reducible rfl
      simp only [Act.put, List.getElem_toArray, List.getElem_cons_zero, List.getElem_cons_succ, List.setIfInBounds_toArray, List.set_cons_zero, List.set_cons_succ]
      refine wpAnyH_take (i := 17) (v := ?_) rfl (by kernel_rfl) (by kernel_rfl) (by kernel_rfl) (fun _ _ _ h => h) (Or.inl ⟨by rfl, ?_⟩) hS1 ?_
      rotate_left
      · intro wx hSx
        try dsimp only at hSx
        go_simp
        try with_reducible rfl
      simp only [Act.put, List.getElem_toArray, List.getElem_cons_zero, List.getElem_cons_succ, List.setIfInBounds_toArray, List.set_cons_zero, List.set_cons_succ]
      refine wpAnyH_take (i := 18) (v := ?_) rfl (by kernel_rfl) (by kernel_rfl) (by kernel_rfl) (fun _ _ _ h => h) (Or.inl ⟨by rfl, ?_⟩) hS1 ?_
      rotate_left
      · intro wx hSx
        try dsimp only at hSx
        go_simp
        try with_reducible rfl
      simp only [Act.put, List.getElem_toArray, List.getElem_cons_zero, List.getElem_cons_succ, List.setIfInBounds_toArray, List.set_cons_zero, List.set_cons_succ]
      refine wpAnyH_take (i := 19) (v := ?_) rfl (by kernel_rfl) (by kernel_rfl) (by kernel_rfl) (fun _ _ _ h => h) (Or.inl ⟨by rfl, ?_⟩) hS1 ?_
      rotate_left
      · intro wx hSx
        try dsimp only at hSx
        go_simp
        try with_reducible rfl
      simp only [Act.put, List.getElem_toArray, List.getElem_cons_zero, List.getElem_cons_succ, List.setIfInBounds_toArray, List.set_cons_zero, List.set_cons_succ]
      refine wpAnyH_take (i := 20) (v := ?_) rfl (by kernel_rfl) (by kernel_rfl) (by kernel_rfl) (fun _ _ _ h => h) (Or.inl ⟨by rfl, ?_⟩) hS1 ?_
      rotate_left
      · intro wx hSx
        try dsimp only at hSx
        go_simp
        try with_reducible rfl
      simp only [Act.put, List.getElem_toArray, List.getElem_cons_zero, List.getElem_cons_succ, List.setIfInBounds_toArray, List.set_cons_zero, List.set_cons_succ]
      refine wpAnyH_take (i := 21) (v := ?_) rfl (by kernel_rfl) (by kernel_rfl) (by kernel_rfl) (fun _ _ _ h => h) (Or.inl ⟨by rfl, ?_⟩) hS1 ?_
      rotate_left
      · intro wx hSx
        try dsimp only at hSx
        go_simp
        try with_reducible rfl
      simp only [Act.put, List.getElem_toArray, List.getElem_cons_zero, List.getElem_cons_succ, List.setIfInBounds_toArray, List.set_cons_zero, List.set_cons_succ]
      refine wpAnyH_take (i := 22) (v := ?_) rfl (by kernel_rfl) (by kernel_rfl) (by kernel_rfl) (fun _ _ _ h => h) (Or.inl ⟨by rfl, ?_⟩) hS1 ?_
      rotate_left
      · intro wx hSx
        try dsimp only at hSx
        go_simp
        try with_reducible rfl
      simp only [Act.put, List.getElem_toArray, List.getElem_cons_zero, List.getElem_cons_succ, List.setIfInBounds_toArray, List.set_cons_zero, List.set_cons_succ]
      refine wpAnyH_ready (rs := [23]) (by kernel_rfl) (by simp) ?_
      refine AllReadyH.cons rfl (fun K hK => ?_) AllReadyH.nil
      simp only [List.getElem_toArray, List.getElem_cons_zero, List.getElem_cons_succ]
      go_simp
      refine (rbytes_any f _ (by omega)).mono ?_
      rintro e wa23 ⟨rfl, ha23⟩
      refine hK.out _ _ ⟨(hS1.1).trans ((ha23).mono (hS1.1).size), ((ha23).cell (cell_lt hS1.2.1)).trans hS1.2.1, ((ha23).cell (cell_lt hS1.2.2.1)).trans hS1.2.2.1, ((ha23).cell (cell_lt hS1.2.2.2.1)).trans hS1.2.2.2.1, ((ha23).cell (cell_lt hS1.2.2.2.2)).trans hS1.2.2.2.2⟩ (fun hS2 => ?_)
      clear hK
      refine wpAnyH_take (i := 24) (v := ?_) rfl (by kernel_rfl) (by kernel_rfl) (by kernel_rfl) (fun _ _ _ h => h) (Or.inl ⟨by rfl, ?_⟩) hS2 ?_
      rotate_left
      · intro wx hSx
        try dsimp only at hSx
        go_simp
        try with_reducible rfl
      simp only [Act.put, List.getElem_toArray, List.getElem_cons_zero, List.getElem_cons_succ, List.setIfInBounds_toArray, List.set_cons_zero, List.set_cons_succ]
      refine wpAnyH_take (i := 25) (v := ?_) rfl (by kernel_rfl) (by kernel_rfl) (by kernel_rfl) (fun _ _ _ h => h) (Or.inl ⟨by rfl, ?_⟩) hS2 ?_
      rotate_left
      · intro wx hSx
        try dsimp only at hSx
        go_simp
        try with_reducible rfl
      simp only [Act.put, List.getElem_toArray, List.getElem_cons_zero, List.getElem_cons_succ, List.setIfInBounds_toArray, List.set_cons_zero, List.set_cons_succ]
      refine wpAnyH_take (i := 26) (v := ?_) rfl (by kernel_rfl) (by kernel_rfl) (by kernel_rfl) (fun _ _ _ h => h) (Or.inl ⟨by rfl, ?_⟩) hS2 ?_
      rotate_left
      · intro wx hSx
        try dsimp only at hSx
        go_simp
        try with_reducible rfl
      simp only [Act.put, List.getElem_toArray, List.getElem_cons_zero, List.getElem_cons_succ, List.setIfInBounds_toArray, List.set_cons_zero, List.set_cons_succ]
      refine wpAnyH_take (i := 27) (v := ?_) rfl (by kernel_rfl) (by kernel_rfl) (by kernel_rfl) (fun _ _ _ h => h) (Or.inl ⟨by rfl, ?_⟩) hS2 ?_
      rotate_left
      · intro wx hSx
        try dsimp only at hSx
        go_simp
        try with_reducible rfl
      simp only [Act.put, List.getElem_toArray, List.getElem_cons_zero, List.getElem_cons_succ, List.setIfInBounds_toArray, List.set_cons_zero, List.set_cons_succ]
      refine wpAnyH_take (i := 28) (v := ?_) rfl (by kernel_rfl) (by kernel_rfl) (by kernel_rfl) (fun _ _ _ h => h) (Or.inl ⟨by rfl, ?_⟩) hS2 ?_
      rotate_left
      · intro wx hSx
        try dsimp only at hSx
        go_simp
        try with_reducible rfl
      simp only [Act.put, List.getElem_toArray, List.getElem_cons_zero, List.getElem_cons_succ, List.setIfInBounds_toArray, List.set_cons_zero, List.set_cons_succ]
      refine wpAnyH_take (i := 29) (v := ?_) rfl (by kernel_rfl) (by kernel_rfl) (by kernel_rfl) (fun _ _ _ h => h) (Or.inl ⟨by rfl, ?_⟩) hS2 ?_
      rotate_left
      · intro wx hSx
        try dsimp only at hSx
        go_simp
        try with_reducible rfl
      simp only [Act.put, List.getElem_toArray, List.getElem_cons_zero, List.getElem_cons_succ, List.setIfInBounds_toArray, List.set_cons_zero, List.set_cons_succ]
      refine wpAnyH_take (i := 31) (v := ?_) rfl (by kernel_rfl) (by kernel_rfl) (by kernel_rfl) (fun _ _ _ h => h) (Or.inl ⟨by rfl, ?_⟩) hS2 ?_
      rotate_left
      · intro wx hSx
        try dsimp only at hSx
        go_simp
        try with_reducible rfl
      simp only [Act.put, List.getElem_toArray, List.getElem_cons_zero, List.getElem_cons_succ, List.setIfInBounds_toArray, List.set_cons_zero, List.set_cons_succ]
      refine wpAnyH_take (i := 32) (v := ?_) rfl (by kernel_rfl) (by kernel_rfl) (by kernel_rfl) (fun _ _ _ h => h) (Or.inl ⟨by rfl, ?_⟩) hS2 ?_
      rotate_left
      · intro wx hSx
        try dsimp only at hSx
        go_simp
        try with_reducible rfl
      simp only [Act.put, List.getElem_toArray, List.getElem_cons_zero, List.getElem_cons_succ, List.setIfInBounds_toArray, List.set_cons_zero, List.set_cons_succ]
      refine wpAnyH_take (i := 33) (v := ?_) rfl (by kernel_rfl) (by kernel_rfl) (by kernel_rfl) (fun _ _ _ h => h) (Or.inl ⟨by rfl, ?_⟩) hS2 ?_
      rotate_left
      · intro wx hSx
        try dsimp only at hSx
        go_simp
        try with_reducible rfl
      simp only [Act.put, List.getElem_toArray, List.getElem_cons_zero, List.getElem_cons_succ, List.setIfInBounds_toArray, List.set_cons_zero, List.set_cons_succ]
      refine wpAnyH_take (i := 34) (v := ?_) rfl (by kernel_rfl) (by kernel_rfl) (by kernel_rfl) (fun _ _ _ h => h) (Or.inl ⟨by rfl, ?_⟩) hS2 ?_
      rotate_left
      · intro wx hSx
        try dsimp only at hSx
        go_simp
        try with_reducible rfl
      simp only [Act.put, List.getElem_toArray, List.getElem_cons_zero, List.getElem_cons_succ, List.setIfInBounds_toArray, List.set_cons_zero, List.set_cons_succ]
      refine wpAnyH_take (i := 35) (v := ?_) rfl (by kernel_rfl) (by kernel_rfl) (by kernel_rfl) (fun _ _ _ h => h) (Or.inl ⟨by rfl, ?_⟩) hS2 ?_
      rotate_left
      · intro wx hSx
        try dsimp only at hSx
        go_simp
        try with_reducible rfl
      simp only [Act.put, List.getElem_toArray, List.getElem_cons_zero, List.getElem_cons_succ, List.setIfInBounds_toArray, List.set_cons_zero, List.set_cons_succ]
      refine wpAnyH_take (i := 36) (v := ?_) rfl (by kernel_rfl) (by kernel_rfl) (by kernel_rfl) (fun _ _ _ h => h) (Or.inl ⟨by rfl, ?_⟩) hS2 ?_
      rotate_left
      · intro wx hSx
        try dsimp only at hSx
        go_simp
        try with_reducible rfl
      simp only [Act.put, List.getElem_toArray, List.getElem_cons_zero, List.getElem_cons_succ, List.setIfInBounds_toArray, List.set_cons_zero, List.set_cons_succ]
      refine wpAnyH_take (i := 37) (v := ?_) rfl (by kernel_rfl) (by kernel_rfl) (by kernel_rfl) (fun _ _ _ h => h) (Or.inl ⟨by rfl, ?_⟩) hS2 ?_
      rotate_left
      · intro wx hSx
        try dsimp only at hSx
        go_simp
        try with_reducible rfl
      simp only [Act.put, List.getElem_toArray, List.getElem_cons_zero, List.getElem_cons_succ, List.setIfInBounds_toArray, List.set_cons_zero, List.set_cons_succ]
      refine wpAnyH_ready (rs := [30]) (by kernel_rfl) (by simp) ?_
      refine AllReadyH.cons rfl (fun K hK => ?_) AllReadyH.nil
      simp only [List.getElem_toArray, List.getElem_cons_zero, List.getElem_cons_succ]
      go_simp
      refine (loose_f (HD7.out.belowS hS2.1) (by rw [HTL.out]; exact HL.out) HNS.out (by omega)).mono ?_
      rintro e wa30 ⟨rfl, ha30⟩
      refine hK.out _ _ ⟨(hS2.1).trans ((ha30).mono (hS2.1).size), ((ha30).cell (cell_lt hS2.2.1)).trans hS2.2.1, ((ha30).cell (cell_lt hS2.2.2.1)).trans hS2.2.2.1, ((ha30).cell (cell_lt hS2.2.2.2.1)).trans hS2.2.2.2.1, ((ha30).cell (cell_lt hS2.2.2.2.2)).trans hS2.2.2.2.2⟩ (fun hS3 => ?_)
      clear hK
      refine wpAnyH_take (i := 38) (v := ?_) rfl (by kernel_rfl) (by kernel_rfl) (by kernel_rfl) (fun _ _ _ h => h) (Or.inl ⟨by rfl, ?_⟩) hS3 ?_
      rotate_left
      · intro wx hSx
        try dsimp only at hSx
        go_simp
        try with_reducible rfl
      simp only [Act.put, List.getElem_toArray, List.getElem_cons_zero, List.getElem_cons_succ, List.setIfInBounds_toArray, List.set_cons_zero, List.set_cons_succ]
      refine wpAnyH_take (i := 39) (v := ?_) rfl (by kernel_rfl) (by kernel_rfl) (by kernel_rfl) (fun _ _ _ h => h) (Or.inl ⟨by rfl, ?_⟩) hS3 ?_
      rotate_left
      · intro wx hSx
        try dsimp only at hSx
        go_simp
        try with_reducible rfl
      simp only [Act.put, List.getElem_toArray, List.getElem_cons_zero, List.getElem_cons_succ, List.setIfInBounds_toArray, List.set_cons_zero, List.set_cons_succ]
      refine wpAnyH_take (i := 40) (v := ?_) rfl (by kernel_rfl) (by kernel_rfl) (by kernel_rfl) (fun _ _ _ h => h) (Or.inl ⟨by rfl, ?_⟩) hS3 ?_
      rotate_left
      · intro wx hSx
        try dsimp only at hSx
        go_simp
        try with_reducible rfl
      simp only [Act.put, List.getElem_toArray, List.getElem_cons_zero, List.getElem_cons_succ, List.setIfInBounds_toArray, List.set_cons_zero, List.set_cons_succ]
      refine wpAnyH_take (i := 41) (v := ?_) rfl (by kernel_rfl) (by kernel_rfl) (by kernel_rfl) (fun _ _ _ h => h) (Or.inl ⟨by rfl, ?_⟩) hS3 ?_
      rotate_left
      · intro wx hSx
        try dsimp only at hSx
        go_simp
        try with_reducible rfl
      simp only [Act.put, List.getElem_toArray, List.getElem_cons_zero, List.getElem_cons_succ, List.setIfInBounds_toArray, List.set_cons_zero, List.set_cons_succ]
      refine wpAnyH_take (i := 42) (v := ?_) rfl (by kernel_rfl) (by kernel_rfl) (by kernel_rfl) (fun _ _ _ h => h) (Or.inl ⟨by rfl, ?_⟩) hS3 ?_
      rotate_left
      · intro wx hSx
        try dsimp only at hSx
        go_simp
        try with_reducible rfl
      simp only [Act.put, List.getElem_toArray, List.getElem_cons_zero, List.getElem_cons_succ, List.setIfInBounds_toArray, List.set_cons_zero, List.set_cons_succ]
      refine wpAnyH_done (by kernel_rfl) ?_ _
      refine NoPanic.normal ?_
      go_wp2_with fail
      go_ret
      exact ⟨rfl, hB7.trans (hS3.1.mono hB7.size)⟩
end Go.Proofs.Ytgkphogefpmeaaa
