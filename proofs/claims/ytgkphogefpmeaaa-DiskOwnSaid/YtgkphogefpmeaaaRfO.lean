/- The walk of DiskCrashes. -/
import Derived.Test.YtgkphogefpmeaaaRfN
namespace Go.Proofs.Ytgkphogefpmeaaa
open Go.RowKit Go.Maps DkM

theorem crF_mem {f : Fl} : ∀ {L : List Fl} {ks : List Int}, f ∈ L → ∃ f' ∈ crF L ks, f'.n = f.n ∧ f'.l.size = 0 ∧ ∃ m, m ≤ f.l.size ∧ f'.s ++ f'.l = f.s ++ f.l.extract 0 m
  | g :: r, ks, h => by
    unfold crF
    by_cases h0 : g.l.size = 0
    · rw [if_pos h0]
      rcases List.mem_cons.1 h with rfl | hr
      · refine ⟨f, by simp, rfl, h0, 0, Nat.zero_le _, ?_⟩
        have := all_of f.l
        rw [h0] at this
        rw [this]
      · obtain ⟨f', h1, h2⟩ := crF_mem (ks := ks) hr
        exact ⟨f', by simp [h1], h2⟩
    · rw [if_neg h0]
      rcases List.mem_cons.1 h with rfl | hr
      · exact ⟨crO f (ks.headD 0), List.mem_cons_self, rfl, rfl, clK f.l.size (ks.headD 0), by unfold clK; omega, app_nul _⟩
      · obtain ⟨f', h1, h2⟩ := crF_mem (ks := ks.tail) hr
        exact ⟨f', by simp [h1], h2⟩
theorem crF_tight : ∀ {L : List Fl} {ks : List Int}, ∀ f ∈ crF L ks, f.l.size = 0
  | [], ks, f, h => by unfold crF at h; cases h
  | g :: r, ks, f, h => by
    unfold crF at h
    by_cases h0 : g.l.size = 0
    · rw [if_pos h0] at h
      rcases List.mem_cons.1 h with rfl | hr
      · exact h0
      · exact crF_tight f hr
    · rw [if_neg h0] at h
      rcases List.mem_cons.1 h with rfl | hr
      · rfl
      · exact crF_tight f hr
theorem crF_same : ∀ {L : List Fl} {ks : List Int}, (∀ f ∈ L, f.l.size = 0) → crF L ks = L
  | [], _, _ => rfl
  | g :: r, ks, h => by
    unfold crF
    rw [if_pos (h g (by simp)), crF_same (fun f hf => h f (by simp [hf]))]
theorem bd_crash {S : Dk} (B : Bd S) (ks : List Int) : Bd (doCr S ks) := by
  obtain ⟨h1, h2, h3, h4, h5, h6, h7, h8, h9, h10, h11, h12⟩ := B
  exact ⟨by simp [doCr], by simp [doCr], h3, h4, h5, h6, by show (crF S.L ks).length ≤ _; rw [crF_len]; exact h7, rfl, Nat.le_trans (crF_usd S.L ks) h9, h10, h11, crF_rise h12 ks⟩
section
variable {w : World} {p b : Nat} {S : Dk}
theorem down_f (h : DiskAt w p b S) (hd : S.down = false) : Calls Try.prog 29 #[ptr p] w fun e w' => e = .returned (.bool false) ∧ w = w' :=
  (down_any h).mono fun e w' ⟨h1, h2⟩ => ⟨by rw [h1, hd], h2⟩
theorem files_n (h : DiskAt w p b S) (B : Bd S) {n : Nat} (hn : S.L.length = n) : Calls Try.prog 30 #[ptr p] w fun e w' => (∃ A cap, e = .returned (.slice A n cap)) ∧ Below w.heap.size w w' :=
  (files_any h B).mono fun e w' ⟨v, h1, ⟨A, cap, h2, _⟩, h3⟩ => ⟨⟨A, cap, by rw [h1, h2, hn]⟩, h3⟩
theorem loose_z (h : DiskAt w p b S) {n : ByteArray} {f : Fl} (hf : lkF S.L n = some f) (hn : n.size ≤ maxLen) (h1 : f.s.size + f.l.size ≤ 9223372036854775807) (hz : f.l.size = 0) : Calls Try.prog 26 #[ptr p, .string n] w fun e w' => e = .returned (.int .i64 0) ∧ Below w.heap.size w w' :=
  (loose_f h hf hn h1).mono fun e w' ⟨h1, h2⟩ => ⟨by rw [h1, hz]; rfl, h2⟩
end
theorem ints_three (w : World) (x y z : Int) (T : TypeId) : IntsAt (w.alloc (.cells #[.int .i64 x, .int .i64 y, .int .i64 z] T)) w.heap.size [x, y, z] (.slice (some ⟨w.heap.size, 0, none⟩) 3 3) := by
  refine ⟨_, _, rfl, by simp, fun _ => ⟨0, rfl, fun k hk => ?_⟩⟩
  match k, hk with
  | 0, _ => simp
  | 1, _ => simp
  | 2, _ => simp
/-- The bytes of a file, behind a crash. -/
theorem crash_bytes {f : Fl} {X : ByteArray} {m : Nat} (hm : m ≤ f.l.size) (hX : X = f.s ++ f.l.extract 0 m) : X.size = f.s.size + m ∧ X.extract 0 f.s.size = f.s ∧ (f.s ++ f.l).extract 0 X.size = X := by
  have hs : X.size = f.s.size + m := by rw [hX, app_size, ext_sz _ _ hm]
  refine ⟨hs, ?_, ?_⟩
  · have := cut_app f.s (f.l.extract 0 m) 0
    rw [hX, Nat.add_zero] at *
    rw [this]
    exact ba_ext (by rw [app_list, ext_list]; simp)
  · rw [hs, cut_app, hX]

set_option maxRecDepth 100000 in
set_option maxHeartbeats 1000000 in
theorem walk_DiskCrashes (w : World) (v : Value) (hv : ReadOps w v) (u : Value) (hu : ReadInts w u) :
    Calls Try.prog 5 #[v, u] w fun e w' => e = .returned (.bool true) ∧ Below w.heap.size w w' := by
  obtain ⟨l, hl, hok, hlen⟩ := hv
  obtain ⟨ks, kb, hks, hkb, hkw, hkl, hkc⟩ := hu
  have FW := Lib.hid (few_any hl hok hlen)
  have AL := Lib.hid alive_any
  have HOP := Lib.hid hl
  have HI := Lib.hid hks
  obtain ⟨A, cap, rfl, hcap, -⟩ := hl
  obtain ⟨KA, kcap, rfl, hkcap, -⟩ := hks
  replace hok := Lib.hid hok
  replace hkb := Lib.hid hkb
  replace hkw := Lib.hid hkw
  clear hkc
  cases hf : fewB l with
  | false =>
    have HF := Lib.hid hf
    clear hf
    go_enter Try.func5, Try.ntmps5
    go_wp2_with fail
    refine FW.out.mono ?_
    rw [HF.out]
    rintro e w1 ⟨rfl, hb1⟩
    go_wp2_with fail
    refine (AL.out _).mono ?_
    rintro e w2 ⟨rfl, hb2⟩
    go_wp2_with fail
    go_ret
    exact ⟨rfl, hb1.trans (hb2.mono hb1.size)⟩
  | true =>
    have hl60 : l.length ≤ 60 := by unfold fewB at hf; simp at hf; exact hf.2
    have HF := Lib.hid hf
    clear hf
    by_cases hk60 : 60 < ks.length
    · go_enter Try.func5, Try.ntmps5
      go_wp2_with fail
      refine FW.out.mono ?_
      rw [HF.out]
      rintro e w1 ⟨rfl, hb1⟩
      go_wp2_with fail
      refine (AL.out _).mono ?_
      rintro e w2 ⟨rfl, hb2⟩
      go_wp2_with fail
      go_ret
      exact ⟨rfl, hb1.trans (hb2.mono hb1.size)⟩
    · have hk60' : ks.length ≤ 60 := by omega
      have HIV := Lib.hid (Iv.scr (lim := 1000) (ks := []) hok.out)
      have MD := fun (W : World) (hb : Below w.heap.size w W) => made_any (w := W) 1000 (HOP.out.below hb) hok.out hl60 (kb := 0) (IntsAt.none_ W 0 none 0) (fun h => absurd h (by simp)) (by simp)
      replace MD := Lib.hid MD
      generalize scr 1000 l [] = S at *
      have hlen : S.L.length ≤ 60 := by have := HIV.out.len; omega
      have hus : usd S.L ≤ 1073741824 := (HIV.out.bd (by omega)).used1
      have HNM := Lib.hid HIV.out.names
      go_enter Try.func5, Try.ntmps5
      go_wp2_with fail
      refine FW.out.mono ?_
      rw [HF.out]
      rintro e w1 ⟨rfl, hb1⟩
      go_wp2_with fail
      refine (MD.out _ hb1).mono ?_
      rintro e w2 ⟨p, b, lo, sl, rfl, hp, hb, hplo, hblo, hD, hFs, hb2⟩
      have HD2 := Lib.hid hD
      have HF2 := Lib.hid hFs
      obtain ⟨SA, scap, hsl, -, -⟩ := hFs
      subst hsl
      have hB2 : Below w.heap.size w w2 := hb1.trans (hb2.mono hb1.size)
      have hp0 : w.heap.size ≤ p := Nat.le_trans hb1.size hp
      have hb0 : w.heap.size ≤ b := Nat.le_trans hb1.size hb
      have hp2 : p < w2.heap.size := hD.blk.lt
      have hb2' : b < w2.heap.size := hD.own.lt
      clear hD hb1 hb2 hp hb
      go_wp2_with fail
      obtain ⟨W, hW⟩ : ∃ W, W = w2.alloc (.cells #[(.slice SA S.L.length scap), .int .i64 S.lim, .int .i64 S.fuse, .int .i64 S.ops, .int .i64 S.reads, .bool S.down] 30) := ⟨_, rfl⟩
      have HDW := Lib.hid (show DiskAt W p b S by rw [hW]; exact HD2.out.alloc _)
      have HFW := Lib.hid (show FsAt W lo (.slice SA S.L.length scap) S.L by rw [hW]; exact HF2.out.alloc _)
      have BW := Lib.hid (show Blk W w2.heap.size 30 (dC (.slice SA S.L.length scap) S) by rw [hW]; exact Blk.new _ _ _)
      have hBW : Below w.heap.size w W := by rw [hW]; exact hB2.alloc hB2.size _
      rw [← hW]
      clear hW hB2 HD2 HF2
      refine (crash_any HDW.out (HIV.out.bd (by omega)) HNM.out (IntsAt.keep HI.out (fun h => hBW.block kb (hkb.out h))) (fun h => ⟨Nat.lt_of_lt_of_le (hkb.out h) hBW.size, by have := hkb.out h; omega, by have := hkb.out h; omega⟩) hkw.out).mono ?_
      rintro e w3 ⟨rfl, hD3, K3⟩
      have HD3 := Lib.hid hD3
      have HF3 := Lib.hid (K3.fs HFW.out hplo hblo)
      have B3 := Lib.hid (K3.blk BW.out (by omega) (by omega))
      have hB3 : Below w.heap.size w w3 := hBW.trans (K3.below hp0 hb0 hBW.size)
      have hq3 : w2.heap.size < w3.heap.size := B3.out.lt
      have HTB := Lib.hid (bd_crash (HIV.out.bd (by omega)) ks)
      have HTd := Lib.hid (show (doCr S ks).down = false from rfl)
      have HTL := Lib.hid (show (doCr S ks).L = crF S.L ks from rfl)
      have HTn := Lib.hid (show (doCr S ks).L.length = S.L.length from crF_len _ _)
      have HTr := Lib.hid (show (doCr S ks).reads = S.reads from rfl)
      have HTf := Lib.hid (show (doCr S ks).fuse = -1 from rfl)
      have HTN := Lib.hid (HIV.out.crash ks).names
      generalize doCr S ks = T at *
      have hTr0 : 0 ≤ T.reads := by rw [HTr.out]; exact HIV.out.reads0
      have hTr1 : T.reads ≤ 60 := by rw [HTr.out]; have := HIV.out.reads1; omega
      clear hD3 K3 hBW HDW HFW BW
      have d0 : w3.cell? ⟨w2.heap.size, 0, none⟩ = some ((.slice SA S.L.length scap)) := B3.out.cell 0
      have d1 : w3.cell? ⟨w2.heap.size, 1, none⟩ = some (.int .i64 S.lim) := B3.out.cell 1
      have d2 : w3.cell? ⟨w2.heap.size, 2, none⟩ = some (.int .i64 S.fuse) := B3.out.cell 2
      have d3 : w3.cell? ⟨w2.heap.size, 3, none⟩ = some (.int .i64 S.ops) := B3.out.cell 3
      have d4 : w3.cell? ⟨w2.heap.size, 4, none⟩ = some (.int .i64 S.reads) := B3.out.cell 4
      have d5 : w3.cell? ⟨w2.heap.size, 5, none⟩ = some (.bool S.down) := B3.out.cell 5
      go_wp2_with fail
      refine wp_region_noPanic ?_
      refine wp_region_held_drew (S := fun w' => Below w3.heap.size w3 w' ∧ w'.cell? ⟨w2.heap.size, 0, none⟩ = some (.slice SA S.L.length scap)) (by kernel_rfl) ⟨below_draw', d0⟩ (fun hS => ?_)
      refine wpAnyH_take (i := 0) (v := ?_) rfl (by kernel_rfl) (by kernel_rfl) (by kernel_rfl) (fun _ _ _ h => h) (Or.inl ⟨by rfl, ?_⟩) hS ?_
      rotate_left
      · intro wx hSx
        try dsimp only at hSx
        go_simp
        try with_reducible rfl
      simp only [Act.put, List.getElem_toArray, List.getElem_cons_zero, List.setIfInBounds_toArray, List.set_cons_zero, List.set_cons_succ]
      refine wpAnyH_ready (rs := [1]) (by kernel_rfl) (by simp) ?_
      refine AllReadyH.cons rfl (fun K hK => ?_) AllReadyH.nil
      simp only [List.getElem_toArray, List.getElem_cons_zero, List.getElem_cons_succ]
      go_simp
      refine (down_f (HD3.out.belowS hS.1) HTd.out).mono ?_
      rintro e wq ⟨rfl, rfl⟩
      refine hK.out _ _ hS (fun hS1 => ?_)
      clear hK
      refine wpAnyH_take (i := 2) (v := ?_) rfl (by kernel_rfl) (by kernel_rfl) (by kernel_rfl) (fun _ _ _ h => h) (Or.inl ⟨by rfl, ?_⟩) hS1 ?_
      rotate_left
      · intro wx hSx
        try dsimp only at hSx
        go_simp
        try with_reducible rfl
      simp only [Act.put, List.getElem_toArray, List.getElem_cons_zero, List.getElem_cons_succ, List.setIfInBounds_toArray, List.set_cons_zero, List.set_cons_succ]
      refine wpAnyH_take (i := 3) (v := ?_) rfl (by kernel_rfl) (by kernel_rfl) (by kernel_rfl) (fun _ _ _ h => h) (Or.inl ⟨by rfl, ?_⟩) hS1 ?_
      rotate_left
      · intro wx hSx
        try dsimp only at hSx
        go_simp
        try with_reducible rfl
      simp only [Act.put, List.getElem_toArray, List.getElem_cons_zero, List.getElem_cons_succ, List.setIfInBounds_toArray, List.set_cons_zero, List.set_cons_succ]
      refine wpAnyH_take (i := 6) (v := ?_) rfl (by kernel_rfl) (by kernel_rfl) (by kernel_rfl) (fun _ _ _ h => h) (Or.inl ⟨by rfl, ?_⟩) hS1 ?_
      rotate_left
      · intro wx hSx
        try dsimp only at hSx
        go_simp
        try with_reducible rfl
      simp only [Act.put, List.getElem_toArray, List.getElem_cons_zero, List.getElem_cons_succ, List.setIfInBounds_toArray, List.set_cons_zero, List.set_cons_succ]
      refine wpAnyH_take (i := 7) (v := ?_) rfl (by kernel_rfl) (by kernel_rfl) (by kernel_rfl) (fun _ _ _ h => h) (Or.inl ⟨by rfl, ?_⟩) hS1 ?_
      rotate_left
      · intro wx hSx
        try dsimp only at hSx
        go_simp
        try with_reducible rfl
      simp only [Act.put, List.getElem_toArray, List.getElem_cons_zero, List.getElem_cons_succ, List.setIfInBounds_toArray, List.set_cons_zero, List.set_cons_succ]
      refine wpAnyH_take (i := 8) (v := ?_) rfl (by kernel_rfl) (by kernel_rfl) (by kernel_rfl) (fun _ _ _ h => h) (Or.inl ⟨by rfl, ?_⟩) hS1 ?_
      rotate_left
      · intro wx hSx
        try dsimp only at hSx
        go_simp
        try with_reducible rfl
      simp only [Act.put, List.getElem_toArray, List.getElem_cons_zero, List.getElem_cons_succ, List.setIfInBounds_toArray, List.set_cons_zero, List.set_cons_succ]
      refine wpAnyH_ready (rs := [4]) (by kernel_rfl) (by simp) ?_
      refine AllReadyH.cons rfl (fun K hK => ?_) AllReadyH.nil
      simp only [List.getElem_toArray, List.getElem_cons_zero, List.getElem_cons_succ]
      go_simp
      refine (files_n (HD3.out.belowS hS1.1) HTB.out HTn.out).mono ?_
      rintro e w4 ⟨⟨FA, fcap, rfl⟩, hf4⟩
      refine hK.out _ _ ⟨(hS1.1).trans ((hf4).mono (hS1.1).size), ((hf4).cell (cell_lt hS1.2)).trans hS1.2⟩ (fun hS2 => ?_)
      clear hK
      refine wpAnyH_take (i := 5) (v := ?_) rfl (by kernel_rfl) (by kernel_rfl) (by kernel_rfl) (fun _ _ _ h => h) (Or.inl ⟨by rfl, ?_⟩) hS2 ?_
      rotate_left
      · intro wx hSx
        try dsimp only at hSx
        go_simp
        try with_reducible rfl
      simp only [Act.put, List.getElem_toArray, List.getElem_cons_zero, List.getElem_cons_succ, List.setIfInBounds_toArray, List.set_cons_zero, List.set_cons_succ]
      refine wpAnyH_take (i := 9) (v := ?_) rfl (by kernel_rfl) (by kernel_rfl) (by kernel_rfl) (fun _ _ _ h => h) (Or.inl ⟨by rfl, ?_⟩) hS2 ?_
      rotate_left
      · intro wx hSx
        try dsimp only at hSx
        go_simp
        try with_reducible rfl
      simp only [Act.put, List.getElem_toArray, List.getElem_cons_zero, List.getElem_cons_succ, List.setIfInBounds_toArray, List.set_cons_zero, List.set_cons_succ]
      refine wpAnyH_take (i := 10) (v := ?_) rfl (by kernel_rfl) (by kernel_rfl) (by kernel_rfl) (fun _ _ _ h => h) (Or.inl ⟨by rfl, ?_⟩) hS2 ?_
      rotate_left
      · intro wx hSx
        try dsimp only at hSx
        go_simp
        try with_reducible rfl
      simp only [Act.put, List.getElem_toArray, List.getElem_cons_zero, List.getElem_cons_succ, List.setIfInBounds_toArray, List.set_cons_zero, List.set_cons_succ]
      refine wpAnyH_done (by kernel_rfl) ?_ _
      refine NoPanic.normal ?_
      go_wp2_with fail
      have hb4 := hS2.1
      clear hS
      have HD4 := Lib.hid (HD3.out.belowS hb4)
      have HF4 := Lib.hid (HF3.out.below hb4)
      have hB4 : Below w.heap.size w w4 := hB3.trans (hb4.mono hB3.size)
      have hp4 : p < w4.heap.size := Nat.lt_of_lt_of_le hp2 (Nat.le_of_lt (Nat.lt_of_lt_of_le hq3 hb4.size))
      have hb4' : b < w4.heap.size := Nat.lt_of_lt_of_le hb2' (Nat.le_of_lt (Nat.lt_of_lt_of_le hq3 hb4.size))
      clear hb4 hf4 HD3 HF3 B3 hB3 d0 d1 d2 d3 d4 d5 hS2
      go_loopw [45] (fun i wr => ∃ k c : Nat, k ≤ S.L.length ∧ i = .int .i64 k ∧ c ≤ k * 1073741824 ∧ DiskAt wr p b { T with reads := T.reads + c } ∧ Kp p b w4 wr) (fun i _ => S.L.length - (intOf i).toNat)
      case atStart => exact ⟨0, 0, Nat.zero_le _, rfl, Nat.zero_le _, by rw [show ({ T with reads := T.reads + ((0 : Nat) : Int) } : Dk) = T by simp]; exact HD4.out, Kp.refl _ _ _⟩
      case round =>
        obtain ⟨k, c, hk, rfl, hck, hD, hK⟩ := hrel
        have HDr := Lib.hid hD
        have HFr := Lib.hid (hK.fs HF4.out hplo hblo)
        have hBr : Below w.heap.size w wr := hB4.trans (hK.below hp0 hb0 hB4.size)
        have BTr := Lib.hid (bd_reads HTB.out (c := c) (by omega))
        clear hD
        by_cases hlt : k < S.L.length
        · obtain ⟨f, hfe⟩ : ∃ f, f = S.L[k] := ⟨_, rfl⟩
          obtain ⟨g, off, eg, hg, q0, q1, q2⟩ := HFr.out.cells hlt hfe.symm
          subst eg
          have hmem : f ∈ S.L := by rw [hfe]; exact List.getElem_mem _
          obtain ⟨f', hm', hn', hz', m, hm, hX⟩ := crF_mem (ks := ks) hmem
          have HLK := Lib.hid (show lkF T.L f.n = some f' by rw [HTL.out, ← hn']; exact lkF_mem (crF_rise HIV.out.rise ks) hm')
          have hsz' : f'.s.size + f'.l.size ≤ 1073741824 := by
            have h1 := usd_le hm'
            have h2 := crF_usd S.L ks
            omega
          have HFN := Lib.hid (HNM.out f hmem)
          have HZ := Lib.hid hz'
          have hfs : f.s.size + f.l.size ≤ usd S.L := usd_le hmem
          obtain ⟨X, hXe⟩ : ∃ X, f'.s ++ f'.l = X := ⟨_, rfl⟩
          rw [hXe] at hX
          obtain ⟨x1, x2, x3⟩ := crash_bytes hm hX
          have y1 : (f.s.size : Int) ≤ (X.size : Int) := by omega
          have y2 : (X.size : Int) ≤ (f.s.size : Int) + (f.l.size : Int) := by omega
          have y3 : X.size ≤ 1073741824 := by omega
          have y4 := seq_yes f.s
          have y5 := seq_yes X
          have HX2 := Lib.hid x2
          have HX3 := Lib.hid x3
          have HXE := Lib.hid hXe
          have HFE := Lib.hid hfe
          have z4 : ((X.extract 0 f.s.size).toList == f.s.toList) = true := by rw [x2]; exact y4
          have z5 : (((f.s ++ f.l).extract 0 X.size).toList == X.toList) = true := by rw [x3]; exact y5
          have z1 : decide (X.size < f.s.size) = false := by simp; omega
          have z2 : decide ((f.s.size : Int) + (f.l.size : Int) < (X.size : Int)) = false := by simp; omega
          have z3 : decide (f.s.size + f.l.size < X.size) = false := by simp; omega
          have y0 : (0 : Int) ≤ (f.s.size : Int) := by omega
          have y00 : (0 : Int) ≤ (X.size : Int) := by omega
          have hgr : g < wr.heap.size := hg
          have nj0 : (0 : Int) ≤ (k : Int) := by omega
          have nj1 : (k : Int) < (S.L.length : Int) := by omega
          clear hfe hmem hm' hn' hX x1 x2 x3 hXe hz' y4 y5
          go_wp2_with fail
          obtain ⟨V, hV⟩ : ∃ V, V = wr.alloc (.cells #[.string f.n, .string f.s, .string f.l] 54) := ⟨_, rfl⟩
          have BV := Lib.hid (show Blk V wr.heap.size 54 #[.string f.n, .string f.s, .string f.l] by rw [hV]; exact Blk.new _ _ _)
          have HDV := Lib.hid (show DiskAt V p b { T with reads := T.reads + (c : Int) } by rw [hV]; exact HDr.out.alloc _)
          have KV : Kp p b w4 V := by rw [hV]; exact hK.trans (Kp.alloc _ _)
          rw [← hV]
          clear hV q0 q1 q2 hg HFr HDr hBr
          have KB := bytes_any HDV.out BTr.out (by show T.reads + (c : Int) ≤ _; omega) HTd.out HFN.out (f := f') HLK.out
          rw [HXE.out] at KB
          refine KB.mono ?_
          clear KB
          rintro e w5 ⟨rfl, c', hc', hD5, K5⟩
          have B5 := Lib.hid (K5.blk BV.out (by have := hK.size; omega) (by have := hK.size; omega))
          have e5 : ({ T with reads := T.reads + (c : Int) + (c' : Int) } : Dk) = { T with reads := T.reads + ((c + c' : Nat) : Int) } := by
            rw [show T.reads + (c : Int) + (c' : Int) = T.reads + ((c + c' : Nat) : Int) by omega]
          have HD5 := Lib.hid (show DiskAt w5 p b { T with reads := T.reads + ((c + c' : Nat) : Int) } by rw [← e5]; exact hD5)
          have KW5 : Kp p b w4 w5 := KV.trans K5
          have hr5 : wr.heap.size < w5.heap.size := B5.out.lt
          clear e5 hD5 K5 BV HDV
          have v0 : w5.cell? ⟨wr.heap.size, 0, none⟩ = some (.string f.n) := B5.out.cell 0
          have v1 : w5.cell? ⟨wr.heap.size, 1, none⟩ = some (.string f.s) := B5.out.cell 1
          have v2 : w5.cell? ⟨wr.heap.size, 2, none⟩ = some (.string f.l) := B5.out.cell 2
          go_wp2_with fail
          refine wp_region_noPanic ?_
          refine wp_region_held_drew (S := fun w' => Below w5.heap.size w5 w' ∧ w'.cell? ⟨wr.heap.size, 0, none⟩ = some (.string f.n) ∧ w'.cell? ⟨wr.heap.size, 1, none⟩ = some (.string f.s) ∧ w'.cell? ⟨wr.heap.size, 2, none⟩ = some (.string f.l)) (by kernel_rfl) ⟨below_draw', v0, v1, v2⟩ (fun hS => ?_)
          refine wpAnyH_take (i := 0) (v := ?_) rfl (by kernel_rfl) (by kernel_rfl) (by kernel_rfl) (fun _ _ _ h => h) (Or.inl ⟨by rfl, ?_⟩) hS ?_
          rotate_left
          · intro wx hSx
            try dsimp only at hSx
            go_simp
            try with_reducible rfl
          simp only [Act.put, List.getElem_toArray, List.getElem_cons_zero, List.setIfInBounds_toArray, List.set_cons_zero, List.set_cons_succ]
          refine wpAnyH_take (i := 1) (v := ?_) rfl (by kernel_rfl) (by kernel_rfl) (by kernel_rfl) (fun _ _ _ h => h) (Or.inl ⟨by rfl, ?_⟩) hS ?_
          rotate_left
          · intro wx hSx
            try dsimp only at hSx
            go_simp
            try with_reducible rfl
          simp only [Act.put, List.getElem_toArray, List.getElem_cons_zero, List.getElem_cons_succ, List.setIfInBounds_toArray, List.set_cons_zero, List.set_cons_succ]
          refine wpAnyH_take (i := 2) (v := ?_) rfl (by kernel_rfl) (by kernel_rfl) (by kernel_rfl) (fun _ _ _ h => h) (Or.inl ⟨by rfl, ?_⟩) hS ?_
          rotate_left
          · intro wx hSx
            try dsimp only at hSx
            go_simp
            try with_reducible rfl
          simp only [Act.put, List.getElem_toArray, List.getElem_cons_zero, List.getElem_cons_succ, List.setIfInBounds_toArray, List.set_cons_zero, List.set_cons_succ]
          refine wpAnyH_take (i := 3) (v := ?_) rfl (by kernel_rfl) (by kernel_rfl) (by kernel_rfl) (fun _ _ _ h => h) (Or.inl ⟨by rfl, ?_⟩) hS ?_
          rotate_left
          · intro wx hSx
            try dsimp only at hSx
            go_simp
            try with_reducible rfl
          simp only [Act.put, List.getElem_toArray, List.getElem_cons_zero, List.getElem_cons_succ, List.setIfInBounds_toArray, List.set_cons_zero, List.set_cons_succ]
          refine wpAnyH_take (i := 4) (v := ?_) rfl (by kernel_rfl) (by kernel_rfl) (by kernel_rfl) (fun _ _ _ h => h) (Or.inl ⟨by rfl, ?_⟩) hS ?_
          rotate_left
          · intro wx hSx
            try dsimp only at hSx
            go_simp
            try with_reducible rfl
          simp only [Act.put, List.getElem_toArray, List.getElem_cons_zero, List.getElem_cons_succ, List.setIfInBounds_toArray, List.set_cons_zero, List.set_cons_succ]
          refine wpAnyH_take (i := 5) (v := ?_) rfl (by kernel_rfl) (by kernel_rfl) (by kernel_rfl) (fun _ _ _ h => h) (Or.inl ⟨by rfl, ?_⟩) hS ?_
          rotate_left
          · intro wx hSx
            try dsimp only at hSx
            go_simp
            try with_reducible rfl
          simp only [Act.put, List.getElem_toArray, List.getElem_cons_zero, List.getElem_cons_succ, List.setIfInBounds_toArray, List.set_cons_zero, List.set_cons_succ]
          refine wpAnyH_ready (rs := [6]) (by kernel_rfl) (by simp) ?_
          refine AllReadyH.cons rfl (fun K hK => ?_) AllReadyH.nil
          simp only [List.getElem_toArray, List.getElem_cons_zero, List.getElem_cons_succ]
          go_simp
          refine (loose_z (HD5.out.belowS hS.1) HLK.out HFN.out (by omega) HZ.out).mono ?_
          rintro e wa6 ⟨rfl, ha6⟩
          refine hK.out _ _ ⟨(hS.1).trans ((ha6).mono (hS.1).size), ((ha6).cell (cell_lt hS.2.1)).trans hS.2.1, ((ha6).cell (cell_lt hS.2.2.1)).trans hS.2.2.1, ((ha6).cell (cell_lt hS.2.2.2)).trans hS.2.2.2⟩ (fun hS1 => ?_)
          clear hK
          refine wpAnyH_take (i := 7) (v := ?_) rfl (by kernel_rfl) (by kernel_rfl) (by kernel_rfl) (fun _ _ _ h => h) (Or.inl ⟨by rfl, ?_⟩) hS1 ?_
          rotate_left
          · intro wx hSx
            try dsimp only at hSx
            go_simp
            try with_reducible rfl
          simp only [Act.put, List.getElem_toArray, List.getElem_cons_zero, List.getElem_cons_succ, List.setIfInBounds_toArray, List.set_cons_zero, List.set_cons_succ]
          refine wpAnyH_take (i := 8) (v := ?_) rfl (by kernel_rfl) (by kernel_rfl) (by kernel_rfl) (fun _ _ _ h => h) (Or.inl ⟨by rfl, ?_⟩) hS1 ?_
          rotate_left
          · intro wx hSx
            try dsimp only at hSx
            go_simp
            try with_reducible rfl
          simp only [Act.put, List.getElem_toArray, List.getElem_cons_zero, List.getElem_cons_succ, List.setIfInBounds_toArray, List.set_cons_zero, List.set_cons_succ]
          refine wpAnyH_take (i := 9) (v := ?_) rfl (by kernel_rfl) (by kernel_rfl) (by kernel_rfl) (fun _ _ _ h => h) (Or.inl ⟨by rfl, ?_⟩) hS1 ?_
          rotate_left
          · intro wx hSx
            try dsimp only at hSx
            go_simp
            try with_reducible rfl
          simp only [Act.put, List.getElem_toArray, List.getElem_cons_zero, List.getElem_cons_succ, List.setIfInBounds_toArray, List.set_cons_zero, List.set_cons_succ]
          refine wpAnyH_take (i := 10) (v := ?_) rfl (by kernel_rfl) (by kernel_rfl) (by kernel_rfl) (fun _ _ _ h => h) (Or.inl ⟨by rfl, ?_⟩) hS1 ?_
          rotate_left
          · intro wx hSx
            try dsimp only at hSx
            go_simp
            try with_reducible rfl
          simp only [Act.put, List.getElem_toArray, List.getElem_cons_zero, List.getElem_cons_succ, List.setIfInBounds_toArray, List.set_cons_zero, List.set_cons_succ]
          refine wpAnyH_take (i := 11) (v := ?_) rfl (by kernel_rfl) (by kernel_rfl) (by kernel_rfl) (fun _ _ _ h => h) (Or.inl ⟨by rfl, ?_⟩) hS1 ?_
          rotate_left
          · intro wx hSx
            try dsimp only at hSx
            go_simp
            try with_reducible rfl
          simp only [Act.put, List.getElem_toArray, List.getElem_cons_zero, List.getElem_cons_succ, List.setIfInBounds_toArray, List.set_cons_zero, List.set_cons_succ]
          refine wpAnyH_take (i := 12) (v := ?_) rfl (by kernel_rfl) (by kernel_rfl) (by kernel_rfl) (fun _ _ _ h => h) (Or.inl ⟨by rfl, ?_⟩) hS1 ?_
          rotate_left
          · intro wx hSx
            try dsimp only at hSx
            go_simp
            try with_reducible rfl
          simp only [Act.put, List.getElem_toArray, List.getElem_cons_zero, List.getElem_cons_succ, List.setIfInBounds_toArray, List.set_cons_zero, List.set_cons_succ]
          refine wpAnyH_take (i := 13) (v := ?_) rfl (by kernel_rfl) (by kernel_rfl) (by kernel_rfl) (fun _ _ _ h => h) (Or.inl ⟨by rfl, ?_⟩) hS1 ?_
          rotate_left
          · intro wx hSx
            try dsimp only at hSx
            go_simp
            try with_reducible rfl
          simp only [Act.put, List.getElem_toArray, List.getElem_cons_zero, List.getElem_cons_succ, List.setIfInBounds_toArray, List.set_cons_zero, List.set_cons_succ]
          refine wpAnyH_take (i := 14) (v := ?_) rfl (by kernel_rfl) (by kernel_rfl) (by kernel_rfl) (fun _ _ _ h => h) (Or.inl ⟨by rfl, ?_⟩) hS1 ?_
          rotate_left
          · intro wx hSx
            try dsimp only at hSx
            go_simp
            try with_reducible rfl
          simp only [Act.put, List.getElem_toArray, List.getElem_cons_zero, List.getElem_cons_succ, List.setIfInBounds_toArray, List.set_cons_zero, List.set_cons_succ]
          refine wpAnyH_take (i := 15) (v := ?_) rfl (by kernel_rfl) (by kernel_rfl) (by kernel_rfl) (fun _ _ _ h => h) (Or.inl ⟨by rfl, ?_⟩) hS1 ?_
          rotate_left
          · intro wx hSx
            try dsimp only at hSx
            go_simp
            try with_reducible rfl
          simp only [Act.put, List.getElem_toArray, List.getElem_cons_zero, List.getElem_cons_succ, List.setIfInBounds_toArray, List.set_cons_zero, List.set_cons_succ]
          refine wpAnyH_take (i := 16) (v := ?_) rfl (by kernel_rfl) (by kernel_rfl) (by kernel_rfl) (fun _ _ _ h => h) (Or.inl ⟨by rfl, ?_⟩) hS1 ?_
          rotate_left
          · intro wx hSx
            try dsimp only at hSx
            go_simp
            try with_reducible rfl
          simp only [Act.put, List.getElem_toArray, List.getElem_cons_zero, List.getElem_cons_succ, List.setIfInBounds_toArray, List.set_cons_zero, List.set_cons_succ]
          refine wpAnyH_take (i := 17) (v := ?_) rfl (by kernel_rfl) (by kernel_rfl) (by kernel_rfl) (fun _ _ _ h => h) (Or.inl ⟨by rfl, ?_⟩) hS1 ?_
          rotate_left
          · intro wx hSx
            try dsimp only at hSx
            go_simp
            try with_reducible rfl
          simp only [Act.put, List.getElem_toArray, List.getElem_cons_zero, List.getElem_cons_succ, List.setIfInBounds_toArray, List.set_cons_zero, List.set_cons_succ]
          refine wpAnyH_take (i := 18) (v := ?_) rfl (by kernel_rfl) (by kernel_rfl) (by kernel_rfl) (fun _ _ _ h => h) (Or.inl ⟨by rfl, ?_⟩) hS1 ?_
          rotate_left
          · intro wx hSx
            try dsimp only at hSx
            go_simp
            try with_reducible rfl
          simp only [Act.put, List.getElem_toArray, List.getElem_cons_zero, List.getElem_cons_succ, List.setIfInBounds_toArray, List.set_cons_zero, List.set_cons_succ]
          refine wpAnyH_take (i := 19) (v := ?_) rfl (by kernel_rfl) (by kernel_rfl) (by kernel_rfl) (fun _ _ _ h => h) (Or.inl ⟨by rfl, ?_⟩) hS1 ?_
          rotate_left
          · intro wx hSx
            try dsimp only at hSx
            go_simp
            try with_reducible rfl
          simp only [Act.put, List.getElem_toArray, List.getElem_cons_zero, List.getElem_cons_succ, List.setIfInBounds_toArray, List.set_cons_zero, List.set_cons_succ]
          refine wpAnyH_take (i := 20) (v := ?_) rfl (by kernel_rfl) (by kernel_rfl) (by kernel_rfl) (fun _ _ _ h => h) (Or.inl ⟨by rfl, ?_⟩) hS1 ?_
          rotate_left
          · intro wx hSx
            try dsimp only at hSx
            go_simp
            try with_reducible rfl
          simp only [Act.put, List.getElem_toArray, List.getElem_cons_zero, List.getElem_cons_succ, List.setIfInBounds_toArray, List.set_cons_zero, List.set_cons_succ]
          refine wpAnyH_take (i := 21) (v := ?_) rfl (by kernel_rfl) (by kernel_rfl) (by kernel_rfl) (fun _ _ _ h => h) (Or.inl ⟨by rfl, ?_⟩) hS1 ?_
          rotate_left
          · intro wx hSx
            try dsimp only at hSx
            go_simp
            try with_reducible rfl
          simp only [Act.put, List.getElem_toArray, List.getElem_cons_zero, List.getElem_cons_succ, List.setIfInBounds_toArray, List.set_cons_zero, List.set_cons_succ]
          refine wpAnyH_take (i := 22) (v := ?_) rfl (by kernel_rfl) (by kernel_rfl) (by kernel_rfl) (fun _ _ _ h => h) (Or.inl ⟨by rfl, ?_⟩) hS1 ?_
          rotate_left
          · intro wx hSx
            try dsimp only at hSx
            go_simp
            try with_reducible rfl
          simp only [Act.put, List.getElem_toArray, List.getElem_cons_zero, List.getElem_cons_succ, List.setIfInBounds_toArray, List.set_cons_zero, List.set_cons_succ]
          refine wpAnyH_take (i := 23) (v := ?_) rfl (by kernel_rfl) (by kernel_rfl) (by kernel_rfl) (fun _ _ _ h => h) (Or.inl ⟨by rfl, ?_⟩) hS1 ?_
          rotate_left
          · intro wx hSx
            try dsimp only at hSx
            go_simp
            try with_reducible rfl
          simp only [Act.put, List.getElem_toArray, List.getElem_cons_zero, List.getElem_cons_succ, List.setIfInBounds_toArray, List.set_cons_zero, List.set_cons_succ]
          refine wpAnyH_take (i := 24) (v := ?_) rfl (by kernel_rfl) (by kernel_rfl) (by kernel_rfl) (fun _ _ _ h => h) (Or.inl ⟨by rfl, ?_⟩) hS1 ?_
          rotate_left
          · intro wx hSx
            try dsimp only at hSx
            go_simp
            try with_reducible rfl
          simp only [Act.put, List.getElem_toArray, List.getElem_cons_zero, List.getElem_cons_succ, List.setIfInBounds_toArray, List.set_cons_zero, List.set_cons_succ]
          refine wpAnyH_take (i := 25) (v := ?_) rfl (by kernel_rfl) (by kernel_rfl) (by kernel_rfl) (fun _ _ _ h => h) (Or.inl ⟨by rfl, ?_⟩) hS1 ?_
          rotate_left
          · intro wx hSx
            try dsimp only at hSx
            go_simp
            try with_reducible rfl
          simp only [Act.put, List.getElem_toArray, List.getElem_cons_zero, List.getElem_cons_succ, List.setIfInBounds_toArray, List.set_cons_zero, List.set_cons_succ]
          refine wpAnyH_take (i := 26) (v := ?_) rfl (by kernel_rfl) (by kernel_rfl) (by kernel_rfl) (fun _ _ _ h => h) (Or.inl ⟨by rfl, ?_⟩) hS1 ?_
          rotate_left
          · intro wx hSx
            try dsimp only at hSx
            go_simp
            try with_reducible rfl
          simp only [Act.put, List.getElem_toArray, List.getElem_cons_zero, List.getElem_cons_succ, List.setIfInBounds_toArray, List.set_cons_zero, List.set_cons_succ]
          refine wpAnyH_take (i := 27) (v := ?_) rfl (by kernel_rfl) (by kernel_rfl) (by kernel_rfl) (fun _ _ _ h => h) (Or.inl ⟨by rfl, ?_⟩) hS1 ?_
          rotate_left
          · intro wx hSx
            try dsimp only at hSx
            go_simp
            try with_reducible rfl
          simp only [Act.put, List.getElem_toArray, List.getElem_cons_zero, List.getElem_cons_succ, List.setIfInBounds_toArray, List.set_cons_zero, List.set_cons_succ]
          refine wpAnyH_take (i := 28) (v := ?_) rfl (by kernel_rfl) (by kernel_rfl) (by kernel_rfl) (fun _ _ _ h => h) (Or.inl ⟨by rfl, ?_⟩) hS1 ?_
          rotate_left
          · intro wx hSx
            try dsimp only at hSx
            go_simp
            try with_reducible rfl
          simp only [Act.put, List.getElem_toArray, List.getElem_cons_zero, List.getElem_cons_succ, List.setIfInBounds_toArray, List.set_cons_zero, List.set_cons_succ]
          refine wpAnyH_take (i := 29) (v := ?_) rfl (by kernel_rfl) (by kernel_rfl) (by kernel_rfl) (fun _ _ _ h => h) (Or.inl ⟨by rfl, ?_⟩) hS1 ?_
          rotate_left
          · intro wx hSx
            try dsimp only at hSx
            go_simp
            try with_reducible rfl
          simp only [Act.put, List.getElem_toArray, List.getElem_cons_zero, List.getElem_cons_succ, List.setIfInBounds_toArray, List.set_cons_zero, List.set_cons_succ]
          refine wpAnyH_take (i := 30) (v := ?_) rfl (by kernel_rfl) (by kernel_rfl) (by kernel_rfl) (fun _ _ _ h => h) (Or.inl ⟨by rfl, ?_⟩) hS1 ?_
          rotate_left
          · intro wx hSx
            try dsimp only at hSx
            go_simp
            try with_reducible rfl
          simp only [Act.put, List.getElem_toArray, List.getElem_cons_zero, List.getElem_cons_succ, List.setIfInBounds_toArray, List.set_cons_zero, List.set_cons_succ]
          refine wpAnyH_ready (rs := [31]) (by kernel_rfl) (by simp) ?_
          refine AllReadyH.cons rfl (fun K hK => ?_) AllReadyH.nil
          simp only [List.getElem_toArray, List.getElem_cons_zero, List.getElem_cons_succ]
          go_simp
          refine (rbytes_any f _ (by omega)).mono ?_
          rintro e wa31 ⟨rfl, ha31⟩
          refine hK.out _ _ ⟨(hS1.1).trans ((ha31).mono (hS1.1).size), ((ha31).cell (cell_lt hS1.2.1)).trans hS1.2.1, ((ha31).cell (cell_lt hS1.2.2.1)).trans hS1.2.2.1, ((ha31).cell (cell_lt hS1.2.2.2)).trans hS1.2.2.2⟩ (fun hS2 => ?_)
          clear hK
          refine wpAnyH_take (i := 32) (v := ?_) rfl (by kernel_rfl) (by kernel_rfl) (by kernel_rfl) (fun _ _ _ h => h) (Or.inl ⟨by rfl, ?_⟩) hS2 ?_
          rotate_left
          · intro wx hSx
            try dsimp only at hSx
            go_simp
            try with_reducible rfl
          simp only [Act.put, List.getElem_toArray, List.getElem_cons_zero, List.getElem_cons_succ, List.setIfInBounds_toArray, List.set_cons_zero, List.set_cons_succ]
          refine wpAnyH_take (i := 33) (v := ?_) rfl (by kernel_rfl) (by kernel_rfl) (by kernel_rfl) (fun _ _ _ h => h) (Or.inl ⟨by rfl, ?_⟩) hS2 ?_
          rotate_left
          · intro wx hSx
            try dsimp only at hSx
            go_simp
            try with_reducible rfl
          simp only [Act.put, List.getElem_toArray, List.getElem_cons_zero, List.getElem_cons_succ, List.setIfInBounds_toArray, List.set_cons_zero, List.set_cons_succ]
          refine wpAnyH_take (i := 34) (v := ?_) rfl (by kernel_rfl) (by kernel_rfl) (by kernel_rfl) (fun _ _ _ h => h) (Or.inl ⟨by rfl, ?_⟩) hS2 ?_
          rotate_left
          · intro wx hSx
            try dsimp only at hSx
            go_simp
            try with_reducible rfl
          simp only [Act.put, List.getElem_toArray, List.getElem_cons_zero, List.getElem_cons_succ, List.setIfInBounds_toArray, List.set_cons_zero, List.set_cons_succ]
          refine wpAnyH_take (i := 35) (v := ?_) rfl (by kernel_rfl) (by kernel_rfl) (by kernel_rfl) (fun _ _ _ h => h) (Or.inl ⟨by rfl, ?_⟩) hS2 ?_
          rotate_left
          · intro wx hSx
            try dsimp only at hSx
            go_simp
            try with_reducible rfl
          simp only [Act.put, List.getElem_toArray, List.getElem_cons_zero, List.getElem_cons_succ, List.setIfInBounds_toArray, List.set_cons_zero, List.set_cons_succ]
          refine wpAnyH_take (i := 36) (v := ?_) rfl (by kernel_rfl) (by kernel_rfl) (by kernel_rfl) (fun _ _ _ h => h) (Or.inl ⟨by rfl, ?_⟩) hS2 ?_
          rotate_left
          · intro wx hSx
            try dsimp only at hSx
            go_simp
            try with_reducible rfl
          simp only [Act.put, List.getElem_toArray, List.getElem_cons_zero, List.getElem_cons_succ, List.setIfInBounds_toArray, List.set_cons_zero, List.set_cons_succ]
          refine wpAnyH_take (i := 38) (v := ?_) rfl (by kernel_rfl) (by kernel_rfl) (by kernel_rfl) (fun _ _ _ h => h) (Or.inl ⟨by rfl, ?_⟩) hS2 ?_
          rotate_left
          · intro wx hSx
            try dsimp only at hSx
            go_simp
            try with_reducible rfl
          simp only [Act.put, List.getElem_toArray, List.getElem_cons_zero, List.getElem_cons_succ, List.setIfInBounds_toArray, List.set_cons_zero, List.set_cons_succ]
          refine wpAnyH_take (i := 39) (v := ?_) rfl (by kernel_rfl) (by kernel_rfl) (by kernel_rfl) (fun _ _ _ h => h) (Or.inl ⟨by rfl, ?_⟩) hS2 ?_
          rotate_left
          · intro wx hSx
            try dsimp only at hSx
            go_simp
            try with_reducible rfl
          simp only [Act.put, List.getElem_toArray, List.getElem_cons_zero, List.getElem_cons_succ, List.setIfInBounds_toArray, List.set_cons_zero, List.set_cons_succ]
          refine wpAnyH_take (i := 41) (v := ?_) rfl (by kernel_rfl) (by kernel_rfl) (by kernel_rfl) (fun _ _ _ h => h) (Or.inl ⟨by rfl, ?_⟩) hS2 ?_
          rotate_left
          · intro wx hSx
            try dsimp only at hSx
            go_simp
            try with_reducible rfl
          simp only [Act.put, List.getElem_toArray, List.getElem_cons_zero, List.getElem_cons_succ, List.setIfInBounds_toArray, List.set_cons_zero, List.set_cons_succ]
          refine wpAnyH_ready (rs := [37]) (by kernel_rfl) (by simp) ?_
          refine AllReadyH.cons rfl (fun K hK => ?_) AllReadyH.nil
          simp only [List.getElem_toArray, List.getElem_cons_zero, List.getElem_cons_succ]
          go_simp
          refine (rbytes_any f _ (by omega)).mono ?_
          rintro e wa37 ⟨rfl, ha37⟩
          refine hK.out _ _ ⟨(hS2.1).trans ((ha37).mono (hS2.1).size), ((ha37).cell (cell_lt hS2.2.1)).trans hS2.2.1, ((ha37).cell (cell_lt hS2.2.2.1)).trans hS2.2.2.1, ((ha37).cell (cell_lt hS2.2.2.2)).trans hS2.2.2.2⟩ (fun hS3 => ?_)
          clear hK
          refine wpAnyH_take (i := 40) (v := ?_) rfl (by kernel_rfl) (by kernel_rfl) (by kernel_rfl) (fun _ _ _ h => h) (Or.inl ⟨by rfl, ?_⟩) hS3 ?_
          rotate_left
          · intro wx hSx
            try dsimp only at hSx
            go_simp
            try with_reducible rfl
          simp only [Act.put, List.getElem_toArray, List.getElem_cons_zero, List.getElem_cons_succ, List.setIfInBounds_toArray, List.set_cons_zero, List.set_cons_succ]
          refine wpAnyH_take (i := 42) (v := ?_) rfl (by kernel_rfl) (by kernel_rfl) (by kernel_rfl) (fun _ _ _ h => h) (Or.inl ⟨by rfl, ?_⟩) hS3 ?_
          rotate_left
          · intro wx hSx
            try dsimp only at hSx
            go_simp
            try with_reducible rfl
          simp only [Act.put, List.getElem_toArray, List.getElem_cons_zero, List.getElem_cons_succ, List.setIfInBounds_toArray, List.set_cons_zero, List.set_cons_succ]
          refine wpAnyH_take (i := 43) (v := ?_) rfl (by kernel_rfl) (by kernel_rfl) (by kernel_rfl) (fun _ _ _ h => h) (Or.inl ⟨by rfl, ?_⟩) hS3 ?_
          rotate_left
          · intro wx hSx
            try dsimp only at hSx
            go_simp
            try with_reducible rfl
          simp only [Act.put, List.getElem_toArray, List.getElem_cons_zero, List.getElem_cons_succ, List.setIfInBounds_toArray, List.set_cons_zero, List.set_cons_succ]
          refine wpAnyH_done (by kernel_rfl) ?_ _
          refine NoPanic.normal ?_
          have hb6 := hS3.1
          have HD6 := Lib.hid (HD5.out.belowS hb6)
          have KW6 := KW5.trans (Kp.of_below hb6)
          clear hb6 v0 v1 v2
          go_wp2_with fail
          go_roundw
          case rel => exact ⟨k + 1, c + c', by omega, by go_num, by omega, HD6.out, KW6⟩
          case measure => simp [intOf]; omega
        · have HUU := Lib.hid (show (doCr { T with reads := T.reads + (c : Int) } [0, 0, 0]).used = T.used by
            show ((usd (crF T.L [0, 0, 0]) : Nat) : Int) = _
            rw [crF_same (by rw [HTL.out]; exact crF_tight), HTB.out.used])
          have HBU := Lib.hid (bd_crash BTr.out [0, 0, 0])
          have HC5 : (((doC (doCr { T with reads := T.reads + (c : Int) } [0, 0, 0]) ⟨#[122, 122, 57]⟩).2 : Nat) : Int) ≠ 50 := by
            unfold doC opR whyC
            rw [show (doCr { T with reads := T.reads + (c : Int) } [0, 0, 0]).down = false from rfl, if_neg (by decide), show (doCr { T with reads := T.reads + (c : Int) } [0, 0, 0]).fuse = -1 from rfl]
            split <;> simp
          have HC6 : ((((doC (doCr { T with reads := T.reads + (c : Int) } [0, 0, 0]) ⟨#[122, 122, 57]⟩).2 : Nat) : Int) != 50) = true := by simpa using HC5
          clear HC5
          go_wp2_with fail
          refine (used_any HDr.out).mono ?_
          rintro e wz ⟨rfl, rfl⟩
          go_wp2_with fail
          obtain ⟨V, hV⟩ : ∃ V, V = wr.alloc (.cells #[.int .i64 0, .int .i64 0, .int .i64 0] 3) := ⟨_, rfl⟩
          rw [← hV]
          have DV : DiskAt V p b { T with reads := T.reads + (c : Int) } := by rw [hV]; exact HDr.out.alloc _
          have IV : IntsAt V wr.heap.size [0, 0, 0] (.slice (some ⟨wr.heap.size, 0, none⟩) 3 3) := by rw [hV]; exact ints_three _ _ _ _ _
          have hVb : Below w.heap.size w V := by rw [hV]; exact hBr.alloc hBr.size _
          have lp := HDr.out.blk.lt
          have lb := HDr.out.own.lt
          refine (crash_any DV BTr.out HTN.out IV (fun _ => ⟨by rw [hV]; simp, by omega, by omega⟩) (by intro x hx; simp at hx; omega)).mono ?_
          rintro e w7 ⟨rfl, D7, K7⟩
          have HD7 := Lib.hid D7
          have hb7 : Below w.heap.size w w7 := hVb.trans (K7.below hp0 hb0 hVb.size)
          clear DV IV hVb hV D7 K7
          generalize hUe : doCr { T with reads := T.reads + (c : Int) } [0, 0, 0] = U at HD7 HBU HUU HC6
          clear hUe
          go_wp2_with fail
          refine (AL.out _).mono ?_
          rintro e w8 ⟨rfl, hb8⟩
          have HD8 := Lib.hid (HD7.out.belowS hb8)
          have hB8 := hb7.trans (hb8.mono hb7.size)
          clear hb8 hb7 HD7
          go_wp2_with fail
          refine (used_any HD8.out).mono ?_
          rw [HUU.out]
          rintro e wz ⟨rfl, rfl⟩
          go_wp2_with fail
          refine (create_any HD8.out HBU.out (n := ⟨#[122, 122, 57]⟩) (by unfold maxLen; decide)).mono ?_
          rintro e w9 ⟨rfl, D9, K9⟩
          have hB9 : Below w.heap.size w w9 := hB8.trans (K9.below hp0 hb0 hB8.size)
          clear D9 K9
          go_wp2_with fail
          go_ret
          exact ⟨rfl, hB9⟩
end Go.Proofs.Ytgkphogefpmeaaa
