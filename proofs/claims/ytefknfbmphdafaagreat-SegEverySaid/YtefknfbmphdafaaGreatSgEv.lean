/- The law of all frames of a disk: the walk. -/
import Derived.Test.YtefknfbmphdafaaGreatSgWh
namespace Go.Proofs.YtefknfbmphdafaaGreat
namespace SgM
open Go Go.RowKit CrcM FrM
open Ds (Blk DiskAt Kp Bd flB nul ptr Dk FsAt rfV dC Iv mdS md_all cell_lt)
open Ds.DkM (Fl lkF usd Rise)

theorem evA_frs (L : List Fl) : (evA L).length ≤ usd L := evA_le L
def nmT (L : List Fl) : List (List UInt8) := L.map fun f => f.n.data.toList
theorem nmT_at (L : List Fl) (k : Nat) (h : k < L.length) (h' : k < (nmT L).length) : bytesOf (nmT L)[k] = L[k].n := by
  refine ba_ext ?_
  rw [bytesOf_list]
  simp [nmT]
theorem trRow_names {w : World} {base : Nat} {v : Value} {L : List Fl} (h : Ds.NamesAt w base v L) : TrRow w v (nmT L) := by
  obtain ⟨A, cap, h1, h2⟩ := h
  have hl : (nmT L).length = L.length := by simp [nmT]
  refine ⟨A, cap, by rw [hl]; exact h1, fun hne => ?_⟩
  obtain ⟨g, e, _, hg, hc⟩ := h2 (by rw [← hl]; exact List.length_pos_iff.2 hne)
  refine ⟨g, 0, e, hg, fun k hk => ?_⟩
  rw [nmT_at L k (by omega) hk, Nat.zero_add]
  exact hc k (by omega)
theorem trRow_own {w : World} {base : Nat} {v : Value} {L : List Fl} (h : w.ownsRow base 9 1 v L.length (L.map fun f => Value.string f.n)) : TrRow w v (nmT L) := by
  have e : (L.map fun f => Value.string f.n) = strC (nmT L) := by
    unfold strC nmT
    rw [List.map_map]
    apply List.map_congr_left
    intro f _
    show Value.string f.n = .string (bytesOf f.n.data.toList)
    rw [show bytesOf f.n.data.toList = f.n from ba_ext (bytesOf_list _)]
  rw [e, show L.length = (nmT L).length by simp [nmT]] at h
  exact TrRow.own h
set_option maxRecDepth 100000 in
set_option maxHeartbeats 8000000 in
theorem walk_SegEvery (w : World) (v : Value) (hv : Ds.ReadFiles w v) :
    Calls Tryz.prog 4 #[v] w fun e w' => e = .returned (.bool true) ∧ Below w.heap.size w w' := by
  obtain ⟨i0, hi, hz0, hz1, hz2⟩ := info_parts info_frame04Row
  obtain ⟨L, hF, hok, hlen⟩ := hv
  have AL := Lib.hid alive_any
  have MD := Lib.hid (Ds.made16_any hF hok hlen)
  have HMD := Lib.hid (md_all hok L.length (Nat.le_refl _))
  obtain ⟨A0, cap0, rfl, -, -⟩ := hF
  clear hok
  go_enter Tryz.func4, Tryz.ntmps4
  go_wp2_with fail
  refine MD.out.mono ?_
  rintro e w1 (⟨h12, hu, p, b, lo, sl, rfl, hp, hb, hpl, hbl, hD, hFs, hb1⟩ | ⟨hne, ⟨SA, scap, S, rfl⟩, hb1⟩)
  · have HFs := Lib.hid hFs
    have HD := Lib.hid hD
    obtain ⟨SA, scap, hsl, -, -⟩ := hFs
    subst hsl
    have hmd := HMD.out
    rw [List.take_length] at hmd
    obtain ⟨miv, mus, mrd, mdn, mfu⟩ := hmd
    have HI := Lib.hid (miv.mono (show 4 * L.length ≤ 50 by omega))
    have HRD := Lib.hid mrd
    have HDN := Lib.hid mdn
    have hus : usd (mdS L).L ≤ 4000 := Nat.le_trans mus hu
    clear miv mus mrd mdn mfu
    have hp1 := hD.blk.lt
    have hb1' := hD.own.lt
    generalize mdS L = S at *
    have HSL := Lib.hid HI.out.len
    obtain ⟨W, hW⟩ : ∃ W, W = w1.alloc (.cells #[.slice SA S.L.length scap, .int .i64 S.lim, .int .i64 S.fuse, .int .i64 S.ops, .int .i64 S.reads, .bool S.down] 43) := ⟨_, rfl⟩
    obtain ⟨Q, hQ⟩ : ∃ Q, Q = w1.heap.size := ⟨_, rfl⟩
    have BQ := Lib.hid (show Blk W Q 43 (dC (.slice SA S.L.length scap) S) by rw [hW, hQ]; exact Blk.new _ _ _)
    have DW := Lib.hid (show DiskAt W p b S by rw [hW]; exact HD.out.alloc _)
    have FW := Lib.hid (show FsAt W lo (.slice SA S.L.length scap) S.L by rw [hW]; exact HFs.out.alloc _)
    have hBW : Below w.heap.size w W := by rw [hW]; exact hb1.alloc hb1.size _
    have hpQ : p ≠ Q := by omega
    have hbQ : b ≠ Q := by omega
    have hQW : Q < W.heap.size := BQ.out.lt
    go_upto_region 2 with fail
    rw [← hW, ← hQ]
    clear hW hQ hD hb1 hp1 hb1' HMD MD
    have EV := every_any DW.out (HI.out.bd (by omega)) (by omega) (by have := HSL.out; omega) (by rw [HRD.out]; omega) HI.out.names
    unfold EveryPost at EV
    rw [evS_evA HDN.out HI.out.rise] at EV
    have HEV := Lib.hid EV
    have hle := evA_le S.L
    obtain ⟨G, hG⟩ : ∃ G, G = evA S.L := ⟨_, rfl⟩
    rw [← hG] at HEV hle
    have HG := Lib.hid hG
    clear hG EV
    go_wp2_with fail
    refine HEV.out.mono ?_
    rintro e w2 ⟨vg, rfl, hg, D2, K2⟩
    have HD2 := Lib.hid D2
    have Q2 := Lib.hid (K2.blk BQ.out (by omega) (by omega))
    have F2 := Lib.hid (FW.out.kp K2 hpl hbl)
    have hB2 := hBW.trans (K2.below (by omega) (by omega) hBW.size)
    have hr2 := FrRow.own hg
    obtain ⟨GA, gcap, rfl⟩ := own_shape hg
    have hQ2 : Q < w2.heap.size := Q2.out.lt
    obtain ⟨m, hm⟩ : ∃ m, m = G.length := ⟨_, rfl⟩
    have HM := Lib.hid hm
    rw [← hm] at hr2 hle ⊢
    have HR2 := Lib.hid hr2
    have HB2 := Lib.hid hB2
    clear hg D2 K2 hr2 hB2 hm
    go_wp2_with fail
    go_loopw [5, 24] (fun v i wr => ∃ k : Nat, k ≤ m ∧ i = .int .i64 (k : Nat) ∧ wr.ownsRow w2.heap.size 51 2 v k (frC (G.take k)) ∧ Below w2.heap.size w2 wr) (fun _ i _ => m - (intOf i).toNat)
    case atStart => exact ⟨0, Nat.zero_le _, rfl, World.ownsRow_nil _ _ _ _, Below.refl _ _⟩
    case round =>
      obtain ⟨k, hk, rfl, hown, hbw⟩ := hrel
      by_cases hlk : k < m
      · have hlk' : k < G.length := by rw [← HM.out]; exact hlk
        have hfr := HR2.out
        rcases hfr with ⟨ga, gc, he, h0⟩ | ⟨g, off, gc, he, hc, hlt⟩
        · rw [h0] at hlk'; simp at hlk'
        have he2 : GA = some ⟨g, off, none⟩ := by simp at he; exact he.1
        subst he2
        obtain ⟨c0, c1⟩ := hc.below hbw hlt k hlk'
        have hf := frC_take G k hlk'
        have HF := Lib.hid hf
        clear hf he hc
        generalize G[k] = FF at c0 c1 HF
        obtain ⟨K, X⟩ := FF
        have hltr : g < wr.heap.size := Nat.lt_of_lt_of_le hlt hbw.size
        have i0' : (0 : Int) ≤ (k : Int) := by omega
        have i1' : (k : Int) < (m : Int) := by omega
        obtain ⟨V, hV⟩ : ∃ V, V = wr.alloc (.cells #[.int .u8 K.toNat, .string X] 50) := ⟨_, rfl⟩
        have BV : Blk V wr.heap.size 50 #[.int .u8 K.toNat, .string X] := by rw [hV]; exact Blk.new _ _ _
        have HOW := Lib.hid (show V.ownsRow w2.heap.size 51 2 _ k _ by rw [hV]; exact hown.alloc _)
        have HB := Lib.hid (show Below w2.heap.size w2 V by rw [hV]; exact hbw.alloc hbw.size _)
        have x0 : V.cell? ⟨wr.heap.size, 0, none⟩ = some (.int .u8 K.toNat) := BV.cell 0
        have x1 : V.cell? ⟨wr.heap.size, 1, none⟩ = some (.string X) := BV.cell 1
        have hxV := BV.lt
        have hVs := HB.out.size
        go_upto_region 8 with fail
        rw [← hV]
        clear hV BV c0 c1 hown hbw
        go_wp2_with (at_builtin; refine wpList_append_own _ rfl _ _ 46 rfl w2.heap.size 51 i0 (.agg #[.int .u8 0, .string ⟨#[]⟩]) 2 24 Tryz.underlying46 hi hz0 hz1 hz2 rfl (by decide) _ _ _ rfl (HOW.out.alloc _) ⟨V.heap.size, 0, none⟩ 1 1 [.int .u8 K.toNat, .string X] rfl rfl (new_two V _ _ _ _ rfl) (one_two K X) (by unfold maxLen; omega) (by omega) (by simp; omega) ?_; intro v' w' hown' hgrow _; have HO2 := Lib.hid hown'; have HB3 := Lib.hid (Ds.below_grown (w := w2) HB.out HOW.out hgrow); clear hown' hgrow)
        go_roundw
        case rel => exact ⟨k + 1, by omega, by go_num, by rw [HF.out, frC_snoc]; exact HO2.out, HB3.out⟩
        case measure => simp [intOf]; omega
      · obtain rfl : m = k := by omega
        rw [show G.take m = G by rw [HM.out, List.take_length]] at hown
        have hrow : FrRow wr _ G := FrRow.own (by rw [← HM.out]; exact hown)
        obtain ⟨VA, vcap, rfl⟩ := own_shape hown
        have HROW := Lib.hid hrow
        have HDr := Lib.hid (HD2.out.belowS hbw)
        have Qr := blk_step Q2.out hbw
        have Fr := Lib.hid (F2.out.below hbw)
        have HBr := Lib.hid (keepW HB2.out hbw)
        have hQr : Q < wr.heap.size := Qr.lt
        clear hown hrow hbw
        obtain ⟨w3, hw3⟩ : ∃ w3, w3 = wr := ⟨_, rfl⟩
        subst hw3
        have RV := Lib.hid (show ∀ w', Below w3.heap.size w3 w' → Calls Tryz.prog 16 #[rfV (.slice SA S.L.length scap) S] w' fun e w'' => ∃ v, e = .returned v ∧ FrRow w'' v G ∧ Below w'.heap.size w' w'' from fun w' h => by
          refine (revery_any (Fr.out.below h) HDN.out (by omega) (by have := HSL.out; omega)).mono ?_
          rintro e w'' ⟨v, rfl, h1, h2⟩
          rw [← HG.out] at h1
          exact ⟨v, rfl, FrRow.own h1, h2⟩)
        have SM := Lib.hid (show ∀ w' v, Below w3.heap.size w3 w' → FrRow w' v G → Calls Tryz.prog 15 #[.slice VA m vcap, v] w' fun e w'' => e = .returned (.bool true) ∧ Below w'.heap.size w' w'' from fun w' v h hv => sameF_any (HROW.out.below h) hv (by rw [← HM.out]; omega))
        have FI := Lib.hid (show ∀ w', Below w3.heap.size w3 w' → Calls Tryz.prog 18 #[ptr p] w' fun e w'' => ∃ v, e = .returned v ∧ TrRow w'' v (nmT S.L) ∧ Below w'.heap.size w' w'' from fun w' h => by
          have hbd : Bd { S with reads := S.reads + (rdN S S.L : Nat) } := bd_reads (HI.out.bd (by omega)) _ (by rw [HRD.out]; omega) (by
            have h1 := rdN_le S S.L
            have h2 := HSL.out
            have h3 : S.L.length * (usd S.L + 1) ≤ 50 * 4001 := Nat.mul_le_mul h2 (by omega)
            rw [HRD.out]; omega)
          refine (Ds.files_any (HDr.out.belowS h) hbd).mono ?_
          rintro e w'' ⟨v, rfl, h1, h2⟩
          exact ⟨v, rfl, trRow_names h1, h2⟩)
        have NM := Lib.hid (show ∀ w', Below w3.heap.size w3 w' → Calls Tryz.prog 19 #[rfV (.slice SA S.L.length scap) S] w' fun e w'' => ∃ v, e = .returned v ∧ TrRow w'' v (nmT S.L) ∧ Below w'.heap.size w' w'' from fun w' h => by
          refine (names_any (Fr.out.below h) (by have := HSL.out; omega)).mono ?_
          rintro e w'' ⟨v, rfl, h1, h2⟩
          exact ⟨v, rfl, trRow_own h1, h2⟩)
        have S2 := Lib.hid (show ∀ w' v u, TrRow w' v (nmT S.L) → TrRow w' u (nmT S.L) → Calls Tryz.prog 17 #[v, u] w' fun e w'' => e = .returned (.bool true) ∧ Below w'.heap.size w' w'' from fun w' v u h h' => same02_any h h' (by have := HSL.out; simp [nmT]; omega))
        have d0 : w3.cell? ⟨Q, 0, none⟩ = some (.slice SA S.L.length scap) := Qr.cell 0
        have d1 : w3.cell? ⟨Q, 1, none⟩ = some (.int .i64 S.lim) := Qr.cell 1
        have d2 : w3.cell? ⟨Q, 2, none⟩ = some (.int .i64 S.fuse) := Qr.cell 2
        have d3 : w3.cell? ⟨Q, 3, none⟩ = some (.int .i64 S.ops) := Qr.cell 3
        have d4 : w3.cell? ⟨Q, 4, none⟩ = some (.int .i64 S.reads) := Qr.cell 4
        have d5 : w3.cell? ⟨Q, 5, none⟩ = some (.bool S.down) := Qr.cell 5
        clear Qr
        go_wp2_with fail
        refine wp_region_noPanic ?_
        refine wp_region_held_drew (S := fun w' => Below w3.heap.size w3 w' ∧ w'.cell? ⟨Q, 0, none⟩ = some (.slice SA S.L.length scap) ∧ w'.cell? ⟨Q, 1, none⟩ = some (.int .i64 S.lim) ∧ w'.cell? ⟨Q, 2, none⟩ = some (.int .i64 S.fuse) ∧ w'.cell? ⟨Q, 3, none⟩ = some (.int .i64 S.ops) ∧ w'.cell? ⟨Q, 4, none⟩ = some (.int .i64 S.reads) ∧ w'.cell? ⟨Q, 5, none⟩ = some (.bool S.down)) (by kernel_rfl) ⟨below_draw, d0, d1, d2, d3, d4, d5⟩ (fun hS => ?_)
        refine wpAnyH_ready (rs := [0]) (by kernel_rfl) (by simp) ?_
        refine AllReadyH.cons rfl (fun K hK => ?_) AllReadyH.nil
        simp only [List.getElem_toArray, List.getElem_cons_zero]
        go_simp
        refine (AL.out _).mono ?_
        rintro e wA ⟨rfl, hbA⟩
        refine hK.out _ _ ⟨(hS.1).trans ((hbA).mono (hS.1).size), ((hbA).cell (cell_lt hS.2.1)).trans hS.2.1, ((hbA).cell (cell_lt hS.2.2.1)).trans hS.2.2.1, ((hbA).cell (cell_lt hS.2.2.2.1)).trans hS.2.2.2.1, ((hbA).cell (cell_lt hS.2.2.2.2.1)).trans hS.2.2.2.2.1, ((hbA).cell (cell_lt hS.2.2.2.2.2.1)).trans hS.2.2.2.2.2.1, ((hbA).cell (cell_lt hS.2.2.2.2.2.2)).trans hS.2.2.2.2.2.2⟩ (fun hS1 => ?_)
        clear hK
        refine wpAnyH_take (i := 1) (v := ?_) rfl (by kernel_rfl) (by kernel_rfl) (by kernel_rfl) (fun _ _ _ h => h) (Or.inl ⟨by rfl, ?_⟩) hS1 ?_
        rotate_left
        · intro wx hSx
          try dsimp only at hSx
          go_simp
          try with_reducible rfl
        simp only [Act.put, List.getElem_toArray, List.getElem_cons_zero, List.getElem_cons_succ, List.setIfInBounds_toArray, List.set_cons_zero, List.set_cons_succ]
        refine wpAnyH_take (i := 2) (v := ?_) rfl (by kernel_rfl) (by kernel_rfl) (by kernel_rfl) (fun _ _ _ h => h) (Or.inl ⟨by rfl, ?_⟩) hS1 ?_
        rotate_left
        · intro wx hSx
          try dsimp only at hSx
          go_simp
          try with_reducible rfl
        simp only [Act.put, List.getElem_toArray, List.getElem_cons_zero, List.getElem_cons_succ, List.setIfInBounds_toArray, List.set_cons_zero, List.set_cons_succ]
        refine wpAnyH_take (i := 3) (v := ?_) rfl (by kernel_rfl) (by kernel_rfl) (by kernel_rfl) (fun _ _ _ h => h) (Or.inl ⟨by rfl, ?_⟩) hS1 ?_
        rotate_left
        · intro wx hSx
          try dsimp only at hSx
          go_simp
          try with_reducible rfl
        simp only [Act.put, List.getElem_toArray, List.getElem_cons_zero, List.getElem_cons_succ, List.setIfInBounds_toArray, List.set_cons_zero, List.set_cons_succ]
        refine wpAnyH_ready (rs := [4]) (by kernel_rfl) (by simp) ?_
        refine AllReadyH.cons rfl (fun K hK => ?_) AllReadyH.nil
        simp only [List.getElem_toArray, List.getElem_cons_zero, List.getElem_cons_succ]
        go_simp
        refine (RV.out _ hS1.1).mono ?_
        rintro e wE ⟨vq, rfl, hq, hbE⟩
        refine hK.out _ _ ⟨(hS1.1).trans ((hbE).mono (hS1.1).size), ((hbE).cell (cell_lt hS1.2.1)).trans hS1.2.1, ((hbE).cell (cell_lt hS1.2.2.1)).trans hS1.2.2.1, ((hbE).cell (cell_lt hS1.2.2.2.1)).trans hS1.2.2.2.1, ((hbE).cell (cell_lt hS1.2.2.2.2.1)).trans hS1.2.2.2.2.1, ((hbE).cell (cell_lt hS1.2.2.2.2.2.1)).trans hS1.2.2.2.2.2.1, ((hbE).cell (cell_lt hS1.2.2.2.2.2.2)).trans hS1.2.2.2.2.2.2⟩ (fun hS2 => ?_)
        clear hK
        refine wpAnyH_ready (rs := [5]) (by kernel_rfl) (by simp) ?_
        refine AllReadyH.cons rfl (fun K hK => ?_) AllReadyH.nil
        simp only [List.getElem_toArray, List.getElem_cons_zero, List.getElem_cons_succ]
        go_simp
        refine (SM.out _ _ hS2.1 hq).mono ?_
        rintro e wS ⟨rfl, hbS⟩
        refine hK.out _ _ ⟨(hS2.1).trans ((hbS).mono (hS2.1).size), ((hbS).cell (cell_lt hS2.2.1)).trans hS2.2.1, ((hbS).cell (cell_lt hS2.2.2.1)).trans hS2.2.2.1, ((hbS).cell (cell_lt hS2.2.2.2.1)).trans hS2.2.2.2.1, ((hbS).cell (cell_lt hS2.2.2.2.2.1)).trans hS2.2.2.2.2.1, ((hbS).cell (cell_lt hS2.2.2.2.2.2.1)).trans hS2.2.2.2.2.2.1, ((hbS).cell (cell_lt hS2.2.2.2.2.2.2)).trans hS2.2.2.2.2.2.2⟩ (fun hS3 => ?_)
        clear hK
        refine wpAnyH_take (i := 6) (v := ?_) rfl (by kernel_rfl) (by kernel_rfl) (by kernel_rfl) (fun _ _ _ h => h) (Or.inl ⟨by rfl, ?_⟩) hS3 ?_
        rotate_left
        · intro wx hSx
          try dsimp only at hSx
          go_simp
          try with_reducible rfl
        simp only [Act.put, List.getElem_toArray, List.getElem_cons_zero, List.getElem_cons_succ, List.setIfInBounds_toArray, List.set_cons_zero, List.set_cons_succ]
        refine wpAnyH_take (i := 7) (v := ?_) rfl (by kernel_rfl) (by kernel_rfl) (by kernel_rfl) (fun _ _ _ h => h) (Or.inl ⟨by rfl, ?_⟩) hS3 ?_
        rotate_left
        · intro wx hSx
          try dsimp only at hSx
          go_simp
          try with_reducible rfl
        simp only [Act.put, List.getElem_toArray, List.getElem_cons_zero, List.getElem_cons_succ, List.setIfInBounds_toArray, List.set_cons_zero, List.set_cons_succ]
        refine wpAnyH_take (i := 8) (v := ?_) rfl (by kernel_rfl) (by kernel_rfl) (by kernel_rfl) (fun _ _ _ h => h) (Or.inl ⟨by rfl, ?_⟩) hS3 ?_
        rotate_left
        · intro wx hSx
          try dsimp only at hSx
          go_simp
          try with_reducible rfl
        simp only [Act.put, List.getElem_toArray, List.getElem_cons_zero, List.getElem_cons_succ, List.setIfInBounds_toArray, List.set_cons_zero, List.set_cons_succ]
        refine wpAnyH_take (i := 10) (v := ?_) rfl (by kernel_rfl) (by kernel_rfl) (by kernel_rfl) (fun _ _ _ h => h) (Or.inl ⟨by rfl, ?_⟩) hS3 ?_
        rotate_left
        · intro wx hSx
          try dsimp only at hSx
          go_simp
          try with_reducible rfl
        simp only [Act.put, List.getElem_toArray, List.getElem_cons_zero, List.getElem_cons_succ, List.setIfInBounds_toArray, List.set_cons_zero, List.set_cons_succ]
        refine wpAnyH_ready (rs := [9]) (by kernel_rfl) (by simp) ?_
        refine AllReadyH.cons rfl (fun K hK => ?_) AllReadyH.nil
        simp only [List.getElem_toArray, List.getElem_cons_zero, List.getElem_cons_succ]
        go_simp
        refine (FI.out _ hS3.1).mono ?_
        rintro e wF ⟨vn, rfl, hvn, hbF⟩
        refine hK.out _ _ ⟨(hS3.1).trans ((hbF).mono (hS3.1).size), ((hbF).cell (cell_lt hS3.2.1)).trans hS3.2.1, ((hbF).cell (cell_lt hS3.2.2.1)).trans hS3.2.2.1, ((hbF).cell (cell_lt hS3.2.2.2.1)).trans hS3.2.2.2.1, ((hbF).cell (cell_lt hS3.2.2.2.2.1)).trans hS3.2.2.2.2.1, ((hbF).cell (cell_lt hS3.2.2.2.2.2.1)).trans hS3.2.2.2.2.2.1, ((hbF).cell (cell_lt hS3.2.2.2.2.2.2)).trans hS3.2.2.2.2.2.2⟩ (fun hS4 => ?_)
        clear hK
        refine wpAnyH_ready (rs := [11]) (by kernel_rfl) (by simp) ?_
        refine AllReadyH.cons rfl (fun K hK => ?_) AllReadyH.nil
        simp only [List.getElem_toArray, List.getElem_cons_zero, List.getElem_cons_succ]
        go_simp
        refine (NM.out _ hS4.1).mono ?_
        rintro e wN ⟨vm, rfl, hvm, hbN⟩
        refine hK.out _ _ ⟨(hS4.1).trans ((hbN).mono (hS4.1).size), ((hbN).cell (cell_lt hS4.2.1)).trans hS4.2.1, ((hbN).cell (cell_lt hS4.2.2.1)).trans hS4.2.2.1, ((hbN).cell (cell_lt hS4.2.2.2.1)).trans hS4.2.2.2.1, ((hbN).cell (cell_lt hS4.2.2.2.2.1)).trans hS4.2.2.2.2.1, ((hbN).cell (cell_lt hS4.2.2.2.2.2.1)).trans hS4.2.2.2.2.2.1, ((hbN).cell (cell_lt hS4.2.2.2.2.2.2)).trans hS4.2.2.2.2.2.2⟩ (fun hS5 => ?_)
        clear hK
        refine wpAnyH_ready (rs := [12]) (by kernel_rfl) (by simp) ?_
        refine AllReadyH.cons rfl (fun K hK => ?_) AllReadyH.nil
        simp only [List.getElem_toArray, List.getElem_cons_zero, List.getElem_cons_succ]
        go_simp
        refine (S2.out _ _ _ (hvn.below hbN) hvm).mono ?_
        rintro e wT ⟨rfl, hbT⟩
        refine hK.out _ _ ⟨(hS5.1).trans ((hbT).mono (hS5.1).size), ((hbT).cell (cell_lt hS5.2.1)).trans hS5.2.1, ((hbT).cell (cell_lt hS5.2.2.1)).trans hS5.2.2.1, ((hbT).cell (cell_lt hS5.2.2.2.1)).trans hS5.2.2.2.1, ((hbT).cell (cell_lt hS5.2.2.2.2.1)).trans hS5.2.2.2.2.1, ((hbT).cell (cell_lt hS5.2.2.2.2.2.1)).trans hS5.2.2.2.2.2.1, ((hbT).cell (cell_lt hS5.2.2.2.2.2.2)).trans hS5.2.2.2.2.2.2⟩ (fun hS6 => ?_)
        clear hK
        refine wpAnyH_take (i := 13) (v := ?_) rfl (by kernel_rfl) (by kernel_rfl) (by kernel_rfl) (fun _ _ _ h => h) (Or.inl ⟨by rfl, ?_⟩) hS6 ?_
        rotate_left
        · intro wx hSx
          try dsimp only at hSx
          go_simp
          try with_reducible rfl
        simp only [Act.put, List.getElem_toArray, List.getElem_cons_zero, List.getElem_cons_succ, List.setIfInBounds_toArray, List.set_cons_zero, List.set_cons_succ]
        refine wpAnyH_take (i := 14) (v := ?_) rfl (by kernel_rfl) (by kernel_rfl) (by kernel_rfl) (fun _ _ _ h => h) (Or.inl ⟨by rfl, ?_⟩) hS6 ?_
        rotate_left
        · intro wx hSx
          try dsimp only at hSx
          go_simp
          try with_reducible rfl
        simp only [Act.put, List.getElem_toArray, List.getElem_cons_zero, List.getElem_cons_succ, List.setIfInBounds_toArray, List.set_cons_zero, List.set_cons_succ]
        refine wpAnyH_done (by kernel_rfl) ?_ _
        refine NoPanic.normal ?_
        have hfin := keepW HBr.out (hS6.1)
        go_wp2_with fail
        go_ret
        exact ⟨rfl, hfin⟩
  · have hL0 : 0 < L.length := List.length_pos_iff.2 hne
    have hL1 : (0 : Int) < (L.length : Int) := by omega
    go_wp2_with fail
    refine (AL.out _).mono ?_
    rintro e w2 ⟨rfl, hb2⟩
    go_wp2_with fail
    go_ret
    exact ⟨rfl, (hb1.alloc hb1.size _).trans (hb2.mono (hb1.alloc hb1.size _).size)⟩
end SgM
end Go.Proofs.YtefknfbmphdafaaGreat
