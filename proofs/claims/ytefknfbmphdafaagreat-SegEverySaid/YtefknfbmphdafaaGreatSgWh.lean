/- The law of all bytes of a file: the walk. -/
import Derived.Test.YtefknfbmphdafaaGreatSgJ
import Derived.Test.YtefknfbmphdafaaGreatSgAl
namespace Go.Proofs.YtefknfbmphdafaaGreat
namespace SgM
open Go Go.RowKit CrcM FrM
open Ds (Blk DiskAt Kp Bd flB nul ptr Dk FsAt rfV dC Iv doC doOp Op5 OkOp newS mdS md_all)
open Ds.DkM (Fl lkF usd Rise)

def zzz : ByteArray := ⟨#[122, 122, 122]⟩
def dwn (S : Dk) : Dk := (doC { S with fuse := 0 } zzz).1
theorem doC_reads (S : Dk) (n : ByteArray) : (doC S n).1.reads = S.reads := by
  unfold doC Ds.opR
  split
  · rfl
  split
  · rfl
  split <;> rfl
theorem wh_le {S : Dk} {n : ByteArray} (h : whE S n = 0) : whN S n ≤ (whX S n).size / 64 + 1 := by
  unfold whN; rw [if_pos h]; omega
theorem whX_bound {S : Dk} (hB : Bd S) (n : ByteArray) : (whX S n).size ≤ 1073741824 := Nat.le_trans (whX_le S n) hB.used1
structure WhAt (w wx : World) (Q p b : Nat) (S : Dk) (A : Option Addr) (c lo : Nat) : Prop where
  iv : Iv 100 S
  rd : S.reads = 0
  disk : DiskAt wx p b S
  blk : Blk wx Q 43 (dC (.slice A S.L.length c) S)
  fs : FsAt wx lo (.slice A S.L.length c) S.L
  pl : p < lo
  bl : b < lo
  pQ : p ≠ Q
  bQ : b ≠ Q
  pw : w.heap.size ≤ p
  bw : w.heap.size ≤ b
  bel : Below w.heap.size w wx

set_option maxRecDepth 100000 in
set_option maxHeartbeats 8000000 in
theorem walk_SegWholes (w : World) (v : Value) (hv : Ds.ReadFiles w v) (n : ByteArray) (hn : n.size ≤ maxLen) (_z : n.data.toList.length ≤ reachBytes) (dn : Bool) :
    Calls Tryz.prog 5 #[v, .string n, .bool dn] w fun e w' => e = .returned (.bool true) ∧ Below w.heap.size w w' := by
  obtain ⟨L, hF, hok, hlen⟩ := hv
  have AL := Lib.hid alive_any
  have HN := Lib.hid hn
  have MD := Lib.hid (Ds.made16_any hF hok hlen)
  have HMD := Lib.hid (md_all hok L.length (Nat.le_refl _))
  obtain ⟨A0, cap0, rfl, -, -⟩ := hF
  clear hok hn _z
  go_enter Tryz.func5, Tryz.ntmps5
  go_wp2_with fail
  refine MD.out.mono ?_
  rintro e w1 (⟨h12, hu, p, b, lo, sl, rfl, hp, hb, hpl, hbl, hD, hFs, hb1⟩ | ⟨hne, ⟨SA, scap, S, rfl⟩, hb1⟩)
  · have HFs := Lib.hid hFs
    have HD := Lib.hid hD
    obtain ⟨SA, scap, hsl, -, -⟩ := hFs
    subst hsl
    have hmd := HMD.out
    rw [List.take_length] at hmd
    obtain ⟨miv, -, mrd, mdn, mfu⟩ := hmd
    have HI := Lib.hid (miv.mono (show 4 * L.length ≤ 50 by omega))
    have HRD := Lib.hid mrd
    clear miv mrd mdn mfu
    have hp1 := hD.blk.lt
    have hb1' := hD.own.lt
    generalize mdS L = S at *
    obtain ⟨W, hW⟩ : ∃ W, W = w1.alloc (.cells #[.slice SA S.L.length scap, .int .i64 S.lim, .int .i64 S.fuse, .int .i64 S.ops, .int .i64 S.reads, .bool S.down] 43) := ⟨_, rfl⟩
    obtain ⟨Q, hQ⟩ : ∃ Q, Q = w1.heap.size := ⟨_, rfl⟩
    have BQ := Lib.hid (show Blk W Q 43 (dC (.slice SA S.L.length scap) S) by rw [hW, hQ]; exact Blk.new _ _ _)
    have DW := Lib.hid (show DiskAt W p b S by rw [hW]; exact HD.out.alloc _)
    have FW := Lib.hid (show FsAt W lo (.slice SA S.L.length scap) S.L by rw [hW]; exact HFs.out.alloc _)
    have hold := Lib.hid (HFs.out.old (R := Q) (by omega))
    have hBW : Below w.heap.size w W := by rw [hW]; exact hb1.alloc hb1.size _
    have hQw : w.heap.size ≤ Q := by rw [hQ]; exact hb1.size
    have hpQ : p ≠ Q := by omega
    have hbQ : b ≠ Q := by omega
    have hQW : Q < W.heap.size := BQ.out.lt
    go_upto_region 2 with fail
    rw [← hW, ← hQ]
    clear hW hQ hD hb1 hp1 hb1' HMD MD
    go_upto_if 27 with fail
    go_cut [] from 28 (fun wx => ∃ (S2 : Dk) (A : Option Addr) (c lo2 : Nat), WhAt w wx Q p b S2 A c lo2)
    case first =>
      cases dn with
      | false =>
        go_wp2
        go_meet
        case rel => exact ⟨S, SA, scap, lo, HI.out.mono (by omega), HRD.out, DW.out, BQ.out, FW.out, hpl, hbl, hpQ, hbQ, hp, hb, hBW⟩
      | true =>
        go_wp2_with fail
        refine (Ds.setFuse_any DW.out 0).mono ?_
        rintro e w2 ⟨rfl, D2, K2⟩
        have HD2 := Lib.hid (show DiskAt w2 p b { S with fuse := 0 } from D2)
        have Q2 := Lib.hid (K2.blk BQ.out (by omega) (by omega))
        have F2 := Lib.hid (FW.out.kp K2 hpl hbl)
        have hB2 := hBW.trans (K2.below (by omega) (by omega) hBW.size)
        have HI1 := Lib.hid (show Iv 50 { S with fuse := 0 } from HI.out.fuse 0 (by omega))
        clear D2 K2
        go_wp2_with fail
        refine (Ds.create_any HD2.out (HI1.out.bd (by omega)) (n := zzz) (by unfold maxLen; decide)).mono ?_
        rintro e w3 ⟨rfl, D3, K3⟩
        have HD3 := Lib.hid D3
        have Q3 := K3.blk Q2.out (by omega) (by omega)
        have F3 := Lib.hid (F2.out.kp K3 hpl hbl)
        have hB3 := hB2.trans (K3.below (by omega) (by omega) hB2.size)
        have hQ3 : Q < w3.heap.size := Q3.lt
        clear D3 K3
        have d2 : w3.cell? ⟨Q, 2, none⟩ = some (.int .i64 S.fuse) := Q3.cell 2
        have fd2 := Q3.frozen 2
        obtain ⟨X, hX⟩ : ∃ X, X = w3.setCell ⟨Q, 2, none⟩ (.int .i64 0) := ⟨_, rfl⟩
        have QX := Lib.hid (show Blk X Q 43 (dC (.slice SA S.L.length scap) { S with fuse := 0 }) by rw [hX]; exact Q3.set_ 2 _)
        have DX := Lib.hid (show DiskAt X p b (dwn S) by rw [hX]; exact ⟨HD3.out.blk.far (by simpa using hpQ) _, HD3.out.own.far (by simpa using hbQ) _⟩)
        have FX := Lib.hid (show FsAt X lo (.slice SA S.L.length scap) S.L by rw [hX]; exact F3.out.oneR hold.out _ _)
        have hBX : Below w.heap.size w X := by rw [hX]; exact hB3.setCell hQw _
        have hQX : Q < X.heap.size := QX.out.lt
        go_upto_region 8 with fail
        rw [← hX]
        clear hX d2 fd2 Q3
        have d0 : X.cell? ⟨Q, 0, none⟩ = some (.slice SA S.L.length scap) := QX.out.cell 0
        have d1 : X.cell? ⟨Q, 1, none⟩ = some (.int .i64 S.lim) := QX.out.cell 1
        have d2 : X.cell? ⟨Q, 2, none⟩ = some (.int .i64 0) := QX.out.cell 2
        have d3 : X.cell? ⟨Q, 3, none⟩ = some (.int .i64 S.ops) := QX.out.cell 3
        have d4 : X.cell? ⟨Q, 4, none⟩ = some (.int .i64 S.reads) := QX.out.cell 4
        have d5 : X.cell? ⟨Q, 5, none⟩ = some (.bool S.down) := QX.out.cell 5
        go_wp2_with fail
        refine (Ds.rdo_any (S := { S with fuse := 0 }) (o := ⟨0, zzz, nul, 0⟩) (Ds.rf_of FX.out (HI1.out.bd (by omega)) (by have := HI1.out.len; omega) HI1.out.names) HI1.out.rise ⟨by simp, by simp, by decide, by decide, by simp, by simp⟩ (by simp) (by simp) HI1.out.lim1 HI1.out.fuse0 HI1.out.fuse1 HI1.out.ops0 (by have := HI1.out.ops1; omega) []).mono ?_
        rintro e w5 ⟨v5, rfl, hF5, hb5⟩
        have Q5 := Lib.hid (blk_step QX.out hb5)
        have D5 := Lib.hid (DX.out.belowS hb5)
        have hB5 := hBX.trans (hb5.mono hBX.size)
        have hRD5 : (dwn S).reads = 0 := by unfold dwn; rw [doC_reads]; exact HRD.out
        have HI5 := Lib.hid (show Iv 51 (dwn S) from HI1.out.doC zzz)
        have hQ5 : Q < w5.heap.size := Q5.out.lt
        have HF5 : ∃ lo2, p < lo2 ∧ b < lo2 ∧ FsAt w5 lo2 v5 (dwn S).L ∧ ∀ g off n cap, v5 = .slice (some ⟨g, off, none⟩) n cap → 0 < (dwn S).L.length → g ≠ Q := by
          rcases hF5 with ⟨h1, h2⟩ | h1
          · have h2' : (dwn S).L = S.L := h2
            refine ⟨lo, hpl, hbl, ?_, ?_⟩
            · rw [h1, h2']; exact FX.out.below hb5
            · rw [h1, h2']; exact hold.out
          · refine ⟨X.heap.size, ?_, ?_, h1, ?_⟩
            · exact DX.out.blk.lt
            · exact DX.out.own.lt
            · intro g off n cap he hl
              have h1' : FsAt w5 X.heap.size v5 (dwn S).L := h1
              obtain ⟨A, c, h3, -, h4⟩ := h1'
              obtain ⟨g', o', e', hlo, -⟩ := h4 hl
              rw [h3, e'] at he
              simp at he
              omega
        obtain ⟨lo2, hpl2, hbl2, hF2, hold2⟩ := HF5
        have HF2 := Lib.hid hF2
        obtain ⟨VA, vcap, hv, -, -⟩ := hF2
        subst hv
        have HOLD2 := Lib.hid hold2
        have HDS := Lib.hid (show doOp { S with fuse := 0 } ⟨0, zzz, nul, 0⟩ [] = doC { S with fuse := 0 } zzz from rfl)
        rw [HDS.out]
        obtain ⟨R2, hR2⟩ : ∃ R2, R2 = (doC { S with fuse := 0 } zzz).2 := ⟨_, rfl⟩
        obtain ⟨S2, hS2⟩ : ∃ S2, S2 = dwn S := ⟨_, rfl⟩
        rw [show (doC { S with fuse := 0 } zzz).1 = S2 from hS2.symm, ← hR2]
        rw [← hS2] at D5 hRD5 HI5 HF2 HOLD2 ⊢
        have HRD5 := Lib.hid hRD5
        clear hRD5
        clear hF5 hb5 hS2 hR2 hold2 d0 d1 d2 d3 d4 d5 DX FX QX
        have d0 : w5.cell? ⟨Q, 0, none⟩ = some (.slice SA S.L.length scap) := Q5.out.cell 0
        have d1 : w5.cell? ⟨Q, 1, none⟩ = some (.int .i64 S.lim) := Q5.out.cell 1
        have d2 : w5.cell? ⟨Q, 2, none⟩ = some (.int .i64 0) := Q5.out.cell 2
        have d3 : w5.cell? ⟨Q, 3, none⟩ = some (.int .i64 S.ops) := Q5.out.cell 3
        have d4 : w5.cell? ⟨Q, 4, none⟩ = some (.int .i64 S.reads) := Q5.out.cell 4
        have d5 : w5.cell? ⟨Q, 5, none⟩ = some (.bool S.down) := Q5.out.cell 5
        have fd0 := Q5.out.frozen 0
        have fd1 := Q5.out.frozen 1
        have fd2 := Q5.out.frozen 2
        have fd3 := Q5.out.frozen 3
        have fd4 := Q5.out.frozen 4
        have fd5 := Q5.out.frozen 5
        go_wp2_with fail
        go_meet
        case rel =>
          refine ⟨S2, VA, vcap, lo2, HI5.out.mono (by omega), HRD5.out, ?_, ?_, ?_, hpl2, hbl2, hpQ, hbQ, hp, hb, ?_⟩
          · exact Ds.disk_six D5.out hpQ hbQ _ _ _ _ _ _
          · exact Ds.six_any (W := w5) (R := Q) (sl' := .slice SA S.L.length scap) (S' := { S with fuse := 0 }) (sl := .slice VA S2.L.length vcap) (S := S2) (cs := dC (.slice VA S2.L.length vcap) S2) Q5.out rfl
          · exact Ds.fs_six HF2.out HOLD2.out _ _ _ _ _ _
          · exact Ds.six_below hB5 hQw _ _ _ _ _ _
    case rest =>
      obtain ⟨S2, A2, c2, lo2, H⟩ := hcut
      have HH := Lib.hid H
      clear H DW BQ FW HI HRD hold
      have hBd := HH.out.iv.bd (by omega)
      have HBd := Lib.hid hBd
      have WP := whole_any HH.out.disk hBd (by rw [HH.out.rd]; omega) HN.out
      have hXb := whX_bound hBd n
      have hle := fun h => wh_le (S := S2) (n := n) h
      have hz : nul.size = 0 := rfl
      obtain ⟨X, hX⟩ : ∃ X, X = (if whE S2 n = 0 then whX S2 n else nul) := ⟨_, rfl⟩
      obtain ⟨E, hE⟩ : ∃ E, E = whE S2 n := ⟨_, rfl⟩
      obtain ⟨R, hR⟩ : ∃ R, R = whN S2 n := ⟨_, rfl⟩
      have hXs : X.size ≤ 1073741824 := by rw [hX]; split <;> omega
      have hRX : E = 0 → R ≤ X.size / 64 + 1 := fun h => by rw [hE] at h; rw [hR, hX, if_pos h]; exact hle h
      have HWP := Lib.hid (show Calls Tryz.prog 23 #[ptr p, .string n] wc fun e w' => e = .returned (.tuple #[.string X, .int .i64 (E : Nat)]) ∧ DiskAt w' p b { S2 with reads := (R : Nat) } ∧ Kp p b wc w' from WP.mono fun e w' ⟨h1, h2, h3⟩ => by
        rw [← hX, ← hE] at h1
        rw [HH.out.rd, ← hR, Int.zero_add] at h2
        exact ⟨h1, h2, h3⟩)
      clear WP hBd hle
      have HRW := Lib.hid (show ∀ w', FsAt w' lo2 (.slice A2 S2.L.length c2) S2.L → Calls Tryz.prog 24 #[rfV (.slice A2 S2.L.length c2) S2, .string n] w' fun e w'' => e = .returned (.tuple #[.string X, .int .i64 (R : Nat), .int .i64 (E : Nat)]) ∧ Below w'.heap.size w' w'' from fun w' h => by
        have := rwhole_any h HBd.out (by have := HH.out.iv.len; omega) n
        unfold RWPost at this
        rw [← hX, ← hE, ← hR] at this
        exact this)
      clear hX hE hR hXb
      have hpl := HH.out.pl
      have hbl := HH.out.bl
      have hQc : Q < wc.heap.size := HH.out.blk.lt
      go_wp2_with fail
      refine HWP.out.mono ?_
      rintro e w2 ⟨rfl, D2, K2⟩
      have HD2 := Lib.hid D2
      have Q2 := K2.blk HH.out.blk (fun h => HH.out.pQ h.symm) (fun h => HH.out.bQ h.symm)
      have F2 := Lib.hid (HH.out.fs.kp K2 HH.out.pl HH.out.bl)
      have hB2 := HH.out.bel.trans (K2.below HH.out.pw HH.out.bw HH.out.bel.size)
      have hQ2 : Q < w2.heap.size := Q2.lt
      clear D2 K2
      have d0 : w2.cell? ⟨Q, 0, none⟩ = some (.slice A2 S2.L.length c2) := Q2.cell 0
      have d1 : w2.cell? ⟨Q, 1, none⟩ = some (.int .i64 S2.lim) := Q2.cell 1
      have d2 : w2.cell? ⟨Q, 2, none⟩ = some (.int .i64 S2.fuse) := Q2.cell 2
      have d3 : w2.cell? ⟨Q, 3, none⟩ = some (.int .i64 S2.ops) := Q2.cell 3
      have d4 : w2.cell? ⟨Q, 4, none⟩ = some (.int .i64 S2.reads) := Q2.cell 4
      have d5 : w2.cell? ⟨Q, 5, none⟩ = some (.bool S2.down) := Q2.cell 5
      go_wp2_with fail
      refine (HRW.out _ F2.out).mono ?_
      rintro e w3 ⟨rfl, hb3⟩
      have HD3 := Lib.hid (HD2.out.belowS hb3)
      have hB3 := hB2.trans (hb3.mono hB2.size)
      clear hb3 d0 d1 d2 d3 d4 d5 Q2
      go_wp2_with fail
      refine (AL.out _).mono ?_
      rintro e w4 ⟨rfl, hb4⟩
      have HD4 := Lib.hid (HD3.out.belowS hb4)
      have hB4 := hB3.trans (hb4.mono hB3.size)
      clear hb4
      go_wp2_with fail
      refine (Ds.reads_any HD4.out).mono ?_
      rintro e w5 ⟨rfl, rfl⟩
      by_cases hE0 : E = 0
      · have hR1 := hRX hE0
        subst hE0
        have hq : ((X.size : Int)).tdiv 64 = ((X.size / 64 : Nat) : Int) := by
          rw [Int.tdiv_eq_ediv_of_nonneg (by omega)]; omega
        have hw1 : IntKind.i64.wrap ((X.size / 64 : Nat) : Int) = ((X.size / 64 : Nat) : Int) := IntWalk.i64_in _ (by omega)
        have hw2 : IntKind.i64.wrap (((X.size / 64 : Nat) : Int) + 1) = ((X.size / 64 : Nat) : Int) + 1 := IntWalk.i64_in _ (by omega)
        have hw3 : IntKind.i64.wrap ((X.size : Int) / 64) = (X.size : Int) / 64 := IntWalk.i64_in _ (by omega)
        have hw4 : IntKind.i64.wrap ((X.size : Int) / 64 + 1) = (X.size : Int) / 64 + 1 := IntWalk.i64_in _ (by omega)
        have hr1 : (R : Int) ≤ ((X.size / 64 : Nat) : Int) + 1 := by omega
        have hr2 : (R : Int) ≤ (X.size : Int) / 64 + 1 := by omega
        go_wp2_with fail
        refine (Ds.reads_any HD4.out).mono ?_
        rintro e w6 ⟨rfl, rfl⟩
        go_wp2_with fail
        go_ret
        exact ⟨rfl, hB4⟩
      · have hne : ((E : Int) != 0) = true := by rw [bne_iff_ne]; omega
        go_wp2_with fail
        go_ret
        exact ⟨rfl, hB4⟩
  · have hL0 : 0 < L.length := List.length_pos_iff.2 hne
    have hL1 : (0 : Int) < (L.length : Int) := by omega
    go_wp2_with fail
    refine (AL.out _).mono ?_
    rintro e w2 ⟨rfl, hb2⟩
    go_wp2_with fail
    go_ret
    exact ⟨rfl, (hb1.alloc hb1.size _).trans (hb2.mono (hb1.alloc hb1.size _).size)⟩
end SgM
end Go.Proofs.YtefknfbmphdafaaGreat
