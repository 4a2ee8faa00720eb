/- The walk of the law's made. -/
import Derived.Test.YtgkphogefpmeaaaRfK
namespace Go.Proofs.Ytgkphogefpmeaaa
open Go.RowKit Go.Maps DkM

/-- The disk behind a script. -/
def scr (lim : Int) (l : List Op5) (ks : List Int) : Dk := l.foldl (fun S o => (doOp S o ks).1) (newS lim)
theorem scr_next (lim : Int) (l : List Op5) (ks : List Int) (k : Nat) (h : k < l.length) : scr lim (l.take (k + 1)) ks = (doOp (scr lim (l.take k) ks) l[k] ks).1 := by
  unfold scr
  rw [List.take_succ_eq_append_getElem h, List.foldl_append]
  rfl
theorem Iv.scr {lim : Int} {l : List Op5} {ks : List Int} (hok : ∀ o ∈ l, OkOp o) : Iv l.length (Go.Proofs.Ytgkphogefpmeaaa.scr lim l ks) := by
  have : ∀ k, k ≤ l.length → Iv k (Go.Proofs.Ytgkphogefpmeaaa.scr lim (l.take k) ks) := by
    intro k
    induction k with
    | zero => intro _; exact Iv.new lim
    | succ k ih =>
      intro h
      rw [scr_next lim l ks k (by omega)]
      exact (ih (by omega)).doOp (hok _ (List.getElem_mem _)) ks
  have h := this l.length (Nat.le_refl _)
  rw [List.take_length] at h
  exact h
theorem results_tr {P : Program} {fn : Func} {p a : Tmp} {ty : TypeId} (h : fn.results = #[.tmp a, .cell p ty]) (tmps : Array Value) (w : World) (g : Nat) (t : TypeId) (cs : Array Value) (fr : Nat × Nat) (d : TypeDesc)
    (hp : tmps.getD p undef = .pointer (some ⟨g, 0, none⟩)) (hg : w.heap[g]? = some (.cells cs t fr))
    (hu : P.underlying ty = some d) (hd : (match d with | .struct _ | .array _ _ => true | _ => false) = true) (hi : (P.info? ty).map (·.size) = some cs.size) :
    (results fn tmps).run P w = .ok (.tuple #[tmps.getD a undef, .agg cs]) w := by
  have hp' : tmps[p]?.getD undef = .pointer (some ⟨g, 0, none⟩) := by simpa using hp
  simp [results, h, hp', asAddr, run_loadVar_row w g t ty cs fr d hg hu hd hi]
theorem disk_six {w : World} {p b R : Nat} {S : Dk} (h : DiskAt w p b S) (h1 : p ≠ R) (h2 : b ≠ R) (a0 a1 a2 a3 a4 a5 : Value) :
    DiskAt ((((((w.setCell ⟨R, 0, none⟩ a0).setCell ⟨R, 1, none⟩ a1).setCell ⟨R, 2, none⟩ a2).setCell ⟨R, 3, none⟩ a3).setCell ⟨R, 4, none⟩ a4).setCell ⟨R, 5, none⟩ a5) p b S := by
  have one : ∀ {w : World} (i : Nat) (u : Value), DiskAt w p b S → DiskAt (w.setCell ⟨R, i, none⟩ u) p b S := fun {w} i u h => ⟨h.blk.far (by simpa using h1) u, h.own.far (by simpa using h2) u⟩
  exact one _ _ (one _ _ (one _ _ (one _ _ (one _ _ (one _ _ h)))))
theorem blk_six {w : World} {g R : Nat} {t : TypeId} {cs : Array Value} (h : Blk w g t cs) (h1 : g ≠ R) (a0 a1 a2 a3 a4 a5 : Value) :
    Blk ((((((w.setCell ⟨R, 0, none⟩ a0).setCell ⟨R, 1, none⟩ a1).setCell ⟨R, 2, none⟩ a2).setCell ⟨R, 3, none⟩ a3).setCell ⟨R, 4, none⟩ a4).setCell ⟨R, 5, none⟩ a5) g t cs :=
  (((((h.far (by simpa using h1) _).far (by simpa using h1) _).far (by simpa using h1) _).far (by simpa using h1) _).far (by simpa using h1) _).far (by simpa using h1) _
theorem six_any {W : World} {R : Nat} {sl' : Value} {S' : Dk} {cs : Array Value} (h : Blk W R 30 (dC sl' S')) {sl : Value} {S : Dk} (hcs : cs = dC sl S) :
    Blk ((((((W.setCell ⟨R, 0, none⟩ sl).setCell ⟨R, 1, none⟩ (.int .i64 S.lim)).setCell ⟨R, 2, none⟩ (.int .i64 S.fuse)).setCell ⟨R, 3, none⟩ (.int .i64 S.ops)).setCell ⟨R, 4, none⟩ (.int .i64 S.reads)).setCell ⟨R, 5, none⟩ (.bool S.down)) R 30 cs := by
  subst hcs
  exact (((((h.set_ 0 _).set_ 1 _).set_ 2 _).set_ 3 _).set_ 4 _).set_ 5 _
def MadePost (S : Dk) (w : World) (e : Ending) (w' : World) : Prop := ∃ (p b lo : Nat) (sl : Value), e = .returned (.tuple #[ptr p, rfV sl S]) ∧ w.heap.size ≤ p ∧ w.heap.size ≤ b ∧ p < lo ∧ b < lo ∧ DiskAt w' p b S ∧ FsAt w' lo sl S.L ∧ Below w.heap.size w w'

set_option maxRecDepth 100000 in
set_option maxHeartbeats 1000000 in
theorem made_any {w : World} (lim : Int) {v : Value} {l : List Op5} (hl : OpsAt w v l) (hok : ∀ o ∈ l, OkOp o) (hl60 : l.length ≤ 60) {ks : List Int} {kb : Nat} {K : Value} (hK : IntsAt w kb ks K) (hkb : 0 < ks.length → kb < w.heap.size) (hkw : ∀ x ∈ ks, -9223372036854775808 ≤ x ∧ x ≤ 9223372036854775807) :
    Calls Try.prog 19 #[.int .i64 lim, v, K] w (MadePost (scr lim l ks) w) := by
  obtain ⟨A, cap, rfl, hcap, hA⟩ := hl
  have HK := Lib.hid hK
  obtain ⟨KA, kcap, rfl, -, -⟩ := hK
  have HA := Lib.hid hA
  replace hok := Lib.hid hok
  replace hkb := Lib.hid hkb
  replace hkw := Lib.hid hkw
  clear hA hcap
  go_enter Try.func19, Try.ntmps19
  go_wp2_with fail
  obtain ⟨W, hW⟩ : ∃ W, W = w.alloc (.cells #[.slice none 0 0, .int .i64 0, .int .i64 0, .int .i64 0, .int .i64 0, .bool false] 30) := ⟨_, rfl⟩
  have bR : Blk W w.heap.size 30 zC := by rw [hW]; exact Blk.new _ _ _
  have hbW : Below w.heap.size w W := by rw [hW]; exact below_one _ _
  rw [← hW]
  clear hW
  refine (new_lo lim _).mono ?_
  rintro e w1 ⟨p, b, rfl, hp, hb, hD, hb1⟩
  have BR1 := Lib.hid (bR.below' hb1)
  have HD1 := Lib.hid hD
  have hB1 : Below w.heap.size w w1 := hbW.trans (hb1.mono hbW.size)
  have hwp : w.heap.size < p := Nat.lt_of_lt_of_le bR.lt hp
  have hwb : w.heap.size < b := Nat.lt_of_lt_of_le bR.lt hb
  have hp1 : p < w1.heap.size := hD.blk.lt
  have hb1' : b < w1.heap.size := hD.own.lt
  clear hD hb1 hp hb bR hbW
  go_wp2_with fail
  refine (rnew_any lim _).mono ?_
  rintro e w2 ⟨rfl, hb2⟩
  have BR2 := Lib.hid (BR1.out.below' hb2)
  have HD2 := Lib.hid (HD1.out.belowS hb2)
  have hB2 : Below w.heap.size w w2 := hB1.trans (hb2.mono hB1.size)
  have hp2 : p < w2.heap.size := Nat.lt_of_lt_of_le hp1 hb2.size
  have hb2' : b < w2.heap.size := Nat.lt_of_lt_of_le hb1' hb2.size
  clear hb2 hp1 hb1'
  have HS0 := Lib.hid (show scr lim (l.take 0) ks = newS lim from rfl)
  go_wp2_with fail
  obtain ⟨Q, hQ⟩ : ∃ Q, Q = w2.heap.size := ⟨_, rfl⟩
  generalize hN : newS lim = N at *
  obtain ⟨W3, hW3⟩ : ∃ W3, W3 = w2.alloc (.cells #[.slice none 0 0, .int .i64 N.lim, .int .i64 N.fuse, .int .i64 N.ops, .int .i64 N.reads, .bool N.down] 30) := ⟨_, rfl⟩
  have B3 := Lib.hid (show Blk W3 Q 30 (dC (.slice none 0 0) N) by rw [hW3, hQ]; exact Blk.new _ _ _)
  have HD3 := Lib.hid (show DiskAt W3 p b N by rw [hW3]; exact HD2.out.alloc _)
  have BR3 := Lib.hid (show Blk W3 w.heap.size 30 zC by rw [hW3]; exact BR2.out.alloc _)
  have hB3 : Below w.heap.size w W3 := by rw [hW3]; exact hB2.alloc hB2.size _
  have HF3 := Lib.hid (show FsAt W3 (Q + 1) (.slice none 0 0) N.L by rw [← hN]; exact FsAt.nil _ _ _ _)
  have HI3 := Lib.hid (show Iv 0 N by rw [← hN]; exact Iv.new lim)
  have hpQ : p < Q := by omega
  have hbQ : b < Q := by omega
  rw [← hW3, ← hQ]
  clear hW3 hQ hB2 hp2 hb2' hN
  go_loopw [18] (fun i wr => ∃ (k : Nat) (S : Dk) (sl : Value), k ≤ l.length ∧ i = .int .i64 k ∧ scr lim (l.take k) ks = S ∧ Iv k S ∧ DiskAt wr p b S ∧ Blk wr Q 30 (dC sl S) ∧ FsAt wr (Q + 1) sl S.L ∧ Blk wr w.heap.size 30 zC ∧ Below w.heap.size w wr) (fun i _ => l.length - (intOf i).toNat)
  case atStart => exact ⟨0, N, .slice none 0 0, Nat.zero_le _, rfl, HS0.out, HI3.out, HD3.out, B3.out, HF3.out, BR3.out, hB3⟩
  case round =>
    obtain ⟨k, S, sl, hk, rfl, hS, hI, hD, hQ, hF, hR, hb⟩ := hrel
    have HDr := Lib.hid hD
    have HIr := Lib.hid hI
    have HSr := Lib.hid hS
    have HQr := Lib.hid hQ
    have HFr := Lib.hid hF
    have HRr := Lib.hid hR
    obtain ⟨SA, scap, hsl, -, -⟩ := hF
    subst hsl
    clear hD hI hS hQ hR
    by_cases hlt : k < l.length
    · obtain ⟨g, off, rfl, hgl, hgc⟩ := OpsAt.at_ HA.out hb hlt
      obtain ⟨o, ho⟩ : ∃ o, o = l[k] := ⟨_, rfl⟩
      obtain ⟨q0, q1, q2, q3⟩ := hgc o ho
      have hoo := Lib.hid (hok.out o (by rw [ho]; exact List.getElem_mem _))
      have HSN := Lib.hid (scr_next lim l ks k hlt)
      rw [← ho, HSr.out] at HSN
      clear hgc ho
      go_wp2_with fail
      obtain ⟨W, hW⟩ : ∃ W, W = wr.alloc (.cells #[.int .i64 o.k, .string o.a, .string o.b, .int .i64 o.n] 34) := ⟨_, rfl⟩
      rw [← hW]
      have DW := Lib.hid (show DiskAt W p b S by rw [hW]; exact HDr.out.alloc _)
      have QW := Lib.hid (show Blk W Q 30 (dC (.slice SA S.L.length scap) S) by rw [hW]; exact HQr.out.alloc _)
      have FW := Lib.hid (show FsAt W (Q + 1) (.slice SA S.L.length scap) S.L by rw [hW]; exact HFr.out.alloc _)
      have RW := Lib.hid (show Blk W w.heap.size 30 zC by rw [hW]; exact HRr.out.alloc _)
      have OW := Lib.hid (show Blk W wr.heap.size 34 (oC o) by rw [hW]; exact Blk.new _ _ _)
      have hbW : Below w.heap.size w W := by rw [hW]; exact hb.alloc hb.size _
      have IW := Lib.hid (IntsAt.keep HK.out (fun h => hbW.block kb (hkb.out h)))
      have hQr : Q < wr.heap.size := HQr.out.lt
      clear hW q0 q1 q2 q3
      refine (do_any DW.out (HIr.out.bd (by omega)) HIr.out.names hoo.out IW.out (fun h => ⟨Nat.lt_of_lt_of_le (hkb.out h) hbW.size, by have := hkb.out h; omega, by have := hkb.out h; omega⟩) hkw.out).mono ?_
      rintro e w4 ⟨rfl, D4, K4⟩
      have Q4 := Lib.hid (K4.blk QW.out (by omega) (by omega))
      have F4 := Lib.hid (FW.out.kp K4 (by omega) (by omega))
      have R4 := Lib.hid (K4.blk RW.out (by omega) (by omega))
      have O4 := Lib.hid (K4.blk OW.out (by omega) (by omega))
      have HD4 := Lib.hid D4
      have hb4 : Below w.heap.size w w4 := hbW.trans (K4.below (by omega) (by omega) hbW.size)
      have I4 := Lib.hid (IntsAt.keep HK.out (fun h => hb4.block kb (hkb.out h)))
      have hQ4 : Q < w4.heap.size := Q4.out.lt
      have hr4 : wr.heap.size < w4.heap.size := O4.out.lt
      clear D4 K4 hbW
      have d0 : w4.cell? ⟨Q, 0, none⟩ = some ((.slice SA S.L.length scap)) := Q4.out.cell 0
      have d1 : w4.cell? ⟨Q, 1, none⟩ = some (.int .i64 S.lim) := Q4.out.cell 1
      have d2 : w4.cell? ⟨Q, 2, none⟩ = some (.int .i64 S.fuse) := Q4.out.cell 2
      have d3 : w4.cell? ⟨Q, 3, none⟩ = some (.int .i64 S.ops) := Q4.out.cell 3
      have d4 : w4.cell? ⟨Q, 4, none⟩ = some (.int .i64 S.reads) := Q4.out.cell 4
      have d5 : w4.cell? ⟨Q, 5, none⟩ = some (.bool S.down) := Q4.out.cell 5
      have fd0 := Q4.out.frozen 0
      have fd1 := Q4.out.frozen 1
      have fd2 := Q4.out.frozen 2
      have fd3 := Q4.out.frozen 3
      have fd4 := Q4.out.frozen 4
      have fd5 := Q4.out.frozen 5
      have o0 : w4.cell? ⟨wr.heap.size, 0, none⟩ = some (.int .i64 o.k) := O4.out.cell 0
      have o1 : w4.cell? ⟨wr.heap.size, 1, none⟩ = some (.string o.a) := O4.out.cell 1
      have o2 : w4.cell? ⟨wr.heap.size, 2, none⟩ = some (.string o.b) := O4.out.cell 2
      have o3 : w4.cell? ⟨wr.heap.size, 3, none⟩ = some (.int .i64 o.n) := O4.out.cell 3
      go_wp2_with fail
      have DO := Lib.hid (does5_any F4.out (HIr.out.bd (by omega)) (by have := HIr.out.len; omega) HIr.out.names hoo.out I4.out (fun h => Nat.lt_of_lt_of_le (hkb.out h) hb4.size) hkw.out)
      have IN := Lib.hid (HIr.out.doOp hoo.out ks)
      generalize hT : doOp S o ks = T at DO HD4 HSN IN
      clear hT
      refine DO.out.mono ?_
      rintro e w5 ⟨v5, rfl, hF5, hb5⟩
      have HD5 := Lib.hid (HD4.out.belowS hb5)
      have Q5 := Lib.hid (Q4.out.below' hb5)
      have R5 := Lib.hid (R4.out.below' hb5)
      have hbw5 : Below w.heap.size w w5 := hb4.trans (hb5.mono hb4.size)
      have HF5 : Hid (FsAt w5 (Q + 1) v5 T.1.L) := Lib.hid (by
        rcases hF5 with ⟨h1, h2⟩ | h1
        · rw [h1, h2]; exact F4.out.below hb5
        · exact h1.mono (by omega))
      have hQ5 : Q < w5.heap.size := Q5.out.lt
      clear hF5 hb5 d0 d1 d2 d3 d4 d5 fd0 fd1 fd2 fd3 fd4 fd5 o0 o1 o2 o3
      obtain ⟨VA, vcap, hv, -, -⟩ := HF5.out
      subst hv
      have d0 : w5.cell? ⟨Q, 0, none⟩ = some ((.slice SA S.L.length scap)) := Q5.out.cell 0
      have d1 : w5.cell? ⟨Q, 1, none⟩ = some (.int .i64 S.lim) := Q5.out.cell 1
      have d2 : w5.cell? ⟨Q, 2, none⟩ = some (.int .i64 S.fuse) := Q5.out.cell 2
      have d3 : w5.cell? ⟨Q, 3, none⟩ = some (.int .i64 S.ops) := Q5.out.cell 3
      have d4 : w5.cell? ⟨Q, 4, none⟩ = some (.int .i64 S.reads) := Q5.out.cell 4
      have d5 : w5.cell? ⟨Q, 5, none⟩ = some (.bool S.down) := Q5.out.cell 5
      have fd0 := Q5.out.frozen 0
      have fd1 := Q5.out.frozen 1
      have fd2 := Q5.out.frozen 2
      have fd3 := Q5.out.frozen 3
      have fd4 := Q5.out.frozen 4
      have fd5 := Q5.out.frozen 5
      go_wp2_with fail
      go_roundw
      case rel =>
        refine ⟨k + 1, T.1, .slice VA T.1.L.length vcap, by omega, by go_num, HSN.out, IN.out, ?_, ?_, ?_, ?_, ?_⟩
        · exact disk_six HD5.out (by omega) (by omega) _ _ _ _ _ _
        · exact six_any Q5.out rfl
        · exact HF5.out.six (by omega) _ _ _ _ _ _
        · exact blk_six R5.out (by omega) _ _ _ _ _ _
        · exact six_below hbw5 (by omega) _ _ _ _ _ _
      case measure => simp [intOf]; omega
    · have hke : k = l.length := by omega
      have HSE := Lib.hid (show scr lim l ks = S by rw [← HSr.out, hke, List.take_length])
      have hQr : Q < wr.heap.size := HQr.out.lt
      have hwr : w.heap.size < wr.heap.size := HRr.out.lt
      clear hke
      have d0 : wr.cell? ⟨Q, 0, none⟩ = some ((.slice SA S.L.length scap)) := HQr.out.cell 0
      have d1 : wr.cell? ⟨Q, 1, none⟩ = some (.int .i64 S.lim) := HQr.out.cell 1
      have d2 : wr.cell? ⟨Q, 2, none⟩ = some (.int .i64 S.fuse) := HQr.out.cell 2
      have d3 : wr.cell? ⟨Q, 3, none⟩ = some (.int .i64 S.ops) := HQr.out.cell 3
      have d4 : wr.cell? ⟨Q, 4, none⟩ = some (.int .i64 S.reads) := HQr.out.cell 4
      have d5 : wr.cell? ⟨Q, 5, none⟩ = some (.bool S.down) := HQr.out.cell 5
      have r0 : wr.cell? ⟨w.heap.size, 0, none⟩ = some (.slice none 0 0) := HRr.out.cell 0
      have r1 : wr.cell? ⟨w.heap.size, 1, none⟩ = some (.int .i64 0) := HRr.out.cell 1
      have r2 : wr.cell? ⟨w.heap.size, 2, none⟩ = some (.int .i64 0) := HRr.out.cell 2
      have r3 : wr.cell? ⟨w.heap.size, 3, none⟩ = some (.int .i64 0) := HRr.out.cell 3
      have r4 : wr.cell? ⟨w.heap.size, 4, none⟩ = some (.int .i64 0) := HRr.out.cell 4
      have r5 : wr.cell? ⟨w.heap.size, 5, none⟩ = some (.bool false) := HRr.out.cell 5
      have fr0 := HRr.out.frozen 0
      have fr1 := HRr.out.frozen 1
      have fr2 := HRr.out.frozen 2
      have fr3 := HRr.out.frozen 3
      have fr4 := HRr.out.frozen 4
      have fr5 := HRr.out.frozen 5
      go_wp2_with fail
      go_region
      go_wp2_with fail
      refine bodyPost_ret (results_tr (a := 6) (p := 7) rfl _ _ _ _ _ _ _ rfl (Blk.drew (six_set HRr.out (.slice SA S.L.length scap) S rfl)) Try.underlying30 rfl info_disk) rfl ?_
      rw [HSE.out]
      exact ⟨p, b, Q + 1, _, rfl, by omega, by omega, by omega, by omega, (disk_six HDr.out (by omega) (by omega) _ _ _ _ _ _).drew, FsAt.drewN (HFr.out.six (by omega) _ _ _ _ _ _) 1, below_drew2 (six_below hb (Nat.le_refl _) _ _ _ _ _ _)⟩
end Go.Proofs.Ytgkphogefpmeaaa
