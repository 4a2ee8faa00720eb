/- The walk of DiskSums. -/
import Derived.Test.YtgkphogefpmeaaaRfL
namespace Go.Proofs.Ytgkphogefpmeaaa
open Go.RowKit Go.Maps DkM

theorem bl_before : ∀ (x y : List UInt8), Op.bytesLess x y = bytesBefore x y
  | [], [] => rfl
  | _ :: _, [] => rfl
  | [], _ :: _ => rfl
  | a :: x, b :: y => by
    have e : bytesBefore (a :: x) (b :: y) = (decide (a < b) || (a == b && bytesBefore x y)) := rfl
    rw [e, Op.bytesLess, bl_before x y]
theorem bl_bf (a b : ByteArray) : Op.bytesLess a.toList b.toList = bf a b := by
  rw [bl_before, ByteArray.toList_eq, ByteArray.toList_eq]; rfl
/-- The name ahead of a file's. -/
def lastN (L : List Fl) (k : Nat) : ByteArray := match (L.take k).getLast? with | some f => f.n | none => nul
theorem lastN_next (L : List Fl) (k : Nat) (h : k < L.length) : lastN L (k + 1) = L[k].n := by
  unfold lastN
  rw [List.take_succ_eq_append_getElem h, List.getLast?_concat]
theorem bf_nul {a : ByteArray} (h : 1 ≤ a.size) : bf nul a = true := by
  unfold bf nul
  cases ha : a.data.toList with
  | nil => rw [sz_list, ha] at h; simp at h
  | cons x r => rfl
theorem lastN_bf {L : List Fl} (hR : Rise L) (hr : ∀ f ∈ L, Rgt f.n = true) (k : Nat) (h : k < L.length) : bf (lastN L k) L[k].n = true := by
  unfold lastN
  cases k with
  | zero => exact bf_nul (rgt_size (hr _ (List.getElem_mem _))).1
  | succ k =>
    rw [List.take_succ_eq_append_getElem (by omega)]
    simp only [List.getLast?_append, List.getLast?_singleton, Option.some_or]
    have := List.pairwise_iff_getElem.1 hR k (k + 1) (by omega) h (by omega)
    exact this
section
variable {w : World} {p b : Nat} {S : Dk}
theorem size_f (h : DiskAt w p b S) {n : ByteArray} {f : Fl} (hf : lkF S.L n = some f) (hn : n.size ≤ maxLen) : Calls Try.prog 22 #[ptr p, .string n] w fun e w' => e = .returned (.tuple #[.int .i64 ((f.s.size : Int) + (f.l.size : Int)), .bool true]) ∧ Below w.heap.size w w' :=
  (size_at h hf hn).mono fun e w' ⟨h1, h2⟩ => ⟨by rw [h1, app_size]; rfl, h2⟩
theorem loose_f (h : DiskAt w p b S) {n : ByteArray} {f : Fl} (hf : lkF S.L n = some f) (hn : n.size ≤ maxLen) (h1 : f.s.size + f.l.size ≤ 9223372036854775807) : Calls Try.prog 26 #[ptr p, .string n] w fun e w' => e = .returned (.int .i64 (f.l.size : Nat)) ∧ Below w.heap.size w w' :=
  (loose_at h hf hn (by rw [app_size]; exact h1) (by rw [app_size]; omega)).mono fun e w' ⟨h1, h2⟩ => ⟨by rw [h1, app_size]; exact ret_int (by omega), h2⟩
end
/-- The name of a round. -/
theorem NamesAt.at_ {w wr : World} {base : Nat} {A : Option Addr} {n cap : Nat} {L : List Fl} (h : NamesAt w base (.slice A n cap) L) (hb : Below w.heap.size w wr) {k : Nat} (hk : k < L.length) :
    ∃ g, A = some ⟨g, 0, none⟩ ∧ g < w.heap.size ∧ ∀ f, f = L[k] → wr.cell? ⟨g, k, none⟩ = some (.string f.n) := by
  obtain ⟨A', c, h1, h2⟩ := h
  obtain ⟨g, e, _, hg, hc⟩ := h2 (by omega)
  injection h1 with h1
  exact ⟨g, by rw [h1, e], hg, fun f hf => by subst hf; exact (hb.cell (by exact hg)).trans (hc k hk)⟩

set_option maxRecDepth 100000 in
set_option maxHeartbeats 1000000 in
theorem walk_DiskSums (w : World) (lim : Int) (_w0 : (Lit.int .i64 lim).wf = true) (v : Value) (hv : ReadOps w v) (u : Value) (hu : ReadInts w u) :
    Calls Try.prog 9 #[.int .i64 lim, v, u] w fun e w' => e = .returned (.bool true) ∧ Below w.heap.size w w' := by
  obtain ⟨l, hl, hok, hlen⟩ := hv
  obtain ⟨ks, kb, hks, hkb, hkw, hkl, hkc⟩ := hu
  have FW := Lib.hid (few_any hl hok hlen)
  have AL := Lib.hid alive_any
  have HOP := Lib.hid hl
  have HI := Lib.hid hks
  obtain ⟨A, cap, rfl, hcap, -⟩ := hl
  obtain ⟨KA, kcap, rfl, hkcap, -⟩ := hks
  replace hok := Lib.hid hok
  replace hkb := Lib.hid hkb
  replace hkw := Lib.hid hkw
  clear hkc
  cases hf : fewB l with
  | false =>
    have HF := Lib.hid hf
    clear hf
    go_enter Try.func9, Try.ntmps9
    go_wp2_with fail
    refine FW.out.mono ?_
    rw [HF.out]
    rintro e w1 ⟨rfl, hb1⟩
    go_wp2_with fail
    refine (AL.out _).mono ?_
    rintro e w2 ⟨rfl, hb2⟩
    go_wp2_with fail
    go_ret
    exact ⟨rfl, hb1.trans (hb2.mono hb1.size)⟩
  | true =>
    have hl60 : l.length ≤ 60 := by unfold fewB at hf; simp at hf; exact hf.2
    have HF := Lib.hid hf
    clear hf
    by_cases hk60 : 60 < ks.length
    · go_enter Try.func9, Try.ntmps9
      go_wp2_with fail
      refine FW.out.mono ?_
      rw [HF.out]
      rintro e w1 ⟨rfl, hb1⟩
      go_wp2_with fail
      refine (AL.out _).mono ?_
      rintro e w2 ⟨rfl, hb2⟩
      go_wp2_with fail
      go_ret
      exact ⟨rfl, hb1.trans (hb2.mono hb1.size)⟩
    · have hk60' : ks.length ≤ 60 := by omega
      have HIV := Lib.hid (Iv.scr (lim := lim) (ks := ks) hok.out)
      have MD := fun (W : World) (hb : Below w.heap.size w W) => made_any (w := W) lim (HOP.out.below hb) hok.out hl60 (IntsAt.keep HI.out (fun h => hb.block kb (hkb.out h))) (fun h => Nat.lt_of_lt_of_le (hkb.out h) hb.size) hkw.out
      replace MD := Lib.hid MD
      generalize scr lim l ks = S at *
      go_enter Try.func9, Try.ntmps9
      go_wp2_with fail
      refine FW.out.mono ?_
      rw [HF.out]
      rintro e w1 ⟨rfl, hb1⟩
      go_wp2_with fail
      refine (MD.out _ hb1).mono ?_
      rintro e w2 ⟨p, b, lo, sl, rfl, hp, hb, -, -, hD, hFs, hb2⟩
      obtain ⟨SA, scap, hsl, -, -⟩ := hFs
      subst hsl
      have HD := Lib.hid hD
      have hB2 : Below w.heap.size w w2 := hb1.trans (hb2.mono hb1.size)
      clear hD hb1 hb2 hp hb
      go_wp2_with fail
      obtain ⟨W, hW⟩ : ∃ W, W = w2.alloc (.cells #[.slice SA S.L.length scap, .int .i64 S.lim, .int .i64 S.fuse, .int .i64 S.ops, .int .i64 S.reads, .bool S.down] 30) := ⟨_, rfl⟩
      have HDW := Lib.hid (show DiskAt W p b S by rw [hW]; exact HD.out.alloc _)
      have hBW : Below w.heap.size w W := by rw [hW]; exact hB2.alloc hB2.size _
      rw [← hW]
      clear hW hB2 HD
      have FL := Lib.hid (files_any HDW.out (HIV.out.bd (by omega)))
      refine FL.out.mono ?_
      rintro e w3 ⟨fv, rfl, hN, hb3⟩
      have HD3 := Lib.hid (HDW.out.belowS hb3)
      have hB3 : Below w.heap.size w w3 := hBW.trans (hb3.mono hBW.size)
      have HN := Lib.hid hN
      obtain ⟨FA, fcap, rfl, -⟩ := hN
      have hlen : S.L.length ≤ 60 := by have := HIV.out.len; omega
      have hus : usd S.L ≤ 1073741824 := (HIV.out.bd (by omega)).used1
      have HNM := Lib.hid HIV.out.names
      clear hBW hb3 HDW FL hkl
      have HS := Lib.hid (HIV.out.used)
      go_wp2_with fail
      go_loopw [9, 10, 36] (fun sm la i wr => ∃ k : Nat, k ≤ S.L.length ∧ i = .int .i64 k ∧ sm = .int .i64 (usd (S.L.take k) : Nat) ∧ la = .string (lastN S.L k) ∧ DiskAt wr p b S ∧ Below w3.heap.size w3 wr) (fun _ _ i _ => S.L.length - (intOf i).toNat)
      case atStart => exact ⟨0, Nat.zero_le _, rfl, rfl, rfl, HD3.out, Below.refl _ _⟩
      case round =>
        obtain ⟨k, hk, rfl, rfl, rfl, hD, hb⟩ := hrel
        have HDr := Lib.hid hD
        have hBr : Below w.heap.size w wr := hB3.trans (hb.mono hB3.size)
        clear hD
        by_cases hlt : k < S.L.length
        · obtain ⟨g, e1, hg, hc⟩ := HN.out.at_ hb hlt
          subst e1
          obtain ⟨f, hfe⟩ : ∃ f, f = S.L[k] := ⟨_, rfl⟩
          have q0 := hc f hfe
          have hmem : f ∈ S.L := by rw [hfe]; exact List.getElem_mem _
          have HLK := Lib.hid (lkF_mem HIV.out.rise hmem)
          have HFN := Lib.hid (HNM.out f hmem)
          have hfn : f.n.size ≤ 9223372036854775807 := by have := HFN.out; unfold maxLen at this; omega
          have HRG := Lib.hid (HIV.out.right f hmem)
          have hbf := lastN_bf HIV.out.rise HIV.out.right k hlt
          have hla := lastN_next S.L k hlt
          have hut := usd_take S.L k hlt
          have hul := usd_take_le S.L (k + 1)
          rw [← hfe] at hbf hla hut
          rw [hut] at hul
          have hle : f.s.size + f.l.size ≤ usd S.L := usd_le hmem
          have hgr : g < wr.heap.size := Nat.lt_of_lt_of_le hg hb.size
          have t1 : Op.bytesLess f.n.toList (lastN S.L k).toList = false := by rw [bl_bf]; exact bf_asym hbf
          have t2 : (f.n.toList == (lastN S.L k).toList) = false := seq_no (fun e => bf_ne hbf e.symm)
          obtain ⟨LA, hLA⟩ : ∃ LA, LA = lastN S.L k := ⟨_, rfl⟩
          obtain ⟨U, hU⟩ : ∃ U, U = usd (S.L.take k) := ⟨_, rfl⟩
          rw [← hLA] at t1 t2
          rw [← hU] at hut hul
          rw [← hLA, ← hU]
          have hl2 : (f.l.size : Int) ≤ (f.s.size : Int) + (f.l.size : Int) := by omega
          have HLA := Lib.hid hla
          have HUT := Lib.hid hut
          clear hc hfe hmem hbf hla hut hLA hU
          go_wp2_with fail
          refine (size_f HDr.out HLK.out HFN.out).mono ?_
          rintro e wa ⟨rfl, ha⟩
          have HDa := Lib.hid (HDr.out.belowS ha)
          have hBa : Below w.heap.size w wa := hBr.trans (ha.mono hBr.size)
          have hba : Below w3.heap.size w3 wa := hb.trans (ha.mono hb.size)
          clear ha hb hBr HDr
          go_wp2_with (go_at_call 24; refine (right_any f.n _ hfn).mono ?_; rw [HRG.out]; rintro e wb ⟨rfl, rfl⟩)
          refine (loose_f HDa.out HLK.out HFN.out (by omega)).mono ?_
          rintro e wc ⟨rfl, hc⟩
          have HDc := Lib.hid (HDa.out.belowS hc)
          have hBc : Below w.heap.size w wc := hBa.trans (hc.mono hBa.size)
          have hbc : Below w3.heap.size w3 wc := hba.trans (hc.mono hba.size)
          clear hc hba hBa HDa
          go_wp2_with fail
          refine (loose_f HDc.out HLK.out HFN.out (by omega)).mono ?_
          rintro e wd ⟨rfl, hd⟩
          have HDd := Lib.hid (HDc.out.belowS hd)
          have hbd : Below w3.heap.size w3 wd := hbc.trans (hd.mono hbc.size)
          clear hd hbc hBc HDc
          go_wp2_with fail
          go_roundw
          case rel => exact ⟨k + 1, by omega, by go_num, int_eq (by rw [HUT.out]; omega), by rw [HLA.out], HDd.out, hbd⟩
          case measure => simp [intOf]; omega
        · have hke : k = S.L.length := by omega
          have HE := Lib.hid (show ((usd (S.L.take k) : Nat) : Int) = S.used by rw [HS.out, hke, List.take_length])
          clear hke
          rw [HE.out]
          go_wp2_with fail
          refine (AL.out _).mono ?_
          rintro e w4 ⟨rfl, hb4⟩
          have HD4 := Lib.hid (HDr.out.belowS hb4)
          have hbe := hBr.trans (hb4.mono hBr.size)
          go_wp2_with fail
          refine (used_any HD4.out).mono ?_
          rintro e wz ⟨rfl, rfl⟩
          go_wp2_with fail
          go_ret
          exact ⟨rfl, hbe⟩
end Go.Proofs.Ytgkphogefpmeaaa
