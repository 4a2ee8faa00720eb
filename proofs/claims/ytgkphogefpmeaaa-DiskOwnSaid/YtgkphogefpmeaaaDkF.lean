/- The walk of DiskRoom. -/
import Derived.Test.YtgkphogefpmeaaaDkE
namespace Go.Proofs.Ytgkphogefpmeaaa
open Go.RowKit Go.Maps DkM

def TrueBelow (w : World) (e : Ending) (w' : World) : Prop := e = .returned (.bool true) ∧ Below w.heap.size w w'
theorem new_lo (lim : Int) (w : World) :
    Calls Try.prog 13 #[.int .i64 lim] w fun e w' => ∃ p b : Nat, e = .returned (ptr p) ∧ w.heap.size ≤ p ∧ w.heap.size ≤ b ∧ DiskAt w' p b (newS lim) ∧ Below w.heap.size w w' :=
  (new_any lim w).mono fun e w' ⟨h1, h2, h3⟩ => ⟨w.heap.size + 1, w.heap.size, h1, by omega, Nat.le_refl _, h2, h3⟩
theorem opR_lim {S S' : Dk} {e : Nat} (h : S'.lim = S.lim) : (opR S e S').1.lim = S.lim := by
  unfold opR
  split
  · rfl
  split
  · rfl
  split
  · rfl
  · exact h
theorem doOp_lim (S : Dk) (o : Op5) (ks : List Int) : (doOp S o ks).1.lim = S.lim := by
  unfold doOp
  split
  · exact opR_lim rfl
  split
  · exact opR_lim rfl
  split
  · exact opR_lim rfl
  split
  · refine opR_lim ?_
    unfold didR
    split <;> rfl
  split
  · exact opR_lim rfl
  split
  · unfold doRd
    split <;> rfl
  split
  · rfl
  split <;> rfl
/-- The cells of the op of a round. -/
theorem OpsAt.at_ {w wr : World} {A : Option Addr} {l : List Op5} (h : 0 < l.length → ∃ b off, A = some ⟨b, off, none⟩ ∧ b < w.heap.size ∧ ∀ j (h : j < l.length), OpCell w b (off + j * 4) l[j]) (hb : Below w.heap.size w wr) {k : Nat} (hk : k < l.length) :
    ∃ b off, A = some ⟨b, off, none⟩ ∧ b < w.heap.size ∧ ∀ o, o = l[k] → OpCell wr b (off + k * 4) o := by
  obtain ⟨b, off, e, hlt, hc⟩ := h (by omega)
  exact ⟨b, off, e, hlt, fun o ho => by subst ho; exact (hc k hk).below hb hlt⟩

set_option maxRecDepth 100000 in
set_option maxHeartbeats 4000000 in
theorem walk_DiskRoom (w : World) (lim : Int) (_w0 : (Lit.int .i64 lim).wf = true) (v : Value) (hv : ReadOps w v) (u : Value) (hu : ReadInts w u) :
    Calls Try.prog 7 #[.int .i64 lim, v, u] w fun e w' => e = .returned (.bool true) ∧ Below w.heap.size w w' := by
  obtain ⟨l, hl, hok, hlen⟩ := hv
  obtain ⟨ks, kb, hks, hkb, hkw, hkl, hkc⟩ := hu
  have FW := Lib.hid (few_any hl hok hlen)
  have AL := Lib.hid alive_any
  obtain ⟨A, cap, rfl, hcap, hA⟩ := hl
  obtain ⟨KA, kcap, rfl, hkcap, hKA⟩ := hks
  have HI := Lib.hid (show IntsAt w kb ks (.slice KA ks.length kcap) from ⟨KA, kcap, rfl, hkcap, hKA⟩)
  have HA := Lib.hid hA
  replace hok := Lib.hid hok
  replace hkb := Lib.hid hkb
  replace hkw := Lib.hid hkw
  clear hA hKA hkc
  cases hf : fewB l with
  | false =>
    have HF := Lib.hid hf
    clear hf
    go_enter Try.func7, Try.ntmps7
    go_wp2_with fail
    refine FW.out.mono ?_
    rw [HF.out]
    rintro e w1 ⟨rfl, hb1⟩
    go_wp2_with fail
    refine (AL.out _).mono ?_
    rintro e w2 ⟨rfl, hb2⟩
    go_wp2_with fail
    go_ret
    exact ⟨rfl, hb1.trans (hb2.mono hb1.size)⟩
  | true =>
    have hl60 : l.length ≤ 60 := by unfold fewB at hf; simp at hf; exact hf.2
    have HF := Lib.hid hf
    clear hf
    by_cases hk60 : 60 < ks.length
    · go_enter Try.func7, Try.ntmps7
      go_wp2_with fail
      refine FW.out.mono ?_
      rw [HF.out]
      rintro e w1 ⟨rfl, hb1⟩
      go_wp2_with fail
      refine (AL.out _).mono ?_
      rintro e w2 ⟨rfl, hb2⟩
      go_wp2_with fail
      go_ret
      exact ⟨rfl, hb1.trans (hb2.mono hb1.size)⟩
    · obtain ⟨M, hM⟩ : ∃ M, max lim 0 = M := ⟨_, rfl⟩
      obtain ⟨L, hL⟩ : ∃ L, min M 1073741824 = L := ⟨_, rfl⟩
      have HLim := Lib.hid (show (newS lim).lim = L by rw [← hL, ← hM]; rfl)
      go_enter Try.func7, Try.ntmps7
      go_wp2_with fail
      refine FW.out.mono ?_
      rw [HF.out]
      rintro e w1 ⟨rfl, hb1⟩
      go_wp2_with fail
      refine (new_lo lim _).mono ?_
      rintro e w2 ⟨p, b, rfl, hp, hb, hD, hb2⟩
      have hD2 := Lib.hid hD
      have hB2 : Below w.heap.size w w2 := hb1.trans (hb2.mono hb1.size)
      have hp0 : w.heap.size ≤ p := Nat.le_trans hb1.size hp
      have hb0 : w.heap.size ≤ b := Nat.le_trans hb1.size hb
      clear hD hb1 hb2 hp hb
      go_wp2_with fail
      go_loopw [25] (fun i wr => ∃ (k : Nat) (S : Dk), k ≤ l.length ∧ i = .int .i64 k ∧ Iv k S ∧ S.lim = L ∧ DiskAt wr p b S ∧ Below w.heap.size w wr) (fun i _ => l.length - (intOf i).toNat)
      case atStart => exact ⟨0, newS lim, Nat.zero_le _, rfl, Iv.new lim, HLim.out, hD2.out, hB2⟩
      case round =>
        obtain ⟨k, S, hk, rfl, hI, hSL, hD, hb⟩ := hrel
        have HDr := Lib.hid hD
        have HIr := Lib.hid hI
        have HSL := Lib.hid hSL
        clear hD hI hSL
        by_cases hlt : k < l.length
        · obtain ⟨g, off, rfl, hgl, hgc⟩ := OpsAt.at_ HA.out hb hlt
          obtain ⟨o, ho⟩ : ∃ o, o = l[k] := ⟨_, rfl⟩
          obtain ⟨q0, q1, q2, q3⟩ := hgc o ho
          have hoo := Lib.hid (hok.out o (by rw [ho]; exact List.getElem_mem _))
          clear hgc ho
          go_wp2_with fail
          obtain ⟨W, hW⟩ : ∃ W, W = wr.alloc (.cells #[.int .i64 o.k, .string o.a, .string o.b, .int .i64 o.n] 34) := ⟨_, rfl⟩
          rw [← hW]
          have DW := Lib.hid (show DiskAt W p b S by rw [hW]; exact HDr.out.alloc _)
          have hbW : Below w.heap.size w W := by rw [hW]; exact hb.alloc hb.size _
          have IW := Lib.hid (IntsAt.keep HI.out (fun h => hbW.block kb (hkb.out h)))
          clear hW q0 q1 q2 q3
          refine (do_any DW.out (HIr.out.bd (by omega)) HIr.out.names hoo.out IW.out (fun h => ⟨Nat.lt_of_lt_of_le (hkb.out h) hbW.size, by have := hkb.out h; omega, by have := hkb.out h; omega⟩) hkw.out).mono ?_
          rintro e w4 ⟨rfl, D4, K4⟩
          have I4 := HIr.out.doOp hoo.out ks
          have L4 := doOp_lim S o ks
          rw [HSL.out] at L4
          generalize (doOp S o ks).1 = S4 at *
          generalize (doOp S o ks).2 = E4 at *
          have hu0 : 0 ≤ S4.used := by have := I4.used; omega
          have hu1 : S4.used ≤ S4.lim := by have := I4.used; have := I4.room; omega
          have HD4 := Lib.hid D4
          have HI4 := Lib.hid I4
          have HL4 := Lib.hid L4
          have hb4 : Below w.heap.size w w4 := hbW.trans (K4.below hp0 hb0 hbW.size)
          clear D4 I4 L4 K4
          go_wp2_with fail
          refine (used_any HD4.out).mono ?_
          rintro e wz ⟨rfl, rfl⟩
          go_wp2_with fail
          refine (limit_any HD4.out).mono ?_
          rintro e wz ⟨rfl, rfl⟩
          go_wp2_with fail
          refine (used_any HD4.out).mono ?_
          rintro e wz ⟨rfl, rfl⟩
          go_wp2_with fail
          go_roundw
          case rel => exact ⟨k + 1, S4, by omega, by go_num, HI4.out, HL4.out, HD4.out, hb4⟩
          case measure => simp [intOf]; omega
        · go_wp2_with fail
          refine (AL.out _).mono ?_
          rintro e w4 ⟨rfl, hb4⟩
          have HD4 := Lib.hid (HDr.out.belowS hb4)
          have hbe := hb.trans (hb4.mono hb.size)
          go_wp2_with fail
          refine (limit_any HD4.out).mono ?_
          rw [HSL.out]
          rintro e wz ⟨rfl, rfl⟩
          go_wp2_with fail
          go_ret
          exact ⟨rfl, hbe⟩
end Go.Proofs.Ytgkphogefpmeaaa
