/- The walk of DiskSyncs. -/
import Derived.Test.YtgkphogefpmeaaaDkG
namespace Go.Proofs.Ytgkphogefpmeaaa
open Go.RowKit Go.Maps DkM

def one (n s l : ByteArray) (u k : Int) : Dk := { L := [⟨n, s, l⟩], lim := 1000, fuse := -1, used := u, ops := k, reads := 0, down := false }
theorem oneC : doC (newS 1000) sA = (one sA nul nul 0 1, 0) := by kernel_rfl
theorem oneA {s l t : ByteArray} {u k : Int} (h : (t.size : Int) ≤ 1000 - u) : doA (one sA s l u k) sA t = (one sA s (l ++ t) (u + t.size) (k + 1), 0) := by
  have hw : whyA (one sA s l u k) sA t = 0 := by
    unfold whyA
    rw [show lkF (one sA s l u k).L sA = some ⟨sA, s, l⟩ from rfl, if_neg (by simp), if_neg (by show ¬ (1000 - u < _); omega)]
  unfold doA
  rw [hw]
  rfl
theorem oneS {s l : ByteArray} {u k : Int} : doS (one sA s l u k) sA = (one sA (s ++ l) nul u (k + 1), 0) := rfl
theorem oneR {s l : ByteArray} {u k : Int} : (doR (one sA s l u k) sA sB).2 = 0 ∧ (doR (one sA s l u k) sA sB).1.L = [⟨sB, s, l⟩] ∧ (doR (one sA s l u k) sA sB).1.down = false ∧ (doR (one sA s l u k) sA sB).1.reads = 0 := ⟨rfl, rfl, rfl, rfl⟩
/-- What stands in the file behind the crash. -/
theorem one_crash {S : Dk} {s t : ByteArray} {keep : Int} {m : Nat} (hL : S.L = [⟨sB, s, t⟩]) (hm : m = min keep.toNat t.size) : ∃ f, lkF (doCr S [keep]).L sB = some f ∧ f.s ++ f.l = s ++ t.extract 0 m ∧ lkF (doCr S [keep]).L sA = none := by
  have e : (doCr S [keep]).L = crF [⟨sB, s, t⟩] [keep] := by unfold doCr; rw [hL]
  rw [e]
  unfold crF
  by_cases h0 : t.size = 0
  · rw [if_pos h0]
    refine ⟨⟨sB, s, t⟩, rfl, ?_, rfl⟩
    have hm0 : m = 0 := by omega
    show s ++ t = _
    rw [hm0]
    have : t = t.extract 0 0 := by
      have h1 := all_of t
      rw [h0] at h1
      exact h1.symm
    rw [← this]
  · rw [if_neg h0]
    refine ⟨crO ⟨sB, s, t⟩ keep, rfl, ?_, rfl⟩
    unfold crO clK
    simp only
    rw [app_nul, hm]

set_option maxRecDepth 100000 in
set_option maxHeartbeats 4000000 in
theorem walk_DiskSyncs (w : World) (s : ByteArray) (_hs : s.size ≤ maxLen) (t : ByteArray) (_ht : t.size ≤ maxLen) (keep : Int) (w2' : (Lit.int .i64 keep).wf = true) :
    Calls Try.prog 10 #[.string s, .string t, .int .i64 keep] w fun e w' => e = .returned (.bool true) ∧ Below w.heap.size w w' := by
  have hk := bounds_i64 w2'
  have AL := Lib.hid alive_any
  have hs63 : s.size ≤ 9223372036854775807 := by unfold maxLen at _hs; omega
  have ht63 : t.size ≤ 9223372036854775807 := by unfold maxLen at _ht; omega
  clear w2'
  by_cases hs : 200 < s.size
  · go_enter Try.func10, Try.ntmps10
    go_wp2_with fail
    refine (AL.out _).mono ?_
    rintro e w2 ⟨rfl, hb2⟩
    go_wp2_with fail
    go_ret
    exact ⟨rfl, hb2⟩
  by_cases ht : 200 < t.size
  · go_enter Try.func10, Try.ntmps10
    go_wp2_with fail
    refine (AL.out _).mono ?_
    rintro e w2 ⟨rfl, hb2⟩
    go_wp2_with fail
    go_ret
    exact ⟨rfl, hb2⟩
  · have hs2 : s.size ≤ 200 := by omega
    have ht2 : t.size ≤ 200 := by omega
    clear hs ht _hs _ht
    obtain ⟨y, hy⟩ : ∃ y : Nat, max keep 0 = (y : Int) := ⟨keep.toNat, by omega⟩
    obtain ⟨m, hm⟩ : ∃ m : Nat, min (y : Int) (t.size : Int) = (m : Int) := ⟨min y t.size, by omega⟩
    have hmt : m ≤ t.size := by omega
    have hm0 : (0 : Int) ≤ (m : Int) := by omega
    have hm1 : (m : Int) ≤ (t.size : Int) := by omega
    have HM := Lib.hid (show m = min keep.toNat t.size by omega)
    have hk0 := hk.1
    have hk1 := hk.2
    clear hk
    have hcat : s.size + (t.extract 0 m).size ≤ 9223372036854775807 := by rw [ext_size]; omega
    have I1 := Lib.hid ((Iv.new 1000).doC sA)
    have I2 := Lib.hid (I1.out.doA sA s)
    have I3 := Lib.hid (I2.out.doS sA)
    have I4 := Lib.hid (I3.out.doA sA t)
    have I5 := Lib.hid (I4.out.doR sA sB)
    have I6 := Lib.hid (I5.out.crash [keep])
    have E1 := Lib.hid oneC
    have E2 := Lib.hid (show doA (doC (newS 1000) sA).1 sA s = (one sA nul (nul ++ s) (0 + s.size) 2, 0) by rw [E1.out]; exact oneA (by omega))
    have E3 := Lib.hid (show doS (doA (doC (newS 1000) sA).1 sA s).1 sA = (one sA (nul ++ (nul ++ s)) nul (0 + s.size) 3, 0) by rw [E2.out]; exact oneS)
    have E4 := Lib.hid (show doA (doS (doA (doC (newS 1000) sA).1 sA s).1 sA).1 sA t = (one sA (nul ++ (nul ++ s)) (nul ++ t) (0 + s.size + t.size) 4, 0) by rw [E3.out]; exact oneA (by omega))
    have E5 := oneR (s := nul ++ (nul ++ s)) (l := nul ++ t) (u := 0 + s.size + t.size) (k := 4)
    have E4' : (doA (doS (doA (doC (newS 1000) sA).1 sA s).1 sA).1 sA t).1 = one sA (nul ++ (nul ++ s)) (nul ++ t) (0 + s.size + t.size) 4 := by rw [E4.out]
    rw [← E4'] at E5
    simp only [nul_app] at E5
    obtain ⟨E5a, E5b, E5c, E5d⟩ := E5
    have E6 := one_crash (keep := keep) E5b HM.out
    have I1b := Lib.hid (I1.out.bd (by decide))
    have I2b := Lib.hid (I2.out.bd (by decide))
    have I3b := Lib.hid (I3.out.bd (by decide))
    have I4b := Lib.hid (I4.out.bd (by decide))
    have I5b := Lib.hid (I5.out.bd (by decide))
    have I6b := Lib.hid (I6.out.bd (by decide))
    have I5n := Lib.hid I5.out.names
    have C1 := Lib.hid (show (doC (newS 1000) sA).2 = 0 by rw [E1.out])
    have C2 := Lib.hid (show (doA (doC (newS 1000) sA).1 sA s).2 = 0 by rw [E2.out])
    have C3 := Lib.hid (show (doS (doA (doC (newS 1000) sA).1 sA s).1 sA).2 = 0 by rw [E3.out])
    have C4 := Lib.hid (show (doA (doS (doA (doC (newS 1000) sA).1 sA s).1 sA).1 sA t).2 = 0 by rw [E4.out])
    have C5 := Lib.hid E5a
    have C5d := Lib.hid E5d
    obtain ⟨f, F1, F2, F3⟩ := E6
    clear E5a E5b E5c E5d E4' E1 E2 E3 E4 I1 I2 I3 I4 I5 I6
    generalize hS1 : doC (newS 1000) sA = R1 at *
    generalize hS2 : doA R1.1 sA s = R2 at *
    generalize hS3 : doS R2.1 sA = R3 at *
    generalize hS4 : doA R3.1 sA t = R4 at *
    generalize hS5 : doR R4.1 sA sB = R5 at *
    replace hS1 := Lib.hid hS1
    replace hS2 := Lib.hid hS2
    replace hS3 := Lib.hid hS3
    replace hS4 := Lib.hid hS4
    replace hS5 := Lib.hid hS5
    replace F1 := Lib.hid F1
    replace F2 := Lib.hid F2
    replace F3 := Lib.hid F3
    have hseq := seq_yes (s ++ t.extract 0 m)
    go_enter Try.func10, Try.ntmps10
    go_wp2_with fail
    refine (new_lo 1000 _).mono ?_
    rintro e w1 ⟨p, b, rfl, hp0, hb0, hD, hb1⟩
    have H1 := Lib.hid hD
    clear hD
    go_wp2_with fail
    refine (create_any H1.out ((Iv.new 1000).bd (by decide)) (n := sA) (by unfold maxLen; decide)).mono ?_
    rw [hS1.out]
    rintro e w2 h2
    obtain ⟨e2, D2, K2⟩ := h2
    rw [C1.out] at e2
    subst e2
    have H2 : Hid (DiskAt w2 p b R1.1) := Lib.hid D2
    have hb2 : Below w.heap.size w w2 := hb1.trans (K2.below hp0 hb0 hb1.size)
    clear D2 hb1 K2 H1
    go_wp2_with fail
    refine (append_any H2.out I1b.out (n := sA) (t := s) (by unfold maxLen; decide) hs63).mono ?_
    rw [hS2.out]
    rintro e w3 h3
    obtain ⟨e3, D3, K3⟩ := h3
    rw [C2.out] at e3
    subst e3
    have H3 : Hid (DiskAt w3 p b R2.1) := Lib.hid D3
    have hb3 : Below w.heap.size w w3 := hb2.trans (K3.below hp0 hb0 hb2.size)
    clear D3 hb2 K3 H2
    go_wp2_with fail
    refine (sync_any H3.out I2b.out (n := sA) (by unfold maxLen; decide)).mono ?_
    rw [hS3.out]
    rintro e w4 h4
    obtain ⟨e4, D4, K4⟩ := h4
    rw [C3.out] at e4
    subst e4
    have H4 : Hid (DiskAt w4 p b R3.1) := Lib.hid D4
    have hb4 : Below w.heap.size w w4 := hb3.trans (K4.below hp0 hb0 hb3.size)
    clear D4 hb3 K4 H3
    go_wp2_with fail
    refine (append_any H4.out I3b.out (n := sA) (t := t) (by unfold maxLen; decide) ht63).mono ?_
    rw [hS4.out]
    rintro e w5 h5
    obtain ⟨e5, D5, K5⟩ := h5
    rw [C4.out] at e5
    subst e5
    have H5 : Hid (DiskAt w5 p b R4.1) := Lib.hid D5
    have hb5 : Below w.heap.size w w5 := hb4.trans (K5.below hp0 hb0 hb4.size)
    clear D5 hb4 K5 H4
    go_wp2_with fail
    refine (rename_any H5.out I4b.out (a := sA) (c := sB) (by unfold maxLen; decide) (by unfold maxLen; decide)).mono ?_
    rw [hS5.out]
    rintro e w6 h6
    obtain ⟨e6, D6, K6⟩ := h6
    rw [C5.out] at e6
    subst e6
    have H6 : Hid (DiskAt w6 p b R5.1) := Lib.hid D6
    have hb6 : Below w.heap.size w w6 := hb5.trans (K6.below hp0 hb0 hb5.size)
    clear D6 hb5 K6 H5
    go_wp2_with fail
    obtain ⟨V, hV⟩ : ∃ V, V = w6.alloc (.cells #[.int .i64 keep] 3) := ⟨_, rfl⟩
    rw [← hV]
    have DV : DiskAt V p b R5.1 := by rw [hV]; exact H6.out.alloc _
    have IV : IntsAt V w6.heap.size [keep] (.slice (some ⟨w6.heap.size, 0, none⟩) 1 1) := by rw [hV]; exact ints_one _ _ _
    have hVb : Below w.heap.size w V := by rw [hV]; exact hb6.alloc hb6.size _
    have lp := H6.out.blk.lt
    have lb := H6.out.own.lt
    refine (crash_any DV I5b.out I5n.out IV (fun _ => ⟨by rw [hV]; simp, by omega, by omega⟩) (by intro x hx; simp at hx; subst hx; exact ⟨hk0, hk1⟩)).mono ?_
    rintro e w7 ⟨rfl, D7, K7⟩
    have H7 : Hid (DiskAt w7 p b (doCr R5.1 [keep])) := Lib.hid D7
    have hb7 : Below w.heap.size w w7 := hVb.trans (K7.below hp0 hb0 hVb.size)
    clear DV IV hVb hV D7 K7 hb6 H6 lp lb
    go_wp2_with fail
    refine (bytes_any H7.out I6b.out (by show R5.1.reads ≤ _; rw [C5d.out]; decide) rfl (n := sB) (by unfold maxLen; decide) F1.out).mono ?_
    rw [F2.out]
    rintro e w8 ⟨rfl, c, hc, D8, K8⟩
    have H8 := Lib.hid D8
    have hb8 : Below w.heap.size w w8 := hb7.trans (K8.below hp0 hb0 hb7.size)
    clear D8 hb7 K8 H7 hc
    go_wp2_with fail
    refine (size_any H8.out (n := sA) (by unfold maxLen; decide)).mono ?_
    rw [show lkF (Dk.L { doCr R5.1 [keep] with reads := (doCr R5.1 [keep]).reads + (c : Int) }) sA = none from F3.out]
    rintro e w9 ⟨rfl, b9⟩
    have hb9 : Below w.heap.size w w9 := hb8.trans (b9.mono hb8.size)
    clear hb8 b9 H8
    go_wp2_with fail
    refine (AL.out _).mono ?_
    rintro e w10 ⟨rfl, b10⟩
    have hb10 : Below w.heap.size w w10 := hb9.trans (b10.mono hb9.size)
    clear hb9 b10
    go_wp2_with fail
    go_ret
    exact ⟨rfl, hb10⟩
end Go.Proofs.Ytgkphogefpmeaaa
