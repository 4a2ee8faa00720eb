/- The walks of FrameApart and of its function. -/
import Derived.Test.YtidnoeahmnfodaaFrV
namespace Go.Proofs.Ytidnoeahmnfodaa
open Go.ChangeShapes Go.WideShapes Go.ChangeAt Go.RowKit CrcM FrM

def ApPost (l : List Fr) (w : World) (e : Ending) (w' : World) : Prop :=
  (((∀ f ∈ l, okF f) ∧ ∃ s : ByteArray, e = .returned (.tuple #[.string s, .bool true]) ∧ s.data.toList = catL l) ∨ (e = .returned (.tuple #[.string ⟨#[]⟩, .bool false]))) ∧ Below w.heap.size w w'
structure ApTo (l : List Fr) (k : Nat) (s : ByteArray) : Prop where
  le : k ≤ l.length
  ok : ∀ f ∈ l.take k, okF f
  text : s.data.toList = catL (l.take k)
  size : s.size ≤ 4014
theorem ApTo.next {l : List Fr} {k : Nat} {s : ByteArray} (h : ApTo l k s) (hk : k < l.length) (h1 : pkE l[k].1 l[k].2.data.toList = 0) (h2 : s.size ≤ 2000) : ApTo l (k + 1) (s ++ pkSb l[k].1 l[k].2) := by
  obtain ⟨a1, a2, a3, a4⟩ := h
  have hw : (pkSb l[k].1 l[k].2).data.toList = wh1 l[k] := pkSb_whole h1
  have hsm := pkSb_small l[k].1 l[k].2
  refine ⟨hk, ?_, by rw [append_list, a3, hw, catL_snoc l k hk], by rw [ByteArray.size_append]; omega⟩
  intro f hf
  rw [frC_take l k hk, List.mem_append, List.mem_singleton] at hf
  rcases hf with hf | rfl
  · exact a2 f hf
  · exact h1
set_option maxRecDepth 100000 in
set_option maxHeartbeats 1000000 in
theorem ap_full (b off cap : Nat) (l : List Fr) (w : World) (hl : l.length ≤ 9223372036854775807) (hb : ∀ f ∈ l, f.2.size ≤ 9223372036854775807) (hc : FrCells w b off l) (hlt : b < w.heap.size) :
    Calls Try.prog 23 #[.slice (some ⟨b, off, none⟩) l.length cap] w (ApPost l w) := by
  obtain ⟨n, hn⟩ : ∃ n, n = l.length := ⟨_, rfl⟩
  have HN := Lib.hid hn
  have HC := Lib.hid hc
  have HB := Lib.hid hb
  rw [← hn] at hl
  clear hc hb
  rw [← hn]
  clear hn
  go_enter Try.func23, Try.ntmps23
  go_wp2
  go_loopw [4, 11] (fun t i wr => ∃ k s, ApTo l k s ∧ i = .int .i64 (k : Nat) ∧ t = .string s ∧ Below w.heap.size w wr) (fun _ i _ => n - (intOf i).toNat)
  case atStart => exact ⟨0, _, ⟨Nat.zero_le _, by simp, rfl, by decide⟩, rfl, rfl, Below.refl _ _⟩
  case round =>
    obtain ⟨k, s, hto, rfl, rfl, hbw⟩ := hrel
    have hk : k ≤ n := by rw [HN.out]; exact hto.le
    have hss := hto.size
    by_cases hlk : k < n
    · have hlk' : k < l.length := by rw [← HN.out]; exact hlk
      have hc := HC.out.below hbw hlt k hlk'
      have HX := Lib.hid (fun h1 h2 => hto.next hlk' h1 h2)
      have hfb := HB.out l[k] (List.getElem_mem hlk')
      have hsm := pkSb_small l[k].1 l[k].2
      generalize l[k] = F at hc HX hfb hsm
      obtain ⟨K, D⟩ := F
      obtain ⟨c0, c1⟩ := hc
      have hltr : b < wr.heap.size := Nat.lt_of_lt_of_le hlt hbw.size
      have P1 := fun W => pack_any K D W hfb
      unfold PackPost frV at P1
      have HX' := Lib.hid (show ∀ h1 : pkE K D.data.toList = 0, s.size ≤ 2000 → ApTo l (k + 1) (s ++ pkSb K D) from HX.out)
      have hsm' : (pkSb K D).size ≤ 2014 := hsm
      clear HX hto hsm
      generalize pkE K D.data.toList = E at *
      generalize pkSb K D = S at *
      replace P1 := Lib.hid P1
      by_cases hE : E = 0
      · subst hE
        by_cases h20 : s.size ≤ 2000
        · have HT := Lib.hid (HX'.out rfl h20)
          clear HX'
          go_wp2_with (go_at_call 12; refine (P1.out _).mono ?_; rintro e w1 ⟨rfl, hb1⟩)
          have hbx := keepW hbw ((below_box wr _).trans (hb1.mono (by simp)))
          go_roundw
          case rel => exact ⟨k + 1, _, HT.out, by go_num, rfl, hbx⟩
          case measure => simp [intOf]; omega
        · clear HX'
          go_wp2_with (go_at_call 12; refine (P1.out _).mono ?_; rintro e w1 ⟨rfl, hb1⟩)
          have hbx := keepW hbw ((below_box wr _).trans (hb1.mono (by simp)))
          go_ret2
          exact ⟨Or.inr rfl, hbx⟩
      · clear HX'
        have hne : ((E : Int) != 0) = true := by rw [bne_iff_ne]; omega
        clear hE
        go_wp2_with (go_at_call 12; refine (P1.out _).mono ?_; rintro e w1 ⟨rfl, hb1⟩)
        have hbx := keepW hbw ((below_box wr _).trans (hb1.mono (by simp)))
        go_ret2
        exact ⟨Or.inr rfl, hbx⟩
    · obtain rfl : k = n := by omega
      have HO := Lib.hid (show (∀ f ∈ l, okF f) ∧ s.data.toList = catL l by
        have h1 := hto.ok
        have h2 := hto.text
        rw [HN.out, List.take_length] at h1 h2
        exact ⟨h1, h2⟩)
      clear hto
      go_wp2
      go_ret2
      exact ⟨Or.inl ⟨HO.out.1, _, rfl, HO.out.2⟩, hbw⟩
theorem ap_none (a : Option Addr) (cap : Nat) (w : World) : Calls Try.prog 23 #[.slice a 0 cap] w (ApPost [] w) := by
  go_enter Try.func23, Try.ntmps23
  go_wp2
  go_loop [4, 11] (fun t i => t = .string ⟨#[]⟩ ∧ i = .int .i64 0) (fun _ _ => 0)
  case atStart => exact ⟨rfl, rfl⟩
  case round =>
    obtain ⟨rfl, rfl⟩ := hrel
    go_wp2
    go_ret2
    exact ⟨Or.inl ⟨by simp, _, rfl, rfl⟩, Below.refl _ _⟩
theorem ap_any (v : Value) (l : List Fr) (w : World) (hl : l.length ≤ 9223372036854775807) (hb : ∀ f ∈ l, f.2.size ≤ 9223372036854775807) (h : FrRow w v l) : Calls Try.prog 23 #[v] w (ApPost l w) := by
  rcases h with ⟨a, cap, rfl, rfl⟩ | ⟨b, off, cap, rfl, hc, hlt⟩
  · exact ap_none a cap w
  · exact ap_full b off cap l w hl hb hc hlt

set_option maxRecDepth 100000 in
set_option maxHeartbeats 1000000 in
theorem walk_FrameApart (w : World) (v : Value) (hv : ReadFrames w v) (u : Value) (hu : ReadFrames w u) :
    Calls Try.prog 10 #[v, u] w fun e w' => e = .returned (.bool true) ∧ Below w.heap.size w w' := by
  obtain ⟨l, hr, hl, hb, _⟩ := hv
  obtain ⟨m, hr', hm, hb', _⟩ := hu
  have HR := Lib.hid hr
  have HB := Lib.hid hb
  have HR' := Lib.hid hr'
  have HB' := Lib.hid hb'
  have AL := Lib.hid alive_any
  clear hr hb hr' hb'
  go_enter Try.func10, Try.ntmps10
  go_wp2_with fail
  refine (ap_any v l _ hl HB.out HR.out).mono ?_
  rintro e w1 ⟨h1, hb1⟩
  have r1 := Lib.hid (HR.out.below hb1)
  have r1' := Lib.hid (HR'.out.below hb1)
  rcases h1 with ⟨ok, s, rfl, hs⟩ | rfl
  · have HS := Lib.hid hs
    have HO := Lib.hid ok
    clear hs ok
    go_wp2_with fail
    refine (ap_any u m _ hm HB'.out r1'.out).mono ?_
    rintro e w2 ⟨h2, hb2⟩
    have hbW := keepW hb1 hb2
    have r2 := Lib.hid (r1.out.below hb2)
    have r2' := Lib.hid (r1'.out.below hb2)
    clear hb1 hb2
    rcases h2 with ⟨ok', s', rfl, hs'⟩ | rfl
    · have HS' := Lib.hid hs'
      have HO' := Lib.hid ok'
      clear hs' ok'
      go_wp2_with fail
      refine (AL.out _).mono ?_
      rintro e w3 ⟨rfl, hb3⟩
      have hbW3 := keepW hbW hb3
      have r3 := Lib.hid (r2.out.below hb3)
      have r3' := Lib.hid (r2'.out.below hb3)
      clear hb3
      go_wp2_with fail
      refine (same_any v u l m _ hl hm r3.out r3'.out).mono ?_
      rintro e w4 ⟨rfl, hb4⟩
      have hbW4 := keepW hbW3 hb4
      have hdec : (s.toList == s'.toList) = decide (l = m) := by
        by_cases h : l = m
        · have : s.data.toList = s'.data.toList := by rw [HS.out, HS'.out, h]
          rw [str_eq _ _ this, h]; simp
        · have : s.data.toList ≠ s'.data.toList := by
            rw [HS.out, HS'.out]
            intro hc
            exact h (catL_inj HO.out HO'.out hc)
          rw [str_ne _ _ this]; simp [h]
      clear hb4
      generalize decide (l = m) = B at *
      cases B
      all_goals
        go_wp2
        go_ret
        exact ⟨rfl, hbW4⟩
    · go_wp2_with (go_at_call 11; refine (AL.out _).mono ?_; rintro e w3 ⟨rfl, hb3⟩)
      go_ret
      exact ⟨rfl, keepW hbW hb3⟩
  · go_wp2_with fail
    refine (ap_any u m _ hm HB'.out r1'.out).mono ?_
    rintro e w2 ⟨h2, hb2⟩
    have hbW := keepW hb1 hb2
    clear hb1 hb2
    rcases h2 with ⟨ok', s', rfl, hs'⟩ | rfl
    · clear hs' ok'
      go_wp2_with (go_at_call 11; refine (AL.out _).mono ?_; rintro e w3 ⟨rfl, hb3⟩)
      go_ret
      exact ⟨rfl, keepW hbW hb3⟩
    · go_wp2_with (go_at_call 11; refine (AL.out _).mono ?_; rintro e w3 ⟨rfl, hb3⟩)
      go_ret
      exact ⟨rfl, keepW hbW hb3⟩
end Go.Proofs.Ytidnoeahmnfodaa
