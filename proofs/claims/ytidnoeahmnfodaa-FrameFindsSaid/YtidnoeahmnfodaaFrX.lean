/- The walk of FrameFinds. -/
import Derived.Test.YtidnoeahmnfodaaFrV
namespace Go.Proofs.Ytidnoeahmnfodaa
open Go.ChangeShapes Go.WideShapes Go.ChangeAt Go.RowKit CrcM FrM

/-- What is held in the drawn region: two rows, and all that was there. -/
structure Held2 (W : World) (v u : Value) (L M : List Fr) (w : World) : Prop where
  one : FrRow w v L
  two : FrRow w u M
  below : Below W.heap.size W w
structure ARow (w : World) (v : Value) (l : List Fr) : Prop where
  row : FrRow w v l
theorem Held2.drew {W : World} {v u : Value} {L M : List Fr} (h : FrRow W v L) (h' : FrRow W u M) : Held2 W v u L M W.drew := ⟨h, h', below_draw⟩
theorem Held2.step {W w w' : World} {v u : Value} {L M : List Fr} (h : Held2 W v u L M w) (hb : Below w.heap.size w w') : Held2 W v u L M w' :=
  ⟨h.1.below hb, h.2.below hb, keepW h.3 hb⟩

set_option maxRecDepth 100000 in
set_option maxHeartbeats 1000000 in
theorem walk_FrameFinds (w : World) (v : Value) (hv : ReadFrames w v) (a1 : Int) (_iw : (Lit.int .i64 a1).wf = true) :
    Calls Try.prog 7 #[v, .int .i64 a1] w fun e w' => e = .returned (.bool true) ∧ Below w.heap.size w w' := by
  obtain ⟨l, hr, hl, hb, hcap⟩ := hv
  obtain ⟨a, cap, rfl⟩ := hr.slice
  have hcap := hcap _ _ _ rfl
  have HR := Lib.hid hr
  have HB := Lib.hid hb
  have AL := Lib.hid alive_any
  clear hr hb
  go_enter Try.func7, Try.ntmps7
  go_wp2_with fail
  refine (whole_any _ l _ hl HB.out HR.out).mono ?_
  rintro e w1 (⟨ok, vE, s, rfl, hs, owE, hb1⟩ | ⟨rfl, hb1⟩)
  · have hss : s.size ≤ 2000 := by rw [size_list, hs]; have := catL_small l ok.small; have := ok.few; omega
    obtain ⟨aE, capE, rfl, hE⟩ := ends_cells owE
    have hsl : s.size = (catL l).length := by rw [size_list, hs]
    by_cases hc : 0 ≤ a1 ∧ a1 ≤ s.size ∧ l.length ≠ 0
    · obtain ⟨hc1, hc2, hc0⟩ := hc
      obtain ⟨c, rfl⟩ : ∃ c : Nat, a1 = c := ⟨a1.toNat, by omega⟩
      have hcs : c ≤ s.size := by omega
      have HS := Lib.hid hs
      have HO := Lib.hid ok
      have HE := Lib.hid hE
      have HSL := Lib.hid hsl
      have HR1 := Lib.hid (HR.out.below hb1)
      clear hs ok hE owE hsl HB HR
      obtain ⟨n, hn⟩ : ∃ n, n = l.length := ⟨_, rfl⟩
      rw [← hn] at hl hcap hc0 ⊢
      have hz : ((n : Int) == 0) = false := by rw [beq_eq_false_iff_ne]; omega
      clear hc0
      have HN := Lib.hid hn
      clear hn
      go_wp2_with fail
      go_loop [8, 37] (fun x i => ∃ k wh, k ≤ n ∧ Cut l k c wh ∧ i = .int .i64 (k : Nat) ∧ x = .int .i64 (wh : Nat)) (fun _ i => n - (intOf i).toNat)
      case atStart => exact ⟨0, 0, Nat.zero_le _, Cut.zero l c, rfl, rfl⟩
      case round =>
        obtain ⟨k, wh, hk, hcut, rfl, rfl⟩ := hrel
        by_cases hlk : k < n
        · obtain ⟨g, rfl, hcell⟩ := HE.out k (by rw [← HN.out]; exact hlk)
          have HC := Lib.hid hcut
          clear hcut
          by_cases hle : En l (k + 1) ≤ c
          · have HY := Lib.hid (HC.out.yes hle)
            go_wp2
            go_round
            case rel => exact ⟨k + 1, k + 1, by omega, HY.out, by go_num, by go_num⟩
            case measure => simp [intOf]; omega
          · have HY := Lib.hid (HC.out.no (by omega))
            go_wp2
            go_round
            case rel => exact ⟨k + 1, wh, by omega, HY.out, by go_num, rfl⟩
            case measure => simp [intOf]; omega
        · obtain rfl : k = n := by omega
          rw [HN.out] at hcut
          have hwl := hcut.le
          have hcl : c ≤ (catL l).length := by rw [← HSL.out]; exact hcs
          have hX : (s.extract 0 c).data.toList = (catL l).take c := by rw [extract_list, List.drop_zero, HS.out]
          have F1 : ∀ W, Calls Try.prog 20 #[.string s] W fun e w' => ∃ v4, e = .returned v4 ∧ ARow w' v4 l ∧ Below W.heap.size W w' := by
            intro W
            refine (find_any _ W (by omega)).mono ?_
            rintro e w' ⟨v4, rfl, h3, h4⟩
            have hall : Cut l l.length s.size l.length := ⟨Nat.le_refl _, by rw [En_all, HSL.out]; exact Nat.le_refl _, Or.inl rfl⟩
            have hf := torn_find HO.out.ok hall (by rw [HSL.out]; exact Nat.le_refl _) (by rw [HS.out, HSL.out, List.take_length])
            rw [List.take_length] at hf
            rw [hf] at h3
            exact ⟨v4, rfl, ⟨FrRow.own h3⟩, h4⟩
          have F2 : ∀ W, Calls Try.prog 20 #[.string (s.extract 0 c)] W fun e w' => ∃ v4, e = .returned v4 ∧ ARow w' v4 (l.take wh) ∧ Below W.heap.size W w' := by
            intro W
            refine (find_any _ W (by rw [extract_size]; omega)).mono ?_
            rintro e w' ⟨v4, rfl, h3, h4⟩
            rw [torn_find HO.out.ok hcut hcl hX] at h3
            exact ⟨v4, rfl, ⟨FrRow.own h3⟩, h4⟩
          have hl20 := HO.out.few
          have htl : (l.take wh).length ≤ 20 := by have := HO.out.few; rw [List.length_take]; omega
          have hwn : wh ≤ k := by rw [HN.out]; exact hwl
          have OL : ∀ (N : List Fr), N.length ≤ 20 → ∀ v4 W, ARow W v4 N → Calls Try.prog 19 #[v4] W fun e w' => ∃ v5, e = .returned v5 ∧ ARow w' v5 N ∧ Below W.heap.size W w' := by
            intro N hN v4 W h
            refine (olds_any v4 _ W (by omega) h.row).mono ?_
            rintro e w' ⟨v5, rfl, h3, h4⟩
            exact ⟨v5, rfl, ⟨FrRow.own h3⟩, h4⟩
          have SM : ∀ (N : List Fr), N.length ≤ 20 → ∀ v5 v6 W, ARow W v5 N → FrRow W v6 N → Calls Try.prog 18 #[v5, v6] W fun e w' => e = .returned (.bool true) ∧ Below W.heap.size W w' := by
            intro N hN v5 v6 W h h'
            have := same_any v5 v6 _ _ W (by omega) (by omega) h.row h'
            rw [dec_self] at this
            exact this
          have OL1 := Lib.hid (OL l hl20)
          have OL2 := Lib.hid (OL (l.take wh) htl)
          have SM1 := Lib.hid (SM l hl20)
          have SM2 := Lib.hid (SM (l.take wh) htl)
          clear OL SM
          have rl : FrRow w1 (.slice a k cap) l := by rw [HN.out]; exact HR1.out
          have r0 := Lib.hid (HR1.out.take wh hwl)
          generalize l.take wh = M at *
          obtain ⟨X, hXX⟩ : ∃ X, X = s.extract 0 c := ⟨_, rfl⟩
          rw [← hXX] at F2
          replace hXX := hXX.symm
          replace F1 := Lib.hid F1
          replace F2 := Lib.hid F2
          have R0 := r0.out
          clear hX hcl hcut HE HO HS HSL HN HR1 htl hwl hl20
          have i1 : (wh : Int) ≤ (cap : Int) := by omega
          go_wp2_with fail
          go_region_held3 (fun w' => Held2 w1 (.slice a k cap) (.slice a wh cap) l M w') (first | exact Held2.drew rl R0 | exact Held2.step (by assumption) hb5) (first | (go_at_call 11; refine (AL.out _).mono ?_; rintro e w5 ⟨rfl, hb5⟩) | (go_at_call 20; first | (with_reducible refine (F1.out _).mono ?_; rintro e w5 ⟨v4, rfl, r4, hb5⟩) | (with_reducible refine (F2.out _).mono ?_; rintro e w5 ⟨v4, rfl, r4, hb5⟩)) | (go_at_call 19; first | (with_reducible refine (OL1.out _ _ (by assumption)).mono ?_; rintro e w5 ⟨v5, rfl, r5, hb5⟩) | (with_reducible refine (OL2.out _ _ (by assumption)).mono ?_; rintro e w5 ⟨v5, rfl, r5, hb5⟩)) | (go_at_call 18; first | (with_reducible refine (SM1.out _ _ _ (by assumption) (Held2.one (by assumption : Held2 w1 (.slice a k cap) (.slice a wh cap) l M _))).mono ?_; rintro e w5 ⟨rfl, hb5⟩) | (with_reducible refine (SM2.out _ _ _ (by assumption) (Held2.two (by assumption : Held2 w1 (.slice a k cap) (.slice a wh cap) l M _))).mono ?_; rintro e w5 ⟨rfl, hb5⟩)) | fail)
          have hbE := keepW hb1 (Held2.below (by assumption : Held2 w1 (.slice a k cap) (.slice a wh cap) l M w5))
          clear r4 r5 hb5
          go_wp2
          go_ret
          exact ⟨rfl, hbE⟩
    · clear hs ok owE hsl HB HR hE
      by_cases c0 : l.length = 0
      · have hz : ((l.length : Int) == 0) = true := by rw [c0]; rfl
        clear hc
        go_wp2_with (go_at_call 11; refine (AL.out _).mono ?_; rintro e w2 ⟨rfl, hb2⟩)
        go_ret
        exact ⟨rfl, keepW hb1 hb2⟩
      · have hz : ((l.length : Int) == 0) = false := by rw [beq_eq_false_iff_ne]; omega
        by_cases c1 : a1 < 0
        · clear hc
          go_wp2_with (go_at_call 11; refine (AL.out _).mono ?_; rintro e w2 ⟨rfl, hb2⟩)
          go_ret
          exact ⟨rfl, keepW hb1 hb2⟩
        · have c2 : (s.size : Int) < a1 := by omega
          clear hc
          go_wp2_with (go_at_call 11; refine (AL.out _).mono ?_; rintro e w2 ⟨rfl, hb2⟩)
          go_ret
          exact ⟨rfl, keepW hb1 hb2⟩
  · go_wp2_with (go_at_call 11; refine (AL.out _).mono ?_; rintro e w2 ⟨rfl, hb2⟩)
    go_ret
    exact ⟨rfl, keepW hb1 hb2⟩
end Go.Proofs.Ytidnoeahmnfodaa
