/- The walk of FrameTorn. -/
import Derived.Test.YtidnoeahmnfodaaFrU
namespace Go.Proofs.Ytidnoeahmnfodaa
open Go.ChangeShapes Go.WideShapes Go.ChangeAt Go.RowKit CrcM FrM

theorem FrRow.take {w : World} {a : Option Addr} {n cap : Nat} {l : List Fr} (h : FrRow w (.slice a n cap) l) (wh : Nat) (hw : wh ≤ n) : FrRow w (.slice a wh cap) (l.take wh) := by
  rcases h with ⟨a', cap', h1, rfl⟩ | ⟨b, off, cap', h1, h2, h3⟩
  · cases h1
    obtain rfl : wh = 0 := by omega
    exact Or.inl ⟨_, _, rfl, rfl⟩
  · cases h1
    have hlen : (l.take wh).length = wh := by rw [List.length_take]; omega
    refine Or.inr ⟨b, off, cap, by rw [hlen], fun j hj => ?_, h3⟩
    have := h2 j (by omega)
    rw [List.getElem_take]
    exact this
theorem rowsDrew {W : World} {v u : Value} {M : List Fr} (h : FrRow W v M) (h' : FrRow W u M) : FrRow W.drew v M ∧ FrRow W.drew u M ∧ Below W.heap.size W W.drew := ⟨h, h', below_draw⟩
theorem rowsStep {W w w' : World} {v u : Value} {M : List Fr} (h : FrRow w v M ∧ FrRow w u M ∧ Below W.heap.size W w) (hb : Below w.heap.size w w') : FrRow w' v M ∧ FrRow w' u M ∧ Below W.heap.size W w' :=
  ⟨h.1.below hb, h.2.1.below hb, keepW h.2.2 hb⟩
theorem FrRow.slice {w : World} {v : Value} {l : List Fr} (h : FrRow w v l) : ∃ a cap, v = .slice a l.length cap := by
  rcases h with ⟨a', cap', h1, rfl⟩ | ⟨b, off, cap', h1, h2, h3⟩
  · exact ⟨_, _, h1⟩
  · exact ⟨_, _, h1⟩
theorem ends_cells {w : World} {base : Nat} {v : Value} {l : List Fr} (h : w.ownsRow base 3 1 v l.length (endsV l l.length)) :
    ∃ a cap, v = .slice a l.length cap ∧ ∀ j, j < l.length → ∃ g, a = some ⟨g, 0, none⟩ ∧ w.cell? ⟨g, j, none⟩ = some (.int .i64 (En l (j + 1) : Nat)) := by
  rcases Joins.ownsRow_forms h with ⟨rfl, h0⟩ | ⟨g, cap, rfl⟩
  · exact ⟨none, 0, by rw [h0], fun j hj => by omega⟩
  · refine ⟨_, _, rfl, fun j hj => ⟨g, rfl, ?_⟩⟩
    rw [h.cellAt j (by omega)]
    simp [endsV, hj]

theorem catL_small (l : List Fr) (h : ∀ f ∈ l, (wh1 f).length ≤ 100) : (catL l).length ≤ 100 * l.length := by
  induction l with
  | nil => exact Nat.le_refl _
  | cons f l ih =>
    rw [catL_cons, List.length_append, List.length_cons]
    have h1 := h f (List.mem_cons_self ..)
    have h2 := ih (fun x hx => h x (List.mem_cons_of_mem _ hx))
    omega

set_option maxRecDepth 100000 in
set_option maxHeartbeats 1000000 in
theorem walk_FrameTorn (w : World) (v : Value) (hv : ReadFrames w v) (a1 : Int) (w1 : (Lit.int .i64 a1).wf = true) :
    Calls Try.prog 6 #[v, .int .i64 a1] w fun e w' => e = .returned (.bool true) ∧ Below w.heap.size w w' := by
  obtain ⟨l, hr, hl, hb, hcap⟩ := hv
  obtain ⟨a, cap, rfl⟩ := hr.slice
  have hcap := hcap _ _ _ rfl
  have HR := Lib.hid hr
  have HB := Lib.hid hb
  have AL := Lib.hid alive_any
  clear hr hb
  go_enter Try.func6, Try.ntmps6
  go_wp2_with fail
  refine (whole_any _ l _ hl HB.out HR.out).mono ?_
  rintro e w1 (⟨ok, vE, s, rfl, hs, owE, hb1⟩ | ⟨rfl, hb1⟩)
  · have hss : s.size ≤ 2000 := by rw [size_list, hs]; have := catL_small l ok.small; have := ok.few; omega
    obtain ⟨aE, capE, rfl, hE⟩ := ends_cells owE
    have hsl : s.size = (catL l).length := by rw [size_list, hs]
    by_cases hc : 0 ≤ a1 ∧ a1 ≤ s.size
    · obtain ⟨hc1, hc2⟩ := hc
      obtain ⟨c, rfl⟩ : ∃ c : Nat, a1 = c := ⟨a1.toNat, by omega⟩
      have hcs : c ≤ s.size := by omega
      have HS := Lib.hid hs
      have HO := Lib.hid ok
      have HE := Lib.hid hE
      have HSL := Lib.hid hsl
      have HR1 := Lib.hid (HR.out.below hb1)
      clear hs ok hE owE hsl HB HR
      obtain ⟨n, hn⟩ : ∃ n, n = l.length := ⟨_, rfl⟩
      rw [← hn] at hl hcap ⊢
      have HN := Lib.hid hn
      clear hn
      go_wp2_with fail
      go_loop [8, 9, 35] (fun x y i => ∃ k wh, k ≤ n ∧ Cut l k c wh ∧ i = .int .i64 (k : Nat) ∧ x = .int .i64 (wh : Nat) ∧ y = .int .i64 (En l wh : Nat)) (fun _ _ i => n - (intOf i).toNat)
      case atStart => exact ⟨0, 0, Nat.zero_le _, Cut.zero l c, rfl, rfl, rfl⟩
      case round =>
        obtain ⟨k, wh, hk, hcut, rfl, rfl, rfl⟩ := hrel
        by_cases hlk : k < n
        · obtain ⟨g, rfl, hcell⟩ := HE.out k (by rw [← HN.out]; exact hlk)
          have HC := Lib.hid hcut
          clear hcut
          by_cases hle : En l (k + 1) ≤ c
          · have HY := Lib.hid (HC.out.yes hle)
            go_wp2
            go_round
            case rel => exact ⟨k + 1, k + 1, by omega, HY.out, by go_num, by go_num, rfl⟩
            case measure => simp [intOf]; omega
          · have HY := Lib.hid (HC.out.no (by omega))
            go_wp2
            go_round
            case rel => exact ⟨k + 1, wh, by omega, HY.out, by go_num, rfl, rfl⟩
            case measure => simp [intOf]; omega
        · obtain rfl : k = n := by omega
          rw [HN.out] at hcut
          have hwl := hcut.le
          have hcl : c ≤ (catL l).length := by rw [← HSL.out]; exact hcs
          have hX : (s.extract 0 c).data.toList = (catL l).take c := by rw [extract_list, List.drop_zero, HS.out]
          have SC : ∀ W, Calls Try.prog 16 #[.string (s.extract 0 c)] W fun e w' => ∃ v4, e = .returned (.tuple #[v4, .int .i64 (En l wh : Nat)]) ∧ FrRow w' v4 (l.take wh) ∧ Below W.heap.size W w' := by
            intro W
            refine (scan_any _ W (by rw [extract_size]; omega)).mono ?_
            rintro e w' ⟨v4, k4, A4, m4, h1, h2, rfl, h3, h4⟩
            obtain ⟨rfl, rfl⟩ := torn_scan HO.out.ok hcut hcl hX h1 h2
            exact ⟨v4, rfl, FrRow.own h3, h4⟩
          have htl : (l.take wh).length ≤ 20 := by have := HO.out.few; rw [List.length_take]; omega
          have hwn : wh ≤ k := by rw [HN.out]; exact hwl
          have OL : ∀ v4 W, FrRow W v4 (l.take wh) → Calls Try.prog 19 #[v4] W fun e w' => ∃ v5, e = .returned v5 ∧ FrRow w' v5 (l.take wh) ∧ Below W.heap.size W w' := by
            intro v4 W h
            refine (olds_any v4 _ W (by omega) h).mono ?_
            rintro e w' ⟨v5, rfl, h3, h4⟩
            exact ⟨v5, rfl, FrRow.own h3, h4⟩
          have SM : ∀ v5 v6 W, FrRow W v5 (l.take wh) → FrRow W v6 (l.take wh) → Calls Try.prog 18 #[v5, v6] W fun e w' => e = .returned (.bool true) ∧ Below W.heap.size W w' := by
            intro v5 v6 W h h'
            have := same_any v5 v6 _ _ W (by omega) (by omega) h h'
            rw [dec_self] at this
            exact this
          have r0 := Lib.hid (HR1.out.take wh hwl)
          generalize l.take wh = M at *
          generalize En l wh = Ew at *
          replace SC := Lib.hid SC
          replace OL := Lib.hid OL
          replace SM := Lib.hid SM
          clear hX hcl hcut HE HO HS HSL HN HR1 htl hwl
          have i1 : (wh : Int) ≤ (cap : Int) := by omega
          go_wp2_with fail
          refine (SC.out _).mono ?_
          rintro e w2 ⟨v4, rfl, r4, hb2⟩
          have hbW := keepW hb1 hb2
          replace r0 := Lib.hid (r0.out.below hb2)
          have R4 := Lib.hid r4
          clear r4 hb1 hb2
          go_wp2_with fail
          have R0 := r0.out
          have R4' := R4.out
          go_region_held3 (fun w' => FrRow w' v4 M ∧ FrRow w' (.slice a wh cap) M ∧ Below w2.heap.size w2 w') (first | exact rowsDrew R4' R0 | exact rowsStep (by assumption) hb5) (first | (go_at_call 11; refine (AL.out _).mono ?_; rintro e w5 ⟨rfl, hb5⟩) | (go_at_call 19; refine (OL.out _ _ (And.left (by assumption))).mono ?_; rintro e w5 ⟨v5, rfl, r5, hb5⟩) | (go_at_call 18; refine (SM.out _ _ _ (by assumption) (And.left (And.right (by assumption)))).mono ?_; rintro e w5 ⟨rfl, hb5⟩) | fail)
          have hbE := keepW hbW (And.right (And.right (by assumption : FrRow w5 v4 M ∧ FrRow w5 (.slice a wh cap) M ∧ Below w2.heap.size w2 w5)))
          clear r5 hb5
          go_wp2
          go_ret
          exact ⟨rfl, hbE⟩
    · clear hs ok owE hsl HB HR hE
      by_cases c1 : a1 < 0
      · clear hc
        go_wp2_with (go_at_call 11; refine (AL.out _).mono ?_; rintro e w2 ⟨rfl, hb2⟩)
        go_ret
        exact ⟨rfl, keepW hb1 hb2⟩
      · have c2 : (s.size : Int) < a1 := by omega
        clear hc
        go_wp2_with (go_at_call 11; refine (AL.out _).mono ?_; rintro e w2 ⟨rfl, hb2⟩)
        go_ret
        exact ⟨rfl, keepW hb1 hb2⟩
  · go_wp2_with (go_at_call 11; refine (AL.out _).mono ?_; rintro e w2 ⟨rfl, hb2⟩)
    go_ret
    exact ⟨rfl, keepW hb1 hb2⟩
end Go.Proofs.Ytidnoeahmnfodaa
