/- The walks of the statements CrcGoes, CrcLinear and CrcParts. -/
import Derived.Test.YteeigfcecmjfpaaCrcF
namespace Go.Proofs.Yteeigfcecmjfpaa
open Go.RowKit CrcM

set_option maxRecDepth 100000 in
set_option maxHeartbeats 1000000 in
theorem law_linear (a b : Nat) (ha : a < 256) (hb : b < 256) (w : World) :
    Calls Try.prog 8 #[.int .u8 a, .int .u8 b] w fun e w' => e = .returned (.bool true) ∧ Below w.heap.size w w' := by
  have hz := zero_tab
  have hst := store_tab
  have hx : a ^^^ b < 2 ^ 8 := Nat.xor_lt_two_pow (by omega) (by omega)
  have q1 := u8_xor_nat a b ha hb
  have q2 := u32_xor_nat (ent a) (ent b) (ent_lt _ (by omega)) (ent_lt _ (by omega))
  rw [← ent_xor] at q2
  generalize a ^^^ b = c at *
  go_enter Try.func8, Try.ntmps8
  go_wp2_with fail
  refine (table_any _).mono ?_
  rintro e w1 ⟨rfl, hb1⟩
  go_wp2_with fail
  obtain ⟨W, hW⟩ : ∃ W, W = w1.alloc (Obj.cells (tab 256) 23) := ⟨_, rfl⟩
  have hsz : W.heap.size = w1.heap.size + 1 := by rw [hW]; simp
  have hbW : Below w.heap.size w W := by rw [hW]; exact hb1.alloc hb1.size _
  have hcl : ∀ c : Nat, c < 256 → W.cell? ⟨w1.heap.size, c, none⟩ = some (.int .u32 (ent c)) := fun c hc => by rw [hW, World.cell?_alloc_new, tab_at _ _ hc, if_pos hc]
  rw [← hW]
  have hlt : w1.heap.size < W.heap.size := by omega
  have i0 : (0 : Int) ≤ (a : Int) := by omega
  have i1 : (a : Int) < 256 := by omega
  have i2 : (0 : Int) ≤ (b : Int) := by omega
  have i3 : (b : Int) < 256 := by omega
  have i4 : (0 : Int) ≤ (c : Int) := by omega
  have i5 : (c : Int) < 256 := by omega
  have c0 := hcl 0 (by omega)
  rw [ent_zero] at c0
  have ca := hcl a ha
  have cb := hcl b hb
  have cc := hcl c (by omega)
  clear hW hsz hst hz hcl
  go_region_held3 (fun w' => (w'.cell? ⟨w1.heap.size, a, none⟩ = some (.int .u32 (ent a)) ∧ w'.cell? ⟨w1.heap.size, b, none⟩ = some (.int .u32 (ent b)) ∧ w'.cell? ⟨w1.heap.size, c, none⟩ = some (.int .u32 (ent c)) ∧ w'.cell? ⟨w1.heap.size, 0, none⟩ = some (.int .u32 0)) ∧ Below W.heap.size W w')
    (first | exact ⟨⟨ca, cb, cc, c0⟩, below_draw⟩ | exact ⟨⟨(hb3.cell hlt).trans ca, (hb3.cell hlt).trans cb, (hb3.cell hlt).trans cc, (hb3.cell hlt).trans c0⟩, hb3⟩ | exact (by assumption))
    (first | (go_at_call 10; refine (alive_any _).mono ?_; rintro e w2 ⟨rfl, hb2⟩; have hb3 : Below W.heap.size W w2 := below_draw.trans hb2) | fail)
  all_goals
    go_wp2
    go_ret
    exact ⟨rfl, hbW.trans ((And.right (by assumption : _ ∧ Below W.heap.size W _)).mono hbW.size)⟩

theorem not_sum (l : List UInt8) : bits .xor .u32 IntKind.u32.max ((smm l : Nat) : Int) = ((feed 4294967295 l : Nat) : Int) := by
  have h := feed_lt l 4294967295 (by omega)
  rw [not32 _ (smm_lt l)]
  unfold smm
  omega
theorem not_feed (l : List UInt8) : bits .xor .u32 IntKind.u32.max ((feed 4294967295 l : Nat) : Int) = ((smm l : Nat) : Int) := by
  rw [not32 _ (feed_lt l _ (by omega))]
  rfl

set_option maxRecDepth 100000 in
set_option maxHeartbeats 1000000 in
theorem law_goes (s : ByteArray) (c : Nat) (hs : s.size ≤ 9223372036854775807) (hc : c < 256) (w : World) :
    Calls Try.prog 7 #[.string s, .int .u8 c] w fun e w' => e = .returned (.bool true) ∧ Below w.heap.size w w' := by
  by_cases hlong : 300 < s.size
  · go_enter Try.func7, Try.ntmps7
    go_wp2_with fail
    refine (alive_any _).mono ?_
    rintro e w1 ⟨rfl, hb1⟩
    go_wp2
    go_ret
    exact ⟨rfl, hb1⟩
  · have hcv := fun w => conv_one w (c : Int) c rfl hc
    have n1 := not_sum s.data.toList
    have hf := feed_lt s.data.toList 4294967295 (by omega)
    have n2 := not_feed (s.data.toList ++ [UInt8.ofNat c])
    rw [feed_snoc, show (UInt8.ofNat c).toNat = c by simp; omega] at n2
    have n3 : smm (flat []) = 0 := rfl
    obtain ⟨C, hC⟩ : ∃ C : ByteArray, C = ⟨#[UInt8.ofNat c]⟩ := ⟨_, rfl⟩
    have hC1 : C.size ≤ 9223372036854775807 := by rw [hC]; show 1 ≤ 9223372036854775807; omega
    have hC2 : s.data.toList ++ [UInt8.ofNat c] = s.data.toList ++ C.data.toList := by rw [hC]
    rw [hC2] at n2
    simp only [← hC] at hcv
    clear hC hC2
    go_enter Try.func7, Try.ntmps7
    go_wp2_with fail
    refine (alive_any _).mono ?_
    rintro e w1 ⟨rfl, hb1⟩
    go_wp2_with fail
    refine (sum_two _ s C _ hs hC1 (by simp) (by simp)).mono ?_
    rintro e w2 ⟨rfl, hb2⟩
    go_wp2_with fail
    refine (sum_one _ s _ hs (by simp)).mono ?_
    rintro e w3 ⟨rfl, hb3⟩
    go_wp2_with fail
    refine (step_any _ c hf hc _).mono ?_
    rintro e w4 ⟨rfl, rfl⟩
    go_wp2_with fail
    refine (sum_none none 0 _).mono ?_
    rintro e w4 ⟨rfl, hb4⟩
    go_wp2
    go_ret
    refine ⟨rfl, ?_⟩
    have c1 := hb1.alloc hb1.size (.cells #[.int .u8 c] 5)
    have c2 := c1.alloc c1.size (.cells #[.string s, .string C] 9)
    have c3 := c2.trans (hb2.mono c2.size)
    have c4 := c3.alloc c3.size (.cells #[.string s] 9)
    have c5 := c4.trans (hb3.mono c4.size)
    exact c5.trans (hb4.mono c5.size)
end Go.Proofs.Yteeigfcecmjfpaa
