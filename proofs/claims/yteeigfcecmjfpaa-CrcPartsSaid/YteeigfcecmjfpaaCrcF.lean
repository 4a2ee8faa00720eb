/- The walks of five statements of layer 3. -/
import Derived.Test.YteeigfcecmjfpaaCrcE
namespace Go.Proofs.Yteeigfcecmjfpaa
open Go.RowKit CrcM

set_option maxRecDepth 100000 in
set_option maxHeartbeats 400000 in
theorem law_table (c : Nat) (hc : c < 256) (w : World) :
    Calls Try.prog 3 #[.int .u8 c] w fun e w' => e = .returned (.bool true) ∧ Below w.heap.size w w' := by
  have hz := zero_tab
  have hst := store_tab
  go_enter Try.func3, Try.ntmps3
  go_wp2_with fail
  refine (table_any _).mono ?_
  rintro e w1 ⟨rfl, hb1⟩
  go_wp2_with fail
  obtain ⟨W, hW⟩ : ∃ W, W = w1.alloc (Obj.cells (tab 256) 23) := ⟨_, rfl⟩
  have hsz : W.heap.size = w1.heap.size + 1 := by rw [hW]; simp
  have hbW : Below w.heap.size w W := by rw [hW]; exact hb1.alloc hb1.size _
  have hcl : W.cell? ⟨w1.heap.size, c, none⟩ = some (.int .u32 (ent c)) := by rw [hW, World.cell?_alloc_new, tab_at _ _ hc, if_pos hc]
  rw [← hW]
  have hlt : w1.heap.size < W.heap.size := by omega
  have i0 : (0 : Int) ≤ (c : Int) := by omega
  have i1 : (c : Int) < 256 := by omega
  have i2 : IntKind.i64.wrap (c : Int) = c := IntWalk.i64_in _ (by omega)
  have i3 : IntKind.i64.wrap (ent c : Int) = ent c := IntWalk.i64_in _ (by have := ent_lt c (by omega); omega)
  clear hW hsz hst hz
  go_region_held3 (fun w' => w'.cell? ⟨w1.heap.size, c, none⟩ = some (.int .u32 (ent c)) ∧ Below W.heap.size W w')
    (first | exact keep1 hlt ⟨hcl, Below.refl _ _⟩ below_draw | exact keepA hlt (by assumption) _ | exact keepB hlt (by assumption) hb2 | exact (by assumption))
    (first | (go_at_call 10; refine (alive_any _).mono ?_; rintro e w2 ⟨rfl, hb2⟩) | (go_at_call 11; refine (entry_ref c (by omega) _).mono ?_; rintro e w2 ⟨rfl, rfl⟩))
  all_goals
    go_wp2
    go_ret
    exact ⟨rfl, hbW.trans ((held_below (by assumption)).mono hbW.size)⟩

set_option maxRecDepth 100000 in
set_option maxHeartbeats 400000 in
theorem law_steps (s c : Nat) (hs : s < 4294967296) (hc : c < 256) (w : World) :
    Calls Try.prog 4 #[.int .u32 s, .int .u8 c] w fun e w' => e = .returned (.bool true) ∧ Below w.heap.size w w' := by
  have hb := stp_lt s c hs hc
  go_enter Try.func4, Try.ntmps4
  go_wp2_with fail
  refine (alive_any _).mono ?_
  rintro e w1 ⟨rfl, hb1⟩
  go_wp2_with fail
  refine (step_any s c hs hc _).mono ?_
  rintro e w2 ⟨rfl, rfl⟩
  go_wp2_with fail
  refine (step_ref s c hs hc _).mono ?_
  rintro e w2 ⟨rfl, rfl⟩
  go_wp2
  go_ret
  exact ⟨rfl, hb1⟩

set_option maxRecDepth 100000 in
set_option maxHeartbeats 400000 in
theorem law_sums (s : ByteArray) (hs : s.size ≤ 9223372036854775807) (w : World) :
    Calls Try.prog 5 #[.string s] w fun e w' => e = .returned (.bool true) ∧ Below w.heap.size w w' := by
  by_cases hlong : 300 < s.size
  · go_enter Try.func5, Try.ntmps5
    go_wp2_with fail
    refine (alive_any _).mono ?_
    rintro e w1 ⟨rfl, hb1⟩
    go_wp2
    go_ret
    exact ⟨rfl, hb1⟩
  · have hb := smm_lt s.data.toList
    have HO := hexOr_pos 8 (smm s.data.toList) (by omega)
    go_enter Try.func5, Try.ntmps5
    go_wp2_with fail
    refine (sum_ref s _ hs).mono ?_
    rintro e w1 ⟨rfl, rfl⟩
    go_wp2_with fail
    refine (alive_any _).mono ?_
    rintro e w1 ⟨rfl, hb1⟩
    go_wp2_with fail
    refine (sum_one _ s _ hs (by simp)).mono ?_
    rintro e w2 ⟨rfl, hb2⟩
    go_wp2_with fail
    refine (text_one _ s _ hs (by simp)).mono ?_
    rintro e w3 ⟨rfl, hb3⟩
    go_wp2_with fail
    refine (hex_ref _ 8 _ (by omega) (by omega) (by omega)).mono ?_
    rintro e w4 ⟨rfl, hb4⟩
    go_wp2
    go_ret
    refine ⟨rfl, ?_⟩
    have c1 := hb1.alloc hb1.size (.cells #[.string s] 9)
    have c2 := c1.trans (hb2.mono c1.size)
    have c3 := c2.alloc c2.size (.cells #[.string s] 9)
    have c4 := c3.trans (hb3.mono c3.size)
    exact c4.trans (hb4.mono c4.size)
end Go.Proofs.Yteeigfcecmjfpaa
