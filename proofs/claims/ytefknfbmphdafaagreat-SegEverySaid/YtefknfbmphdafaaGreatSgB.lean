/- How two files compare: the walk. -/
import Derived.Test.YtefknfbmphdafaaGreatSgA
namespace Go.Proofs.YtefknfbmphdafaaGreat
namespace SgM
open Go Go.RowKit CrcM FrM
open Ds (Blk)

theorem nan_byte (x : Int) (w : World) : Calls Tryz.prog 93 #[.int .u8 x] w fun e w' => e = .returned (.bool false) ∧ w = w' := by
  go_enter Tryz.func93, Tryz.ntmps93
  go_wp2
  go_ret
  exact ⟨by simp, rfl⟩
def cmI (x y : Int) : Int := if x < y then -1 else if y < x then 1 else 0
theorem cmp_byte (x y : Int) (w : World) : Calls Tryz.prog 69 #[.int .u8 x, .int .u8 y] w fun e w' => e = .returned (.int .i64 (cmI x y)) ∧ w = w' := by
  by_cases h1 : x < y
  · have HE := Lib.hid (show cmI x y = -1 by unfold cmI; rw [if_pos h1])
    go_enter Tryz.func69, Tryz.ntmps69
    go_wp2_with (go_at_call 93; refine (nan_byte _ _).mono ?_; rintro e w2 ⟨rfl, rfl⟩)
    go_ret
    exact ⟨by rw [HE.out]; rfl, rfl⟩
  by_cases h2 : y < x
  · have HE := Lib.hid (show cmI x y = 1 by unfold cmI; rw [if_neg h1, if_pos h2])
    have h3 : y ≤ x := by omega
    go_enter Tryz.func69, Tryz.ntmps69
    go_wp2_with (go_at_call 93; refine (nan_byte _ _).mono ?_; rintro e w2 ⟨rfl, rfl⟩)
    go_ret
    exact ⟨by rw [HE.out]; rfl, rfl⟩
  · have HE := Lib.hid (show cmI x y = 0 by unfold cmI; rw [if_neg h1, if_neg h2])
    have h3 : y = x := by omega
    go_enter Tryz.func69, Tryz.ntmps69
    go_wp2_with (go_at_call 93; refine (nan_byte _ _).mono ?_; rintro e w2 ⟨rfl, rfl⟩)
    go_ret
    exact ⟨by rw [HE.out]; rfl, rfl⟩
theorem nan_int (x : Int) (w : World) : Calls Tryz.prog 92 #[.int .i64 x] w fun e w' => e = .returned (.bool false) ∧ w = w' := by
  go_enter Tryz.func92, Tryz.ntmps92
  go_wp2
  go_ret
  exact ⟨by simp, rfl⟩
theorem cmp_int (x y : Int) (w : World) : Calls Tryz.prog 68 #[.int .i64 x, .int .i64 y] w fun e w' => e = .returned (.int .i64 (cmI x y)) ∧ w = w' := by
  by_cases h1 : x < y
  · have HE := Lib.hid (show cmI x y = -1 by unfold cmI; rw [if_pos h1])
    go_enter Tryz.func68, Tryz.ntmps68
    go_wp2_with (go_at_call 92; refine (nan_int _ _).mono ?_; rintro e w2 ⟨rfl, rfl⟩)
    go_ret
    exact ⟨by rw [HE.out]; rfl, rfl⟩
  by_cases h2 : y < x
  · have HE := Lib.hid (show cmI x y = 1 by unfold cmI; rw [if_neg h1, if_pos h2])
    have h3 : y ≤ x := by omega
    go_enter Tryz.func68, Tryz.ntmps68
    go_wp2_with (go_at_call 92; refine (nan_int _ _).mono ?_; rintro e w2 ⟨rfl, rfl⟩)
    go_ret
    exact ⟨by rw [HE.out]; rfl, rfl⟩
  · have HE := Lib.hid (show cmI x y = 0 by unfold cmI; rw [if_neg h1, if_neg h2])
    have h3 : y = x := by omega
    go_enter Tryz.func68, Tryz.ntmps68
    go_wp2_with (go_at_call 92; refine (nan_int _ _).mono ?_; rintro e w2 ⟨rfl, rfl⟩)
    go_ret
    exact ⟨by rw [HE.out]; rfl, rfl⟩
def orI (x y : Int) : Int := if x = 0 then y else x
/-- The first of two that is not nothing. -/
theorem or_two (x y : Int) (g : Nat) (w : World) (c0 : w.cell? ⟨g, 0, none⟩ = some (.int .i64 x)) (c1 : w.cell? ⟨g, 1, none⟩ = some (.int .i64 y)) :
    Calls Tryz.prog 67 #[.slice (some ⟨g, 0, none⟩) 2 2] w fun e w' => e = .returned (.int .i64 (if x = 0 then y else x)) ∧ w = w' := by
  by_cases hx : x = 0
  · subst hx
    go_enter Tryz.func67, Tryz.ntmps67
    go_wp2
    go_loop [5, 8] (fun _ i => ∃ k : Nat, k ≤ 2 ∧ i = .int .i64 k ∧ (k = 2 → y = 0)) (fun _ i => 2 - (intOf i).toNat)
    case atStart => exact ⟨0, by omega, rfl, by omega⟩
    case round =>
      obtain ⟨k, hk, rfl, hy⟩ := hrel
      rcases (show k = 0 ∨ k = 1 ∨ k = 2 by omega) with rfl | rfl | rfl
      · go_wp2
        go_round
        case rel => exact ⟨1, by omega, rfl, by omega⟩
        case measure => simp [intOf]
      · by_cases h0 : y = 0
        · go_wp2
          go_round
          case rel => exact ⟨2, by omega, rfl, fun _ => h0⟩
          case measure => simp [intOf]
        · go_wp2
          go_ret
          exact ⟨rfl, rfl⟩
      · have h0 := hy rfl
        go_wp2
        go_ret
        exact ⟨by first | rfl | (rw [h0]; rfl), rfl⟩
  · have HE := Lib.hid (show (if x = 0 then y else x) = x by rw [if_neg hx])
    go_enter Tryz.func67, Tryz.ntmps67
    go_wp2
    go_loop [5, 8] (fun _ i => i = .int .i64 0) (fun _ i => 2 - (intOf i).toNat)
    case atStart => rfl
    case round =>
      subst hrel
      go_wp2
      go_ret
      exact ⟨by first | rfl | (rw [HE.out]; rfl), rfl⟩
theorem sgV_cmp (a b : Sg) : (if cmI a.n b.n = 0 then cmI (a.k.toNat : Nat) (b.k.toNat : Nat) else cmI a.n b.n) = cmpS a b := by
  unfold cmpS cmI
  by_cases h1 : a.n < b.n
  · rw [if_pos h1, if_neg (by decide), if_pos (lt_iff.2 (Or.inl h1))]
  rw [if_neg h1]
  by_cases h2 : b.n < a.n
  · rw [if_pos h2, if_neg (by decide), if_neg (by rw [lt_iff]; omega), if_pos (lt_iff.2 (Or.inl h2))]
  rw [if_neg h2, if_pos rfl]
  by_cases h3 : a.k.toNat < b.k.toNat
  · rw [if_pos (by omega), if_pos (lt_iff.2 (Or.inr ⟨by omega, h3⟩))]
  rw [if_neg (by omega)]
  by_cases h4 : b.k.toNat < a.k.toNat
  · rw [if_pos (by omega), if_neg (by rw [lt_iff]; omega), if_pos (lt_iff.2 (Or.inr ⟨by omega, h4⟩))]
  rw [if_neg (by omega), if_neg (by rw [lt_iff]; omega), if_neg (by rw [lt_iff]; omega)]
theorem or_two' (x y : Int) (g : Nat) (w : World) (c0 : w.cell? ⟨g, 0, none⟩ = some (.int .i64 x)) (c1 : w.cell? ⟨g, 1, none⟩ = some (.int .i64 y)) :
    Calls Tryz.prog 67 #[.slice (some ⟨g, 0, none⟩) 2 2] w fun e w' => e = .returned (.int .i64 (orI x y)) ∧ w = w' := or_two x y g w c0 c1
theorem keep_al {W : World} {a : Addr} {v : Value} (h : W.cell? a = some v) (o : Obj) : (W.alloc o).drew.cell? a = some v :=
  (World.cell?_alloc_lt _ _ _ (block_lt_of_cell h)).trans h
theorem two_a (W : World) (T : TypeId) (u v : Value) : (W.alloc (.cells #[u, v] T)).drew.cell? ⟨W.heap.size, 0, none⟩ = some u := (Blk.new W T #[u, v]).cell 0
theorem two_b (W : World) (T : TypeId) (u v : Value) : (W.alloc (.cells #[u, v] T)).drew.cell? ⟨W.heap.size, 1, none⟩ = some v := (Blk.new W T #[u, v]).cell 1
theorem cmp_any (a b : Sg) (w : World) :
    Calls Tryz.prog 31 #[sgV a, sgV b] w fun e w' => e = .returned (.int .i64 (cmpS a b)) ∧ ∃ q os', w' = Go.Sort.grow (w.drewN q) os' := by
  have HE := Lib.hid (sgV_cmp a b)
  obtain ⟨x, hx⟩ : ∃ x : Int, x = (a.k.toNat : Nat) := ⟨_, rfl⟩
  obtain ⟨y, hy⟩ : ∃ y : Int, y = (b.k.toNat : Nat) := ⟨_, rfl⟩
  obtain ⟨m, hm⟩ : ∃ m : Int, m = a.n := ⟨_, rfl⟩
  obtain ⟨n, hn⟩ : ∃ n : Int, n = b.n := ⟨_, rfl⟩
  unfold sgV
  rw [← hx, ← hy, ← hm, ← hn]
  rw [← hx, ← hy, ← hm, ← hn] at HE
  clear hx hy hm hn
  obtain ⟨W, hW⟩ : ∃ W, W = (w.alloc (.cells #[.int .u8 x, .int .i64 m] 25)).alloc (.cells #[.int .u8 y, .int .i64 n] 25) := ⟨_, rfl⟩
  have B0 : Blk W w.heap.size 25 #[.int .u8 x, .int .i64 m] := by rw [hW]; exact (Blk.new w _ _).alloc _
  have B1 : Blk W (w.heap.size + 1) 25 #[.int .u8 y, .int .i64 n] := by
    rw [hW]; have := Blk.new (w.alloc (.cells #[.int .u8 x, .int .i64 m] 25)) 25 #[.int .u8 y, .int .i64 n]; simpa using this
  have a0 : W.cell? ⟨w.heap.size, 0, none⟩ = some (.int .u8 x) := B0.cell 0
  have a1 : W.cell? ⟨w.heap.size, 1, none⟩ = some (.int .i64 m) := B0.cell 1
  have b0 : W.cell? ⟨w.heap.size + 1, 0, none⟩ = some (.int .u8 y) := B1.cell 0
  have b1 : W.cell? ⟨w.heap.size + 1, 1, none⟩ = some (.int .i64 n) := B1.cell 1
  have HW := Lib.hid hW
  clear hW B0 B1
  go_enter Tryz.func31, Tryz.ntmps31
  go_wp2_with fail
  rw [← HW.out]
  go_region_held3 (fun w' => (w'.cell? ⟨w.heap.size, 0, none⟩ = some (.int .u8 x) ∧ w'.cell? ⟨w.heap.size, 1, none⟩ = some (.int .i64 m) ∧ w'.cell? ⟨w.heap.size + 1, 0, none⟩ = some (.int .u8 y) ∧ w'.cell? ⟨w.heap.size + 1, 1, none⟩ = some (.int .i64 n)) ∧ Below W.heap.size W w')
    (first | exact ⟨⟨a0, a1, b0, b1⟩, below_draw⟩ | exact ⟨⟨keep_al a0 _, keep_al a1 _, keep_al b0 _, keep_al b1 _⟩, (below_box _ _).drew⟩)
    (first | (go_at_call 68; refine (cmp_int _ _ _).mono ?_; rintro e w2 ⟨rfl, rfl⟩) | (go_at_call 69; refine (cmp_byte _ _ _).mono ?_; rintro e w2 ⟨rfl, rfl⟩) | (go_at_call 67; refine (or_two' (cmI m n) (cmI x y) W.heap.size _ (two_a _ _ _ _) (two_b _ _ _ _)).mono ?_; rintro e w2 ⟨rfl, rfl⟩))
  all_goals
    have hfin : ∃ q os', (W.alloc (.cells #[.int .i64 (cmI m n), .int .i64 (cmI x y)] 3)).drew = Go.Sort.grow (w.drewN q) os' := by
      rw [HW.out, Go.Sort.alloc_eq_grow, Go.Sort.alloc_eq_grow, Go.Sort.alloc_eq_grow, Go.Sort.grow_grow, Go.Sort.grow_grow, Go.Sort.drew_grow]
      exact ⟨1, _, rfl⟩
    go_wp2_with fail
    go_ret
    exact ⟨by rw [← HE.out]; rfl, hfin⟩
theorem segment_any (s : Sg) (w : World) :
    Calls Tryz.prog 34 #[sgV s] w fun e w' => e = .returned (.bool (isSR s)) ∧ Below w.heap.size w w' := by
  have HE := Lib.hid (show isSR s = (decide (s.k.toNat = 115) || decide (s.k.toNat = 114)) from rfl)
  obtain ⟨x, hx⟩ : ∃ x : Nat, x = s.k.toNat := ⟨_, rfl⟩
  unfold sgV
  rw [← hx]
  rw [← hx] at HE
  clear hx
  by_cases h1 : x = 115
  · have HF := Lib.hid (show isSR s = true by rw [HE.out, h1]; rfl)
    subst h1
    go_enter Tryz.func34, Tryz.ntmps34
    go_wp2
    go_ret
    exact ⟨by rw [HF.out]; rfl, below_box _ _⟩
  by_cases h2 : x = 114
  · have HF := Lib.hid (show isSR s = true by rw [HE.out, h2]; rfl)
    subst h2
    go_enter Tryz.func34, Tryz.ntmps34
    go_wp2
    go_ret
    exact ⟨by rw [HF.out]; rfl, below_box _ _⟩
  · have HF := Lib.hid (show isSR s = false by rw [HE.out, decide_eq_false h1, decide_eq_false h2]; rfl)
    have d1 : decide (x = 115) = false := decide_eq_false h1
    have d2 : decide (x = 114) = false := decide_eq_false h2
    have e1 : ((x : Int) == 115) = false := by rw [beq_eq_false_iff_ne]; omega
    have e2 : ((x : Int) == 114) = false := by rw [beq_eq_false_iff_ne]; omega
    go_enter Tryz.func34, Tryz.ntmps34
    go_wp2
    go_ret
    exact ⟨by rw [HF.out]; rfl, below_box _ _⟩
end SgM
end Go.Proofs.YtefknfbmphdafaaGreat
