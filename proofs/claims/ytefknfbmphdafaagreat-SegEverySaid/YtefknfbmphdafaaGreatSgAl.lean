/- The law's alive: the walk. -/
import Derived.Test.YtefknfbmphdafaaGreatSgZ
namespace Go.Proofs.YtefknfbmphdafaaGreat
namespace SgM
open Go Go.RowKit CrcM FrM
open Ds (Blk DiskAt Kp Bd nul ptr Dk cell_lt)

theorem strs_five (w : World) : StrsAt (w.alloc (.cells #[.string sC3, .string sS2, .string sS3, .string sR4, .string sX] 9)) (.slice (some ⟨w.heap.size, 0, none⟩) 5 5) fiveF := by
  refine ⟨_, _, rfl, fun _ => ⟨w.heap.size, 0, rfl, by simp, fun k hk => ?_⟩⟩
  have hk' : k < 5 := hk
  rw [Nat.zero_add, (Blk.new w _ _).cell k]
  rcases (show k = 0 ∨ k = 1 ∨ k = 2 ∨ k = 3 ∨ k = 4 by omega) with rfl | rfl | rfl | rfl | rfl <;> rfl
/-- What Lay leaves of the five names. -/
structure Five (w : World) (g h : Nat) : Prop where
  g0 : w.cell? ⟨g, 0, none⟩ = some (.int .u8 115)
  g1 : w.cell? ⟨g, 1, none⟩ = some (.int .i64 3)
  g2 : w.cell? ⟨g, 2, none⟩ = some (.int .u8 114)
  g3 : w.cell? ⟨g, 3, none⟩ = some (.int .i64 4)
  h0 : w.cell? ⟨h, 0, none⟩ = some (.string sS2)
  gl : g < w.heap.size
  hl : h < w.heap.size
theorem Five.below {w w' : World} {g h B : Nat} (f : Five w g h) (hb : Below B w w') (hg : g < B) (hh : h < B) : Five w' g h :=
  ⟨(hb.cell (by exact hg)).trans f.g0, (hb.cell (by exact hg)).trans f.g1, (hb.cell (by exact hg)).trans f.g2, (hb.cell (by exact hg)).trans f.g3, (hb.cell (by exact hh)).trans f.h0, Nat.lt_of_lt_of_le f.gl hb.size, Nat.lt_of_lt_of_le f.hl hb.size⟩
theorem Five.row {w : World} {g h : Nat} (f : Five w g h) (c : Nat) : SgRow w (.slice (some ⟨g, 0, none⟩) 2 c) [⟨115, 3⟩, ⟨114, 4⟩] := by
  refine ⟨_, _, rfl, fun _ => ⟨g, 0, rfl, f.gl, fun k hk => ?_⟩⟩
  have hk' : k < 2 := hk
  rcases (show k = 0 ∨ k = 1 by omega) with rfl | rfl
  · exact ⟨f.g0, f.g1⟩
  · exact ⟨f.g2, f.g3⟩
theorem lay_five (w : World) :
    Calls Tryz.prog 7 #[.slice (some ⟨w.heap.size, 0, none⟩) 5 5] (w.alloc (.cells #[.string sC3, .string sS2, .string sS3, .string sR4, .string sX] 9)) fun e w' =>
      ∃ g c h d, e = .returned (.agg #[.int .u8 99, .int .i64 3, .bool true, .slice (some ⟨g, 0, none⟩) 2 c, .slice (some ⟨h, 0, none⟩) 1 d]) ∧ Five w' g h ∧ Below w.heap.size w w' := by
  refine (lay_any (strs_five w) (by decide)).mono ?_
  rintro e w1 ⟨vs, vt, rfl, hs1, ht1, hb1⟩
  rw [five_segs] at hs1
  rw [five_sort, five_trn] at ht1
  rw [five_snp]
  have hbw := (below_box w _).trans (hb1.mono (by simp))
  rcases hs1.2 with ⟨_, h0⟩ | ⟨g, c, cur, rfl, _, hg, _⟩
  · cases h0
  rcases ht1.2 with ⟨_, h0⟩ | ⟨h, d, cur', rfl, _, hh, _⟩
  · cases h0
  have ea : ∀ g j, (⟨g, 0, none⟩ : Addr).add j = ⟨g, j, none⟩ := fun g j => by unfold Addr.add; split <;> simp_all
  have cg := hs1.cells (g := g) rfl
  have ch := ht1.cells (g := h) rfl
  simp only [ea] at cg ch
  exact ⟨g, c, h, d, rfl, ⟨cg 0 _ rfl, cg 1 _ rfl, cg 2 _ rfl, cg 3 _ rfl, ch 0 _ rfl, (Array.getElem?_eq_some_iff.1 hg).1, (Array.getElem?_eq_some_iff.1 hh).1⟩, hbw⟩
theorem of_ra (w : World) : Calls Tryz.prog 26 #[.string sRa] w fun e w' => e = .returned (.tuple #[.agg #[.int .u8 114, .int .i64 10], .bool true]) ∧ Below w.heap.size w w' := by
  refine (of_any sRa w).mono ?_
  rintro e w' ⟨rfl, hb⟩
  refine ⟨?_, hb⟩
  unfold ofP
  rw [ra_ok.1, ra_ok.2]
  rfl
theorem of_rA (w : World) : Calls Tryz.prog 26 #[.string sRA] w fun e w' => e = .returned (.tuple #[.agg #[.int .u8 0, .int .i64 0], .bool false]) ∧ Below w.heap.size w w' := by
  refine (of_any sRA w).mono ?_
  rintro e w' ⟨rfl, hb⟩
  refine ⟨?_, hb⟩
  unfold ofP
  rw [of_no rA_no, rA_no]
  rfl

/-- All that is looked at in the end. -/
structure Al (w : World) (T1 T2 g c h d r : Nat) : Prop where
  t1 : Blk w T1 28 #[.int .u8 99, .int .i64 3, .bool true, .slice (some ⟨g, 0, none⟩) 2 c, .slice (some ⟨h, 0, none⟩) 1 d]
  t2 : Blk w T2 25 #[.int .u8 114, .int .i64 10]
  five : Five w g h
  r0 : w.cell? ⟨r, 0, none⟩ = some (.int .u8 97)
  r1 : w.cell? ⟨r, 1, none⟩ = some (.string ⟨#[104, 105]⟩)
  rl : r < w.heap.size
theorem Al.below {w w' : World} {T1 T2 g c h d r : Nat} (a : Al w T1 T2 g c h d r) (hb : Below w.heap.size w w') : Al w' T1 T2 g c h d r :=
  ⟨blk_step a.t1 hb, blk_step a.t2 hb, a.five.below hb a.five.gl a.five.hl, (hb.cell (by exact a.rl)).trans a.r0, (hb.cell (by exact a.rl)).trans a.r1, Nat.lt_of_lt_of_le a.rl hb.size⟩
theorem pack_hi (w : World) : Calls Tryz.prog 28 #[.agg #[.int .u8 97, .string ⟨#[104, 105]⟩]] w fun e w' => e = .returned (.tuple #[.string tHi, .int .i64 0]) ∧ Below w.heap.size w w' := by
  refine (pack_any 97 ⟨#[104, 105]⟩ w (by decide)).mono ?_
  rintro e w' ⟨rfl, hb⟩
  rw [hi_pack]
  exact ⟨rfl, hb⟩
theorem hi_tsize : tHi.size = 16 := by decide +kernel
theorem whole_hi {w : World} {p b : Nat} (hD : DiskAt w p b E2) : Calls Tryz.prog 23 #[ptr p, .string sS0] w fun e w' => e = .returned (.tuple #[.string (⟨#[120]⟩ ++ tHi), .int .i64 0]) ∧ DiskAt w' p b E3 ∧ Kp p b w w' := by
  refine (whole_any hD be2 (by decide +kernel) (by unfold Go.maxLen; decide)).mono ?_
  rintro e w' ⟨h1, h2, h3⟩
  rw [e3, e4] at h1
  rw [e5] at h2
  exact ⟨h1, h2, h3⟩
theorem every_hi {w : World} {p b : Nat} (hD : DiskAt w p b E3) : Calls Tryz.prog 14 #[ptr p] w fun e w' => ∃ r q, e = .returned (.slice (some ⟨r, 0, none⟩) 1 q) ∧ w.heap.size ≤ r ∧ r < w'.heap.size ∧ w'.cell? ⟨r, 0, none⟩ = some (.int .u8 97) ∧ w'.cell? ⟨r, 1, none⟩ = some (.string ⟨#[104, 105]⟩) ∧ Kp p b w w' := by
  refine (every_any hD be3 en4 en5 (by decide +kernel) (fun f hf => by have := en3 f hf; unfold Go.maxLen; omega)).mono ?_
  rintro e w' ⟨v, rfl, ho, -, hK⟩
  rw [e6] at ho
  rcases ho.2 with ⟨_, h0⟩ | ⟨r, q, cur, rfl, hr, hg, _⟩
  · cases h0
  have ea : ∀ j, (⟨r, 0, none⟩ : Addr).add j = ⟨r, j, none⟩ := fun j => by unfold Addr.add; split <;> simp_all
  have cg := ho.cells (g := r) rfl
  simp only [ea] at cg
  exact ⟨r, q, rfl, hr, (Array.getElem?_eq_some_iff.1 hg).1, cg 0 _ rfl, cg 1 _ rfl, hK⟩
theorem name_ra (w : World) : Calls Tryz.prog 30 #[.agg #[.int .u8 114, .int .i64 10]] w fun e w' => e = .returned (.string ⟨#[114, 48, 48, 48, 48, 48, 48, 48, 97]⟩) ∧ Below w.heap.size w w' := by
  refine (name_any ⟨114, 10⟩ w (by unfold In64; decide)).mono ?_
  rintro e w' ⟨rfl, hb⟩
  rw [ra_nm]
  exact ⟨rfl, hb⟩
theorem cmp_hi (w : World) : Calls Tryz.prog 31 #[.agg #[.int .u8 115, .int .i64 3], .agg #[.int .u8 114, .int .i64 4]] w fun e w' => e = .returned (.int .i64 (-1)) ∧ Below w.heap.size w w' := by
  refine (cmp_any ⟨115, 3⟩ ⟨114, 4⟩ w).mono ?_
  rintro e w' ⟨rfl, q, os, rfl⟩
  rw [cmp_five]
  exact ⟨rfl, ⟨rfl, rfl, rfl, by simp [Go.Sort.grow], fun k hk => by unfold Go.Sort.grow; simp only []; rw [Array.getElem?_append_left (by simpa using hk)]; rfl⟩⟩
theorem next_five {w : World} {T1 T2 g c h d r : Nat} (a : Al w T1 T2 g c h d r) : Calls Tryz.prog 11 #[.agg #[.int .u8 99, .int .i64 3, .bool true, .slice (some ⟨g, 0, none⟩) 2 c, .slice (some ⟨h, 0, none⟩) 1 d]] w fun e w' => e = .returned (.int .i64 5) ∧ Below w.heap.size w w' := by
  refine (next_any (o := some ⟨99, 3⟩) (a.five.row c) (by decide +kernel) (by decide)).mono ?_
  rintro e w' ⟨rfl, hb⟩
  exact ⟨by rw [show nxt (some (⟨99, 3⟩ : Sg)).isSome ((some (⟨99, 3⟩ : Sg)).getD zS).n [⟨115, 3⟩, ⟨114, 4⟩] = 5 from nxt_five], hb⟩
theorem next_zero (w : World) : Calls Tryz.prog 11 #[.agg #[.int .u8 0, .int .i64 0, .bool false, .slice none 0 0, .slice none 0 0]] w fun e w' => e = .returned (.int .i64 0) ∧ Below w.heap.size w w' := by
  refine (next_any (o := none) (L := []) ⟨none, 0, rfl, fun h => absurd rfl h⟩ (by decide) (by decide)).mono ?_
  rintro e w' ⟨rfl, hb⟩
  exact ⟨by rw [show nxt (none : Option Sg).isSome ((none : Option Sg).getD zS).n [] = 0 from nxt_none], hb⟩

set_option maxRecDepth 100000 in
set_option maxHeartbeats 8000000 in
theorem alive_any (w : World) : Calls Tryz.prog 6 #[] w fun e w' => e = .returned (.bool true) ∧ Below w.heap.size w w' := by
  go_enter Tryz.func6, Tryz.ntmps6
  go_wp2_with fail
  refine (lay_five w).mono ?_
  rintro e w1 ⟨g, c, h, d, rfl, F1, hb1⟩
  go_wp2_with fail
  refine (of_ra _).mono ?_
  rintro e w2 ⟨rfl, hb2⟩
  have A1 := Blk.new w1 28 #[.int .u8 99, .int .i64 3, .bool true, .slice (some ⟨g, 0, none⟩) 2 c, .slice (some ⟨h, 0, none⟩) 1 d]
  have A2 := blk_step A1 hb2
  have F2 : Five w2 g h := F1.below ((below_box w1 _).trans (hb2.mono (by simp))) F1.gl F1.hl
  have B2 : Below w.heap.size w w2 := keepW hb1 ((below_box w1 _).trans (hb2.mono (by simp)))
  go_wp2_with fail
  refine (of_rA _).mono ?_
  rintro e w3 ⟨rfl, hb3⟩
  have A3 := blk_step (A2.alloc (.cells #[.int .u8 114, .int .i64 10] 25)) hb3
  have C3 := blk_step (Blk.new w2 25 #[.int .u8 114, .int .i64 10]) hb3
  have F3 : Five w3 g h := F2.below ((below_box w2 _).trans (hb3.mono (by simp))) F2.gl F2.hl
  have B3 : Below w.heap.size w w3 := keepW B2 ((below_box w2 _).trans (hb3.mono (by simp)))
  obtain ⟨T1, hT1⟩ : ∃ T1, T1 = w1.heap.size := ⟨_, rfl⟩
  obtain ⟨T2, hT2⟩ : ∃ T2, T2 = w2.heap.size := ⟨_, rfl⟩
  rw [← hT1] at A3 ⊢
  rw [← hT2] at C3 ⊢
  clear A1 A2 F2 B2 hb1 hb2 hb3 F1 hT1 hT2
  have A4 := Lib.hid (A3.alloc (.cells #[.int .u8 0, .int .i64 0] 25))
  have C4 := Lib.hid (C3.alloc (.cells #[.int .u8 0, .int .i64 0] 25))
  have F4 := Lib.hid (F3.below (below_box w3 (.cells #[.int .u8 0, .int .i64 0] 25)) F3.gl F3.hl)
  have B4 := Lib.hid (keepW B3 (below_box w3 (.cells #[.int .u8 0, .int .i64 0] 25)))
  clear A3 C3 F3 B3
  go_wp2_with fail
  generalize w3.alloc (.cells #[.int .u8 0, .int .i64 0] 25) = W at A4 C4 F4 B4 ⊢
  refine (Ds.new_lo 1000 W).mono ?_
  rintro e w6 ⟨p, b, rfl, hp, hb, D6, hb6⟩
  have HD6 := Lib.hid D6
  have HB6 := Lib.hid hb6
  clear D6 hb6
  go_wp2_with fail
  refine (pack_hi _).mono ?_
  rintro e w7 ⟨rfl, hb7⟩
  have HD7 := Lib.hid (HD6.out.belowS hb7)
  have HB7 := Lib.hid (keepW HB6.out hb7)
  clear hb7
  go_wp2_with fail
  refine (Ds.create_any HD7.out be0 (n := sS0) (by unfold Go.maxLen; decide)).mono ?_
  rintro e w8 h8
  obtain ⟨rfl, D8, K8⟩ := op_at' e1 h8
  have HD8 := Lib.hid D8
  have HB8 := Lib.hid (HB7.out.trans (K8.below hp hb HB7.out.size))
  clear h8 D8 K8
  have hts := hi_tsize
  go_wp2_with fail
  refine (Ds.append_any HD8.out be1 (n := sS0) (t := xHi) (by unfold Go.maxLen; decide) (by rw [hi_size]; omega)).mono ?_
  rintro e w9 h9
  obtain ⟨rfl, D9, K9⟩ := op_at' e2 h9
  have HD9 := Lib.hid D9
  have HB9 := Lib.hid (HB8.out.trans (K9.below hp hb HB8.out.size))
  clear h9 D9 K9
  go_wp2_with fail
  refine (whole_hi HD9.out).mono ?_
  rintro e w10 ⟨rfl, D10, K10⟩
  have HD10 := Lib.hid D10
  have HB10 := Lib.hid (HB9.out.trans (K10.below hp hb HB9.out.size))
  clear D10 K10
  go_wp2_with fail
  refine (every_hi HD10.out).mono ?_
  rintro e w11 ⟨r, q, rfl, hrr, hrl, hr0, hr1, K11⟩
  have HB11 := HB10.out.trans (K11.below hp hb HB10.out.size)
  have HA0 := Lib.hid (show Al w11 T1 T2 g c h d r from ⟨blk_step A4.out HB11, blk_step C4.out HB11, F4.out.below HB11 F4.out.gl F4.out.hl, hr0, hr1, hrl⟩)
  have HBF := Lib.hid (B4.out.trans (HB11.mono B4.out.size))
  clear HB11 K11 hr0 hr1 hrl hrr
  have x0 : w11.cell? ⟨T1, 0, none⟩ = some (.int .u8 99) := HA0.out.t1.cell 0
  have x1 : w11.cell? ⟨T1, 1, none⟩ = some (.int .i64 3) := HA0.out.t1.cell 1
  have x2 : w11.cell? ⟨T1, 2, none⟩ = some (.bool true) := HA0.out.t1.cell 2
  have x3 : w11.cell? ⟨T1, 3, none⟩ = some (.slice (some ⟨g, 0, none⟩) 2 c) := HA0.out.t1.cell 3
  have x4 : w11.cell? ⟨T1, 4, none⟩ = some (.slice (some ⟨h, 0, none⟩) 1 d) := HA0.out.t1.cell 4
  have y0 : w11.cell? ⟨T2, 0, none⟩ = some (.int .u8 114) := HA0.out.t2.cell 0
  have y1 : w11.cell? ⟨T2, 1, none⟩ = some (.int .i64 10) := HA0.out.t2.cell 1
  have g0 := HA0.out.five.g0
  have g1 := HA0.out.five.g1
  have g2 := HA0.out.five.g2
  have g3 := HA0.out.five.g3
  have h0 := HA0.out.five.h0
  have r0 := HA0.out.r0
  have r1 := HA0.out.r1
  go_wp2_with fail
  simp only [List.append_eq, List.cons_append, List.nil_append]
  refine wp_region_noPanic ?_
  refine wp_region_held_drew (S := fun w' => Below w11.heap.size w11 w' ∧ w'.cell? ⟨T1, 0, none⟩ = some (.int .u8 99) ∧ w'.cell? ⟨T1, 1, none⟩ = some (.int .i64 3) ∧ w'.cell? ⟨T1, 2, none⟩ = some (.bool true) ∧ w'.cell? ⟨T1, 3, none⟩ = some (.slice (some ⟨g, 0, none⟩) 2 c) ∧ w'.cell? ⟨T1, 4, none⟩ = some (.slice (some ⟨h, 0, none⟩) 1 d) ∧ w'.cell? ⟨T2, 0, none⟩ = some (.int .u8 114) ∧ w'.cell? ⟨T2, 1, none⟩ = some (.int .i64 10) ∧ w'.cell? ⟨g, 0, none⟩ = some (.int .u8 115) ∧ w'.cell? ⟨g, 1, none⟩ = some (.int .i64 3) ∧ w'.cell? ⟨g, 2, none⟩ = some (.int .u8 114) ∧ w'.cell? ⟨g, 3, none⟩ = some (.int .i64 4) ∧ w'.cell? ⟨h, 0, none⟩ = some (.string ⟨#[115, 48, 48, 48, 48, 48, 48, 48, 50]⟩) ∧ w'.cell? ⟨r, 0, none⟩ = some (.int .u8 97) ∧ w'.cell? ⟨r, 1, none⟩ = some (.string ⟨#[104, 105]⟩)) (by kernel_rfl) ⟨below_draw, x0, x1, x2, x3, x4, y0, y1, g0, g1, g2, g3, h0, r0, r1⟩ (fun hS => ?_)
  refine wpAnyH_take (i := 0) (v := ?_) rfl (by kernel_rfl) (by kernel_rfl) (by kernel_rfl) (fun _ _ _ h => h) (Or.inl ⟨by rfl, ?_⟩) hS ?_
  rotate_left
  · intro wx hSx
    try dsimp only at hSx
    go_simp
    try with_reducible rfl
  simp only [Act.put, List.getElem_toArray, List.getElem_cons_zero, List.setIfInBounds_toArray, List.set_cons_zero, List.set_cons_succ]
  refine wpAnyH_take (i := 1) (v := ?_) rfl (by kernel_rfl) (by kernel_rfl) (by kernel_rfl) (fun _ _ _ h => h) (Or.inl ⟨by rfl, ?_⟩) hS ?_
  rotate_left
  · intro wx hSx
    try dsimp only at hSx
    go_simp
    try with_reducible rfl
  simp only [Act.put, List.getElem_toArray, List.getElem_cons_zero, List.getElem_cons_succ, List.setIfInBounds_toArray, List.set_cons_zero, List.set_cons_succ]
  refine wpAnyH_take (i := 2) (v := ?_) rfl (by kernel_rfl) (by kernel_rfl) (by kernel_rfl) (fun _ _ _ h => h) (Or.inl ⟨by rfl, ?_⟩) hS ?_
  rotate_left
  · intro wx hSx
    try dsimp only at hSx
    go_simp
    try with_reducible rfl
  simp only [Act.put, List.getElem_toArray, List.getElem_cons_zero, List.getElem_cons_succ, List.setIfInBounds_toArray, List.set_cons_zero, List.set_cons_succ]
  refine wpAnyH_take (i := 3) (v := ?_) rfl (by kernel_rfl) (by kernel_rfl) (by kernel_rfl) (fun _ _ _ h => h) (Or.inl ⟨by rfl, ?_⟩) hS ?_
  rotate_left
  · intro wx hSx
    try dsimp only at hSx
    go_simp
    try with_reducible rfl
  simp only [Act.put, List.getElem_toArray, List.getElem_cons_zero, List.getElem_cons_succ, List.setIfInBounds_toArray, List.set_cons_zero, List.set_cons_succ]
  refine wpAnyH_take (i := 4) (v := ?_) rfl (by kernel_rfl) (by kernel_rfl) (by kernel_rfl) (fun _ _ _ h => h) (Or.inl ⟨by rfl, ?_⟩) hS ?_
  rotate_left
  · intro wx hSx
    try dsimp only at hSx
    go_simp
    try with_reducible rfl
  simp only [Act.put, List.getElem_toArray, List.getElem_cons_zero, List.getElem_cons_succ, List.setIfInBounds_toArray, List.set_cons_zero, List.set_cons_succ]
  refine wpAnyH_take (i := 5) (v := ?_) rfl (by kernel_rfl) (by kernel_rfl) (by kernel_rfl) (fun _ _ _ h => h) (Or.inl ⟨by rfl, ?_⟩) hS ?_
  rotate_left
  · intro wx hSx
    try dsimp only at hSx
    go_simp
    try with_reducible rfl
  simp only [Act.put, List.getElem_toArray, List.getElem_cons_zero, List.getElem_cons_succ, List.setIfInBounds_toArray, List.set_cons_zero, List.set_cons_succ]
  refine wpAnyH_take (i := 6) (v := ?_) rfl (by kernel_rfl) (by kernel_rfl) (by kernel_rfl) (fun _ _ _ h => h) (Or.inl ⟨by rfl, ?_⟩) hS ?_
  rotate_left
  · intro wx hSx
    try dsimp only at hSx
    go_simp
    try with_reducible rfl
  simp only [Act.put, List.getElem_toArray, List.getElem_cons_zero, List.getElem_cons_succ, List.setIfInBounds_toArray, List.set_cons_zero, List.set_cons_succ]
  as_aux_lemma =>
    refine wpAnyH_take (i := 7) (v := ?_) rfl (by kernel_rfl) (by kernel_rfl) (by kernel_rfl) (fun _ _ _ h => h) (Or.inl ⟨by rfl, ?_⟩) hS ?_
    rotate_left
    · intro wx hSx
      try dsimp only at hSx
      go_simp
      try with_reducible rfl
    simp only [Act.put, List.getElem_toArray, List.getElem_cons_zero, List.getElem_cons_succ, List.setIfInBounds_toArray, List.set_cons_zero, List.set_cons_succ]
    refine wpAnyH_take (i := 8) (v := ?_) rfl (by kernel_rfl) (by kernel_rfl) (by kernel_rfl) (fun _ _ _ h => h) (Or.inl ⟨by rfl, ?_⟩) hS ?_
    rotate_left
    · intro wx hSx
      try dsimp only at hSx
      go_simp
      try with_reducible rfl
    simp only [Act.put, List.getElem_toArray, List.getElem_cons_zero, List.getElem_cons_succ, List.setIfInBounds_toArray, List.set_cons_zero, List.set_cons_succ]
    refine wpAnyH_take (i := 9) (v := ?_) rfl (by kernel_rfl) (by kernel_rfl) (by kernel_rfl) (fun _ _ _ h => h) (Or.inl ⟨by rfl, ?_⟩) hS ?_
    rotate_left
    · intro wx hSx
      try dsimp only at hSx
      go_simp
      try with_reducible rfl
    simp only [Act.put, List.getElem_toArray, List.getElem_cons_zero, List.getElem_cons_succ, List.setIfInBounds_toArray, List.set_cons_zero, List.set_cons_succ]
    refine wpAnyH_take (i := 10) (v := ?_) rfl (by kernel_rfl) (by kernel_rfl) (by kernel_rfl) (fun _ _ _ h => h) (Or.inl ⟨by rfl, ?_⟩) hS ?_
    rotate_left
    · intro wx hSx
      try dsimp only at hSx
      go_simp
      try with_reducible rfl
    simp only [Act.put, List.getElem_toArray, List.getElem_cons_zero, List.getElem_cons_succ, List.setIfInBounds_toArray, List.set_cons_zero, List.set_cons_succ]
    refine wpAnyH_take (i := 11) (v := ?_) rfl (by kernel_rfl) (by kernel_rfl) (by kernel_rfl) (fun _ _ _ h => h) (Or.inl ⟨by rfl, ?_⟩) hS ?_
    rotate_left
    · intro wx hSx
      try dsimp only at hSx
      go_simp
      try with_reducible rfl
    simp only [Act.put, List.getElem_toArray, List.getElem_cons_zero, List.getElem_cons_succ, List.setIfInBounds_toArray, List.set_cons_zero, List.set_cons_succ]
    refine wpAnyH_take (i := 12) (v := ?_) rfl (by kernel_rfl) (by kernel_rfl) (by kernel_rfl) (fun _ _ _ h => h) (Or.inl ⟨by rfl, ?_⟩) hS ?_
    rotate_left
    · intro wx hSx
      try dsimp only at hSx
      go_simp
      try with_reducible rfl
    simp only [Act.put, List.getElem_toArray, List.getElem_cons_zero, List.getElem_cons_succ, List.setIfInBounds_toArray, List.set_cons_zero, List.set_cons_succ]
    refine wpAnyH_take (i := 13) (v := ?_) rfl (by kernel_rfl) (by kernel_rfl) (by kernel_rfl) (fun _ _ _ h => h) (Or.inl ⟨by rfl, ?_⟩) hS ?_
    rotate_left
    · intro wx hSx
      try dsimp only at hSx
      go_simp
      try with_reducible rfl
    simp only [Act.put, List.getElem_toArray, List.getElem_cons_zero, List.getElem_cons_succ, List.setIfInBounds_toArray, List.set_cons_zero, List.set_cons_succ]
    refine wpAnyH_take (i := 14) (v := ?_) rfl (by kernel_rfl) (by kernel_rfl) (by kernel_rfl) (fun _ _ _ h => h) (Or.inl ⟨by rfl, ?_⟩) hS ?_
    rotate_left
    · intro wx hSx
      try dsimp only at hSx
      go_simp
      try with_reducible rfl
    simp only [Act.put, List.getElem_toArray, List.getElem_cons_zero, List.getElem_cons_succ, List.setIfInBounds_toArray, List.set_cons_zero, List.set_cons_succ]
    as_aux_lemma =>
      refine wpAnyH_take (i := 15) (v := ?_) rfl (by kernel_rfl) (by kernel_rfl) (by kernel_rfl) (fun _ _ _ h => h) (Or.inl ⟨by rfl, ?_⟩) hS ?_
      rotate_left
      · intro wx hSx
        try dsimp only at hSx
        go_simp
        try with_reducible rfl
      simp only [Act.put, List.getElem_toArray, List.getElem_cons_zero, List.getElem_cons_succ, List.setIfInBounds_toArray, List.set_cons_zero, List.set_cons_succ]
      refine wpAnyH_take (i := 16) (v := ?_) rfl (by kernel_rfl) (by kernel_rfl) (by kernel_rfl) (fun _ _ _ h => h) (Or.inl ⟨by rfl, ?_⟩) hS ?_
      rotate_left
      · intro wx hSx
        try dsimp only at hSx
        go_simp
        try with_reducible rfl
      simp only [Act.put, List.getElem_toArray, List.getElem_cons_zero, List.getElem_cons_succ, List.setIfInBounds_toArray, List.set_cons_zero, List.set_cons_succ]
      refine wpAnyH_take (i := 17) (v := ?_) rfl (by kernel_rfl) (by kernel_rfl) (by kernel_rfl) (fun _ _ _ h => h) (Or.inl ⟨by rfl, ?_⟩) hS ?_
      rotate_left
      · intro wx hSx
        try dsimp only at hSx
        go_simp
        try with_reducible rfl
      simp only [Act.put, List.getElem_toArray, List.getElem_cons_zero, List.getElem_cons_succ, List.setIfInBounds_toArray, List.set_cons_zero, List.set_cons_succ]
      refine wpAnyH_take (i := 18) (v := ?_) rfl (by kernel_rfl) (by kernel_rfl) (by kernel_rfl) (fun _ _ _ h => h) (Or.inl ⟨by rfl, ?_⟩) hS ?_
      rotate_left
      · intro wx hSx
        try dsimp only at hSx
        go_simp
        try with_reducible rfl
      simp only [Act.put, List.getElem_toArray, List.getElem_cons_zero, List.getElem_cons_succ, List.setIfInBounds_toArray, List.set_cons_zero, List.set_cons_succ]
      refine wpAnyH_take (i := 19) (v := ?_) rfl (by kernel_rfl) (by kernel_rfl) (by kernel_rfl) (fun _ _ _ h => h) (Or.inl ⟨by rfl, ?_⟩) hS ?_
      rotate_left
      · intro wx hSx
        try dsimp only at hSx
        go_simp
        try with_reducible rfl
      simp only [Act.put, List.getElem_toArray, List.getElem_cons_zero, List.getElem_cons_succ, List.setIfInBounds_toArray, List.set_cons_zero, List.set_cons_succ]
      refine wpAnyH_take (i := 20) (v := ?_) rfl (by kernel_rfl) (by kernel_rfl) (by kernel_rfl) (fun _ _ _ h => h) (Or.inl ⟨by rfl, ?_⟩) hS ?_
      rotate_left
      · intro wx hSx
        try dsimp only at hSx
        go_simp
        try with_reducible rfl
      simp only [Act.put, List.getElem_toArray, List.getElem_cons_zero, List.getElem_cons_succ, List.setIfInBounds_toArray, List.set_cons_zero, List.set_cons_succ]
      refine wpAnyH_take (i := 21) (v := ?_) rfl (by kernel_rfl) (by kernel_rfl) (by kernel_rfl) (fun _ _ _ h => h) (Or.inl ⟨by rfl, ?_⟩) hS ?_
      rotate_left
      · intro wx hSx
        try dsimp only at hSx
        go_simp
        try with_reducible rfl
      simp only [Act.put, List.getElem_toArray, List.getElem_cons_zero, List.getElem_cons_succ, List.setIfInBounds_toArray, List.set_cons_zero, List.set_cons_succ]
      refine wpAnyH_take (i := 22) (v := ?_) rfl (by kernel_rfl) (by kernel_rfl) (by kernel_rfl) (fun _ _ _ h => h) (Or.inl ⟨by rfl, ?_⟩) hS ?_
      rotate_left
      · intro wx hSx
        try dsimp only at hSx
        go_simp
        try with_reducible rfl
      simp only [Act.put, List.getElem_toArray, List.getElem_cons_zero, List.getElem_cons_succ, List.setIfInBounds_toArray, List.set_cons_zero, List.set_cons_succ]
      as_aux_lemma =>
        refine wpAnyH_take (i := 23) (v := ?_) rfl (by kernel_rfl) (by kernel_rfl) (by kernel_rfl) (fun _ _ _ h => h) (Or.inl ⟨by rfl, ?_⟩) hS ?_
        rotate_left
        · intro wx hSx
          try dsimp only at hSx
          go_simp
          try with_reducible rfl
        simp only [Act.put, List.getElem_toArray, List.getElem_cons_zero, List.getElem_cons_succ, List.setIfInBounds_toArray, List.set_cons_zero, List.set_cons_succ]
        refine wpAnyH_take (i := 24) (v := ?_) rfl (by kernel_rfl) (by kernel_rfl) (by kernel_rfl) (fun _ _ _ h => h) (Or.inl ⟨by rfl, ?_⟩) hS ?_
        rotate_left
        · intro wx hSx
          try dsimp only at hSx
          go_simp
          try with_reducible rfl
        simp only [Act.put, List.getElem_toArray, List.getElem_cons_zero, List.getElem_cons_succ, List.setIfInBounds_toArray, List.set_cons_zero, List.set_cons_succ]
        refine wpAnyH_take (i := 25) (v := ?_) rfl (by kernel_rfl) (by kernel_rfl) (by kernel_rfl) (fun _ _ _ h => h) (Or.inl ⟨by rfl, ?_⟩) hS ?_
        rotate_left
        · intro wx hSx
          try dsimp only at hSx
          go_simp
          try with_reducible rfl
        simp only [Act.put, List.getElem_toArray, List.getElem_cons_zero, List.getElem_cons_succ, List.setIfInBounds_toArray, List.set_cons_zero, List.set_cons_succ]
        refine wpAnyH_take (i := 26) (v := ?_) rfl (by kernel_rfl) (by kernel_rfl) (by kernel_rfl) (fun _ _ _ h => h) (Or.inl ⟨by rfl, ?_⟩) hS ?_
        rotate_left
        · intro wx hSx
          try dsimp only at hSx
          go_simp
          try with_reducible rfl
        simp only [Act.put, List.getElem_toArray, List.getElem_cons_zero, List.getElem_cons_succ, List.setIfInBounds_toArray, List.set_cons_zero, List.set_cons_succ]
        refine wpAnyH_take (i := 27) (v := ?_) rfl (by kernel_rfl) (by kernel_rfl) (by kernel_rfl) (fun _ _ _ h => h) (Or.inl ⟨by rfl, ?_⟩) hS ?_
        rotate_left
        · intro wx hSx
          try dsimp only at hSx
          go_simp
          try with_reducible rfl
        simp only [Act.put, List.getElem_toArray, List.getElem_cons_zero, List.getElem_cons_succ, List.setIfInBounds_toArray, List.set_cons_zero, List.set_cons_succ]
        refine wpAnyH_take (i := 28) (v := ?_) rfl (by kernel_rfl) (by kernel_rfl) (by kernel_rfl) (fun _ _ _ h => h) (Or.inl ⟨by rfl, ?_⟩) hS ?_
        rotate_left
        · intro wx hSx
          try dsimp only at hSx
          go_simp
          try with_reducible rfl
        simp only [Act.put, List.getElem_toArray, List.getElem_cons_zero, List.getElem_cons_succ, List.setIfInBounds_toArray, List.set_cons_zero, List.set_cons_succ]
        refine wpAnyH_take (i := 29) (v := ?_) rfl (by kernel_rfl) (by kernel_rfl) (by kernel_rfl) (fun _ _ _ h => h) (Or.inl ⟨by rfl, ?_⟩) hS ?_
        rotate_left
        · intro wx hSx
          try dsimp only at hSx
          go_simp
          try with_reducible rfl
        simp only [Act.put, List.getElem_toArray, List.getElem_cons_zero, List.getElem_cons_succ, List.setIfInBounds_toArray, List.set_cons_zero, List.set_cons_succ]
        refine wpAnyH_take (i := 30) (v := ?_) rfl (by kernel_rfl) (by kernel_rfl) (by kernel_rfl) (fun _ _ _ h => h) (Or.inl ⟨by rfl, ?_⟩) hS ?_
        rotate_left
        · intro wx hSx
          try dsimp only at hSx
          go_simp
          try with_reducible rfl
        simp only [Act.put, List.getElem_toArray, List.getElem_cons_zero, List.getElem_cons_succ, List.setIfInBounds_toArray, List.set_cons_zero, List.set_cons_succ]
        as_aux_lemma =>
          refine wpAnyH_take (i := 31) (v := ?_) rfl (by kernel_rfl) (by kernel_rfl) (by kernel_rfl) (fun _ _ _ h => h) (Or.inl ⟨by rfl, ?_⟩) hS ?_
          rotate_left
          · intro wx hSx
            try dsimp only at hSx
            go_simp
            try with_reducible rfl
          simp only [Act.put, List.getElem_toArray, List.getElem_cons_zero, List.getElem_cons_succ, List.setIfInBounds_toArray, List.set_cons_zero, List.set_cons_succ]
          refine wpAnyH_take (i := 32) (v := ?_) rfl (by kernel_rfl) (by kernel_rfl) (by kernel_rfl) (fun _ _ _ h => h) (Or.inl ⟨by rfl, ?_⟩) hS ?_
          rotate_left
          · intro wx hSx
            try dsimp only at hSx
            go_simp
            try with_reducible rfl
          simp only [Act.put, List.getElem_toArray, List.getElem_cons_zero, List.getElem_cons_succ, List.setIfInBounds_toArray, List.set_cons_zero, List.set_cons_succ]
          refine wpAnyH_take (i := 33) (v := ?_) rfl (by kernel_rfl) (by kernel_rfl) (by kernel_rfl) (fun _ _ _ h => h) (Or.inl ⟨by rfl, ?_⟩) hS ?_
          rotate_left
          · intro wx hSx
            try dsimp only at hSx
            go_simp
            try with_reducible rfl
          simp only [Act.put, List.getElem_toArray, List.getElem_cons_zero, List.getElem_cons_succ, List.setIfInBounds_toArray, List.set_cons_zero, List.set_cons_succ]
          refine wpAnyH_take (i := 34) (v := ?_) rfl (by kernel_rfl) (by kernel_rfl) (by kernel_rfl) (fun _ _ _ h => h) (Or.inl ⟨by rfl, ?_⟩) hS ?_
          rotate_left
          · intro wx hSx
            try dsimp only at hSx
            go_simp
            try with_reducible rfl
          simp only [Act.put, List.getElem_toArray, List.getElem_cons_zero, List.getElem_cons_succ, List.setIfInBounds_toArray, List.set_cons_zero, List.set_cons_succ]
          refine wpAnyH_take (i := 35) (v := ?_) rfl (by kernel_rfl) (by kernel_rfl) (by kernel_rfl) (fun _ _ _ h => h) (Or.inl ⟨by rfl, ?_⟩) hS ?_
          rotate_left
          · intro wx hSx
            try dsimp only at hSx
            go_simp
            try with_reducible rfl
          simp only [Act.put, List.getElem_toArray, List.getElem_cons_zero, List.getElem_cons_succ, List.setIfInBounds_toArray, List.set_cons_zero, List.set_cons_succ]
          refine wpAnyH_take (i := 36) (v := ?_) rfl (by kernel_rfl) (by kernel_rfl) (by kernel_rfl) (fun _ _ _ h => h) (Or.inl ⟨by rfl, ?_⟩) hS ?_
          rotate_left
          · intro wx hSx
            try dsimp only at hSx
            go_simp
            try with_reducible rfl
          simp only [Act.put, List.getElem_toArray, List.getElem_cons_zero, List.getElem_cons_succ, List.setIfInBounds_toArray, List.set_cons_zero, List.set_cons_succ]
          refine wpAnyH_ready (rs := [37]) (by kernel_rfl) (by simp) ?_
          refine AllReadyH.cons rfl (fun K hK => ?_) AllReadyH.nil
          simp only [List.getElem_toArray, List.getElem_cons_zero, List.getElem_cons_succ]
          go_simp
          refine (next_five (HA0.out.below hS.1)).mono ?_
          rintro e w12 ⟨rfl, hbb0⟩
          refine hK.out _ _ ⟨(hS.1).trans ((hbb0).mono (hS.1).size), ((hbb0).cell (cell_lt hS.2.1)).trans hS.2.1, ((hbb0).cell (cell_lt hS.2.2.1)).trans hS.2.2.1, ((hbb0).cell (cell_lt hS.2.2.2.1)).trans hS.2.2.2.1, ((hbb0).cell (cell_lt hS.2.2.2.2.1)).trans hS.2.2.2.2.1, ((hbb0).cell (cell_lt hS.2.2.2.2.2.1)).trans hS.2.2.2.2.2.1, ((hbb0).cell (cell_lt hS.2.2.2.2.2.2.1)).trans hS.2.2.2.2.2.2.1, ((hbb0).cell (cell_lt hS.2.2.2.2.2.2.2.1)).trans hS.2.2.2.2.2.2.2.1, ((hbb0).cell (cell_lt hS.2.2.2.2.2.2.2.2.1)).trans hS.2.2.2.2.2.2.2.2.1, ((hbb0).cell (cell_lt hS.2.2.2.2.2.2.2.2.2.1)).trans hS.2.2.2.2.2.2.2.2.2.1, ((hbb0).cell (cell_lt hS.2.2.2.2.2.2.2.2.2.2.1)).trans hS.2.2.2.2.2.2.2.2.2.2.1, ((hbb0).cell (cell_lt hS.2.2.2.2.2.2.2.2.2.2.2.1)).trans hS.2.2.2.2.2.2.2.2.2.2.2.1, ((hbb0).cell (cell_lt hS.2.2.2.2.2.2.2.2.2.2.2.2.1)).trans hS.2.2.2.2.2.2.2.2.2.2.2.2.1, ((hbb0).cell (cell_lt hS.2.2.2.2.2.2.2.2.2.2.2.2.2.1)).trans hS.2.2.2.2.2.2.2.2.2.2.2.2.2.1, ((hbb0).cell (cell_lt hS.2.2.2.2.2.2.2.2.2.2.2.2.2.2)).trans hS.2.2.2.2.2.2.2.2.2.2.2.2.2.2⟩ (fun hS1 => ?_)
          clear hK
          refine wpAnyH_take (i := 38) (v := ?_) rfl (by kernel_rfl) (by kernel_rfl) (by kernel_rfl) (fun _ _ _ h => h) (Or.inl ⟨by rfl, ?_⟩) hS1 ?_
          rotate_left
          · intro wx hSx
            try dsimp only at hSx
            go_simp
            try with_reducible rfl
          simp only [Act.put, List.getElem_toArray, List.getElem_cons_zero, List.getElem_cons_succ, List.setIfInBounds_toArray, List.set_cons_zero, List.set_cons_succ]
          as_aux_lemma =>
            refine wpAnyH_take (i := 39) (v := ?_) rfl (by kernel_rfl) (by kernel_rfl) (by kernel_rfl) (fun _ _ _ h => h) (Or.inl ⟨by rfl, ?_⟩) hS1 ?_
            rotate_left
            · intro wx hSx
              try dsimp only at hSx
              go_simp
              try with_reducible rfl
            simp only [Act.put, List.getElem_toArray, List.getElem_cons_zero, List.getElem_cons_succ, List.setIfInBounds_toArray, List.set_cons_zero, List.set_cons_succ]
            refine wpAnyH_take (i := 40) (v := ?_) rfl (by kernel_rfl) (by kernel_rfl) (by kernel_rfl) (fun _ _ _ h => h) (Or.inl ⟨by rfl, ?_⟩) hS1 ?_
            rotate_left
            · intro wx hSx
              try dsimp only at hSx
              go_simp
              try with_reducible rfl
            simp only [Act.put, List.getElem_toArray, List.getElem_cons_zero, List.getElem_cons_succ, List.setIfInBounds_toArray, List.set_cons_zero, List.set_cons_succ]
            refine wpAnyH_take (i := 41) (v := ?_) rfl (by kernel_rfl) (by kernel_rfl) (by kernel_rfl) (fun _ _ _ h => h) (Or.inl ⟨by rfl, ?_⟩) hS1 ?_
            rotate_left
            · intro wx hSx
              try dsimp only at hSx
              go_simp
              try with_reducible rfl
            simp only [Act.put, List.getElem_toArray, List.getElem_cons_zero, List.getElem_cons_succ, List.setIfInBounds_toArray, List.set_cons_zero, List.set_cons_succ]
            refine wpAnyH_ready (rs := [42]) (by kernel_rfl) (by simp) ?_
            refine AllReadyH.cons rfl (fun K hK => ?_) AllReadyH.nil
            simp only [List.getElem_toArray, List.getElem_cons_zero, List.getElem_cons_succ]
            go_simp
            refine (next_zero _).mono ?_
            rintro e w13 ⟨rfl, hbb1⟩
            refine hK.out _ _ ⟨(hS1.1).trans ((hbb1).mono (hS1.1).size), ((hbb1).cell (cell_lt hS1.2.1)).trans hS1.2.1, ((hbb1).cell (cell_lt hS1.2.2.1)).trans hS1.2.2.1, ((hbb1).cell (cell_lt hS1.2.2.2.1)).trans hS1.2.2.2.1, ((hbb1).cell (cell_lt hS1.2.2.2.2.1)).trans hS1.2.2.2.2.1, ((hbb1).cell (cell_lt hS1.2.2.2.2.2.1)).trans hS1.2.2.2.2.2.1, ((hbb1).cell (cell_lt hS1.2.2.2.2.2.2.1)).trans hS1.2.2.2.2.2.2.1, ((hbb1).cell (cell_lt hS1.2.2.2.2.2.2.2.1)).trans hS1.2.2.2.2.2.2.2.1, ((hbb1).cell (cell_lt hS1.2.2.2.2.2.2.2.2.1)).trans hS1.2.2.2.2.2.2.2.2.1, ((hbb1).cell (cell_lt hS1.2.2.2.2.2.2.2.2.2.1)).trans hS1.2.2.2.2.2.2.2.2.2.1, ((hbb1).cell (cell_lt hS1.2.2.2.2.2.2.2.2.2.2.1)).trans hS1.2.2.2.2.2.2.2.2.2.2.1, ((hbb1).cell (cell_lt hS1.2.2.2.2.2.2.2.2.2.2.2.1)).trans hS1.2.2.2.2.2.2.2.2.2.2.2.1, ((hbb1).cell (cell_lt hS1.2.2.2.2.2.2.2.2.2.2.2.2.1)).trans hS1.2.2.2.2.2.2.2.2.2.2.2.2.1, ((hbb1).cell (cell_lt hS1.2.2.2.2.2.2.2.2.2.2.2.2.2.1)).trans hS1.2.2.2.2.2.2.2.2.2.2.2.2.2.1, ((hbb1).cell (cell_lt hS1.2.2.2.2.2.2.2.2.2.2.2.2.2.2)).trans hS1.2.2.2.2.2.2.2.2.2.2.2.2.2.2⟩ (fun hS2 => ?_)
            clear hK
            refine wpAnyH_take (i := 43) (v := ?_) rfl (by kernel_rfl) (by kernel_rfl) (by kernel_rfl) (fun _ _ _ h => h) (Or.inl ⟨by rfl, ?_⟩) hS2 ?_
            rotate_left
            · intro wx hSx
              try dsimp only at hSx
              go_simp
              try with_reducible rfl
            simp only [Act.put, List.getElem_toArray, List.getElem_cons_zero, List.getElem_cons_succ, List.setIfInBounds_toArray, List.set_cons_zero, List.set_cons_succ]
            refine wpAnyH_take (i := 44) (v := ?_) rfl (by kernel_rfl) (by kernel_rfl) (by kernel_rfl) (fun _ _ _ h => h) (Or.inl ⟨by rfl, ?_⟩) hS2 ?_
            rotate_left
            · intro wx hSx
              try dsimp only at hSx
              go_simp
              try with_reducible rfl
            simp only [Act.put, List.getElem_toArray, List.getElem_cons_zero, List.getElem_cons_succ, List.setIfInBounds_toArray, List.set_cons_zero, List.set_cons_succ]
            refine wpAnyH_take (i := 45) (v := ?_) rfl (by kernel_rfl) (by kernel_rfl) (by kernel_rfl) (fun _ _ _ h => h) (Or.inl ⟨by rfl, ?_⟩) hS2 ?_
            rotate_left
            · intro wx hSx
              try dsimp only at hSx
              go_simp
              try with_reducible rfl
            simp only [Act.put, List.getElem_toArray, List.getElem_cons_zero, List.getElem_cons_succ, List.setIfInBounds_toArray, List.set_cons_zero, List.set_cons_succ]
            refine wpAnyH_take (i := 46) (v := ?_) rfl (by kernel_rfl) (by kernel_rfl) (by kernel_rfl) (fun _ _ _ h => h) (Or.inl ⟨by rfl, ?_⟩) hS2 ?_
            rotate_left
            · intro wx hSx
              try dsimp only at hSx
              go_simp
              try with_reducible rfl
            simp only [Act.put, List.getElem_toArray, List.getElem_cons_zero, List.getElem_cons_succ, List.setIfInBounds_toArray, List.set_cons_zero, List.set_cons_succ]
            as_aux_lemma =>
              refine wpAnyH_take (i := 47) (v := ?_) rfl (by kernel_rfl) (by kernel_rfl) (by kernel_rfl) (fun _ _ _ h => h) (Or.inl ⟨by rfl, ?_⟩) hS2 ?_
              rotate_left
              · intro wx hSx
                try dsimp only at hSx
                go_simp
                try with_reducible rfl
              simp only [Act.put, List.getElem_toArray, List.getElem_cons_zero, List.getElem_cons_succ, List.setIfInBounds_toArray, List.set_cons_zero, List.set_cons_succ]
              refine wpAnyH_take (i := 48) (v := ?_) rfl (by kernel_rfl) (by kernel_rfl) (by kernel_rfl) (fun _ _ _ h => h) (Or.inl ⟨by rfl, ?_⟩) hS2 ?_
              rotate_left
              · intro wx hSx
                try dsimp only at hSx
                go_simp
                try with_reducible rfl
              simp only [Act.put, List.getElem_toArray, List.getElem_cons_zero, List.getElem_cons_succ, List.setIfInBounds_toArray, List.set_cons_zero, List.set_cons_succ]
              refine wpAnyH_take (i := 49) (v := ?_) rfl (by kernel_rfl) (by kernel_rfl) (by kernel_rfl) (fun _ _ _ h => h) (Or.inl ⟨by rfl, ?_⟩) hS2 ?_
              rotate_left
              · intro wx hSx
                try dsimp only at hSx
                go_simp
                try with_reducible rfl
              simp only [Act.put, List.getElem_toArray, List.getElem_cons_zero, List.getElem_cons_succ, List.setIfInBounds_toArray, List.set_cons_zero, List.set_cons_succ]
              refine wpAnyH_take (i := 50) (v := ?_) rfl (by kernel_rfl) (by kernel_rfl) (by kernel_rfl) (fun _ _ _ h => h) (Or.inl ⟨by rfl, ?_⟩) hS2 ?_
              rotate_left
              · intro wx hSx
                try dsimp only at hSx
                go_simp
                try with_reducible rfl
              simp only [Act.put, List.getElem_toArray, List.getElem_cons_zero, List.getElem_cons_succ, List.setIfInBounds_toArray, List.set_cons_zero, List.set_cons_succ]
              refine wpAnyH_take (i := 51) (v := ?_) rfl (by kernel_rfl) (by kernel_rfl) (by kernel_rfl) (fun _ _ _ h => h) (Or.inl ⟨by rfl, ?_⟩) hS2 ?_
              rotate_left
              · intro wx hSx
                try dsimp only at hSx
                go_simp
                try with_reducible rfl
              simp only [Act.put, List.getElem_toArray, List.getElem_cons_zero, List.getElem_cons_succ, List.setIfInBounds_toArray, List.set_cons_zero, List.set_cons_succ]
              refine wpAnyH_take (i := 52) (v := ?_) rfl (by kernel_rfl) (by kernel_rfl) (by kernel_rfl) (fun _ _ _ h => h) (Or.inl ⟨by rfl, ?_⟩) hS2 ?_
              rotate_left
              · intro wx hSx
                try dsimp only at hSx
                go_simp
                try with_reducible rfl
              simp only [Act.put, List.getElem_toArray, List.getElem_cons_zero, List.getElem_cons_succ, List.setIfInBounds_toArray, List.set_cons_zero, List.set_cons_succ]
              refine wpAnyH_take (i := 53) (v := ?_) rfl (by kernel_rfl) (by kernel_rfl) (by kernel_rfl) (fun _ _ _ h => h) (Or.inl ⟨by rfl, ?_⟩) hS2 ?_
              rotate_left
              · intro wx hSx
                try dsimp only at hSx
                go_simp
                try with_reducible rfl
              simp only [Act.put, List.getElem_toArray, List.getElem_cons_zero, List.getElem_cons_succ, List.setIfInBounds_toArray, List.set_cons_zero, List.set_cons_succ]
              refine wpAnyH_take (i := 54) (v := ?_) rfl (by kernel_rfl) (by kernel_rfl) (by kernel_rfl) (fun _ _ _ h => h) (Or.inl ⟨by rfl, ?_⟩) hS2 ?_
              rotate_left
              · intro wx hSx
                try dsimp only at hSx
                go_simp
                try with_reducible rfl
              simp only [Act.put, List.getElem_toArray, List.getElem_cons_zero, List.getElem_cons_succ, List.setIfInBounds_toArray, List.set_cons_zero, List.set_cons_succ]
              as_aux_lemma =>
                refine wpAnyH_take (i := 55) (v := ?_) rfl (by kernel_rfl) (by kernel_rfl) (by kernel_rfl) (fun _ _ _ h => h) (Or.inl ⟨by rfl, ?_⟩) hS2 ?_
                rotate_left
                · intro wx hSx
                  try dsimp only at hSx
                  go_simp
                  try with_reducible rfl
                simp only [Act.put, List.getElem_toArray, List.getElem_cons_zero, List.getElem_cons_succ, List.setIfInBounds_toArray, List.set_cons_zero, List.set_cons_succ]
                refine wpAnyH_take (i := 56) (v := ?_) rfl (by kernel_rfl) (by kernel_rfl) (by kernel_rfl) (fun _ _ _ h => h) (Or.inl ⟨by rfl, ?_⟩) hS2 ?_
                rotate_left
                · intro wx hSx
                  try dsimp only at hSx
                  go_simp
                  try with_reducible rfl
                simp only [Act.put, List.getElem_toArray, List.getElem_cons_zero, List.getElem_cons_succ, List.setIfInBounds_toArray, List.set_cons_zero, List.set_cons_succ]
                refine wpAnyH_take (i := 57) (v := ?_) rfl (by kernel_rfl) (by kernel_rfl) (by kernel_rfl) (fun _ _ _ h => h) (Or.inl ⟨by rfl, ?_⟩) hS2 ?_
                rotate_left
                · intro wx hSx
                  try dsimp only at hSx
                  go_simp
                  try with_reducible rfl
                simp only [Act.put, List.getElem_toArray, List.getElem_cons_zero, List.getElem_cons_succ, List.setIfInBounds_toArray, List.set_cons_zero, List.set_cons_succ]
                refine wpAnyH_take (i := 58) (v := ?_) rfl (by kernel_rfl) (by kernel_rfl) (by kernel_rfl) (fun _ _ _ h => h) (Or.inl ⟨by rfl, ?_⟩) hS2 ?_
                rotate_left
                · intro wx hSx
                  try dsimp only at hSx
                  go_simp
                  try with_reducible rfl
                simp only [Act.put, List.getElem_toArray, List.getElem_cons_zero, List.getElem_cons_succ, List.setIfInBounds_toArray, List.set_cons_zero, List.set_cons_succ]
                refine wpAnyH_ready (rs := [59]) (by kernel_rfl) (by simp) ?_
                refine AllReadyH.cons rfl (fun K hK => ?_) AllReadyH.nil
                simp only [List.getElem_toArray, List.getElem_cons_zero, List.getElem_cons_succ]
                go_simp
                refine (name_ra _).mono ?_
                rintro e w14 ⟨rfl, hbb2⟩
                refine hK.out _ _ ⟨(hS2.1).trans ((hbb2).mono (hS2.1).size), ((hbb2).cell (cell_lt hS2.2.1)).trans hS2.2.1, ((hbb2).cell (cell_lt hS2.2.2.1)).trans hS2.2.2.1, ((hbb2).cell (cell_lt hS2.2.2.2.1)).trans hS2.2.2.2.1, ((hbb2).cell (cell_lt hS2.2.2.2.2.1)).trans hS2.2.2.2.2.1, ((hbb2).cell (cell_lt hS2.2.2.2.2.2.1)).trans hS2.2.2.2.2.2.1, ((hbb2).cell (cell_lt hS2.2.2.2.2.2.2.1)).trans hS2.2.2.2.2.2.2.1, ((hbb2).cell (cell_lt hS2.2.2.2.2.2.2.2.1)).trans hS2.2.2.2.2.2.2.2.1, ((hbb2).cell (cell_lt hS2.2.2.2.2.2.2.2.2.1)).trans hS2.2.2.2.2.2.2.2.2.1, ((hbb2).cell (cell_lt hS2.2.2.2.2.2.2.2.2.2.1)).trans hS2.2.2.2.2.2.2.2.2.2.1, ((hbb2).cell (cell_lt hS2.2.2.2.2.2.2.2.2.2.2.1)).trans hS2.2.2.2.2.2.2.2.2.2.2.1, ((hbb2).cell (cell_lt hS2.2.2.2.2.2.2.2.2.2.2.2.1)).trans hS2.2.2.2.2.2.2.2.2.2.2.2.1, ((hbb2).cell (cell_lt hS2.2.2.2.2.2.2.2.2.2.2.2.2.1)).trans hS2.2.2.2.2.2.2.2.2.2.2.2.2.1, ((hbb2).cell (cell_lt hS2.2.2.2.2.2.2.2.2.2.2.2.2.2.1)).trans hS2.2.2.2.2.2.2.2.2.2.2.2.2.2.1, ((hbb2).cell (cell_lt hS2.2.2.2.2.2.2.2.2.2.2.2.2.2.2)).trans hS2.2.2.2.2.2.2.2.2.2.2.2.2.2.2⟩ (fun hS3 => ?_)
                clear hK
                refine wpAnyH_take (i := 60) (v := ?_) rfl (by kernel_rfl) (by kernel_rfl) (by kernel_rfl) (fun _ _ _ h => h) (Or.inl ⟨by rfl, ?_⟩) hS3 ?_
                rotate_left
                · intro wx hSx
                  try dsimp only at hSx
                  go_simp
                  try with_reducible rfl
                simp only [Act.put, List.getElem_toArray, List.getElem_cons_zero, List.getElem_cons_succ, List.setIfInBounds_toArray, List.set_cons_zero, List.set_cons_succ]
                refine wpAnyH_take (i := 61) (v := ?_) rfl (by kernel_rfl) (by kernel_rfl) (by kernel_rfl) (fun _ _ _ h => h) (Or.inl ⟨by rfl, ?_⟩) hS3 ?_
                rotate_left
                · intro wx hSx
                  try dsimp only at hSx
                  go_simp
                  try with_reducible rfl
                simp only [Act.put, List.getElem_toArray, List.getElem_cons_zero, List.getElem_cons_succ, List.setIfInBounds_toArray, List.set_cons_zero, List.set_cons_succ]
                refine wpAnyH_take (i := 62) (v := ?_) rfl (by kernel_rfl) (by kernel_rfl) (by kernel_rfl) (fun _ _ _ h => h) (Or.inl ⟨by rfl, ?_⟩) hS3 ?_
                rotate_left
                · intro wx hSx
                  try dsimp only at hSx
                  go_simp
                  try with_reducible rfl
                simp only [Act.put, List.getElem_toArray, List.getElem_cons_zero, List.getElem_cons_succ, List.setIfInBounds_toArray, List.set_cons_zero, List.set_cons_succ]
                as_aux_lemma =>
                  refine wpAnyH_take (i := 63) (v := ?_) rfl (by kernel_rfl) (by kernel_rfl) (by kernel_rfl) (fun _ _ _ h => h) (Or.inl ⟨by rfl, ?_⟩) hS3 ?_
                  rotate_left
                  · intro wx hSx
                    try dsimp only at hSx
                    go_simp
                    try with_reducible rfl
                  simp only [Act.put, List.getElem_toArray, List.getElem_cons_zero, List.getElem_cons_succ, List.setIfInBounds_toArray, List.set_cons_zero, List.set_cons_succ]
                  refine wpAnyH_take (i := 64) (v := ?_) rfl (by kernel_rfl) (by kernel_rfl) (by kernel_rfl) (fun _ _ _ h => h) (Or.inl ⟨by rfl, ?_⟩) hS3 ?_
                  rotate_left
                  · intro wx hSx
                    try dsimp only at hSx
                    go_simp
                    try with_reducible rfl
                  simp only [Act.put, List.getElem_toArray, List.getElem_cons_zero, List.getElem_cons_succ, List.setIfInBounds_toArray, List.set_cons_zero, List.set_cons_succ]
                  refine wpAnyH_take (i := 65) (v := ?_) rfl (by kernel_rfl) (by kernel_rfl) (by kernel_rfl) (fun _ _ _ h => h) (Or.inl ⟨by rfl, ?_⟩) hS3 ?_
                  rotate_left
                  · intro wx hSx
                    try dsimp only at hSx
                    go_simp
                    try with_reducible rfl
                  simp only [Act.put, List.getElem_toArray, List.getElem_cons_zero, List.getElem_cons_succ, List.setIfInBounds_toArray, List.set_cons_zero, List.set_cons_succ]
                  refine wpAnyH_take (i := 66) (v := ?_) rfl (by kernel_rfl) (by kernel_rfl) (by kernel_rfl) (fun _ _ _ h => h) (Or.inl ⟨by rfl, ?_⟩) hS3 ?_
                  rotate_left
                  · intro wx hSx
                    try dsimp only at hSx
                    go_simp
                    try with_reducible rfl
                  simp only [Act.put, List.getElem_toArray, List.getElem_cons_zero, List.getElem_cons_succ, List.setIfInBounds_toArray, List.set_cons_zero, List.set_cons_succ]
                  refine wpAnyH_take (i := 67) (v := ?_) rfl (by kernel_rfl) (by kernel_rfl) (by kernel_rfl) (fun _ _ _ h => h) (Or.inl ⟨by rfl, ?_⟩) hS3 ?_
                  rotate_left
                  · intro wx hSx
                    try dsimp only at hSx
                    go_simp
                    try with_reducible rfl
                  simp only [Act.put, List.getElem_toArray, List.getElem_cons_zero, List.getElem_cons_succ, List.setIfInBounds_toArray, List.set_cons_zero, List.set_cons_succ]
                  refine wpAnyH_take (i := 68) (v := ?_) rfl (by kernel_rfl) (by kernel_rfl) (by kernel_rfl) (fun _ _ _ h => h) (Or.inl ⟨by rfl, ?_⟩) hS3 ?_
                  rotate_left
                  · intro wx hSx
                    try dsimp only at hSx
                    go_simp
                    try with_reducible rfl
                  simp only [Act.put, List.getElem_toArray, List.getElem_cons_zero, List.getElem_cons_succ, List.setIfInBounds_toArray, List.set_cons_zero, List.set_cons_succ]
                  refine wpAnyH_take (i := 69) (v := ?_) rfl (by kernel_rfl) (by kernel_rfl) (by kernel_rfl) (fun _ _ _ h => h) (Or.inl ⟨by rfl, ?_⟩) hS3 ?_
                  rotate_left
                  · intro wx hSx
                    try dsimp only at hSx
                    go_simp
                    try with_reducible rfl
                  simp only [Act.put, List.getElem_toArray, List.getElem_cons_zero, List.getElem_cons_succ, List.setIfInBounds_toArray, List.set_cons_zero, List.set_cons_succ]
                  refine wpAnyH_take (i := 70) (v := ?_) rfl (by kernel_rfl) (by kernel_rfl) (by kernel_rfl) (fun _ _ _ h => h) (Or.inl ⟨by rfl, ?_⟩) hS3 ?_
                  rotate_left
                  · intro wx hSx
                    try dsimp only at hSx
                    go_simp
                    try with_reducible rfl
                  simp only [Act.put, List.getElem_toArray, List.getElem_cons_zero, List.getElem_cons_succ, List.setIfInBounds_toArray, List.set_cons_zero, List.set_cons_succ]
                  as_aux_lemma =>
                    refine wpAnyH_take (i := 71) (v := ?_) rfl (by kernel_rfl) (by kernel_rfl) (by kernel_rfl) (fun _ _ _ h => h) (Or.inl ⟨by rfl, ?_⟩) hS3 ?_
                    rotate_left
                    · intro wx hSx
                      try dsimp only at hSx
                      go_simp
                      try with_reducible rfl
                    simp only [Act.put, List.getElem_toArray, List.getElem_cons_zero, List.getElem_cons_succ, List.setIfInBounds_toArray, List.set_cons_zero, List.set_cons_succ]
                    refine wpAnyH_take (i := 72) (v := ?_) rfl (by kernel_rfl) (by kernel_rfl) (by kernel_rfl) (fun _ _ _ h => h) (Or.inl ⟨by rfl, ?_⟩) hS3 ?_
                    rotate_left
                    · intro wx hSx
                      try dsimp only at hSx
                      go_simp
                      try with_reducible rfl
                    simp only [Act.put, List.getElem_toArray, List.getElem_cons_zero, List.getElem_cons_succ, List.setIfInBounds_toArray, List.set_cons_zero, List.set_cons_succ]
                    refine wpAnyH_take (i := 73) (v := ?_) rfl (by kernel_rfl) (by kernel_rfl) (by kernel_rfl) (fun _ _ _ h => h) (Or.inl ⟨by rfl, ?_⟩) hS3 ?_
                    rotate_left
                    · intro wx hSx
                      try dsimp only at hSx
                      go_simp
                      try with_reducible rfl
                    simp only [Act.put, List.getElem_toArray, List.getElem_cons_zero, List.getElem_cons_succ, List.setIfInBounds_toArray, List.set_cons_zero, List.set_cons_succ]
                    refine wpAnyH_take (i := 74) (v := ?_) rfl (by kernel_rfl) (by kernel_rfl) (by kernel_rfl) (fun _ _ _ h => h) (Or.inl ⟨by rfl, ?_⟩) hS3 ?_
                    rotate_left
                    · intro wx hSx
                      try dsimp only at hSx
                      go_simp
                      try with_reducible rfl
                    simp only [Act.put, List.getElem_toArray, List.getElem_cons_zero, List.getElem_cons_succ, List.setIfInBounds_toArray, List.set_cons_zero, List.set_cons_succ]
                    refine wpAnyH_take (i := 75) (v := ?_) rfl (by kernel_rfl) (by kernel_rfl) (by kernel_rfl) (fun _ _ _ h => h) (Or.inl ⟨by rfl, ?_⟩) hS3 ?_
                    rotate_left
                    · intro wx hSx
                      try dsimp only at hSx
                      go_simp
                      try with_reducible rfl
                    simp only [Act.put, List.getElem_toArray, List.getElem_cons_zero, List.getElem_cons_succ, List.setIfInBounds_toArray, List.set_cons_zero, List.set_cons_succ]
                    refine wpAnyH_take (i := 76) (v := ?_) rfl (by kernel_rfl) (by kernel_rfl) (by kernel_rfl) (fun _ _ _ h => h) (Or.inl ⟨by rfl, ?_⟩) hS3 ?_
                    rotate_left
                    · intro wx hSx
                      try dsimp only at hSx
                      go_simp
                      try with_reducible rfl
                    simp only [Act.put, List.getElem_toArray, List.getElem_cons_zero, List.getElem_cons_succ, List.setIfInBounds_toArray, List.set_cons_zero, List.set_cons_succ]
                    refine wpAnyH_take (i := 77) (v := ?_) rfl (by kernel_rfl) (by kernel_rfl) (by kernel_rfl) (fun _ _ _ h => h) (Or.inl ⟨by rfl, ?_⟩) hS3 ?_
                    rotate_left
                    · intro wx hSx
                      try dsimp only at hSx
                      go_simp
                      try with_reducible rfl
                    simp only [Act.put, List.getElem_toArray, List.getElem_cons_zero, List.getElem_cons_succ, List.setIfInBounds_toArray, List.set_cons_zero, List.set_cons_succ]
                    refine wpAnyH_take (i := 78) (v := ?_) rfl (by kernel_rfl) (by kernel_rfl) (by kernel_rfl) (fun _ _ _ h => h) (Or.inl ⟨by rfl, ?_⟩) hS3 ?_
                    rotate_left
                    · intro wx hSx
                      try dsimp only at hSx
                      go_simp
                      try with_reducible rfl
                    simp only [Act.put, List.getElem_toArray, List.getElem_cons_zero, List.getElem_cons_succ, List.setIfInBounds_toArray, List.set_cons_zero, List.set_cons_succ]
                    as_aux_lemma =>
                      refine wpAnyH_take (i := 79) (v := ?_) rfl (by kernel_rfl) (by kernel_rfl) (by kernel_rfl) (fun _ _ _ h => h) (Or.inl ⟨by rfl, ?_⟩) hS3 ?_
                      rotate_left
                      · intro wx hSx
                        try dsimp only at hSx
                        go_simp
                        try with_reducible rfl
                      simp only [Act.put, List.getElem_toArray, List.getElem_cons_zero, List.getElem_cons_succ, List.setIfInBounds_toArray, List.set_cons_zero, List.set_cons_succ]
                      refine wpAnyH_take (i := 80) (v := ?_) rfl (by kernel_rfl) (by kernel_rfl) (by kernel_rfl) (fun _ _ _ h => h) (Or.inl ⟨by rfl, ?_⟩) hS3 ?_
                      rotate_left
                      · intro wx hSx
                        try dsimp only at hSx
                        go_simp
                        try with_reducible rfl
                      simp only [Act.put, List.getElem_toArray, List.getElem_cons_zero, List.getElem_cons_succ, List.setIfInBounds_toArray, List.set_cons_zero, List.set_cons_succ]
                      refine wpAnyH_take (i := 81) (v := ?_) rfl (by kernel_rfl) (by kernel_rfl) (by kernel_rfl) (fun _ _ _ h => h) (Or.inl ⟨by rfl, ?_⟩) hS3 ?_
                      rotate_left
                      · intro wx hSx
                        try dsimp only at hSx
                        go_simp
                        try with_reducible rfl
                      simp only [Act.put, List.getElem_toArray, List.getElem_cons_zero, List.getElem_cons_succ, List.setIfInBounds_toArray, List.set_cons_zero, List.set_cons_succ]
                      refine wpAnyH_take (i := 82) (v := ?_) rfl (by kernel_rfl) (by kernel_rfl) (by kernel_rfl) (fun _ _ _ h => h) (Or.inl ⟨by rfl, ?_⟩) hS3 ?_
                      rotate_left
                      · intro wx hSx
                        try dsimp only at hSx
                        go_simp
                        try with_reducible rfl
                      simp only [Act.put, List.getElem_toArray, List.getElem_cons_zero, List.getElem_cons_succ, List.setIfInBounds_toArray, List.set_cons_zero, List.set_cons_succ]
                      refine wpAnyH_take (i := 83) (v := ?_) rfl (by kernel_rfl) (by kernel_rfl) (by kernel_rfl) (fun _ _ _ h => h) (Or.inl ⟨by rfl, ?_⟩) hS3 ?_
                      rotate_left
                      · intro wx hSx
                        try dsimp only at hSx
                        go_simp
                        try with_reducible rfl
                      simp only [Act.put, List.getElem_toArray, List.getElem_cons_zero, List.getElem_cons_succ, List.setIfInBounds_toArray, List.set_cons_zero, List.set_cons_succ]
                      refine wpAnyH_take (i := 84) (v := ?_) rfl (by kernel_rfl) (by kernel_rfl) (by kernel_rfl) (fun _ _ _ h => h) (Or.inl ⟨by rfl, ?_⟩) hS3 ?_
                      rotate_left
                      · intro wx hSx
                        try dsimp only at hSx
                        go_simp
                        try with_reducible rfl
                      simp only [Act.put, List.getElem_toArray, List.getElem_cons_zero, List.getElem_cons_succ, List.setIfInBounds_toArray, List.set_cons_zero, List.set_cons_succ]
                      refine wpAnyH_take (i := 85) (v := ?_) rfl (by kernel_rfl) (by kernel_rfl) (by kernel_rfl) (fun _ _ _ h => h) (Or.inl ⟨by rfl, ?_⟩) hS3 ?_
                      rotate_left
                      · intro wx hSx
                        try dsimp only at hSx
                        go_simp
                        try with_reducible rfl
                      simp only [Act.put, List.getElem_toArray, List.getElem_cons_zero, List.getElem_cons_succ, List.setIfInBounds_toArray, List.set_cons_zero, List.set_cons_succ]
                      refine wpAnyH_take (i := 86) (v := ?_) rfl (by kernel_rfl) (by kernel_rfl) (by kernel_rfl) (fun _ _ _ h => h) (Or.inl ⟨by rfl, ?_⟩) hS3 ?_
                      rotate_left
                      · intro wx hSx
                        try dsimp only at hSx
                        go_simp
                        try with_reducible rfl
                      simp only [Act.put, List.getElem_toArray, List.getElem_cons_zero, List.getElem_cons_succ, List.setIfInBounds_toArray, List.set_cons_zero, List.set_cons_succ]
                      as_aux_lemma =>
                        refine wpAnyH_take (i := 87) (v := ?_) rfl (by kernel_rfl) (by kernel_rfl) (by kernel_rfl) (fun _ _ _ h => h) (Or.inl ⟨by rfl, ?_⟩) hS3 ?_
                        rotate_left
                        · intro wx hSx
                          try dsimp only at hSx
                          go_simp
                          try with_reducible rfl
                        simp only [Act.put, List.getElem_toArray, List.getElem_cons_zero, List.getElem_cons_succ, List.setIfInBounds_toArray, List.set_cons_zero, List.set_cons_succ]
                        refine wpAnyH_take (i := 88) (v := ?_) rfl (by kernel_rfl) (by kernel_rfl) (by kernel_rfl) (fun _ _ _ h => h) (Or.inl ⟨by rfl, ?_⟩) hS3 ?_
                        rotate_left
                        · intro wx hSx
                          try dsimp only at hSx
                          go_simp
                          try with_reducible rfl
                        simp only [Act.put, List.getElem_toArray, List.getElem_cons_zero, List.getElem_cons_succ, List.setIfInBounds_toArray, List.set_cons_zero, List.set_cons_succ]
                        refine wpAnyH_take (i := 89) (v := ?_) rfl (by kernel_rfl) (by kernel_rfl) (by kernel_rfl) (fun _ _ _ h => h) (Or.inl ⟨by rfl, ?_⟩) hS3 ?_
                        rotate_left
                        · intro wx hSx
                          try dsimp only at hSx
                          go_simp
                          try with_reducible rfl
                        simp only [Act.put, List.getElem_toArray, List.getElem_cons_zero, List.getElem_cons_succ, List.setIfInBounds_toArray, List.set_cons_zero, List.set_cons_succ]
                        refine wpAnyH_take (i := 90) (v := ?_) rfl (by kernel_rfl) (by kernel_rfl) (by kernel_rfl) (fun _ _ _ h => h) (Or.inl ⟨by rfl, ?_⟩) hS3 ?_
                        rotate_left
                        · intro wx hSx
                          try dsimp only at hSx
                          go_simp
                          try with_reducible rfl
                        simp only [Act.put, List.getElem_toArray, List.getElem_cons_zero, List.getElem_cons_succ, List.setIfInBounds_toArray, List.set_cons_zero, List.set_cons_succ]
                        refine wpAnyH_take (i := 91) (v := ?_) rfl (by kernel_rfl) (by kernel_rfl) (by kernel_rfl) (fun _ _ _ h => h) (Or.inl ⟨by rfl, ?_⟩) hS3 ?_
                        rotate_left
                        · intro wx hSx
                          try dsimp only at hSx
                          go_simp
                          try with_reducible rfl
                        simp only [Act.put, List.getElem_toArray, List.getElem_cons_zero, List.getElem_cons_succ, List.setIfInBounds_toArray, List.set_cons_zero, List.set_cons_succ]
                        refine wpAnyH_take (i := 92) (v := ?_) rfl (by kernel_rfl) (by kernel_rfl) (by kernel_rfl) (fun _ _ _ h => h) (Or.inl ⟨by rfl, ?_⟩) hS3 ?_
                        rotate_left
                        · intro wx hSx
                          try dsimp only at hSx
                          go_simp
                          try with_reducible rfl
                        simp only [Act.put, List.getElem_toArray, List.getElem_cons_zero, List.getElem_cons_succ, List.setIfInBounds_toArray, List.set_cons_zero, List.set_cons_succ]
                        refine wpAnyH_ready (rs := [93]) (by kernel_rfl) (by simp) ?_
                        refine AllReadyH.cons rfl (fun K hK => ?_) AllReadyH.nil
                        simp only [List.getElem_toArray, List.getElem_cons_zero, List.getElem_cons_succ]
                        go_simp
                        refine (cmp_hi _).mono ?_
                        rintro e w15 ⟨rfl, hbb3⟩
                        refine hK.out _ _ ⟨(hS3.1).trans ((hbb3).mono (hS3.1).size), ((hbb3).cell (cell_lt hS3.2.1)).trans hS3.2.1, ((hbb3).cell (cell_lt hS3.2.2.1)).trans hS3.2.2.1, ((hbb3).cell (cell_lt hS3.2.2.2.1)).trans hS3.2.2.2.1, ((hbb3).cell (cell_lt hS3.2.2.2.2.1)).trans hS3.2.2.2.2.1, ((hbb3).cell (cell_lt hS3.2.2.2.2.2.1)).trans hS3.2.2.2.2.2.1, ((hbb3).cell (cell_lt hS3.2.2.2.2.2.2.1)).trans hS3.2.2.2.2.2.2.1, ((hbb3).cell (cell_lt hS3.2.2.2.2.2.2.2.1)).trans hS3.2.2.2.2.2.2.2.1, ((hbb3).cell (cell_lt hS3.2.2.2.2.2.2.2.2.1)).trans hS3.2.2.2.2.2.2.2.2.1, ((hbb3).cell (cell_lt hS3.2.2.2.2.2.2.2.2.2.1)).trans hS3.2.2.2.2.2.2.2.2.2.1, ((hbb3).cell (cell_lt hS3.2.2.2.2.2.2.2.2.2.2.1)).trans hS3.2.2.2.2.2.2.2.2.2.2.1, ((hbb3).cell (cell_lt hS3.2.2.2.2.2.2.2.2.2.2.2.1)).trans hS3.2.2.2.2.2.2.2.2.2.2.2.1, ((hbb3).cell (cell_lt hS3.2.2.2.2.2.2.2.2.2.2.2.2.1)).trans hS3.2.2.2.2.2.2.2.2.2.2.2.2.1, ((hbb3).cell (cell_lt hS3.2.2.2.2.2.2.2.2.2.2.2.2.2.1)).trans hS3.2.2.2.2.2.2.2.2.2.2.2.2.2.1, ((hbb3).cell (cell_lt hS3.2.2.2.2.2.2.2.2.2.2.2.2.2.2)).trans hS3.2.2.2.2.2.2.2.2.2.2.2.2.2.2⟩ (fun hS4 => ?_)
                        clear hK
                        refine wpAnyH_take (i := 94) (v := ?_) rfl (by kernel_rfl) (by kernel_rfl) (by kernel_rfl) (fun _ _ _ h => h) (Or.inl ⟨by rfl, ?_⟩) hS4 ?_
                        rotate_left
                        · intro wx hSx
                          try dsimp only at hSx
                          go_simp
                          try with_reducible rfl
                        simp only [Act.put, List.getElem_toArray, List.getElem_cons_zero, List.getElem_cons_succ, List.setIfInBounds_toArray, List.set_cons_zero, List.set_cons_succ]
                        as_aux_lemma =>
                          refine wpAnyH_take (i := 95) (v := ?_) rfl (by kernel_rfl) (by kernel_rfl) (by kernel_rfl) (fun _ _ _ h => h) (Or.inl ⟨by rfl, ?_⟩) hS4 ?_
                          rotate_left
                          · intro wx hSx
                            try dsimp only at hSx
                            go_simp
                            try with_reducible rfl
                          simp only [Act.put, List.getElem_toArray, List.getElem_cons_zero, List.getElem_cons_succ, List.setIfInBounds_toArray, List.set_cons_zero, List.set_cons_succ]
                          refine wpAnyH_take (i := 96) (v := ?_) rfl (by kernel_rfl) (by kernel_rfl) (by kernel_rfl) (fun _ _ _ h => h) (Or.inl ⟨by rfl, ?_⟩) hS4 ?_
                          rotate_left
                          · intro wx hSx
                            try dsimp only at hSx
                            go_simp
                            try with_reducible rfl
                          simp only [Act.put, List.getElem_toArray, List.getElem_cons_zero, List.getElem_cons_succ, List.setIfInBounds_toArray, List.set_cons_zero]
                          refine wpAnyH_done (by kernel_rfl) ?_ _
                          refine NoPanic.normal ?_
                          have hbf := (HBF.out).trans ((hS4.1).mono HBF.out.size)
                          go_wp2_with fail
                          go_ret
                          exact ⟨rfl, hbf⟩
end SgM
end Go.Proofs.YtefknfbmphdafaaGreat
