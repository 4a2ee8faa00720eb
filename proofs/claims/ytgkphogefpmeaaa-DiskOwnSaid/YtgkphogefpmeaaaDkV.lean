/- alive: its states, closed; and its walk. -/
import Derived.Test.YtgkphogefpmeaaaDkL
namespace Go.Proofs.Ytgkphogefpmeaaa
open Go.RowKit Go.Maps DkM

abbrev sA : ByteArray := ⟨#[97]⟩
abbrev sB : ByteArray := ⟨#[98]⟩
abbrev sAB : ByteArray := ⟨#[97, 98]⟩
abbrev sCD : ByteArray := ⟨#[99, 100]⟩
abbrev sLong : ByteArray := ⟨#[48, 49, 50, 51, 52, 53, 54, 55, 56, 57, 48, 49, 50, 51, 52, 53, 54, 55, 56]⟩
def A0 : Dk := newS 20
def A1 : Dk := (doC A0 sA).1
def A2 : Dk := (doA A1 sA sAB).1
def A3 : Dk := (doS A2 sA).1
def A4 : Dk := (doA A3 sA sCD).1
def A5 : Dk := { A4 with fuse := 0 }
def A6 : Dk := { A5 with down := true }
def A7 : Dk := doCr A6 [1]
def A8 : Dk := { A7 with reads := 1 }
def A9 : Dk := (doR A8 sA sB).1
theorem a1 : doC A0 sA = (A1, 0) := by kernel_rfl
theorem a2 : doA A1 sA sAB = (A2, 0) := by kernel_rfl
theorem a3 : doS A2 sA = (A3, 0) := by kernel_rfl
theorem a4 : doA A3 sA sCD = (A4, 0) := by kernel_rfl
theorem a5 : doA A4 sA sLong = (A4, 52) := by kernel_rfl
theorem a6 : doS A5 sA = (A6, 50) := by kernel_rfl
theorem a7 : rdS A6 sA 0 = (nul, 50) := by kernel_rfl
theorem a8 : rdS A7 sA 1 = (⟨#[98, 99]⟩, 0) := by kernel_rfl
theorem a9 : doR A8 sA sB = (A9, 0) := by kernel_rfl
theorem a10 : doD A9 sA = (A9, 51) := by kernel_rfl
theorem a11 : (doD A9 sB).2 = 0 := by kernel_rfl
theorem a12 : lkF A8.L sA = some ⟨sA, ⟨#[97, 98, 99]⟩, nul⟩ := by kernel_rfl
theorem a13 : lkF A6.L sA = some ⟨sA, sAB, sCD⟩ := by kernel_rfl
theorem a14 : A8.L.length = 1 := by kernel_rfl
theorem bd0 : Bd A0 := ⟨by decide +kernel, by decide +kernel, by decide +kernel, by decide +kernel, by decide +kernel, by decide +kernel, by decide +kernel, by decide +kernel, by decide +kernel, by decide +kernel, by decide +kernel, by unfold Rise; decide +kernel⟩
theorem bd1 : Bd A1 := ⟨by decide +kernel, by decide +kernel, by decide +kernel, by decide +kernel, by decide +kernel, by decide +kernel, by decide +kernel, by decide +kernel, by decide +kernel, by decide +kernel, by decide +kernel, by unfold Rise; decide +kernel⟩
theorem bd2 : Bd A2 := ⟨by decide +kernel, by decide +kernel, by decide +kernel, by decide +kernel, by decide +kernel, by decide +kernel, by decide +kernel, by decide +kernel, by decide +kernel, by decide +kernel, by decide +kernel, by unfold Rise; decide +kernel⟩
theorem bd3 : Bd A3 := ⟨by decide +kernel, by decide +kernel, by decide +kernel, by decide +kernel, by decide +kernel, by decide +kernel, by decide +kernel, by decide +kernel, by decide +kernel, by decide +kernel, by decide +kernel, by unfold Rise; decide +kernel⟩
theorem bd4 : Bd A4 := ⟨by decide +kernel, by decide +kernel, by decide +kernel, by decide +kernel, by decide +kernel, by decide +kernel, by decide +kernel, by decide +kernel, by decide +kernel, by decide +kernel, by decide +kernel, by unfold Rise; decide +kernel⟩
theorem bd5 : Bd A5 := ⟨by decide +kernel, by decide +kernel, by decide +kernel, by decide +kernel, by decide +kernel, by decide +kernel, by decide +kernel, by decide +kernel, by decide +kernel, by decide +kernel, by decide +kernel, by unfold Rise; decide +kernel⟩
theorem bd6 : Bd A6 := ⟨by decide +kernel, by decide +kernel, by decide +kernel, by decide +kernel, by decide +kernel, by decide +kernel, by decide +kernel, by decide +kernel, by decide +kernel, by decide +kernel, by decide +kernel, by unfold Rise; decide +kernel⟩
theorem bd7 : Bd A7 := ⟨by decide +kernel, by decide +kernel, by decide +kernel, by decide +kernel, by decide +kernel, by decide +kernel, by decide +kernel, by decide +kernel, by decide +kernel, by decide +kernel, by decide +kernel, by unfold Rise; decide +kernel⟩
theorem bd8 : Bd A8 := ⟨by decide +kernel, by decide +kernel, by decide +kernel, by decide +kernel, by decide +kernel, by decide +kernel, by decide +kernel, by decide +kernel, by decide +kernel, by decide +kernel, by decide +kernel, by unfold Rise; decide +kernel⟩
theorem bd9 : Bd A9 := ⟨by decide +kernel, by decide +kernel, by decide +kernel, by decide +kernel, by decide +kernel, by decide +kernel, by decide +kernel, by decide +kernel, by decide +kernel, by decide +kernel, by decide +kernel, by unfold Rise; decide +kernel⟩

theorem bd6n : ∀ f ∈ A6.L, f.n.size ≤ 20 := by decide +kernel
theorem names_le {L : List Fl} (h : ∀ f ∈ L, f.n.size ≤ 20) : ∀ f ∈ L, f.n.size ≤ maxLen := fun f hf => by have := h f hf; unfold maxLen; omega
theorem op_at {R : Dk × Nat} {A : Dk} {c : Nat} {p b : Nat} {w w' : World} {e : Ending} (h : R = (A, c)) (hp : OpPost R p b w e w') : e = .returned (.int .i64 (c : Nat)) ∧ DiskAt w' p b A ∧ Kp p b w w' := by subst h; exact hp
theorem read_no {S : Dk} {n : ByteArray} {a : Int} {B : ByteArray} {c : Nat} {p b : Nat} {w w' : World} {e : Ending} (h : rdS S n a = (B, c)) (hc : c ≠ 0) (hp : ReadPost S n a p b w e w') : e = .returned (.tuple #[.string B, .int .i64 (c : Nat)]) ∧ DiskAt w' p b S ∧ Kp p b w w' := by
  obtain ⟨h1, h2, h3⟩ := hp
  unfold doRd at h2
  rw [h] at h1 h2
  rw [if_neg hc] at h2
  exact ⟨h1, h2, h3⟩
theorem read_yes {S : Dk} {n : ByteArray} {a : Int} {B : ByteArray} {p b : Nat} {w w' : World} {e : Ending} (h : rdS S n a = (B, 0)) (hp : ReadPost S n a p b w e w') : e = .returned (.tuple #[.string B, .int .i64 0]) ∧ DiskAt w' p b { S with reads := S.reads + 1 } ∧ Kp p b w w' := by
  obtain ⟨h1, h2, h3⟩ := hp
  unfold doRd at h2
  rw [h] at h1 h2
  exact ⟨h1, h2, h3⟩
theorem ints_one (w : World) (x : Int) (T : TypeId) : IntsAt (w.alloc (.cells #[.int .i64 x] T)) w.heap.size [x] (.slice (some ⟨w.heap.size, 0, none⟩) 1 1) := by
  refine ⟨_, _, rfl, by simp, fun _ => ⟨0, rfl, fun k hk => ?_⟩⟩
  obtain rfl : k = 0 := by simp at hk; exact hk
  simp
section
variable {w : World} {p b : Nat} {S : Dk}
theorem size_at (h : DiskAt w p b S) {n : ByteArray} {f : Fl} (hf : lkF S.L n = some f) (hn : n.size ≤ maxLen) : Calls Try.prog 22 #[ptr p, .string n] w fun e w' => e = .returned (.tuple #[.int .i64 ((f.s ++ f.l).size : Nat), .bool true]) ∧ Below w.heap.size w w' := by
  have := size_any h hn
  rw [hf] at this
  exact this
theorem loose_at (h : DiskAt w p b S) {n : ByteArray} {f : Fl} (hf : lkF S.L n = some f) (hn : n.size ≤ maxLen) (h1 : (f.s ++ f.l).size ≤ 9223372036854775807) (h2 : f.s.size ≤ (f.s ++ f.l).size) : Calls Try.prog 26 #[ptr p, .string n] w fun e w' => e = .returned (.int .i64 (((f.s ++ f.l).size : Nat) - (f.s.size : Nat))) ∧ Below w.heap.size w w' := by
  have := loose_any h hn
  rw [hf] at this
  exact this h1 h2
end

set_option maxRecDepth 100000 in
set_option maxHeartbeats 4000000 in
theorem alive_any (w : World) : Calls Try.prog 12 #[] w fun e w' => e = .returned (.bool true) ∧ Below w.heap.size w w' := by
  have AL := Lib.hid (new_any 20 w)
  go_enter Try.func12, Try.ntmps12
  go_wp2_with fail
  refine AL.out.mono ?_
  rintro e w1 ⟨rfl, D1, hb1⟩
  obtain ⟨p, hp⟩ : ∃ p, p = w.heap.size + 1 := ⟨_, rfl⟩
  obtain ⟨b, hbb⟩ : ∃ b, b = w.heap.size := ⟨_, rfl⟩
  rw [← hp, ← hbb] at D1
  rw [← hp]
  have hp0 : w.heap.size ≤ p := by omega
  have hb0 : w.heap.size ≤ b := by omega
  clear hp hbb AL
  have H1 : Hid (DiskAt w1 p b A0) := Lib.hid D1
  clear D1
  go_wp2_with fail
  refine (create_any H1.out bd0 (n := sA) (by unfold maxLen; decide)).mono ?_
  rintro e w2 h2
  obtain ⟨rfl, D2, K2⟩ := op_at a1 h2
  have H2 : Hid (DiskAt w2 p b A1) := Lib.hid D2
  have hb2 : Below w.heap.size w w2 := hb1.trans (K2.below hp0 hb0 hb1.size)
  clear h2 D2 hb1 K2
  clear H1
  go_wp2_with fail
  refine (append_any H2.out bd1 (n := sA) (t := sAB) (by unfold maxLen; decide) (by decide)).mono ?_
  rintro e w3 h3
  obtain ⟨rfl, D3, K3⟩ := op_at a2 h3
  have H3 : Hid (DiskAt w3 p b A2) := Lib.hid D3
  have hb3 : Below w.heap.size w w3 := hb2.trans (K3.below hp0 hb0 hb2.size)
  clear h3 D3 hb2 K3
  clear H2
  go_wp2_with fail
  refine (sync_any H3.out bd2 (n := sA) (by unfold maxLen; decide)).mono ?_
  rintro e w4 h4
  obtain ⟨rfl, D4, K4⟩ := op_at a3 h4
  have H4 : Hid (DiskAt w4 p b A3) := Lib.hid D4
  have hb4 : Below w.heap.size w w4 := hb3.trans (K4.below hp0 hb0 hb3.size)
  clear h4 D4 hb3 K4
  clear H3
  go_wp2_with fail
  refine (append_any H4.out bd3 (n := sA) (t := sCD) (by unfold maxLen; decide) (by decide)).mono ?_
  rintro e w5 h5
  obtain ⟨rfl, D5, K5⟩ := op_at a4 h5
  have H5 : Hid (DiskAt w5 p b A4) := Lib.hid D5
  have hb5 : Below w.heap.size w w5 := hb4.trans (K5.below hp0 hb0 hb4.size)
  clear h5 D5 hb4 K5
  clear H4
  go_wp2_with fail
  refine (append_any H5.out bd4 (n := sA) (t := sLong) (by unfold maxLen; decide) (by decide)).mono ?_
  rintro e w6 h6
  obtain ⟨rfl, D6, K6⟩ := op_at a5 h6
  have H6 : Hid (DiskAt w6 p b A4) := Lib.hid D6
  have hb6 : Below w.heap.size w w6 := hb5.trans (K6.below hp0 hb0 hb5.size)
  clear h6 D6 hb5 K6
  clear H5
  go_wp2_with fail
  refine (setFuse_any H6.out 0).mono ?_
  rintro e w7 ⟨rfl, D7, K7⟩
  have H7 : Hid (DiskAt w7 p b A5) := Lib.hid D7
  have hb7 : Below w.heap.size w w7 := hb6.trans (K7.below hp0 hb0 hb6.size)
  clear D7 hb6 K7 H6
  go_wp2_with fail
  refine (sync_any H7.out bd5 (n := sA) (by unfold maxLen; decide)).mono ?_
  rintro e w8 h8
  obtain ⟨rfl, D8, K8⟩ := op_at a6 h8
  have H8 : Hid (DiskAt w8 p b A6) := Lib.hid D8
  have hb8 : Below w.heap.size w w8 := hb7.trans (K8.below hp0 hb0 hb7.size)
  clear h8 D8 hb7 K8
  clear H7
  go_wp2_with fail
  refine (read_any H8.out bd6 (n := sA) (by unfold maxLen; decide) 0 (by decide) (by decide)).mono ?_
  rintro e w9 h9
  obtain ⟨rfl, D9, K9⟩ := read_no a7 (by decide) h9
  have H9 : Hid (DiskAt w9 p b A6) := Lib.hid D9
  have hb9 : Below w.heap.size w w9 := hb8.trans (K9.below hp0 hb0 hb8.size)
  clear h9 D9 hb8 K9 H8
  go_wp2_with fail
  refine (copy_any H9.out).mono ?_
  rintro e w10 ⟨rfl, X10, D10, c10⟩
  obtain ⟨q, hq⟩ : ∃ q, q = w9.heap.size := ⟨_, rfl⟩
  have hpq : p < q := by have := H9.out.blk.lt; omega
  have hbq : b < q := by have := H9.out.own.lt; omega
  rw [← hq] at X10
  rw [← hq]
  have hq0 : w.heap.size ≤ q := by have := hb9.size; omega
  have H10 : Hid (DiskAt w10 p b A6) := Lib.hid D10
  have G10 : Hid (DiskAt w10 q (q + 1) A6) := Lib.hid X10
  have hb10 : Below w.heap.size w w10 := hb9.trans (c10.mono hb9.size)
  clear X10 D10 hb9 c10 H9 hq
  have hql : q < w10.heap.size := G10.out.blk.lt
  have hql2 : q + 1 < w10.heap.size := G10.out.own.lt
  go_wp2_with fail
  obtain ⟨V, hV⟩ : ∃ V, V = w10.alloc (.cells #[.int .i64 1] 3) := ⟨_, rfl⟩
  rw [← hV]
  have DV : DiskAt V p b A6 := by rw [hV]; exact H10.out.alloc _
  have GV : DiskAt V q (q + 1) A6 := by rw [hV]; exact G10.out.alloc _
  have IV : IntsAt V w10.heap.size [1] (.slice (some ⟨w10.heap.size, 0, none⟩) 1 1) := by rw [hV]; exact ints_one _ _ _
  have hVb : Below w.heap.size w V := by rw [hV]; exact hb10.alloc hb10.size _
  refine (crash_any DV bd6 (names_le bd6n) IV (fun _ => ⟨by rw [hV]; simp, by omega, by omega⟩) (by intro x hx; simp at hx; omega)).mono ?_
  rintro e w11 ⟨rfl, D11, K11⟩
  have GW : DiskAt w11 q (q + 1) A6 := GV.kp K11 (by omega) (by omega) (by omega) (by omega)
  have H11 : Hid (DiskAt w11 p b A7) := Lib.hid D11
  have G11 : Hid (DiskAt w11 q (q + 1) A6) := Lib.hid GW
  have hb11 : Below w.heap.size w w11 := hVb.trans (K11.below hp0 hb0 hVb.size)
  clear DV GV IV hVb hV D11 GW K11 hb10 H10 G10 hql hql2
  go_wp2_with fail
  refine (read_any H11.out bd7 (n := sA) (by unfold maxLen; decide) 1 (by decide) (by decide)).mono ?_
  rintro e w12 h12
  obtain ⟨rfl, D12, K12⟩ := read_yes a8 h12
  have H12 : Hid (DiskAt w12 p b A8) := Lib.hid D12
  have G12 : Hid (DiskAt w12 q (q + 1) A6) := Lib.hid (G11.out.kp K12 (by omega) (by omega) (by omega) (by omega))
  have hb12 : Below w.heap.size w w12 := hb11.trans (K12.below hp0 hb0 hb11.size)
  clear h12 D12 hb11 K12 H11 G11
  go_wp2_with fail
  refine (size_at H12.out a12 (by unfold maxLen; decide)).mono ?_
  rintro e w13 ⟨rfl, c13⟩
  have H13 : Hid (DiskAt w13 p b A8) := Lib.hid (H12.out.belowS c13)
  have G13 : Hid (DiskAt w13 q (q + 1) A6) := Lib.hid (G12.out.belowS c13)
  have hb13 : Below w.heap.size w w13 := hb12.trans (c13.mono hb12.size)
  clear hb12 c13 H12 G12
  go_wp2_with fail
  refine (down_any G13.out).mono ?_
  rintro e wz ⟨rfl, rfl⟩
  go_wp2_with fail
  refine (loose_at G13.out a13 (by unfold maxLen; decide) (by decide) (by decide)).mono ?_
  rintro e w14 ⟨rfl, c14⟩
  have H14 : Hid (DiskAt w14 p b A8) := Lib.hid (H13.out.belowS c14)
  have G14 : Hid (DiskAt w14 q (q + 1) A6) := Lib.hid (G13.out.belowS c14)
  have hb14 : Below w.heap.size w w14 := hb13.trans (c14.mono hb13.size)
  clear hb13 c14 H13 G13
  go_wp2_with fail
  refine (used_any H14.out).mono ?_
  rintro e wz ⟨rfl, rfl⟩
  go_wp2_with fail
  refine (ops_any H14.out).mono ?_
  rintro e wz ⟨rfl, rfl⟩
  go_wp2_with fail
  refine (reads_any H14.out).mono ?_
  rintro e wz ⟨rfl, rfl⟩
  go_wp2_with fail
  refine (limit_any H14.out).mono ?_
  rintro e wz ⟨rfl, rfl⟩
  go_wp2_with fail
  refine (files_any H14.out bd8).mono ?_
  rintro e w15 ⟨v, rfl, ⟨NA, nc, rfl, -⟩, c15⟩
  rw [a14]
  have H15 : Hid (DiskAt w15 p b A8) := Lib.hid (H14.out.belowS c15)
  have hb15 : Below w.heap.size w w15 := hb14.trans (c15.mono hb14.size)
  clear hb14 c15 H14 G14
  go_wp2_with fail
  refine (right_any sA w15 (by decide)).mono ?_
  rintro e wz ⟨rfl, rfl⟩
  have rgA : Rgt sA = true := by kernel_rfl
  rw [rgA]
  clear rgA
  go_wp2_with fail
  refine (rename_any H15.out bd8 (a := sA) (c := sB) (by unfold maxLen; decide) (by unfold maxLen; decide)).mono ?_
  rintro e w16 h16
  obtain ⟨rfl, D16, K16⟩ := op_at a9 h16
  have H16 : Hid (DiskAt w16 p b A9) := Lib.hid D16
  have hb16 : Below w.heap.size w w16 := hb15.trans (K16.below hp0 hb0 hb15.size)
  clear h16 D16 hb15 K16
  clear H15
  go_wp2_with fail
  refine (delete_any H16.out bd9 (n := sA) (by unfold maxLen; decide)).mono ?_
  rintro e w17 h17
  obtain ⟨rfl, D17, K17⟩ := op_at a10 h17
  have H17 : Hid (DiskAt w17 p b A9) := Lib.hid D17
  have hb17 : Below w.heap.size w w17 := hb16.trans (K17.below hp0 hb0 hb16.size)
  clear h17 D17 hb16 K17
  clear H16
  go_wp2_with fail
  refine (delete_any H17.out bd9 (n := sB) (by unfold maxLen; decide)).mono ?_
  rintro e w18 ⟨h18, D18, K18⟩
  rw [a11] at h18
  subst h18
  have hb18 : Below w.heap.size w w18 := hb17.trans (K18.below hp0 hb0 hb17.size)
  clear D18 hb17 K18 H17
  go_wp2_with fail
  go_ret
  exact ⟨rfl, hb18⟩
end Go.Proofs.Ytgkphogefpmeaaa
