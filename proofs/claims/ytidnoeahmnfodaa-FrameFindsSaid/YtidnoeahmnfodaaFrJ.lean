/- alive: a frame, and half of one. -/
import Derived.Test.YtidnoeahmnfodaaFrI
namespace Go.Proofs.Ytidnoeahmnfodaa
open Go.RowKit CrcM FrM

def S16 : List UInt8 := [254, 97, 48, 48, 48, 50, 104, 105, 97, 49, 57, 55, 101, 102, 54, 48]
theorem s16_is : pkS 97 [104, 105] = S16 := by decide +kernel
theorem s16_e : pkE 97 [104, 105] = 0 := by decide +kernel
theorem kind0_e : pkE 0 [104, 105] = 40 := by decide +kernel
def S17 : List UInt8 := S16 ++ [120]
def S9 : List UInt8 := S16.take 9
def S25 : List UInt8 := S16 ++ S9
def S18 : List UInt8 := 120 :: 120 :: S16
theorem s17_e : nxE S17 = 0 ∧ nxK S17 = 97 ∧ nxN S17 = 16 ∧ nxB S17 = [104, 105] := by decide +kernel
theorem s9_e : nxE S9 = 43 := by decide +kernel
theorem s25_e : nxE S25 = 0 ∧ nxN S25 = 16 ∧ nxE (S25.drop 16) ≠ 0 := by decide +kernel
theorem s18_e : ∀ k, k < 18 → (nxE (S18.drop k) = 0 ↔ k = 2) := by decide +kernel
def b2 : ByteArray := ⟨#[104, 105]⟩
def B16 : ByteArray := ⟨#[254, 97, 48, 48, 48, 50, 104, 105, 97, 49, 57, 55, 101, 102, 54, 48]⟩
def B17 : ByteArray := ⟨#[254, 97, 48, 48, 48, 50, 104, 105, 97, 49, 57, 55, 101, 102, 54, 48, 120]⟩
def B9 : ByteArray := ⟨#[254, 97, 48, 48, 48, 50, 104, 105, 97]⟩
def B25 : ByteArray := ⟨#[254, 97, 48, 48, 48, 50, 104, 105, 97, 49, 57, 55, 101, 102, 54, 48, 254, 97, 48, 48, 48, 50, 104, 105, 97]⟩
def B18 : ByteArray := ⟨#[120, 120, 254, 97, 48, 48, 48, 50, 104, 105, 97, 49, 57, 55, 101, 102, 54, 48]⟩
theorem b16_is : pkSb 97 b2 = B16 := ba_ext (by rw [pkSb, bytesOf_list]; exact s16_is)
theorem b17_add : B16 ++ ⟨#[120]⟩ = B17 := ba_ext (by rw [append_list]; rfl)
theorem b18_add : ⟨#[120, 120]⟩ ++ B16 = B18 := ba_ext (by rw [append_list]; rfl)
theorem b9_cut : B16.extract 0 9 = B9 := ba_ext (by rw [extract_list]; rfl)
theorem b25_add : B16 ++ B9 = B25 := ba_ext (by rw [append_list]; rfl)
theorem errAt_list (s : ByteArray) (a : Nat) : errAt s a = nxE (s.data.toList.drop a) := by unfold errAt; rw [extract_rest]
theorem lenAt_list (s : ByteArray) (a : Nat) : lenAt s a = nxN (s.data.toList.drop a) := by unfold lenAt; rw [extract_rest]
theorem scan25 {k A : Nat} {l : List Fr} (h : StepTo B25 k A l) (hs : errAt B25 A ≠ 0) : A = 16 ∧ l.length = 1 := by
  have e0 : errAt B25 0 = 0 := by rw [errAt_list]; exact s25_e.1
  have n0 : lenAt B25 0 = 16 := by rw [lenAt_list]; exact s25_e.2.1
  have h1 := (StepTo.zero B25).next e0
  rw [Nat.zero_add, n0] at h1
  obtain ⟨rfl, rfl⟩ := h.unique hs h1 (by rw [errAt_list]; exact s25_e.2.2)
  exact ⟨rfl, rfl⟩
theorem fnd18 : (fnd B18 18).length = 1 := by
  have e : ∀ k, k < 18 → (errAt B18 k = 0 ↔ k = 2) := by intro k hk; rw [errAt_list]; exact s18_e k hk
  have gen : ∀ k, k ≤ 18 → (fnd B18 k).length = if k ≤ 2 then 0 else 1 := by
    intro k
    induction k with
    | zero => intro _; rfl
    | succ k ih =>
      intro hk
      have h1 := ih (by omega)
      have h2 := e k (by omega)
      unfold fnd
      by_cases h : k = 2
      · rw [if_pos (h2.2 h), List.length_append, h1, if_pos (by omega), if_neg (by omega)]; rfl
      · rw [if_neg (fun hh => h (h2.1 hh)), h1]
        split <;> split <;> first | rfl | omega
  have := gen 18 (Nat.le_refl _)
  rw [if_neg (by omega)] at this
  exact this
theorem nxBb17 : nxBb B17 = b2 := by
  apply ba_ext
  rw [nxBb_list]
  exact s17_e.2.2.2

set_option maxRecDepth 100000 in
set_option maxHeartbeats 1000000 in
theorem alive_any (w : World) : Calls Try.prog 11 #[] w fun e w' => e = .returned (.bool true) ∧ Below w.heap.size w w' := by
  have P1 := fun W => pack_any 97 b2 W (by decide)
  unfold PackPost frV at P1
  rw [b16_is, show pkE 97 b2.data.toList = 0 from s16_e, show ((97 : UInt8).toNat : Int) = 97 from rfl] at P1
  have P2 := fun W => pack_any 0 b2 W (by decide)
  unfold PackPost frV at P2
  rw [show pkE 0 b2.data.toList = 40 from kind0_e, show ((0 : UInt8).toNat : Int) = 0 from rfl] at P2
  generalize pkSb 0 b2 = Z at P2
  have N1 := fun W => next_any B17 W (by decide)
  unfold NextPost frV at N1
  rw [nxBb17, show nxK B17.data.toList = 97 from s17_e.2.1, show nxN B17.data.toList = 16 from s17_e.2.2.1, show nxE B17.data.toList = 0 from s17_e.1, show ((97 : UInt8).toNat : Int) = 97 from rfl] at N1
  have N2 := fun W => next_any B9 W (by decide)
  unfold NextPost frV at N2
  rw [show nxE B9.data.toList = 43 from s9_e] at N2
  generalize nxK B9.data.toList = K9 at N2
  generalize nxBb B9 = Q9 at N2
  generalize nxN B9.data.toList = M9 at N2
  have S1 : ∀ W, Calls Try.prog 16 #[.string B25] W fun e w' => ∃ v xs, e = .returned (.tuple #[v, .int .i64 16]) ∧ w'.ownsRow W.heap.size 28 2 v 1 xs ∧ Below W.heap.size W w' := by
    intro W
    refine (scan_any B25 W (by decide)).mono ?_
    rintro e w' ⟨v, k, A, l, h1, h2, rfl, h3, h4⟩
    obtain ⟨rfl, hl⟩ := scan25 h1 h2
    rw [hl] at h3
    exact ⟨v, _, rfl, h3, h4⟩
  have F1 : ∀ W, Calls Try.prog 20 #[.string B18] W fun e w' => ∃ v xs, e = .returned v ∧ w'.ownsRow W.heap.size 28 2 v 1 xs ∧ Below W.heap.size W w' := by
    intro W
    refine (find_any B18 W (by decide)).mono ?_
    rintro e w' ⟨v, rfl, h3, h4⟩
    have hl : (fnd B18 B18.size).length = 1 := fnd18
    rw [hl] at h3
    exact ⟨v, _, rfl, h3, h4⟩
  unfold b2 at N1
  replace P1 := Lib.hid P1
  replace P2 := Lib.hid P2
  replace N1 := Lib.hid N1
  replace N2 := Lib.hid N2
  replace S1 := Lib.hid S1
  replace F1 := Lib.hid F1
  have e16 := b17_add
  have e18 := b18_add
  have e9 := b9_cut
  have e25 := b25_add
  have z16 : B16.size = 16 := rfl
  have z9 : B9.size = 9 := rfl
  have y8 : ((B16.extract 0 8).toList == [254, 97, 48, 48, 48, 50, 104, 105]) = true := by decide +kernel
  go_enter Try.func11, Try.ntmps11
  go_wp2_with fail
  refine (P1.out _).mono ?_
  rintro e w1 ⟨rfl, hb1⟩
  go_wp2_with fail
  refine (N1.out _).mono ?_
  rintro e w2 ⟨rfl, hb2⟩
  go_wp2_with fail
  refine (S1.out _).mono ?_
  rintro e w3 ⟨v3, xs3, rfl, ho3, hb3⟩
  go_wp2_with fail
  refine (N2.out _).mono ?_
  rintro e w4 ⟨rfl, hb4⟩
  go_wp2_with fail
  refine (P2.out _).mono ?_
  rintro e w5 ⟨rfl, hb5⟩
  have hs2 := (hb1.trans (hb2.mono hb1.size)).size
  have hb24 : Below (w2.alloc (.cells #[.int .u8 97, .string ⟨#[104, 105]⟩] 28)).heap.size (w2.alloc (.cells #[.int .u8 97, .string ⟨#[104, 105]⟩] 28)) w4 := hb3.trans (hb4.mono hb3.size)
  have hb25 : Below (w2.alloc (.cells #[.int .u8 97, .string ⟨#[104, 105]⟩] 28)).heap.size (w2.alloc (.cells #[.int .u8 97, .string ⟨#[104, 105]⟩] 28)) w5 := keepW hb24 ((below_box w4 _).trans (hb5.mono (by simp)))
  have k0 : w5.cell? ⟨w2.heap.size, 0, none⟩ = some (.int .u8 97) := by rw [hb25.cell (by simp)]; simp
  have k1 : w5.cell? ⟨w2.heap.size, 1, none⟩ = some (.string ⟨#[104, 105]⟩) := by rw [hb25.cell (by simp)]; simp
  have hbW : Below w.heap.size w w5 := keepW (keepW hb1 hb2) ((below_box w2 _).trans (hb25.mono (by simp)))
  obtain ⟨g3, c3, rfl⟩ := Joins.ownsRow_form ho3 (by decide)
  clear hb1 hb2 hb3 hb4 hb5 hb24 hb25 ho3 hs2
  go_wp2_with fail
  refine (F1.out _).mono ?_
  rintro e w6 ⟨v6, xs6, rfl, ho6, hb6⟩
  obtain ⟨g6, c6, rfl⟩ := Joins.ownsRow_form ho6 (by decide)
  have hbW6 := keepW hbW hb6
  clear ho6 hb6
  go_wp2
  go_ret
  exact ⟨rfl, hbW6⟩
end Go.Proofs.Ytidnoeahmnfodaa
