/- The number behind all: the walk. -/
import Derived.Test.YtefknfbmphdafaaGreatSgG
namespace Go.Proofs.YtefknfbmphdafaaGreat
namespace SgM
open Go Go.RowKit CrcM FrM
open Ds (Blk)

def mxS (n : Int) (L : List Sg) : Int := L.foldl (fun n s => max n (s.n + 1)) n
theorem mxS_snoc (n : Int) (L : List Sg) (s : Sg) : mxS n (L ++ [s]) = max (mxS n L) (s.n + 1) := by unfold mxS; rw [List.foldl_append]; rfl
theorem mxS_take (L : List Sg) (k : Nat) (h : k < L.length) : mxS 0 (L.take (k + 1)) = max (mxS 0 (L.take k)) (L[k].n + 1) := by
  rw [List.take_succ_eq_append_getElem h, mxS_snoc]
theorem mxS_bound {L : List Sg} (h : ∀ x ∈ L, okS x = true) : ∀ k, 0 ≤ mxS 0 (L.take k) ∧ mxS 0 (L.take k) ≤ 4294967296
  | 0 => by simp [mxS]
  | k + 1 => by
    have ih := mxS_bound h k
    by_cases hk : k < L.length
    · rw [mxS_take L k hk]
      have := (okS_iff.1 (h _ (List.getElem_mem hk))).2
      omega
    · rw [List.take_of_length_le (by omega)]
      rw [List.take_of_length_le (by omega)] at ih
      exact ih

set_option maxRecDepth 100000 in
set_option maxHeartbeats 4000000 in
theorem next_any {o : Option Sg} {vs : Value} {B : Option Addr} {nt ct : Nat} {L : List Sg} {w : World} (hs : SgRow w vs L) (hok : ∀ x ∈ L, okS x = true) (hl : L.length ≤ 1000) :
    Calls Tryz.prog 11 #[.agg (layC o vs (.slice B nt ct))] w fun e w' => e = .returned (.int .i64 (nxt o.isSome (o.getD zS).n L)) ∧ Below w.heap.size w w' := by
  obtain ⟨A, cap, rfl, hc⟩ := hs
  obtain ⟨m, hm⟩ : ∃ m, m = L.length := ⟨_, rfl⟩
  have HM := Lib.hid hm
  rw [← hm] at hl ⊢
  have HC := Lib.hid hc
  have HOK := Lib.hid hok
  clear hc hok
  unfold layC
  obtain ⟨b, hb⟩ : ∃ b, b = o.isSome := ⟨_, rfl⟩
  obtain ⟨sn, hsn⟩ : ∃ sn, sn = (o.getD zS).n := ⟨_, rfl⟩
  obtain ⟨sk, hsk⟩ : ∃ sk, sk = (o.getD zS).k.toNat := ⟨_, rfl⟩
  rw [← hb, ← hsn, ← hsk]
  clear hb hsn hsk
  obtain ⟨W, hW⟩ : ∃ W, W = w.alloc (.cells #[.int .u8 sk, .int .i64 sn, .bool b, .slice A m cap, .slice B nt ct] 28) := ⟨_, rfl⟩
  have HW := Lib.hid hW
  have HBW := Lib.hid (show Below w.heap.size w W by rw [hW]; exact below_box _ _)
  have BB : Blk W w.heap.size 28 #[.int .u8 sk, .int .i64 sn, .bool b, .slice A m cap, .slice B nt ct] := by rw [hW]; exact Blk.new _ _ _
  have b1 : W.cell? ⟨w.heap.size, 1, none⟩ = some (.int .i64 sn) := BB.cell 1
  have b2 : W.cell? ⟨w.heap.size, 2, none⟩ = some (.bool b) := BB.cell 2
  have b3 : W.cell? ⟨w.heap.size, 3, none⟩ = some (.slice A m cap) := BB.cell 3
  clear hW BB hm
  cases b with
  | false =>
    have HE := Lib.hid (show nxt false sn L = mxS 0 L by unfold nxt mxS; rw [if_neg (by simp)])
    go_enter Tryz.func11, Tryz.ntmps11
    go_wp2_with fail
    rw [← HW.out]
    go_wp2_with fail
    go_loopw [3, 20] (fun x i wr => ∃ k, k ≤ m ∧ i = .int .i64 (k : Nat) ∧ x = .int .i64 (mxS 0 (L.take k)) ∧ Below W.heap.size W wr) (fun _ i _ => m - (intOf i).toNat)
    case atStart => exact ⟨0, Nat.zero_le _, rfl, rfl, Below.refl _ _⟩
    case round =>
      obtain ⟨k, hk, rfl, rfl, hb⟩ := hrel
      by_cases hlk : k < m
      · have hlk' : k < L.length := by rw [← HM.out]; exact hlk
        obtain ⟨g, off, rfl, hg, hcl⟩ := HC.out (by intro h; rw [h] at hlk'; simp at hlk')
        have hm := mxS_take L k hlk'
        have hb0 := mxS_bound HOK.out k
        have hx := (okS_iff.1 (HOK.out _ (List.getElem_mem hlk'))).2
        have c0 := ((keepW HBW.out hb).cell (by exact hg)).trans (hcl k hlk').1
        have c1 := ((keepW HBW.out hb).cell (by exact hg)).trans (hcl k hlk').2
        generalize L[k] = x at c0 c1 hm hx
        generalize x.n = xn at c1 hm hx
        generalize mxS 0 (L.take k) = y at hm hb0 ⊢
        have HMX := Lib.hid hm
        clear hcl hm hlk'
        have hw := hb.size
        have hgw : g < wr.heap.size := by have := HBW.out.size; omega
        have hwr : IntKind.i64.wrap (xn + 1) = xn + 1 := IntWalk.i64_in _ (by omega)
        go_wp2
        go_roundw
        case rel => exact ⟨k + 1, by omega, by go_num, by rw [HMX.out], hb.alloc (by omega) _⟩
        case measure => simp [intOf]; omega
      · obtain rfl : m = k := by omega
        rw [show L.take m = L by rw [HM.out, List.take_length]]
        go_wp2
        go_ret
        exact ⟨by rw [HE.out]; rfl, keepW HBW.out hb⟩
  | true =>
    by_cases h0 : m = 0
    · have hL : L = [] := List.length_eq_zero_iff.1 (by rw [← HM.out]; exact h0)
      have HE := Lib.hid (show nxt true sn L = sn by unfold nxt; rw [if_pos ⟨rfl, hL⟩, hL]; rfl)
      subst h0
      clear hL
      go_enter Tryz.func11, Tryz.ntmps11
      go_wp2_with fail
      rw [← HW.out]
      go_wp2_with fail
      go_loopw [3, 20] (fun x i wr => i = .int .i64 0 ∧ x = .int .i64 sn ∧ Below W.heap.size W wr) (fun _ _ _ => 0)
      case atStart => exact ⟨rfl, rfl, Below.refl _ _⟩
      case round =>
        obtain ⟨rfl, rfl, hb⟩ := hrel
        go_wp2
        go_ret
        exact ⟨by rw [HE.out]; rfl, keepW HBW.out hb⟩
    · have hL : L ≠ [] := fun h => h0 (by rw [HM.out, h]; rfl)
      have HE := Lib.hid (show nxt true sn L = mxS 0 L by unfold nxt mxS; rw [if_neg (fun h => hL h.2)])
      clear hL
      have e0 : ((m : Int) == 0) = false := by rw [beq_eq_false_iff_ne]; omega
      go_enter Tryz.func11, Tryz.ntmps11
      go_wp2_with fail
      rw [← HW.out]
      go_wp2_with fail
      go_loopw [3, 20] (fun x i wr => ∃ k, k ≤ m ∧ i = .int .i64 (k : Nat) ∧ x = .int .i64 (mxS 0 (L.take k)) ∧ Below W.heap.size W wr) (fun _ i _ => m - (intOf i).toNat)
      case atStart => exact ⟨0, Nat.zero_le _, rfl, rfl, Below.refl _ _⟩
      case round =>
        obtain ⟨k, hk, rfl, rfl, hb⟩ := hrel
        by_cases hlk : k < m
        · have hlk' : k < L.length := by rw [← HM.out]; exact hlk
          obtain ⟨g, off, rfl, hg, hcl⟩ := HC.out (by intro h; rw [h] at hlk'; simp at hlk')
          have hm := mxS_take L k hlk'
          have hb0 := mxS_bound HOK.out k
          have hx := (okS_iff.1 (HOK.out _ (List.getElem_mem hlk'))).2
          have c0 := ((keepW HBW.out hb).cell (by exact hg)).trans (hcl k hlk').1
          have c1 := ((keepW HBW.out hb).cell (by exact hg)).trans (hcl k hlk').2
          generalize L[k] = x at c0 c1 hm hx
          generalize x.n = xn at c1 hm hx
          generalize mxS 0 (L.take k) = y at hm hb0 ⊢
          have HMX := Lib.hid hm
          clear hcl hm hlk'
          have hw := hb.size
          have hgw : g < wr.heap.size := by have := HBW.out.size; omega
          have hwr : IntKind.i64.wrap (xn + 1) = xn + 1 := IntWalk.i64_in _ (by omega)
          go_wp2
          go_roundw
          case rel => exact ⟨k + 1, by omega, by go_num, by rw [HMX.out], hb.alloc (by omega) _⟩
          case measure => simp [intOf]; omega
        · obtain rfl : m = k := by omega
          rw [show L.take m = L by rw [HM.out, List.take_length]]
          go_wp2
          go_ret
          exact ⟨by rw [HE.out]; rfl, keepW HBW.out hb⟩
end SgM
end Go.Proofs.YtefknfbmphdafaaGreat
