/- The document's Next and Same, and the law's Old: the walks. -/
import Derived.Test.YtefknfbmphdafaaGreatSgU
namespace Go.Proofs.YtefknfbmphdafaaGreat
namespace SgM
open Go Go.RowKit CrcM FrM
open Ds (Blk Kp)

set_option maxRecDepth 100000 in
set_option maxHeartbeats 4000000 in
theorem rnext_any {o : Option Sg} {vs : Value} {B : Option Addr} {nt ct : Nat} {L : List Sg} {w : World} (hs : SgRow w vs L) (hok : ∀ x ∈ L, okS x = true) (hl : L.length ≤ 1000) :
    Calls Tryz.prog 12 #[.agg (layC o vs (.slice B nt ct))] w fun e w' => e = .returned (.int .i64 (nxt o.isSome (o.getD zS).n L)) ∧ Below w.heap.size w w' := by
  obtain ⟨A, cap, rfl, hc⟩ := hs
  obtain ⟨m, hm⟩ : ∃ m, m = L.length := ⟨_, rfl⟩
  have HM := Lib.hid hm
  rw [← hm] at hl ⊢
  have HC := Lib.hid hc
  have HOK := Lib.hid hok
  clear hc hok
  unfold layC
  obtain ⟨b, hb⟩ : ∃ b, b = o.isSome := ⟨_, rfl⟩
  obtain ⟨sn, hsn⟩ : ∃ sn, sn = (o.getD zS).n := ⟨_, rfl⟩
  obtain ⟨sk, hsk⟩ : ∃ sk, sk = (o.getD zS).k.toNat := ⟨_, rfl⟩
  rw [← hb, ← hsn, ← hsk]
  clear hb hsn hsk
  obtain ⟨W, hW⟩ : ∃ W, W = w.alloc (.cells #[.int .u8 sk, .int .i64 sn, .bool b, .slice A m cap, .slice B nt ct] 33) := ⟨_, rfl⟩
  have HW := Lib.hid hW
  have HBW := Lib.hid (show Below w.heap.size w W by rw [hW]; exact below_box _ _)
  have BB : Blk W w.heap.size 33 #[.int .u8 sk, .int .i64 sn, .bool b, .slice A m cap, .slice B nt ct] := by rw [hW]; exact Blk.new _ _ _
  have b1 : W.cell? ⟨w.heap.size, 1, none⟩ = some (.int .i64 sn) := BB.cell 1
  have b2 : W.cell? ⟨w.heap.size, 2, none⟩ = some (.bool b) := BB.cell 2
  have b3 : W.cell? ⟨w.heap.size, 3, none⟩ = some (.slice A m cap) := BB.cell 3
  have hwW := BB.lt
  clear hW BB hm
  cases b with
  | false =>
    have HE := Lib.hid (show nxt false sn L = mxS 0 L by unfold nxt mxS; rw [if_neg (by simp)])
    go_enter Tryz.func12, Tryz.ntmps12
    go_wp2_with fail
    rw [← HW.out]
    go_wp2_with fail
    go_loopw [3, 4] (fun x i wr => ∃ k, k ≤ m ∧ i = .int .i64 (k : Nat) ∧ x = .int .i64 (mxS 0 (L.take k)) ∧ Below W.heap.size W wr) (fun _ i _ => m - (intOf i).toNat)
    case atStart => exact ⟨0, Nat.zero_le _, rfl, rfl, Below.refl _ _⟩
    case round =>
      obtain ⟨k, hk, rfl, rfl, hb⟩ := hrel
      have b3 := (hb.cell (p := ⟨w.heap.size, 3, none⟩) hwW).trans b3
      by_cases hlk : k < m
      · have hlk' : k < L.length := by rw [← HM.out]; exact hlk
        obtain ⟨g, off, rfl, hg, hcl⟩ := HC.out (by intro h; rw [h] at hlk'; simp at hlk')
        have hm := mxS_take L k hlk'
        have hb0 := mxS_bound HOK.out k
        have hx := (okS_iff.1 (HOK.out _ (List.getElem_mem hlk'))).2
        have c0 := ((keepW HBW.out hb).cell (by exact hg)).trans (hcl k hlk').1
        have c1 := ((keepW HBW.out hb).cell (by exact hg)).trans (hcl k hlk').2
        generalize L[k] = x at c0 c1 hm hx
        generalize x.n = xn at c1 hm hx
        generalize mxS 0 (L.take k) = y at hm hb0 ⊢
        have HMX := Lib.hid hm
        clear hcl hm hlk'
        have hw := hb.size
        have hgw : g < wr.heap.size := by have := HBW.out.size; omega
        have hwr : IntKind.i64.wrap (xn + 1) = xn + 1 := IntWalk.i64_in _ (by omega)
        go_wp2
        go_roundw
        case rel => exact ⟨k + 1, by omega, by go_num, by rw [HMX.out], hb⟩
        case measure => simp [intOf]; omega
      · obtain rfl : m = k := by omega
        rw [show L.take m = L by rw [HM.out, List.take_length]]
        go_wp2
        go_ret
        exact ⟨by rw [HE.out]; rfl, keepW HBW.out hb⟩
  | true =>
    by_cases h0 : m = 0
    · have hL : L = [] := List.length_eq_zero_iff.1 (by rw [← HM.out]; exact h0)
      have HE := Lib.hid (show nxt true sn L = sn by unfold nxt; rw [if_pos ⟨rfl, hL⟩, hL]; rfl)
      subst h0
      clear hL
      go_enter Tryz.func12, Tryz.ntmps12
      go_wp2_with fail
      rw [← HW.out]
      go_wp2_with fail
      go_loopw [3, 4] (fun x i wr => i = .int .i64 0 ∧ x = .int .i64 sn ∧ Below W.heap.size W wr) (fun _ _ _ => 0)
      case atStart => exact ⟨rfl, rfl, Below.refl _ _⟩
      case round =>
        obtain ⟨rfl, rfl, hb⟩ := hrel
        have b3 := (hb.cell (p := ⟨w.heap.size, 3, none⟩) hwW).trans b3
        go_wp2
        go_ret
        exact ⟨by rw [HE.out]; rfl, keepW HBW.out hb⟩
    · have hL : L ≠ [] := fun h => h0 (by rw [HM.out, h]; rfl)
      have HE := Lib.hid (show nxt true sn L = mxS 0 L by unfold nxt mxS; rw [if_neg (fun h => hL h.2)])
      clear hL
      have e0 : ((m : Int) == 0) = false := by rw [beq_eq_false_iff_ne]; omega
      go_enter Tryz.func12, Tryz.ntmps12
      go_wp2_with fail
      rw [← HW.out]
      go_wp2_with fail
      go_loopw [3, 4] (fun x i wr => ∃ k, k ≤ m ∧ i = .int .i64 (k : Nat) ∧ x = .int .i64 (mxS 0 (L.take k)) ∧ Below W.heap.size W wr) (fun _ i _ => m - (intOf i).toNat)
      case atStart => exact ⟨0, Nat.zero_le _, rfl, rfl, Below.refl _ _⟩
      case round =>
        obtain ⟨k, hk, rfl, rfl, hb⟩ := hrel
        have b3 := (hb.cell (p := ⟨w.heap.size, 3, none⟩) hwW).trans b3
        by_cases hlk : k < m
        · have hlk' : k < L.length := by rw [← HM.out]; exact hlk
          obtain ⟨g, off, rfl, hg, hcl⟩ := HC.out (by intro h; rw [h] at hlk'; simp at hlk')
          have hm := mxS_take L k hlk'
          have hb0 := mxS_bound HOK.out k
          have hx := (okS_iff.1 (HOK.out _ (List.getElem_mem hlk'))).2
          have c0 := ((keepW HBW.out hb).cell (by exact hg)).trans (hcl k hlk').1
          have c1 := ((keepW HBW.out hb).cell (by exact hg)).trans (hcl k hlk').2
          generalize L[k] = x at c0 c1 hm hx
          generalize x.n = xn at c1 hm hx
          generalize mxS 0 (L.take k) = y at hm hb0 ⊢
          have HMX := Lib.hid hm
          clear hcl hm hlk'
          have hw := hb.size
          have hgw : g < wr.heap.size := by have := HBW.out.size; omega
          have hwr : IntKind.i64.wrap (xn + 1) = xn + 1 := IntWalk.i64_in _ (by omega)
          go_wp2
          go_roundw
          case rel => exact ⟨k + 1, by omega, by go_num, by rw [HMX.out], hb⟩
          case measure => simp [intOf]; omega
        · obtain rfl : m = k := by omega
          rw [show L.take m = L by rw [HM.out, List.take_length]]
          go_wp2
          go_ret
          exact ⟨by rw [HE.out]; rfl, keepW HBW.out hb⟩

set_option maxRecDepth 100000 in
set_option maxHeartbeats 4000000 in
theorem same02_any {w : World} {v u : Value} {T : List (List UInt8)} (h : TrRow w v T) (h' : TrRow w u T) (hl : T.length ≤ 100000) :
    Calls Tryz.prog 17 #[v, u] w fun e w' => e = .returned (.bool true) ∧ Below w.heap.size w w' := by
  obtain ⟨A, cap, rfl, hc⟩ := h
  obtain ⟨B, bc, rfl, hc'⟩ := h'
  obtain ⟨n, hn⟩ : ∃ n, n = T.length := ⟨_, rfl⟩
  have HN := Lib.hid hn
  rw [← hn] at hl ⊢
  have HC := Lib.hid hc
  have HC' := Lib.hid hc'
  clear hc hc' hn
  go_enter Tryz.func17, Tryz.ntmps17
  go_wp2_with fail
  go_loopw [5] (fun i wr => ∃ k : Nat, k ≤ n ∧ i = .int .i64 (k : Nat) ∧ Below w.heap.size w wr) (fun i _ => n - (intOf i).toNat)
  case atStart => exact ⟨0, Nat.zero_le _, rfl, Below.refl _ _⟩
  case round =>
    obtain ⟨k, hk, rfl, hb⟩ := hrel
    by_cases hlk : k < n
    · have hlk' : k < T.length := by rw [← HN.out]; exact hlk
      obtain ⟨g, off, rfl, hg, hcl⟩ := HC.out (by intro h; rw [h] at hlk'; simp at hlk')
      obtain ⟨g', off', rfl, hg', hcl'⟩ := HC'.out (by intro h; rw [h] at hlk'; simp at hlk')
      have c0 := (hb.cell (by exact hg)).trans (hcl k hlk')
      have c1 := (hb.cell (by exact hg')).trans (hcl' k hlk')
      have i0 : (0 : Int) ≤ (k : Int) := by omega
      have i1 : (k : Int) < (n : Int) := by omega
      clear hcl hcl'
      generalize bytesOf T[k] = s at c0 c1
      go_wp2_with fail
      go_quiet (fail)
      have hbq : Below w.heap.size w (wr.drewN nq) := hb.trans ⟨rfl, rfl, rfl, Nat.le_refl _, fun _ _ => rfl⟩
      go_wp2_with fail
      go_roundw
      case rel => exact ⟨k + 1, by omega, by go_num, hbq⟩
      case measure => simp [intOf]; omega
    · obtain rfl : n = k := by omega
      go_wp2_with fail
      go_ret
      exact ⟨rfl, hb⟩
theorem layC_eq (o : Option Sg) (vs vt : Value) : layC o vs vt = #[.int .u8 ((o.getD zS).k.toNat : Nat), .int .i64 (o.getD zS).n, .bool o.isSome, vs, vt] := rfl
set_option maxRecDepth 100000 in
set_option maxHeartbeats 4000000 in
theorem same16_any {w : World} {o : Option Sg} {vs us vt ut : Value} {S : List Sg} {T : List (List UInt8)} (h : SgRow w vs S) (h' : SgRow w us S) (ht : TrRow w vt T) (ht' : TrRow w ut T) (hl : S.length ≤ 1000) (hlt : T.length ≤ 1000) :
    Calls Tryz.prog 9 #[.agg (layC o vs vt), .agg (layC o us ut)] w fun e w' => e = .returned (.bool true) ∧ Below w.heap.size w w' := by
  have SM := Lib.hid (fun (w' : World) (hb : Below w.heap.size w w') => same02_any (ht.below hb) (ht'.below hb) (by omega))
  obtain ⟨A, cap, rfl, hc⟩ := h
  obtain ⟨B, bc, rfl, hc'⟩ := h'
  obtain ⟨A2, cap2, rfl, -⟩ := ht
  obtain ⟨B2, bc2, rfl, -⟩ := ht'
  obtain ⟨n, hn⟩ : ∃ n, n = S.length := ⟨_, rfl⟩
  obtain ⟨tl, htl⟩ : ∃ n, n = T.length := ⟨_, rfl⟩
  have HN := Lib.hid hn
  rw [← htl] at SM ⊢
  rw [← hn] at hl ⊢
  have HC := Lib.hid hc
  have HC' := Lib.hid hc'
  clear hc hc' hn htl hlt
  rw [layC_eq, layC_eq]
  generalize ((o.getD zS).k.toNat : Int) = sk
  generalize (o.getD zS).n = sn
  generalize o.isSome = b
  obtain ⟨W, hW⟩ : ∃ W, W = (w.alloc (.cells #[.int .u8 sk, .int .i64 sn, .bool b, .slice A n cap, .slice A2 tl cap2] 33)).alloc (.cells #[.int .u8 sk, .int .i64 sn, .bool b, .slice B n bc, .slice B2 tl bc2] 33) := ⟨_, rfl⟩
  have HW := Lib.hid hW
  have HBW := Lib.hid (show Below w.heap.size w W by rw [hW]; exact (below_box _ _).alloc (by simp) _)
  have B0 : Blk W w.heap.size 33 #[.int .u8 sk, .int .i64 sn, .bool b, .slice A n cap, .slice A2 tl cap2] := by rw [hW]; exact (Blk.new w _ _).alloc _
  have B1 : Blk W (w.heap.size + 1) 33 #[.int .u8 sk, .int .i64 sn, .bool b, .slice B n bc, .slice B2 tl bc2] := by
    rw [hW]; have := Blk.new (w.alloc (.cells #[.int .u8 sk, .int .i64 sn, .bool b, .slice A n cap, .slice A2 tl cap2] 33)) 33 #[.int .u8 sk, .int .i64 sn, .bool b, .slice B n bc, .slice B2 tl bc2]; simpa using this
  have HB0 := Lib.hid B0
  have HB1 := Lib.hid B1
  have hw1 : w.heap.size + 1 < W.heap.size := B1.lt
  have a0 : W.cell? ⟨w.heap.size, 0, none⟩ = some (.int .u8 sk) := B0.cell 0
  have b0 : W.cell? ⟨w.heap.size + 1, 0, none⟩ = some (.int .u8 sk) := B1.cell 0
  have a1 : W.cell? ⟨w.heap.size, 1, none⟩ = some (.int .i64 sn) := B0.cell 1
  have b1 : W.cell? ⟨w.heap.size + 1, 1, none⟩ = some (.int .i64 sn) := B1.cell 1
  have a2 : W.cell? ⟨w.heap.size, 2, none⟩ = some (.bool b) := B0.cell 2
  have b2 : W.cell? ⟨w.heap.size + 1, 2, none⟩ = some (.bool b) := B1.cell 2
  have a3 : W.cell? ⟨w.heap.size, 3, none⟩ = some (.slice A n cap) := B0.cell 3
  have b3 : W.cell? ⟨w.heap.size + 1, 3, none⟩ = some (.slice B n bc) := B1.cell 3
  have a4 : W.cell? ⟨w.heap.size, 4, none⟩ = some (.slice A2 tl cap2) := B0.cell 4
  have b4 : W.cell? ⟨w.heap.size + 1, 4, none⟩ = some (.slice B2 tl bc2) := B1.cell 4
  clear hW B0 B1
  go_enter Tryz.func9, Tryz.ntmps9
  go_upto_region 1 with fail
  rw [← HW.out]
  go_wp2_with fail
  go_loopw [5] (fun i wr => ∃ k : Nat, k ≤ n ∧ i = .int .i64 (k : Nat) ∧ Below W.heap.size W wr) (fun i _ => n - (intOf i).toNat)
  case atStart => exact ⟨0, Nat.zero_le _, rfl, Below.refl _ _⟩
  case round =>
    obtain ⟨k, hk, rfl, hb⟩ := hrel
    clear a0 b0 a1 b1 a2 b2 a3 b3 a4 b4
    have a3 := (hb.cell (p := ⟨w.heap.size, 3, none⟩) (by show w.heap.size < W.heap.size; omega)).trans (show W.cell? ⟨w.heap.size, 3, none⟩ = some (.slice A n cap) from HB0.out.cell 3)
    have b3 := (hb.cell (p := ⟨w.heap.size + 1, 3, none⟩) (by exact hw1)).trans (show W.cell? ⟨w.heap.size + 1, 3, none⟩ = some (.slice B n bc) from HB1.out.cell 3)
    have a4 := (hb.cell (p := ⟨w.heap.size, 4, none⟩) (by show w.heap.size < W.heap.size; omega)).trans (show W.cell? ⟨w.heap.size, 4, none⟩ = some (.slice A2 tl cap2) from HB0.out.cell 4)
    have b4 := (hb.cell (p := ⟨w.heap.size + 1, 4, none⟩) (by exact hw1)).trans (show W.cell? ⟨w.heap.size + 1, 4, none⟩ = some (.slice B2 tl bc2) from HB1.out.cell 4)
    have hwr := hb.size
    by_cases hlk : k < n
    · have hlk' : k < S.length := by rw [← HN.out]; exact hlk
      obtain ⟨g, off, rfl, hg, hcl⟩ := HC.out (by intro h; rw [h] at hlk'; simp at hlk')
      obtain ⟨g', off', rfl, hg', hcl'⟩ := HC'.out (by intro h; rw [h] at hlk'; simp at hlk')
      have hbw := keepW HBW.out hb
      have c0 := (hbw.cell (by exact hg)).trans (hcl k hlk').1
      have c1 := (hbw.cell (by exact hg)).trans (hcl k hlk').2
      have d0 := (hbw.cell (by exact hg')).trans (hcl' k hlk').1
      have d1 := (hbw.cell (by exact hg')).trans (hcl' k hlk').2
      have i0 : (0 : Int) ≤ (k : Int) := by omega
      have i1 : (k : Int) < (n : Int) := by omega
      clear hcl hcl' hbw
      generalize ((S[k].k.toNat : Nat) : Int) = xk at c0 d0
      generalize S[k].n = xn at c1 d1
      go_wp2_with fail
      go_quiet (fail)
      have hbq : Below W.heap.size W (wr.drewN nq) := hb.trans ⟨rfl, rfl, rfl, Nat.le_refl _, fun _ _ => rfl⟩
      go_wp2_with fail
      go_roundw
      case rel => exact ⟨k + 1, by omega, by go_num, hbq⟩
      case measure => simp [intOf]; omega
    · obtain rfl : n = k := by omega
      have hbw := keepW HBW.out hb
      go_wp2_with fail
      refine (SM.out _ hbw).mono ?_
      rintro e w5 ⟨rfl, hb5⟩
      go_wp2_with fail
      go_ret
      exact ⟨rfl, keepW hbw hb5⟩
def OldPost (o : Option Sg) (vt : Value) (S : List Sg) (w : World) (e : Ending) (w' : World) : Prop :=
  ∃ vs, e = .returned (.agg (layC o vs vt)) ∧ w'.ownsRow w.heap.size 30 2 vs S.length (sgC S) ∧ Below w.heap.size w w'
set_option maxRecDepth 100000 in
set_option maxHeartbeats 4000000 in
theorem old_any {w : World} {o : Option Sg} {vs : Value} {B : Option Addr} {tl tc : Nat} {S : List Sg} (h : SgRow w vs S) (hl : S.length ≤ 1000) :
    Calls Tryz.prog 10 #[.agg (layC o vs (.slice B tl tc))] w (OldPost o (.slice B tl tc) S w) := by
  obtain ⟨i0, hi, hz0, hz1, hz2⟩ := info_parts info_rgRow
  obtain ⟨A, cap, rfl, hc⟩ := h
  obtain ⟨n, hn⟩ : ∃ n, n = S.length := ⟨_, rfl⟩
  have HN := Lib.hid hn
  rw [← hn] at hl ⊢
  have HC := Lib.hid hc
  clear hc hn
  obtain ⟨W0, hW0⟩ : ∃ W0, W0 = (w.alloc (.cells (layC o (.slice A n cap) (.slice B tl tc)) 28)).alloc (.cells (layC none (.slice none 0 0) (.slice none 0 0)) 33) := ⟨_, rfl⟩
  obtain ⟨W, hW⟩ : ∃ W, W = W0.alloc (.cells (layC o (.slice none 0 0) (.slice B tl tc)) 33) := ⟨_, rfl⟩
  have A0 : Blk W0 w.heap.size 28 (layC o (.slice A n cap) (.slice B tl tc)) := by rw [hW0]; exact (Blk.new w _ _).alloc _
  have R0 : Blk W0 (w.heap.size + 1) 33 (layC none (.slice none 0 0) (.slice none 0 0)) := by
    rw [hW0]; have := Blk.new (w.alloc (.cells (layC o (.slice A n cap) (.slice B tl tc)) 28)) 33 (layC none (.slice none 0 0) (.slice none 0 0)); simpa using this
  have hs0 : W0.heap.size = w.heap.size + 1 + 1 := by rw [hW0]; simp
  have HBW0 := Lib.hid (show Below w.heap.size w W0 by rw [hW0]; exact (below_box _ _).alloc (by simp) _)
  have HBW := Lib.hid (show Below w.heap.size w W by rw [hW]; exact HBW0.out.alloc HBW0.out.size _)
  have HR := Lib.hid (show Blk W (w.heap.size + 1) 33 (layC none (.slice none 0 0) (.slice none 0 0)) by rw [hW]; exact R0.alloc _)
  have HA := Lib.hid (show Blk W w.heap.size 28 (layC o (.slice A n cap) (.slice B tl tc)) by rw [hW]; exact A0.alloc _)
  have HO := Lib.hid (show Blk W (w.heap.size + 1 + 1) 33 (layC o (.slice none 0 0) (.slice B tl tc)) by rw [hW, ← hs0]; exact Blk.new _ _ _)
  have hsW : w.heap.size + 1 + 1 < W.heap.size := HO.out.lt
  have HW0 := Lib.hid hW0
  have HW := Lib.hid hW
  have a0 : W0.cell? ⟨w.heap.size, 0, none⟩ = some (.int .u8 ((o.getD zS).k.toNat : Nat)) := A0.cell 0
  have a1 : W0.cell? ⟨w.heap.size, 1, none⟩ = some (.int .i64 (o.getD zS).n) := A0.cell 1
  have a2 : W0.cell? ⟨w.heap.size, 2, none⟩ = some (.bool o.isSome) := A0.cell 2
  have a3 : W0.cell? ⟨w.heap.size, 3, none⟩ = some (.slice A n cap) := A0.cell 3
  have a4 : W0.cell? ⟨w.heap.size, 4, none⟩ = some (.slice B tl tc) := A0.cell 4
  clear hW0 hW A0 R0
  have eW0 : (w.alloc (.cells #[.int .u8 ((o.getD zS).k.toNat : Nat), .int .i64 (o.getD zS).n, .bool o.isSome, .slice A n cap, .slice B tl tc] 28)).alloc (.cells #[.int .u8 0, .int .i64 0, .bool false, .slice none 0 0, .slice none 0 0] 33) = W0 := HW0.out.symm
  have eW : W0.alloc (.cells #[.int .u8 ((o.getD zS).k.toNat : Nat), .int .i64 (o.getD zS).n, .bool o.isSome, .slice none 0 0, .slice B tl tc] 33) = W := HW.out.symm
  have HEW0 := Lib.hid eW0
  have HEW := Lib.hid eW
  clear eW0 eW
  rw [layC_eq]
  go_enter Tryz.func10, Tryz.ntmps10
  go_upto_region 1 with fail
  rw [HEW0.out]
  go_upto_region 2 with fail
  rw [show w.heap.size + 1 + 1 = w.heap.size + 1 + 1 from rfl, HEW.out]
  have b3 : W.cell? ⟨w.heap.size, 3, none⟩ = some (.slice A n cap) := HA.out.cell 3
  go_wp2_with fail
  go_loopw [16] (fun i wr => ∃ (k : Nat) (vs : Value), k ≤ n ∧ i = .int .i64 (k : Nat) ∧ Blk wr (w.heap.size + 1 + 1) 33 (layC o vs (.slice B tl tc)) ∧ wr.ownsRow W.heap.size 30 2 vs (S.take k).length (sgC (S.take k)) ∧ Kp (w.heap.size + 1 + 1) (w.heap.size + 1 + 1) W wr) (fun i _ => n - (intOf i).toNat)
  case atStart => exact ⟨0, .slice none 0 0, Nat.zero_le _, rfl, HO.out, World.ownsRow_nil _ _ _ _, Kp.refl _ _ _⟩
  case round =>
    obtain ⟨k, vs, hk, rfl, hB, hown, hK⟩ := hrel
    clear a0 a1 a2 a3 a4 b3
    have hWr := hK.size
    by_cases hlk : k < n
    · have hlk' : k < S.length := by rw [← HN.out]; exact hlk
      obtain ⟨g, off, rfl, hg, hcl⟩ := HC.out (by intro h; rw [h] at hlk'; simp at hlk')
      have hgk : ∀ {i : Nat} {u : Value}, w.cell? ⟨g, i, none⟩ = some u → wr.cell? ⟨g, i, none⟩ = some u := fun {i u} h => (hK.cell (a := ⟨g, i, none⟩) (by show g < W.heap.size; omega) (by show g ≠ w.heap.size + 1 + 1; omega) (by show g ≠ w.heap.size + 1 + 1; omega)).trans ((HBW.out.cell (by exact hg)).trans h)
      have c0 := hgk (hcl k hlk').1
      have c1 := hgk (hcl k hlk').2
      have ht : S.take (k + 1) = S.take k ++ [S[k]] := List.take_succ_eq_append_getElem hlk'
      have hln : (S.take k).length = k := by rw [List.length_take]; omega
      rw [hln] at hown
      clear hcl hgk
      generalize S[k] = x at c0 c1 ht
      obtain ⟨xk, hxk⟩ : ∃ xk : Int, xk = (x.k.toNat : Nat) := ⟨_, rfl⟩
      obtain ⟨xn, hxn⟩ : ∃ xn : Int, xn = x.n := ⟨_, rfl⟩
      rw [← hxk] at c0
      rw [← hxn] at c1
      have HT := Lib.hid (show sgC (S.take (k + 1)) = sgC (S.take k) ++ [.int .u8 xk, .int .i64 xn] by rw [ht, sgC_snoc, hxk, hxn])
      clear ht hxk hxn
      obtain ⟨va, vc, rfl⟩ := own_shape hown
      have hgr : g < wr.heap.size := by omega
      have i0' : (0 : Int) ≤ (k : Int) := by omega
      have i1' : (k : Int) < (n : Int) := by omega
      obtain ⟨V, hV⟩ : ∃ V, V = wr.alloc (.cells #[.int .u8 xk, .int .i64 xn] 25) := ⟨_, rfl⟩
      have BX : Blk V wr.heap.size 25 #[.int .u8 xk, .int .i64 xn] := by rw [hV]; exact Blk.new _ _ _
      have HBv := Lib.hid (show Blk V (w.heap.size + 1 + 1) 33 (layC o (.slice va k vc) (.slice B tl tc)) by rw [hV]; exact hB.alloc _)
      have HOv := Lib.hid (show V.ownsRow W.heap.size 30 2 (.slice va k vc) k (sgC (S.take k)) by rw [hV]; exact hown.alloc _)
      have HKv := Lib.hid (show Kp (w.heap.size + 1 + 1) (w.heap.size + 1 + 1) W V by rw [hV]; exact hK.trans (Kp.alloc _ _))
      have x0 : V.cell? ⟨wr.heap.size, 0, none⟩ = some (.int .u8 xk) := BX.cell 0
      have x1 : V.cell? ⟨wr.heap.size, 1, none⟩ = some (.int .i64 xn) := BX.cell 1
      have o3 : V.cell? ⟨w.heap.size + 1 + 1, 3, none⟩ = some (.slice va k vc) := HBv.out.cell 3
      have hxV := BX.lt
      go_upto_region 5 with fail
      rw [← hV]
      clear hV BX hB hown hK c0 c1
      go_wp2_with (at_builtin; refine wpList_append_own _ rfl _ _ 31 rfl W.heap.size 30 i0 (.agg #[.int .u8 0, .int .i64 0]) 2 16 Tryz.underlying31 hi hz0 hz1 hz2 rfl (by decide) _ _ _ rfl (HOv.out.alloc _) ⟨V.heap.size, 0, none⟩ 1 1 [.int .u8 xk, .int .i64 xn] rfl rfl (new_two V _ _ _ _ rfl) (one_kn xk xn) (by unfold maxLen; omega) (by omega) (by have := HKv.out.size; simp; omega) ?_; intro v' w' hown' hgrow _; obtain ⟨va', vc', rfl⟩ := own_shape hown'; have HB2 := Lib.hid (Blk.grown (HBv.out.alloc (.cells #[.int .u8 xk, .int .i64 xn] 30)) hgrow (fun e => by have := (HOv.out.lt _ e.symm).1; omega)); have q3 : w'.cell? ⟨w.heap.size + 1 + 1, 3, none⟩ = some (.slice va k vc) := HB2.out.cell 3; have g3 := HB2.out.frozen 3; have HK2 := Lib.hid (kp_grown (HKv.out.trans (Kp.alloc _ (.cells #[.int .u8 xk, .int .i64 xn] 30))) hgrow (fun k hk => (HOv.out.lt k hk).1)); have HO2 := Lib.hid hown'; clear hown' hgrow)
      go_roundw
      case rel => exact ⟨k + 1, _, by omega, by go_num, HB2.out.set_ 3 _, by rw [show (S.take (k + 1)).length = k + 1 by rw [List.length_take]; omega, HT.out]; exact own_set HO2.out hsW _ _, HK2.out.trans (Kp.setP _ _ _)⟩
      case measure => simp [intOf]; omega
    · obtain rfl : n = k := by omega
      rw [show S.take n = S by rw [HN.out, List.take_length], ← HN.out] at hown
      obtain ⟨va, vc, rfl⟩ := own_shape hown
      have o0 : wr.cell? ⟨w.heap.size + 1 + 1, 0, none⟩ = some (.int .u8 ((o.getD zS).k.toNat : Nat)) := hB.cell 0
      have o1 : wr.cell? ⟨w.heap.size + 1 + 1, 1, none⟩ = some (.int .i64 (o.getD zS).n) := hB.cell 1
      have o2 : wr.cell? ⟨w.heap.size + 1 + 1, 2, none⟩ = some (.bool o.isSome) := hB.cell 2
      have o3 : wr.cell? ⟨w.heap.size + 1 + 1, 3, none⟩ = some (.slice va n vc) := hB.cell 3
      have o4 : wr.cell? ⟨w.heap.size + 1 + 1, 4, none⟩ = some (.slice B tl tc) := hB.cell 4
      have BR5 := hK.blk HR.out (by omega) (by omega)
      have r0 : wr.cell? ⟨w.heap.size + 1, 0, none⟩ = some (.int .u8 0) := BR5.cell 0
      have r1 : wr.cell? ⟨w.heap.size + 1, 1, none⟩ = some (.int .i64 0) := BR5.cell 1
      have r2 : wr.cell? ⟨w.heap.size + 1, 2, none⟩ = some (.bool false) := BR5.cell 2
      have r3 : wr.cell? ⟨w.heap.size + 1, 3, none⟩ = some (.slice none 0 0) := BR5.cell 3
      have r4 : wr.cell? ⟨w.heap.size + 1, 4, none⟩ = some (.slice none 0 0) := BR5.cell 4
      have f0 := BR5.frozen 0
      have f1 := BR5.frozen 1
      have f2 := BR5.frozen 2
      have f3 := BR5.frozen 3
      have f4 := BR5.frozen 4
      have HR5 := Lib.hid BR5
      have HOF := Lib.hid hown
      have HBw := Lib.hid (show Below w.heap.size w wr from HBW.out.trans (hK.below (by omega) (by omega) HBW.out.size))
      clear BR5 hown hB hK
      go_wp2_with fail
      refine bodyPost_ret (results_row1 (p := 2) rfl _ _ _ _ _ _ _ rfl (five_setR HR5.out o _ _) Tryz.underlying33 rfl info_rlay) rfl ?_
      exact ⟨_, rfl, by rw [← HN.out]; exact own_lower (own_five HOF.out (by omega) _ _ _ _ _) (by omega), below_five HBw.out (by omega) _ _ _ _ _⟩
end SgM
end Go.Proofs.YtefknfbmphdafaaGreat
