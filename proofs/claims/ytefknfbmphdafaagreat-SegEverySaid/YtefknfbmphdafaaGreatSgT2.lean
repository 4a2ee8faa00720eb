/- The document's put of layer 16: the walk. -/
import Derived.Test.YtefknfbmphdafaaGreatSgT
namespace Go.Proofs.YtefknfbmphdafaaGreat
namespace SgM
open Go Go.RowKit CrcM FrM
open Ds (Blk)

theorem info_rgRow : (Tryz.prog.info? 30).map (fun i => (i.zero, i.size, i.bytes)) = some (some (.agg #[.int .u8 0, .int .i64 0]), 2, 16) := by kernel_rfl
def PutSPost (L : List Sg) (w : World) (e : Ending) (w' : World) : Prop := ∃ v, e = .returned v ∧ w'.ownsRow w.heap.size 30 2 v L.length (sgC L) ∧ Below w.heap.size w w'
set_option maxRecDepth 100000 in
set_option maxHeartbeats 8000000 in
theorem rput_any {w : World} {v : Value} {L : List Sg} (h : SgRow w v L) (hl : L.length ≤ 1000) (s : Sg) :
    Calls Tryz.prog 37 #[v, sgV s] w (PutSPost (putS s L) w) := by
  obtain ⟨i0, hi, hz0, hz1, hz2⟩ := info_parts info_rgRow
  obtain ⟨A, cap, rfl, hc⟩ := h
  obtain ⟨n, hn⟩ : ∃ n, n = L.length := ⟨_, rfl⟩
  have HL := Lib.hid hn
  rw [← hn] at hl ⊢
  have HC := Lib.hid hc
  clear hc hn
  obtain ⟨sk, hsk⟩ : ∃ sk : Int, sk = (s.k.toNat : Nat) := ⟨_, rfl⟩
  obtain ⟨sn, hsn⟩ : ∃ sn : Int, sn = s.n := ⟨_, rfl⟩
  have AHs := fun G => ahead_any s G
  unfold sgV at AHs ⊢
  rw [← hsk, ← hsn] at AHs ⊢
  have HAH := Lib.hid AHs
  have HSK := Lib.hid hsk
  have HSN := Lib.hid hsn
  clear hsk hsn AHs
  obtain ⟨W, hW⟩ : ∃ W, W = w.alloc (.cells #[.int .u8 sk, .int .i64 sn] 30) := ⟨_, rfl⟩
  have HW := Lib.hid hW
  have HBW := Lib.hid (show Below w.heap.size w W by rw [hW]; exact below_box _ _)
  have BS : Blk W w.heap.size 30 #[.int .u8 sk, .int .i64 sn] := by rw [hW]; exact Blk.new _ _ _
  have HX0 := Lib.hid (show W.cell? ⟨w.heap.size, 0, none⟩ = some (.int .u8 sk) from BS.cell 0)
  have HX1 := Lib.hid (show W.cell? ⟨w.heap.size, 1, none⟩ = some (.int .i64 sn) from BS.cell 1)
  have hwW : w.heap.size < W.heap.size := BS.lt
  clear hW BS
  go_enter Tryz.func37, Tryz.ntmps37
  go_wp2_with fail
  rw [← HW.out]
  go_loopw [5, 6, 7] (fun v d i wr => ∃ (k m : Nat) (D : Bool) (X : List Sg), k ≤ n ∧ m = X.length ∧ PutG putS s L k D X ∧ d = .bool D ∧ i = .int .i64 (k : Nat) ∧ wr.ownsRow W.heap.size 30 2 v m (sgC X) ∧ Below W.heap.size W wr) (fun _ _ i _ => n - (intOf i).toNat)
  case atStart => exact ⟨0, 0, false, [], Nat.zero_le _, rfl, PutG.start _ _ _, rfl, rfl, World.ownsRow_nil _ _ _ _, Below.refl _ _⟩
  case round =>
    obtain ⟨k, m, D, X, hk, hm, hP, rfl, rfl, hown, hb⟩ := hrel
    have HM := Lib.hid hm
    have HP := Lib.hid hP
    have hml2 : m ≤ k + 1 := by rw [hm]; exact hP.len
    have y0 := (hb.cell (p := ⟨w.heap.size, 0, none⟩) hwW).trans HX0.out
    have y1 := (hb.cell (p := ⟨w.heap.size, 1, none⟩) hwW).trans HX1.out
    have hwr : w.heap.size < wr.heap.size := Nat.lt_of_lt_of_le hwW hb.size
    clear hm hP
    by_cases hlk : k < n
    · have hlk' : k < L.length := by rw [← HL.out]; exact hlk
      obtain ⟨g, off, rfl, hgw, hcl⟩ := HC.out (by intro h; rw [h] at hlk'; simp at hlk')
      have HQ0 := Lib.hid ((HBW.out.cell (by exact hgw)).trans (hcl k hlk').1)
      have HQ1 := Lib.hid ((HBW.out.cell (by exact hgw)).trans (hcl k hlk').2)
      have hgW : g < W.heap.size := by omega
      have q0 := (hb.cell (by exact hgW)).trans HQ0.out
      have q1 := (hb.cell (by exact hgW)).trans HQ1.out
      have hgr : g < wr.heap.size := Nat.lt_of_lt_of_le hgW hb.size
      clear hcl hgw
      cases D with
      | true =>
        have HN := Lib.hid (HP.out.late hlk')
        clear HP
        generalize L[k] = G at *
        obtain ⟨xk, hxk⟩ : ∃ xk : Int, xk = (G.k.toNat : Nat) := ⟨_, rfl⟩
        obtain ⟨xn, hxn⟩ : ∃ xn : Int, xn = G.n := ⟨_, rfl⟩
        rw [← hxk] at q0 HQ0
        rw [← hxn] at q1 HQ1
        have HXK := Lib.hid hxk
        have HXN := Lib.hid hxn
        clear hxk hxn HAH
        by_cases e1 : xk = sk
        · subst e1
          by_cases e2 : xn = sn
          · subst e2
            go_wp2_with fail
            go_quiet (fail)
            obtain ⟨V, hV⟩ : ∃ V, V = wr.drewN nq := ⟨_, rfl⟩
            rw [← hV]
            have ownV := Ds.own_drewN hown nq
            rw [← hV] at ownV
            have hbV : Below W.heap.size W V := by rw [hV]; exact hb.trans ⟨rfl, rfl, rfl, Nat.le_refl _, fun _ _ => rfl⟩
            have y0V : V.cell? ⟨w.heap.size, 0, none⟩ = some (.int .u8 xk) := (hbV.cell (by exact hwW)).trans HX0.out
            have y1V : V.cell? ⟨w.heap.size, 1, none⟩ = some (.int .i64 xn) := (hbV.cell (by exact hwW)).trans HX1.out
            have q0V : V.cell? ⟨g, off + k * 2, none⟩ = some (.int .u8 xk) := (hbV.cell (by exact hgW)).trans HQ0.out
            have q1V : V.cell? ⟨g, off + k * 2 + 1, none⟩ = some (.int .i64 xn) := (hbV.cell (by exact hgW)).trans HQ1.out
            have hgV : g < V.heap.size := Nat.lt_of_lt_of_le hgW hbV.size
            have hwV : w.heap.size < V.heap.size := Nat.lt_of_lt_of_le hwW hbV.size
            clear hV
            clear y0 y1 q0 q1
            go_wp2_with fail
            go_quiet (fail)
            obtain ⟨U, hU⟩ : ∃ U, U = V.drewN nq := ⟨_, rfl⟩
            rw [← hU]
            have ownU := Ds.own_drewN ownV nq
            rw [← hU] at ownU
            have hbU : Below W.heap.size W U := by rw [hU]; exact hbV.trans ⟨rfl, rfl, rfl, Nat.le_refl _, fun _ _ => rfl⟩
            have y0U : U.cell? ⟨w.heap.size, 0, none⟩ = some (.int .u8 xk) := (hbU.cell (by exact hwW)).trans HX0.out
            have y1U : U.cell? ⟨w.heap.size, 1, none⟩ = some (.int .i64 xn) := (hbU.cell (by exact hwW)).trans HX1.out
            have q0U : U.cell? ⟨g, off + k * 2, none⟩ = some (.int .u8 xk) := (hbU.cell (by exact hgW)).trans HQ0.out
            have q1U : U.cell? ⟨g, off + k * 2 + 1, none⟩ = some (.int .i64 xn) := (hbU.cell (by exact hgW)).trans HQ1.out
            have hgU : g < U.heap.size := Nat.lt_of_lt_of_le hgW hbU.size
            have hwU : w.heap.size < U.heap.size := Nat.lt_of_lt_of_le hwW hbU.size
            clear hU
            clear y0V y1V q0V q1V
            go_wp2_with (at_builtin; refine wpList_append_own _ rfl (.tmp 34) (.tmp 39) 31 rfl W.heap.size 30 i0 (.agg #[.int .u8 0, .int .i64 0]) 2 16 Tryz.underlying31 hi hz0 hz1 hz2 rfl (by decide) _ _ _ rfl (ownU.alloc _) ⟨U.heap.size, 0, none⟩ 1 1 [.int .u8 xk, .int .i64 xn] rfl rfl (new_two U _ _ _ _ rfl) (one_kn _ _) (by unfold maxLen; omega) (by omega) (by have := hbU.size; simp; omega) ?_; intro v3 w3 own3 hgrow _; have hbw3 := Ds.below_grown (w := W) hbU ownU hgrow; clear hgrow)
            go_roundw
            case rel => exact ⟨k + 1, m + 1, true, X ++ [G], by omega, by rw [List.length_append, ← HM.out]; rfl, HN.out, rfl, by go_num, by rw [sgC_snoc, ← HXK.out, ← HXN.out]; exact own3, hbw3⟩
            case measure => simp [intOf]; omega
          · have e3 : (xn == sn) = false := by rw [beq_eq_false_iff_ne]; exact e2
            have e4 : decide (xn = sn) = false := decide_eq_false e2
            go_wp2_with fail
            go_quiet (fail)
            obtain ⟨V, hV⟩ : ∃ V, V = wr.drewN nq := ⟨_, rfl⟩
            rw [← hV]
            have ownV := Ds.own_drewN hown nq
            rw [← hV] at ownV
            have hbV : Below W.heap.size W V := by rw [hV]; exact hb.trans ⟨rfl, rfl, rfl, Nat.le_refl _, fun _ _ => rfl⟩
            have y0V : V.cell? ⟨w.heap.size, 0, none⟩ = some (.int .u8 xk) := (hbV.cell (by exact hwW)).trans HX0.out
            have y1V : V.cell? ⟨w.heap.size, 1, none⟩ = some (.int .i64 sn) := (hbV.cell (by exact hwW)).trans HX1.out
            have q0V : V.cell? ⟨g, off + k * 2, none⟩ = some (.int .u8 xk) := (hbV.cell (by exact hgW)).trans HQ0.out
            have q1V : V.cell? ⟨g, off + k * 2 + 1, none⟩ = some (.int .i64 xn) := (hbV.cell (by exact hgW)).trans HQ1.out
            have hgV : g < V.heap.size := Nat.lt_of_lt_of_le hgW hbV.size
            have hwV : w.heap.size < V.heap.size := Nat.lt_of_lt_of_le hwW hbV.size
            clear hV
            clear y0 y1 q0 q1
            go_wp2_with fail
            go_quiet (fail)
            obtain ⟨U, hU⟩ : ∃ U, U = V.drewN nq := ⟨_, rfl⟩
            rw [← hU]
            have ownU := Ds.own_drewN ownV nq
            rw [← hU] at ownU
            have hbU : Below W.heap.size W U := by rw [hU]; exact hbV.trans ⟨rfl, rfl, rfl, Nat.le_refl _, fun _ _ => rfl⟩
            have y0U : U.cell? ⟨w.heap.size, 0, none⟩ = some (.int .u8 xk) := (hbU.cell (by exact hwW)).trans HX0.out
            have y1U : U.cell? ⟨w.heap.size, 1, none⟩ = some (.int .i64 sn) := (hbU.cell (by exact hwW)).trans HX1.out
            have q0U : U.cell? ⟨g, off + k * 2, none⟩ = some (.int .u8 xk) := (hbU.cell (by exact hgW)).trans HQ0.out
            have q1U : U.cell? ⟨g, off + k * 2 + 1, none⟩ = some (.int .i64 xn) := (hbU.cell (by exact hgW)).trans HQ1.out
            have hgU : g < U.heap.size := Nat.lt_of_lt_of_le hgW hbU.size
            have hwU : w.heap.size < U.heap.size := Nat.lt_of_lt_of_le hwW hbU.size
            clear hU
            clear y0V y1V q0V q1V
            go_wp2_with (at_builtin; refine wpList_append_own _ rfl (.tmp 34) (.tmp 39) 31 rfl W.heap.size 30 i0 (.agg #[.int .u8 0, .int .i64 0]) 2 16 Tryz.underlying31 hi hz0 hz1 hz2 rfl (by decide) _ _ _ rfl (ownU.alloc _) ⟨U.heap.size, 0, none⟩ 1 1 [.int .u8 xk, .int .i64 xn] rfl rfl (new_two U _ _ _ _ rfl) (one_kn _ _) (by unfold maxLen; omega) (by omega) (by have := hbU.size; simp; omega) ?_; intro v3 w3 own3 hgrow _; have hbw3 := Ds.below_grown (w := W) hbU ownU hgrow; clear hgrow)
            go_roundw
            case rel => exact ⟨k + 1, m + 1, true, X ++ [G], by omega, by rw [List.length_append, ← HM.out]; rfl, HN.out, rfl, by go_num, by rw [sgC_snoc, ← HXK.out, ← HXN.out]; exact own3, hbw3⟩
            case measure => simp [intOf]; omega
        · have e3 : (xk == sk) = false := by rw [beq_eq_false_iff_ne]; exact e1
          have e4 : decide (xk = sk) = false := decide_eq_false e1
          go_wp2_with fail
          go_quiet (fail)
          obtain ⟨V, hV⟩ : ∃ V, V = wr.drewN nq := ⟨_, rfl⟩
          rw [← hV]
          have ownV := Ds.own_drewN hown nq
          rw [← hV] at ownV
          have hbV : Below W.heap.size W V := by rw [hV]; exact hb.trans ⟨rfl, rfl, rfl, Nat.le_refl _, fun _ _ => rfl⟩
          have y0V : V.cell? ⟨w.heap.size, 0, none⟩ = some (.int .u8 sk) := (hbV.cell (by exact hwW)).trans HX0.out
          have y1V : V.cell? ⟨w.heap.size, 1, none⟩ = some (.int .i64 sn) := (hbV.cell (by exact hwW)).trans HX1.out
          have q0V : V.cell? ⟨g, off + k * 2, none⟩ = some (.int .u8 xk) := (hbV.cell (by exact hgW)).trans HQ0.out
          have q1V : V.cell? ⟨g, off + k * 2 + 1, none⟩ = some (.int .i64 xn) := (hbV.cell (by exact hgW)).trans HQ1.out
          have hgV : g < V.heap.size := Nat.lt_of_lt_of_le hgW hbV.size
          have hwV : w.heap.size < V.heap.size := Nat.lt_of_lt_of_le hwW hbV.size
          clear hV
          clear y0 y1 q0 q1
          go_wp2_with fail
          go_quiet (fail)
          obtain ⟨U, hU⟩ : ∃ U, U = V.drewN nq := ⟨_, rfl⟩
          rw [← hU]
          have ownU := Ds.own_drewN ownV nq
          rw [← hU] at ownU
          have hbU : Below W.heap.size W U := by rw [hU]; exact hbV.trans ⟨rfl, rfl, rfl, Nat.le_refl _, fun _ _ => rfl⟩
          have y0U : U.cell? ⟨w.heap.size, 0, none⟩ = some (.int .u8 sk) := (hbU.cell (by exact hwW)).trans HX0.out
          have y1U : U.cell? ⟨w.heap.size, 1, none⟩ = some (.int .i64 sn) := (hbU.cell (by exact hwW)).trans HX1.out
          have q0U : U.cell? ⟨g, off + k * 2, none⟩ = some (.int .u8 xk) := (hbU.cell (by exact hgW)).trans HQ0.out
          have q1U : U.cell? ⟨g, off + k * 2 + 1, none⟩ = some (.int .i64 xn) := (hbU.cell (by exact hgW)).trans HQ1.out
          have hgU : g < U.heap.size := Nat.lt_of_lt_of_le hgW hbU.size
          have hwU : w.heap.size < U.heap.size := Nat.lt_of_lt_of_le hwW hbU.size
          clear hU
          clear y0V y1V q0V q1V
          go_wp2_with (at_builtin; refine wpList_append_own _ rfl (.tmp 34) (.tmp 39) 31 rfl W.heap.size 30 i0 (.agg #[.int .u8 0, .int .i64 0]) 2 16 Tryz.underlying31 hi hz0 hz1 hz2 rfl (by decide) _ _ _ rfl (ownU.alloc _) ⟨U.heap.size, 0, none⟩ 1 1 [.int .u8 xk, .int .i64 xn] rfl rfl (new_two U _ _ _ _ rfl) (one_kn _ _) (by unfold maxLen; omega) (by omega) (by have := hbU.size; simp; omega) ?_; intro v3 w3 own3 hgrow _; have hbw3 := Ds.below_grown (w := W) hbU ownU hgrow; clear hgrow)
          go_roundw
          case rel => exact ⟨k + 1, m + 1, true, X ++ [G], by omega, by rw [List.length_append, ← HM.out]; rfl, HN.out, rfl, by go_num, by rw [sgC_snoc, ← HXK.out, ← HXN.out]; exact own3, hbw3⟩
          case measure => simp [intOf]; omega
      | false =>
        by_cases hEq : L[k] = s
        · have HN := Lib.hid (HP.out.same hlk' (fun r => by rw [hEq]; exact putS_eq s r))
          clear HP
          generalize L[k] = G at *
          obtain ⟨xk, hxk⟩ : ∃ xk : Int, xk = (G.k.toNat : Nat) := ⟨_, rfl⟩
          obtain ⟨xn, hxn⟩ : ∃ xn : Int, xn = G.n := ⟨_, rfl⟩
          rw [← hxk] at q0 HQ0
          rw [← hxn] at q1 HQ1
          have HXK := Lib.hid hxk
          have HXN := Lib.hid hxn
          have e1 : xk = sk := by rw [HXK.out, HSK.out, hEq]
          have e2 : xn = sn := by rw [HXN.out, HSN.out, hEq]
          clear hxk hxn HAH hEq
          subst e1 e2
          go_wp2_with fail
          go_quiet (fail)
          obtain ⟨V, hV⟩ : ∃ V, V = wr.drewN nq := ⟨_, rfl⟩
          rw [← hV]
          have ownV := Ds.own_drewN hown nq
          rw [← hV] at ownV
          have hbV : Below W.heap.size W V := by rw [hV]; exact hb.trans ⟨rfl, rfl, rfl, Nat.le_refl _, fun _ _ => rfl⟩
          have y0V : V.cell? ⟨w.heap.size, 0, none⟩ = some (.int .u8 xk) := (hbV.cell (by exact hwW)).trans HX0.out
          have y1V : V.cell? ⟨w.heap.size, 1, none⟩ = some (.int .i64 xn) := (hbV.cell (by exact hwW)).trans HX1.out
          have q0V : V.cell? ⟨g, off + k * 2, none⟩ = some (.int .u8 xk) := (hbV.cell (by exact hgW)).trans HQ0.out
          have q1V : V.cell? ⟨g, off + k * 2 + 1, none⟩ = some (.int .i64 xn) := (hbV.cell (by exact hgW)).trans HQ1.out
          have hgV : g < V.heap.size := Nat.lt_of_lt_of_le hgW hbV.size
          have hwV : w.heap.size < V.heap.size := Nat.lt_of_lt_of_le hwW hbV.size
          clear hV
          clear y0 y1 q0 q1
          go_wp2_with fail
          go_quiet (fail)
          obtain ⟨U, hU⟩ : ∃ U, U = V.drewN nq := ⟨_, rfl⟩
          rw [← hU]
          have ownU := Ds.own_drewN ownV nq
          rw [← hU] at ownU
          have hbU : Below W.heap.size W U := by rw [hU]; exact hbV.trans ⟨rfl, rfl, rfl, Nat.le_refl _, fun _ _ => rfl⟩
          have y0U : U.cell? ⟨w.heap.size, 0, none⟩ = some (.int .u8 xk) := (hbU.cell (by exact hwW)).trans HX0.out
          have y1U : U.cell? ⟨w.heap.size, 1, none⟩ = some (.int .i64 xn) := (hbU.cell (by exact hwW)).trans HX1.out
          have q0U : U.cell? ⟨g, off + k * 2, none⟩ = some (.int .u8 xk) := (hbU.cell (by exact hgW)).trans HQ0.out
          have q1U : U.cell? ⟨g, off + k * 2 + 1, none⟩ = some (.int .i64 xn) := (hbU.cell (by exact hgW)).trans HQ1.out
          have hgU : g < U.heap.size := Nat.lt_of_lt_of_le hgW hbU.size
          have hwU : w.heap.size < U.heap.size := Nat.lt_of_lt_of_le hwW hbU.size
          clear hU
          clear y0V y1V q0V q1V
          go_wp2_with (at_builtin; refine wpList_append_own _ rfl (.tmp 34) (.tmp 39) 31 rfl W.heap.size 30 i0 (.agg #[.int .u8 0, .int .i64 0]) 2 16 Tryz.underlying31 hi hz0 hz1 hz2 rfl (by decide) _ _ _ rfl (ownU.alloc _) ⟨U.heap.size, 0, none⟩ 1 1 [.int .u8 xk, .int .i64 xn] rfl rfl (new_two U _ _ _ _ rfl) (one_kn _ _) (by unfold maxLen; omega) (by omega) (by have := hbU.size; simp; omega) ?_; intro v3 w3 own3 hgrow _; have hbw3 := Ds.below_grown (w := W) hbU ownU hgrow; clear hgrow)
          go_roundw
          case rel => exact ⟨k + 1, m + 1, true, X ++ [G], by omega, by rw [List.length_append, ← HM.out]; rfl, HN.out, rfl, by go_num, by rw [sgC_snoc, ← HXK.out, ← HXN.out]; exact own3, hbw3⟩
          case measure => simp [intOf]; omega
        have HNE0 := Lib.hid hEq
        by_cases hLt : lt s L[k] = true
        · have HN := Lib.hid (HP.out.here hlk' (fun r => putS_lt hLt r))
          have AH0 := HAH.out L[k]
          rw [hLt] at AH0
          clear HP hEq hLt
          generalize L[k] = G at *
          obtain ⟨xk, hxk⟩ : ∃ xk : Int, xk = (G.k.toNat : Nat) := ⟨_, rfl⟩
          obtain ⟨xn, hxn⟩ : ∃ xn : Int, xn = G.n := ⟨_, rfl⟩
          rw [← hxk] at q0 HQ0
          rw [← hxn] at q1 HQ1
          have HXK := Lib.hid hxk
          have HXN := Lib.hid hxn
          rw [← hxk, ← hxn] at AH0
          have AH := Lib.hid AH0
          have HNE := Lib.hid (show ¬ (xk = sk ∧ xn = sn) from fun h => HNE0.out (sg_ext (UInt8.toNat_inj.1 (by have h1 := h.1; rw [HXK.out, HSK.out] at h1; omega)) (by rw [← HXN.out, ← HSN.out]; exact h.2)))
          clear hxk hxn HAH AH0 HNE0
          by_cases e1 : xk = sk
          · have e2 : ¬ xn = sn := fun e2 => HNE.out ⟨e1, e2⟩
            subst e1
            have e3 : (xn == sn) = false := by rw [beq_eq_false_iff_ne]; exact e2
            have e4 : decide (xn = sn) = false := decide_eq_false e2
            go_wp2_with fail
            go_quiet (fail)
            obtain ⟨V, hV⟩ : ∃ V, V = wr.drewN nq := ⟨_, rfl⟩
            rw [← hV]
            have ownV := Ds.own_drewN hown nq
            rw [← hV] at ownV
            have hbV : Below W.heap.size W V := by rw [hV]; exact hb.trans ⟨rfl, rfl, rfl, Nat.le_refl _, fun _ _ => rfl⟩
            have y0V : V.cell? ⟨w.heap.size, 0, none⟩ = some (.int .u8 xk) := (hbV.cell (by exact hwW)).trans HX0.out
            have y1V : V.cell? ⟨w.heap.size, 1, none⟩ = some (.int .i64 sn) := (hbV.cell (by exact hwW)).trans HX1.out
            have q0V : V.cell? ⟨g, off + k * 2, none⟩ = some (.int .u8 xk) := (hbV.cell (by exact hgW)).trans HQ0.out
            have q1V : V.cell? ⟨g, off + k * 2 + 1, none⟩ = some (.int .i64 xn) := (hbV.cell (by exact hgW)).trans HQ1.out
            have hgV : g < V.heap.size := Nat.lt_of_lt_of_le hgW hbV.size
            have hwV : w.heap.size < V.heap.size := Nat.lt_of_lt_of_le hwW hbV.size
            clear hV
            clear y0 y1 q0 q1
            go_wp2_with fail
            refine wp_region_noPanic ?_
            refine wp_region_held_drew (S := fun w' => Below V.heap.size V w' ∧ w'.cell? ⟨w.heap.size, 0, none⟩ = some (.int .u8 xk) ∧ w'.cell? ⟨w.heap.size, 1, none⟩ = some (.int .i64 sn) ∧ w'.cell? ⟨g, off + k * 2, none⟩ = some (.int .u8 xk) ∧ w'.cell? ⟨g, off + k * 2 + 1, none⟩ = some (.int .i64 xn)) (by kernel_rfl) ⟨below_draw, y0V, y1V, q0V, q1V⟩ (fun hS => ?_)
            refine wpAnyH_take (i := 0) (v := ?_) rfl (by kernel_rfl) (by kernel_rfl) (by kernel_rfl) (fun _ _ _ h => h) (Or.inl ⟨by rfl, ?_⟩) hS ?_
            rotate_left
            · intro wx hSx
              try dsimp only at hSx
              go_simp
              try with_reducible rfl
            simp only [Act.put, List.getElem_toArray, List.getElem_cons_zero, List.setIfInBounds_toArray, List.set_cons_zero, List.set_cons_succ]
            refine wpAnyH_take (i := 1) (v := ?_) rfl (by kernel_rfl) (by kernel_rfl) (by kernel_rfl) (fun _ _ _ h => h) (Or.inl ⟨by rfl, ?_⟩) hS ?_
            rotate_left
            · intro wx hSx
              try dsimp only at hSx
              go_simp
              try with_reducible rfl
            simp only [Act.put, List.getElem_toArray, List.getElem_cons_zero, List.getElem_cons_succ, List.setIfInBounds_toArray, List.set_cons_zero, List.set_cons_succ]
            refine wpAnyH_take (i := 2) (v := ?_) rfl (by kernel_rfl) (by kernel_rfl) (by kernel_rfl) (fun _ _ _ h => h) (Or.inl ⟨by rfl, ?_⟩) hS ?_
            rotate_left
            · intro wx hSx
              try dsimp only at hSx
              go_simp
              try with_reducible rfl
            simp only [Act.put, List.getElem_toArray, List.getElem_cons_zero, List.getElem_cons_succ, List.setIfInBounds_toArray, List.set_cons_zero, List.set_cons_succ]
            refine wpAnyH_take (i := 3) (v := ?_) rfl (by kernel_rfl) (by kernel_rfl) (by kernel_rfl) (fun _ _ _ h => h) (Or.inl ⟨by rfl, ?_⟩) hS ?_
            rotate_left
            · intro wx hSx
              try dsimp only at hSx
              go_simp
              try with_reducible rfl
            simp only [Act.put, List.getElem_toArray, List.getElem_cons_zero, List.getElem_cons_succ, List.setIfInBounds_toArray, List.set_cons_zero, List.set_cons_succ]
            refine wpAnyH_take (i := 4) (v := ?_) rfl (by kernel_rfl) (by kernel_rfl) (by kernel_rfl) (fun _ _ _ h => h) (Or.inl ⟨by rfl, ?_⟩) hS ?_
            rotate_left
            · intro wx hSx
              try dsimp only at hSx
              go_simp
              try with_reducible rfl
            simp only [Act.put, List.getElem_toArray, List.getElem_cons_zero, List.getElem_cons_succ, List.setIfInBounds_toArray, List.set_cons_zero, List.set_cons_succ]
            refine wpAnyH_take (i := 5) (v := ?_) rfl (by kernel_rfl) (by kernel_rfl) (by kernel_rfl) (fun _ _ _ h => h) (Or.inl ⟨by rfl, ?_⟩) hS ?_
            rotate_left
            · intro wx hSx
              try dsimp only at hSx
              go_simp
              try with_reducible rfl
            simp only [Act.put, List.getElem_toArray, List.getElem_cons_zero, List.getElem_cons_succ, List.setIfInBounds_toArray, List.set_cons_zero, List.set_cons_succ]
            refine wpAnyH_take (i := 6) (v := ?_) rfl (by kernel_rfl) (by kernel_rfl) (by kernel_rfl) (fun _ _ _ h => h) (Or.inl ⟨by rfl, ?_⟩) hS ?_
            rotate_left
            · intro wx hSx
              try dsimp only at hSx
              go_simp
              try with_reducible rfl
            simp only [Act.put, List.getElem_toArray, List.getElem_cons_zero, List.getElem_cons_succ, List.setIfInBounds_toArray, List.set_cons_zero, List.set_cons_succ]
            refine wpAnyH_take (i := 7) (v := ?_) rfl (by kernel_rfl) (by kernel_rfl) (by kernel_rfl) (fun _ _ _ h => h) (Or.inl ⟨by rfl, ?_⟩) hS ?_
            rotate_left
            · intro wx hSx
              try dsimp only at hSx
              go_simp
              try with_reducible rfl
            simp only [Act.put, List.getElem_toArray, List.getElem_cons_zero, List.getElem_cons_succ, List.setIfInBounds_toArray, List.set_cons_zero, List.set_cons_succ]
            refine wpAnyH_ready (rs := [8]) (by kernel_rfl) (by simp) ?_
            refine AllReadyH.cons rfl (fun K hK => ?_) AllReadyH.nil
            simp only [List.getElem_toArray, List.getElem_cons_zero, List.getElem_cons_succ]
            go_simp
            refine (AH.out _).mono ?_
            rintro e w2 ⟨rfl, hbA⟩
            refine hK.out _ _ ⟨(hS.1).trans ((hbA).mono (hS.1).size), ((hbA).cell (Ds.cell_lt hS.2.1)).trans hS.2.1, ((hbA).cell (Ds.cell_lt hS.2.2.1)).trans hS.2.2.1, ((hbA).cell (Ds.cell_lt hS.2.2.2.1)).trans hS.2.2.2.1, ((hbA).cell (Ds.cell_lt hS.2.2.2.2)).trans hS.2.2.2.2⟩ (fun hS1 => ?_)
            clear hK
            refine wpAnyH_take (i := 9) (v := ?_) rfl (by kernel_rfl) (by kernel_rfl) (by kernel_rfl) (fun _ _ _ h => h) (Or.inl ⟨by rfl, ?_⟩) hS1 ?_
            rotate_left
            · intro wx hSx
              try dsimp only at hSx
              go_simp
              try with_reducible rfl
            simp only [Act.put, List.getElem_toArray, List.getElem_cons_zero, List.getElem_cons_succ, List.setIfInBounds_toArray, List.set_cons_zero, List.set_cons_succ]
            refine wpAnyH_done (by kernel_rfl) ?_ _
            refine NoPanic.normal ?_
            obtain ⟨hbA2, z0, z1, p0, p1⟩ := hS1
            have own2 := ownsRow_below' ownV hbA2
            have hbw2 : Below W.heap.size W w2 := keepW hbV hbA2
            have hg2 : g < w2.heap.size := Nat.lt_of_lt_of_le hgV hbA2.size
            have hw2 : w.heap.size < w2.heap.size := Nat.lt_of_lt_of_le hwV hbA2.size
            clear hbA y0V y1V q0V q1V hbA2
            go_wp2_with (first | (at_builtin; refine wpList_append_own _ rfl (.tmp 30) (.tmp 32) 31 rfl W.heap.size 30 i0 (.agg #[.int .u8 0, .int .i64 0]) 2 16 Tryz.underlying31 hi hz0 hz1 hz2 rfl (by decide) _ _ _ rfl (own2.alloc _) ⟨w2.heap.size, 0, none⟩ 1 1 [.int .u8 xk, .int .i64 sn] rfl rfl (new_two w2 _ _ _ _ rfl) (one_kn _ _) (by unfold maxLen; omega) (by omega) (by have := hbw2.size; simp; omega) ?_; intro v3 w3 own3 hgrow _; have hbw3 := Ds.below_grown (w := W) hbw2 own2 hgrow; clear hgrow; have r0 := (hbw3.cell (by exact hgW)).trans HQ0.out; have r1 := (hbw3.cell (by exact hgW)).trans HQ1.out; have hg3 : g < w3.heap.size := Nat.lt_of_lt_of_le hgW hbw3.size) | (at_builtin; refine wpList_append_own _ rfl (.tmp 34) (.tmp 39) 31 rfl W.heap.size 30 i0 (.agg #[.int .u8 0, .int .i64 0]) 2 16 Tryz.underlying31 hi hz0 hz1 hz2 rfl (by decide) _ _ _ rfl (own3.alloc _) ⟨w3.heap.size, 0, none⟩ 1 1 [.int .u8 xk, .int .i64 xn] rfl rfl (new_two w3 _ _ _ _ rfl) (one_kn _ _) (by unfold maxLen; omega) (by omega) (by have := hbw3.size; simp; omega) ?_; intro v4 w4 own4 hgrow _; have hbw4 := Ds.below_grown (w := W) hbw3 own3 hgrow; clear hgrow))
            go_roundw
            case rel => exact ⟨k + 1, m + 1 + 1, true, X ++ [s] ++ [G], by omega, by rw [List.length_append, List.length_append, ← HM.out]; rfl, HN.out, rfl, by go_num, by rw [sgC_snoc, sgC_snoc, ← HXK.out, ← HXN.out, ← HSK.out, ← HSN.out]; exact own4, hbw4⟩
            case measure => simp [intOf]; omega
          · have e3 : (xk == sk) = false := by rw [beq_eq_false_iff_ne]; exact e1
            have e4 : decide (xk = sk) = false := decide_eq_false e1
            go_wp2_with fail
            go_quiet (fail)
            obtain ⟨V, hV⟩ : ∃ V, V = wr.drewN nq := ⟨_, rfl⟩
            rw [← hV]
            have ownV := Ds.own_drewN hown nq
            rw [← hV] at ownV
            have hbV : Below W.heap.size W V := by rw [hV]; exact hb.trans ⟨rfl, rfl, rfl, Nat.le_refl _, fun _ _ => rfl⟩
            have y0V : V.cell? ⟨w.heap.size, 0, none⟩ = some (.int .u8 sk) := (hbV.cell (by exact hwW)).trans HX0.out
            have y1V : V.cell? ⟨w.heap.size, 1, none⟩ = some (.int .i64 sn) := (hbV.cell (by exact hwW)).trans HX1.out
            have q0V : V.cell? ⟨g, off + k * 2, none⟩ = some (.int .u8 xk) := (hbV.cell (by exact hgW)).trans HQ0.out
            have q1V : V.cell? ⟨g, off + k * 2 + 1, none⟩ = some (.int .i64 xn) := (hbV.cell (by exact hgW)).trans HQ1.out
            have hgV : g < V.heap.size := Nat.lt_of_lt_of_le hgW hbV.size
            have hwV : w.heap.size < V.heap.size := Nat.lt_of_lt_of_le hwW hbV.size
            clear hV
            clear y0 y1 q0 q1
            go_wp2_with fail
            refine wp_region_noPanic ?_
            refine wp_region_held_drew (S := fun w' => Below V.heap.size V w' ∧ w'.cell? ⟨w.heap.size, 0, none⟩ = some (.int .u8 sk) ∧ w'.cell? ⟨w.heap.size, 1, none⟩ = some (.int .i64 sn) ∧ w'.cell? ⟨g, off + k * 2, none⟩ = some (.int .u8 xk) ∧ w'.cell? ⟨g, off + k * 2 + 1, none⟩ = some (.int .i64 xn)) (by kernel_rfl) ⟨below_draw, y0V, y1V, q0V, q1V⟩ (fun hS => ?_)
            refine wpAnyH_take (i := 0) (v := ?_) rfl (by kernel_rfl) (by kernel_rfl) (by kernel_rfl) (fun _ _ _ h => h) (Or.inl ⟨by rfl, ?_⟩) hS ?_
            rotate_left
            · intro wx hSx
              try dsimp only at hSx
              go_simp
              try with_reducible rfl
            simp only [Act.put, List.getElem_toArray, List.getElem_cons_zero, List.setIfInBounds_toArray, List.set_cons_zero, List.set_cons_succ]
            refine wpAnyH_take (i := 1) (v := ?_) rfl (by kernel_rfl) (by kernel_rfl) (by kernel_rfl) (fun _ _ _ h => h) (Or.inl ⟨by rfl, ?_⟩) hS ?_
            rotate_left
            · intro wx hSx
              try dsimp only at hSx
              go_simp
              try with_reducible rfl
            simp only [Act.put, List.getElem_toArray, List.getElem_cons_zero, List.getElem_cons_succ, List.setIfInBounds_toArray, List.set_cons_zero, List.set_cons_succ]
            refine wpAnyH_take (i := 2) (v := ?_) rfl (by kernel_rfl) (by kernel_rfl) (by kernel_rfl) (fun _ _ _ h => h) (Or.inl ⟨by rfl, ?_⟩) hS ?_
            rotate_left
            · intro wx hSx
              try dsimp only at hSx
              go_simp
              try with_reducible rfl
            simp only [Act.put, List.getElem_toArray, List.getElem_cons_zero, List.getElem_cons_succ, List.setIfInBounds_toArray, List.set_cons_zero, List.set_cons_succ]
            refine wpAnyH_take (i := 3) (v := ?_) rfl (by kernel_rfl) (by kernel_rfl) (by kernel_rfl) (fun _ _ _ h => h) (Or.inl ⟨by rfl, ?_⟩) hS ?_
            rotate_left
            · intro wx hSx
              try dsimp only at hSx
              go_simp
              try with_reducible rfl
            simp only [Act.put, List.getElem_toArray, List.getElem_cons_zero, List.getElem_cons_succ, List.setIfInBounds_toArray, List.set_cons_zero, List.set_cons_succ]
            refine wpAnyH_take (i := 4) (v := ?_) rfl (by kernel_rfl) (by kernel_rfl) (by kernel_rfl) (fun _ _ _ h => h) (Or.inl ⟨by rfl, ?_⟩) hS ?_
            rotate_left
            · intro wx hSx
              try dsimp only at hSx
              go_simp
              try with_reducible rfl
            simp only [Act.put, List.getElem_toArray, List.getElem_cons_zero, List.getElem_cons_succ, List.setIfInBounds_toArray, List.set_cons_zero, List.set_cons_succ]
            refine wpAnyH_take (i := 5) (v := ?_) rfl (by kernel_rfl) (by kernel_rfl) (by kernel_rfl) (fun _ _ _ h => h) (Or.inl ⟨by rfl, ?_⟩) hS ?_
            rotate_left
            · intro wx hSx
              try dsimp only at hSx
              go_simp
              try with_reducible rfl
            simp only [Act.put, List.getElem_toArray, List.getElem_cons_zero, List.getElem_cons_succ, List.setIfInBounds_toArray, List.set_cons_zero, List.set_cons_succ]
            refine wpAnyH_take (i := 6) (v := ?_) rfl (by kernel_rfl) (by kernel_rfl) (by kernel_rfl) (fun _ _ _ h => h) (Or.inl ⟨by rfl, ?_⟩) hS ?_
            rotate_left
            · intro wx hSx
              try dsimp only at hSx
              go_simp
              try with_reducible rfl
            simp only [Act.put, List.getElem_toArray, List.getElem_cons_zero, List.getElem_cons_succ, List.setIfInBounds_toArray, List.set_cons_zero, List.set_cons_succ]
            refine wpAnyH_take (i := 7) (v := ?_) rfl (by kernel_rfl) (by kernel_rfl) (by kernel_rfl) (fun _ _ _ h => h) (Or.inl ⟨by rfl, ?_⟩) hS ?_
            rotate_left
            · intro wx hSx
              try dsimp only at hSx
              go_simp
              try with_reducible rfl
            simp only [Act.put, List.getElem_toArray, List.getElem_cons_zero, List.getElem_cons_succ, List.setIfInBounds_toArray, List.set_cons_zero, List.set_cons_succ]
            refine wpAnyH_ready (rs := [8]) (by kernel_rfl) (by simp) ?_
            refine AllReadyH.cons rfl (fun K hK => ?_) AllReadyH.nil
            simp only [List.getElem_toArray, List.getElem_cons_zero, List.getElem_cons_succ]
            go_simp
            refine (AH.out _).mono ?_
            rintro e w2 ⟨rfl, hbA⟩
            refine hK.out _ _ ⟨(hS.1).trans ((hbA).mono (hS.1).size), ((hbA).cell (Ds.cell_lt hS.2.1)).trans hS.2.1, ((hbA).cell (Ds.cell_lt hS.2.2.1)).trans hS.2.2.1, ((hbA).cell (Ds.cell_lt hS.2.2.2.1)).trans hS.2.2.2.1, ((hbA).cell (Ds.cell_lt hS.2.2.2.2)).trans hS.2.2.2.2⟩ (fun hS1 => ?_)
            clear hK
            refine wpAnyH_take (i := 9) (v := ?_) rfl (by kernel_rfl) (by kernel_rfl) (by kernel_rfl) (fun _ _ _ h => h) (Or.inl ⟨by rfl, ?_⟩) hS1 ?_
            rotate_left
            · intro wx hSx
              try dsimp only at hSx
              go_simp
              try with_reducible rfl
            simp only [Act.put, List.getElem_toArray, List.getElem_cons_zero, List.getElem_cons_succ, List.setIfInBounds_toArray, List.set_cons_zero, List.set_cons_succ]
            refine wpAnyH_done (by kernel_rfl) ?_ _
            refine NoPanic.normal ?_
            obtain ⟨hbA2, z0, z1, p0, p1⟩ := hS1
            have own2 := ownsRow_below' ownV hbA2
            have hbw2 : Below W.heap.size W w2 := keepW hbV hbA2
            have hg2 : g < w2.heap.size := Nat.lt_of_lt_of_le hgV hbA2.size
            have hw2 : w.heap.size < w2.heap.size := Nat.lt_of_lt_of_le hwV hbA2.size
            clear hbA y0V y1V q0V q1V hbA2
            go_wp2_with (first | (at_builtin; refine wpList_append_own _ rfl (.tmp 30) (.tmp 32) 31 rfl W.heap.size 30 i0 (.agg #[.int .u8 0, .int .i64 0]) 2 16 Tryz.underlying31 hi hz0 hz1 hz2 rfl (by decide) _ _ _ rfl (own2.alloc _) ⟨w2.heap.size, 0, none⟩ 1 1 [.int .u8 sk, .int .i64 sn] rfl rfl (new_two w2 _ _ _ _ rfl) (one_kn _ _) (by unfold maxLen; omega) (by omega) (by have := hbw2.size; simp; omega) ?_; intro v3 w3 own3 hgrow _; have hbw3 := Ds.below_grown (w := W) hbw2 own2 hgrow; clear hgrow; have r0 := (hbw3.cell (by exact hgW)).trans HQ0.out; have r1 := (hbw3.cell (by exact hgW)).trans HQ1.out; have hg3 : g < w3.heap.size := Nat.lt_of_lt_of_le hgW hbw3.size) | (at_builtin; refine wpList_append_own _ rfl (.tmp 34) (.tmp 39) 31 rfl W.heap.size 30 i0 (.agg #[.int .u8 0, .int .i64 0]) 2 16 Tryz.underlying31 hi hz0 hz1 hz2 rfl (by decide) _ _ _ rfl (own3.alloc _) ⟨w3.heap.size, 0, none⟩ 1 1 [.int .u8 xk, .int .i64 xn] rfl rfl (new_two w3 _ _ _ _ rfl) (one_kn _ _) (by unfold maxLen; omega) (by omega) (by have := hbw3.size; simp; omega) ?_; intro v4 w4 own4 hgrow _; have hbw4 := Ds.below_grown (w := W) hbw3 own3 hgrow; clear hgrow))
            go_roundw
            case rel => exact ⟨k + 1, m + 1 + 1, true, X ++ [s] ++ [G], by omega, by rw [List.length_append, List.length_append, ← HM.out]; rfl, HN.out, rfl, by go_num, by rw [sgC_snoc, sgC_snoc, ← HXK.out, ← HXN.out, ← HSK.out, ← HSN.out]; exact own4, hbw4⟩
            case measure => simp [intOf]; omega
        · have hGt : lt L[k] s = true := (lt_total hEq).resolve_right hLt
          have HN := Lib.hid (HP.out.not hlk' (fun r => putS_gt hGt r))
          have AH0 := HAH.out L[k]
          rw [show lt s L[k] = false by simpa using hLt] at AH0
          clear HP hEq hLt hGt
          generalize L[k] = G at *
          obtain ⟨xk, hxk⟩ : ∃ xk : Int, xk = (G.k.toNat : Nat) := ⟨_, rfl⟩
          obtain ⟨xn, hxn⟩ : ∃ xn : Int, xn = G.n := ⟨_, rfl⟩
          rw [← hxk] at q0 HQ0
          rw [← hxn] at q1 HQ1
          have HXK := Lib.hid hxk
          have HXN := Lib.hid hxn
          rw [← hxk, ← hxn] at AH0
          have AH := Lib.hid AH0
          have HNE := Lib.hid (show ¬ (xk = sk ∧ xn = sn) from fun h => HNE0.out (sg_ext (UInt8.toNat_inj.1 (by have h1 := h.1; rw [HXK.out, HSK.out] at h1; omega)) (by rw [← HXN.out, ← HSN.out]; exact h.2)))
          clear hxk hxn HAH AH0 HNE0
          by_cases e1 : xk = sk
          · have e2 : ¬ xn = sn := fun e2 => HNE.out ⟨e1, e2⟩
            subst e1
            have e3 : (xn == sn) = false := by rw [beq_eq_false_iff_ne]; exact e2
            have e4 : decide (xn = sn) = false := decide_eq_false e2
            go_wp2_with fail
            go_quiet (fail)
            obtain ⟨V, hV⟩ : ∃ V, V = wr.drewN nq := ⟨_, rfl⟩
            rw [← hV]
            have ownV := Ds.own_drewN hown nq
            rw [← hV] at ownV
            have hbV : Below W.heap.size W V := by rw [hV]; exact hb.trans ⟨rfl, rfl, rfl, Nat.le_refl _, fun _ _ => rfl⟩
            have y0V : V.cell? ⟨w.heap.size, 0, none⟩ = some (.int .u8 xk) := (hbV.cell (by exact hwW)).trans HX0.out
            have y1V : V.cell? ⟨w.heap.size, 1, none⟩ = some (.int .i64 sn) := (hbV.cell (by exact hwW)).trans HX1.out
            have q0V : V.cell? ⟨g, off + k * 2, none⟩ = some (.int .u8 xk) := (hbV.cell (by exact hgW)).trans HQ0.out
            have q1V : V.cell? ⟨g, off + k * 2 + 1, none⟩ = some (.int .i64 xn) := (hbV.cell (by exact hgW)).trans HQ1.out
            have hgV : g < V.heap.size := Nat.lt_of_lt_of_le hgW hbV.size
            have hwV : w.heap.size < V.heap.size := Nat.lt_of_lt_of_le hwW hbV.size
            clear hV
            clear y0 y1 q0 q1
            go_wp2_with fail
            refine wp_region_noPanic ?_
            refine wp_region_held_drew (S := fun w' => Below V.heap.size V w' ∧ w'.cell? ⟨w.heap.size, 0, none⟩ = some (.int .u8 xk) ∧ w'.cell? ⟨w.heap.size, 1, none⟩ = some (.int .i64 sn) ∧ w'.cell? ⟨g, off + k * 2, none⟩ = some (.int .u8 xk) ∧ w'.cell? ⟨g, off + k * 2 + 1, none⟩ = some (.int .i64 xn)) (by kernel_rfl) ⟨below_draw, y0V, y1V, q0V, q1V⟩ (fun hS => ?_)
            refine wpAnyH_take (i := 0) (v := ?_) rfl (by kernel_rfl) (by kernel_rfl) (by kernel_rfl) (fun _ _ _ h => h) (Or.inl ⟨by rfl, ?_⟩) hS ?_
            rotate_left
            · intro wx hSx
              try dsimp only at hSx
              go_simp
              try with_reducible rfl
            simp only [Act.put, List.getElem_toArray, List.getElem_cons_zero, List.setIfInBounds_toArray, List.set_cons_zero, List.set_cons_succ]
            refine wpAnyH_take (i := 1) (v := ?_) rfl (by kernel_rfl) (by kernel_rfl) (by kernel_rfl) (fun _ _ _ h => h) (Or.inl ⟨by rfl, ?_⟩) hS ?_
            rotate_left
            · intro wx hSx
              try dsimp only at hSx
              go_simp
              try with_reducible rfl
            simp only [Act.put, List.getElem_toArray, List.getElem_cons_zero, List.getElem_cons_succ, List.setIfInBounds_toArray, List.set_cons_zero, List.set_cons_succ]
            refine wpAnyH_take (i := 2) (v := ?_) rfl (by kernel_rfl) (by kernel_rfl) (by kernel_rfl) (fun _ _ _ h => h) (Or.inl ⟨by rfl, ?_⟩) hS ?_
            rotate_left
            · intro wx hSx
              try dsimp only at hSx
              go_simp
              try with_reducible rfl
            simp only [Act.put, List.getElem_toArray, List.getElem_cons_zero, List.getElem_cons_succ, List.setIfInBounds_toArray, List.set_cons_zero, List.set_cons_succ]
            refine wpAnyH_take (i := 3) (v := ?_) rfl (by kernel_rfl) (by kernel_rfl) (by kernel_rfl) (fun _ _ _ h => h) (Or.inl ⟨by rfl, ?_⟩) hS ?_
            rotate_left
            · intro wx hSx
              try dsimp only at hSx
              go_simp
              try with_reducible rfl
            simp only [Act.put, List.getElem_toArray, List.getElem_cons_zero, List.getElem_cons_succ, List.setIfInBounds_toArray, List.set_cons_zero, List.set_cons_succ]
            refine wpAnyH_take (i := 4) (v := ?_) rfl (by kernel_rfl) (by kernel_rfl) (by kernel_rfl) (fun _ _ _ h => h) (Or.inl ⟨by rfl, ?_⟩) hS ?_
            rotate_left
            · intro wx hSx
              try dsimp only at hSx
              go_simp
              try with_reducible rfl
            simp only [Act.put, List.getElem_toArray, List.getElem_cons_zero, List.getElem_cons_succ, List.setIfInBounds_toArray, List.set_cons_zero, List.set_cons_succ]
            refine wpAnyH_take (i := 5) (v := ?_) rfl (by kernel_rfl) (by kernel_rfl) (by kernel_rfl) (fun _ _ _ h => h) (Or.inl ⟨by rfl, ?_⟩) hS ?_
            rotate_left
            · intro wx hSx
              try dsimp only at hSx
              go_simp
              try with_reducible rfl
            simp only [Act.put, List.getElem_toArray, List.getElem_cons_zero, List.getElem_cons_succ, List.setIfInBounds_toArray, List.set_cons_zero, List.set_cons_succ]
            refine wpAnyH_take (i := 6) (v := ?_) rfl (by kernel_rfl) (by kernel_rfl) (by kernel_rfl) (fun _ _ _ h => h) (Or.inl ⟨by rfl, ?_⟩) hS ?_
            rotate_left
            · intro wx hSx
              try dsimp only at hSx
              go_simp
              try with_reducible rfl
            simp only [Act.put, List.getElem_toArray, List.getElem_cons_zero, List.getElem_cons_succ, List.setIfInBounds_toArray, List.set_cons_zero, List.set_cons_succ]
            refine wpAnyH_take (i := 7) (v := ?_) rfl (by kernel_rfl) (by kernel_rfl) (by kernel_rfl) (fun _ _ _ h => h) (Or.inl ⟨by rfl, ?_⟩) hS ?_
            rotate_left
            · intro wx hSx
              try dsimp only at hSx
              go_simp
              try with_reducible rfl
            simp only [Act.put, List.getElem_toArray, List.getElem_cons_zero, List.getElem_cons_succ, List.setIfInBounds_toArray, List.set_cons_zero, List.set_cons_succ]
            refine wpAnyH_ready (rs := [8]) (by kernel_rfl) (by simp) ?_
            refine AllReadyH.cons rfl (fun K hK => ?_) AllReadyH.nil
            simp only [List.getElem_toArray, List.getElem_cons_zero, List.getElem_cons_succ]
            go_simp
            refine (AH.out _).mono ?_
            rintro e w2 ⟨rfl, hbA⟩
            refine hK.out _ _ ⟨(hS.1).trans ((hbA).mono (hS.1).size), ((hbA).cell (Ds.cell_lt hS.2.1)).trans hS.2.1, ((hbA).cell (Ds.cell_lt hS.2.2.1)).trans hS.2.2.1, ((hbA).cell (Ds.cell_lt hS.2.2.2.1)).trans hS.2.2.2.1, ((hbA).cell (Ds.cell_lt hS.2.2.2.2)).trans hS.2.2.2.2⟩ (fun hS1 => ?_)
            clear hK
            refine wpAnyH_take (i := 9) (v := ?_) rfl (by kernel_rfl) (by kernel_rfl) (by kernel_rfl) (fun _ _ _ h => h) (Or.inl ⟨by rfl, ?_⟩) hS1 ?_
            rotate_left
            · intro wx hSx
              try dsimp only at hSx
              go_simp
              try with_reducible rfl
            simp only [Act.put, List.getElem_toArray, List.getElem_cons_zero, List.getElem_cons_succ, List.setIfInBounds_toArray, List.set_cons_zero, List.set_cons_succ]
            refine wpAnyH_done (by kernel_rfl) ?_ _
            refine NoPanic.normal ?_
            obtain ⟨hbA2, z0, z1, p0, p1⟩ := hS1
            have own2 := ownsRow_below' ownV hbA2
            have hbw2 : Below W.heap.size W w2 := keepW hbV hbA2
            have hg2 : g < w2.heap.size := Nat.lt_of_lt_of_le hgV hbA2.size
            have hw2 : w.heap.size < w2.heap.size := Nat.lt_of_lt_of_le hwV hbA2.size
            clear hbA y0V y1V q0V q1V hbA2
            go_wp2_with (at_builtin; refine wpList_append_own _ rfl (.tmp 34) (.tmp 39) 31 rfl W.heap.size 30 i0 (.agg #[.int .u8 0, .int .i64 0]) 2 16 Tryz.underlying31 hi hz0 hz1 hz2 rfl (by decide) _ _ _ rfl (own2.alloc _) ⟨w2.heap.size, 0, none⟩ 1 1 [.int .u8 xk, .int .i64 xn] rfl rfl (new_two w2 _ _ _ _ rfl) (one_kn _ _) (by unfold maxLen; omega) (by omega) (by have := hbw2.size; simp; omega) ?_; intro v3 w3 own3 hgrow _; have hbw3 := Ds.below_grown (w := W) hbw2 own2 hgrow; clear hgrow)
            go_roundw
            case rel => exact ⟨k + 1, m + 1, false, X ++ [G], by omega, by rw [List.length_append, ← HM.out]; rfl, HN.out, rfl, by go_num, by rw [sgC_snoc, ← HXK.out, ← HXN.out]; exact own3, hbw3⟩
            case measure => simp [intOf]; omega
          · have e3 : (xk == sk) = false := by rw [beq_eq_false_iff_ne]; exact e1
            have e4 : decide (xk = sk) = false := decide_eq_false e1
            go_wp2_with fail
            go_quiet (fail)
            obtain ⟨V, hV⟩ : ∃ V, V = wr.drewN nq := ⟨_, rfl⟩
            rw [← hV]
            have ownV := Ds.own_drewN hown nq
            rw [← hV] at ownV
            have hbV : Below W.heap.size W V := by rw [hV]; exact hb.trans ⟨rfl, rfl, rfl, Nat.le_refl _, fun _ _ => rfl⟩
            have y0V : V.cell? ⟨w.heap.size, 0, none⟩ = some (.int .u8 sk) := (hbV.cell (by exact hwW)).trans HX0.out
            have y1V : V.cell? ⟨w.heap.size, 1, none⟩ = some (.int .i64 sn) := (hbV.cell (by exact hwW)).trans HX1.out
            have q0V : V.cell? ⟨g, off + k * 2, none⟩ = some (.int .u8 xk) := (hbV.cell (by exact hgW)).trans HQ0.out
            have q1V : V.cell? ⟨g, off + k * 2 + 1, none⟩ = some (.int .i64 xn) := (hbV.cell (by exact hgW)).trans HQ1.out
            have hgV : g < V.heap.size := Nat.lt_of_lt_of_le hgW hbV.size
            have hwV : w.heap.size < V.heap.size := Nat.lt_of_lt_of_le hwW hbV.size
            clear hV
            clear y0 y1 q0 q1
            go_wp2_with fail
            refine wp_region_noPanic ?_
            refine wp_region_held_drew (S := fun w' => Below V.heap.size V w' ∧ w'.cell? ⟨w.heap.size, 0, none⟩ = some (.int .u8 sk) ∧ w'.cell? ⟨w.heap.size, 1, none⟩ = some (.int .i64 sn) ∧ w'.cell? ⟨g, off + k * 2, none⟩ = some (.int .u8 xk) ∧ w'.cell? ⟨g, off + k * 2 + 1, none⟩ = some (.int .i64 xn)) (by kernel_rfl) ⟨below_draw, y0V, y1V, q0V, q1V⟩ (fun hS => ?_)
            refine wpAnyH_take (i := 0) (v := ?_) rfl (by kernel_rfl) (by kernel_rfl) (by kernel_rfl) (fun _ _ _ h => h) (Or.inl ⟨by rfl, ?_⟩) hS ?_
            rotate_left
            · intro wx hSx
              try dsimp only at hSx
              go_simp
              try with_reducible rfl
            simp only [Act.put, List.getElem_toArray, List.getElem_cons_zero, List.setIfInBounds_toArray, List.set_cons_zero, List.set_cons_succ]
            refine wpAnyH_take (i := 1) (v := ?_) rfl (by kernel_rfl) (by kernel_rfl) (by kernel_rfl) (fun _ _ _ h => h) (Or.inl ⟨by rfl, ?_⟩) hS ?_
            rotate_left
            · intro wx hSx
              try dsimp only at hSx
              go_simp
              try with_reducible rfl
            simp only [Act.put, List.getElem_toArray, List.getElem_cons_zero, List.getElem_cons_succ, List.setIfInBounds_toArray, List.set_cons_zero, List.set_cons_succ]
            refine wpAnyH_take (i := 2) (v := ?_) rfl (by kernel_rfl) (by kernel_rfl) (by kernel_rfl) (fun _ _ _ h => h) (Or.inl ⟨by rfl, ?_⟩) hS ?_
            rotate_left
            · intro wx hSx
              try dsimp only at hSx
              go_simp
              try with_reducible rfl
            simp only [Act.put, List.getElem_toArray, List.getElem_cons_zero, List.getElem_cons_succ, List.setIfInBounds_toArray, List.set_cons_zero, List.set_cons_succ]
            refine wpAnyH_take (i := 3) (v := ?_) rfl (by kernel_rfl) (by kernel_rfl) (by kernel_rfl) (fun _ _ _ h => h) (Or.inl ⟨by rfl, ?_⟩) hS ?_
            rotate_left
            · intro wx hSx
              try dsimp only at hSx
              go_simp
              try with_reducible rfl
            simp only [Act.put, List.getElem_toArray, List.getElem_cons_zero, List.getElem_cons_succ, List.setIfInBounds_toArray, List.set_cons_zero, List.set_cons_succ]
            refine wpAnyH_take (i := 4) (v := ?_) rfl (by kernel_rfl) (by kernel_rfl) (by kernel_rfl) (fun _ _ _ h => h) (Or.inl ⟨by rfl, ?_⟩) hS ?_
            rotate_left
            · intro wx hSx
              try dsimp only at hSx
              go_simp
              try with_reducible rfl
            simp only [Act.put, List.getElem_toArray, List.getElem_cons_zero, List.getElem_cons_succ, List.setIfInBounds_toArray, List.set_cons_zero, List.set_cons_succ]
            refine wpAnyH_take (i := 5) (v := ?_) rfl (by kernel_rfl) (by kernel_rfl) (by kernel_rfl) (fun _ _ _ h => h) (Or.inl ⟨by rfl, ?_⟩) hS ?_
            rotate_left
            · intro wx hSx
              try dsimp only at hSx
              go_simp
              try with_reducible rfl
            simp only [Act.put, List.getElem_toArray, List.getElem_cons_zero, List.getElem_cons_succ, List.setIfInBounds_toArray, List.set_cons_zero, List.set_cons_succ]
            refine wpAnyH_take (i := 6) (v := ?_) rfl (by kernel_rfl) (by kernel_rfl) (by kernel_rfl) (fun _ _ _ h => h) (Or.inl ⟨by rfl, ?_⟩) hS ?_
            rotate_left
            · intro wx hSx
              try dsimp only at hSx
              go_simp
              try with_reducible rfl
            simp only [Act.put, List.getElem_toArray, List.getElem_cons_zero, List.getElem_cons_succ, List.setIfInBounds_toArray, List.set_cons_zero, List.set_cons_succ]
            refine wpAnyH_take (i := 7) (v := ?_) rfl (by kernel_rfl) (by kernel_rfl) (by kernel_rfl) (fun _ _ _ h => h) (Or.inl ⟨by rfl, ?_⟩) hS ?_
            rotate_left
            · intro wx hSx
              try dsimp only at hSx
              go_simp
              try with_reducible rfl
            simp only [Act.put, List.getElem_toArray, List.getElem_cons_zero, List.getElem_cons_succ, List.setIfInBounds_toArray, List.set_cons_zero, List.set_cons_succ]
            refine wpAnyH_ready (rs := [8]) (by kernel_rfl) (by simp) ?_
            refine AllReadyH.cons rfl (fun K hK => ?_) AllReadyH.nil
            simp only [List.getElem_toArray, List.getElem_cons_zero, List.getElem_cons_succ]
            go_simp
            refine (AH.out _).mono ?_
            rintro e w2 ⟨rfl, hbA⟩
            refine hK.out _ _ ⟨(hS.1).trans ((hbA).mono (hS.1).size), ((hbA).cell (Ds.cell_lt hS.2.1)).trans hS.2.1, ((hbA).cell (Ds.cell_lt hS.2.2.1)).trans hS.2.2.1, ((hbA).cell (Ds.cell_lt hS.2.2.2.1)).trans hS.2.2.2.1, ((hbA).cell (Ds.cell_lt hS.2.2.2.2)).trans hS.2.2.2.2⟩ (fun hS1 => ?_)
            clear hK
            refine wpAnyH_take (i := 9) (v := ?_) rfl (by kernel_rfl) (by kernel_rfl) (by kernel_rfl) (fun _ _ _ h => h) (Or.inl ⟨by rfl, ?_⟩) hS1 ?_
            rotate_left
            · intro wx hSx
              try dsimp only at hSx
              go_simp
              try with_reducible rfl
            simp only [Act.put, List.getElem_toArray, List.getElem_cons_zero, List.getElem_cons_succ, List.setIfInBounds_toArray, List.set_cons_zero, List.set_cons_succ]
            refine wpAnyH_done (by kernel_rfl) ?_ _
            refine NoPanic.normal ?_
            obtain ⟨hbA2, z0, z1, p0, p1⟩ := hS1
            have own2 := ownsRow_below' ownV hbA2
            have hbw2 : Below W.heap.size W w2 := keepW hbV hbA2
            have hg2 : g < w2.heap.size := Nat.lt_of_lt_of_le hgV hbA2.size
            have hw2 : w.heap.size < w2.heap.size := Nat.lt_of_lt_of_le hwV hbA2.size
            clear hbA y0V y1V q0V q1V hbA2
            go_wp2_with (at_builtin; refine wpList_append_own _ rfl (.tmp 34) (.tmp 39) 31 rfl W.heap.size 30 i0 (.agg #[.int .u8 0, .int .i64 0]) 2 16 Tryz.underlying31 hi hz0 hz1 hz2 rfl (by decide) _ _ _ rfl (own2.alloc _) ⟨w2.heap.size, 0, none⟩ 1 1 [.int .u8 xk, .int .i64 xn] rfl rfl (new_two w2 _ _ _ _ rfl) (one_kn _ _) (by unfold maxLen; omega) (by omega) (by have := hbw2.size; simp; omega) ?_; intro v3 w3 own3 hgrow _; have hbw3 := Ds.below_grown (w := W) hbw2 own2 hgrow; clear hgrow)
            go_roundw
            case rel => exact ⟨k + 1, m + 1, false, X ++ [G], by omega, by rw [List.length_append, ← HM.out]; rfl, HN.out, rfl, by go_num, by rw [sgC_snoc, ← HXK.out, ← HXN.out]; exact own3, hbw3⟩
            case measure => simp [intOf]; omega
    · obtain rfl : n = k := by omega
      have HE := Lib.hid (show putS s L = X ++ (if D = true then [] else [s]) from PutG.done (by rw [← HL.out]; exact HP.out) rfl)
      cases D with
      | true =>
        have HE2 := Lib.hid (show putS s L = X by rw [HE.out]; simp)
        go_wp2_with fail
        go_ret
        exact ⟨_, rfl, by rw [HE2.out, ← HM.out]; exact own_lower hown HBW.out.size, keepW HBW.out hb⟩
      | false =>
        have HE2 := Lib.hid (show putS s L = X ++ [s] by rw [HE.out]; simp)
        go_wp2_with (at_builtin; refine wpList_append_own _ rfl (.tmp 43) (.tmp 45) 31 rfl W.heap.size 30 i0 (.agg #[.int .u8 0, .int .i64 0]) 2 16 Tryz.underlying31 hi hz0 hz1 hz2 rfl (by decide) _ _ _ rfl (hown.alloc _) ⟨wr.heap.size, 0, none⟩ 1 1 [.int .u8 sk, .int .i64 sn] rfl rfl (new_two wr _ _ _ _ rfl) (one_kn _ _) (by unfold maxLen; omega) (by omega) (by have := hb.size; simp; omega) ?_; intro v3 w3 own3 hgrow _; have hbw3 := Ds.below_grown (w := W) hb hown hgrow; clear hgrow)
        go_ret
        exact ⟨_, rfl, by rw [HE2.out, sgC_snoc, List.length_append, ← HM.out, ← HSK.out, ← HSN.out]; exact own_lower own3 HBW.out.size, keepW HBW.out hbw3⟩
end SgM
end Go.Proofs.YtefknfbmphdafaaGreat
