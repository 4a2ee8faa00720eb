/- The document's Put and put: the walks. -/
import Derived.Test.YtefknfbmphdafaaGreatSgS
import Derived.Test.YtefknfbmphdafaaGreatSgP
namespace Go.Proofs.YtefknfbmphdafaaGreat
namespace SgM
open Go Go.RowKit CrcM FrM
open Ds (Blk)

/-- A slice of names. -/
def TrRow (w : World) (v : Value) (T : List (List UInt8)) : Prop :=
  ∃ A cap, v = .slice A T.length cap ∧ (T ≠ [] → ∃ g off, A = some ⟨g, off, none⟩ ∧ g < w.heap.size ∧ ∀ k (h : k < T.length), w.cell? ⟨g, off + k, none⟩ = some (.string (bytesOf T[k])))
theorem TrRow.below {w w' : World} {v : Value} {T : List (List UInt8)} (h : TrRow w v T) (hb : Below w.heap.size w w') : TrRow w' v T := by
  obtain ⟨A, cap, h1, h2⟩ := h
  refine ⟨A, cap, h1, fun hne => ?_⟩
  obtain ⟨g, off, e, hg, hc⟩ := h2 hne
  exact ⟨g, off, e, Nat.lt_of_lt_of_le hg hb.size, fun k hk => (hb.cell (by exact hg)).trans (hc k hk)⟩
theorem TrRow.own {w : World} {base : Nat} {T : TypeId} {v : Value} {L : List (List UInt8)} (h : w.ownsRow base T 1 v L.length (strC L)) : TrRow w v L := by
  rcases h.2 with ⟨rfl, h0⟩ | ⟨g, cap, cur, rfl, _, hg, _⟩
  · exact ⟨none, 0, by rw [h0], fun hne => absurd (List.length_eq_zero_iff.1 h0) hne⟩
  · refine ⟨_, cap, rfl, fun _ => ⟨g, 0, rfl, (Array.getElem?_eq_some_iff.1 hg).1, fun k hk => ?_⟩⟩
    have c1 := h.cells (g := g) rfl k (.string (bytesOf L[k])) (by unfold strC; rw [List.getElem?_map, List.getElem?_eq_getElem hk]; rfl)
    have ea : ∀ j, (⟨g, 0, none⟩ : Addr).add j = ⟨g, 0 + j, none⟩ := fun j => by unfold Addr.add; split <;> simp_all
    rw [ea] at c1
    exact c1
theorem strC_snoc (L : List (List UInt8)) (l : List UInt8) : strC (L ++ [l]) = strC L ++ [.string (bytesOf l)] := by unfold strC; rw [List.map_append]; rfl
def PutPost (T : List (List UInt8)) (w : World) (e : Ending) (w' : World) : Prop := ∃ v, e = .returned v ∧ w'.ownsRow w.heap.size 9 1 v T.length (strC T) ∧ Below w.heap.size w w'
theorem cmpN (a b : List UInt8) (w : World) (ha : a.length ≤ 1000) (hb : b.length ≤ 1000) :
    Calls Tryz.prog 75 #[.string (bytesOf a), .string (bytesOf b)] w fun e w' => e = .returned (.int .i64 (Ds.cmpI (bytesOf a) (bytesOf b))) ∧ Below w.heap.size w w' := by
  have e1 : (bytesOf a).size = a.length := by rw [size_list, bytesOf_list]
  have e2 : (bytesOf b).size = b.length := by rw [size_list, bytesOf_list]
  refine (Ds.cmp_any (bytesOf a) (bytesOf b) w (by omega) (by omega)).mono ?_
  rintro e w' ⟨rfl, n, rfl⟩
  exact ⟨rfl, ⟨rfl, rfl, rfl, Nat.le_refl _, fun _ _ => rfl⟩⟩
theorem cmpN_lt {a b : List UInt8} (h : bytesBefore a b = true) : Ds.cmpI (bytesOf a) (bytesOf b) = -1 := Ds.cmpI_yes (by unfold Ds.DkM.bf; rw [bytesOf_list, bytesOf_list]; exact h)
theorem cmpN_gt {a b : List UInt8} (h : bytesBefore b a = true) : Ds.cmpI (bytesOf a) (bytesOf b) = 1 := Ds.cmpI_more (by unfold Ds.DkM.bf; rw [bytesOf_list, bytesOf_list]; exact h)
theorem cmpN_eq (a : List UInt8) : Ds.cmpI (bytesOf a) (bytesOf a) = 0 := by
  have h : Ds.DkM.bf (bytesOf a) (bytesOf a) = false := by unfold Ds.DkM.bf; rw [bytesOf_list]; exact bb_irr a
  exact Ds.cmpI_zero h h
theorem putN_lt {s g : List UInt8} (h : bytesBefore s g = true) (r : List (List UInt8)) : putN s (g :: r) = s :: g :: r := by unfold putN; rw [if_pos h]
theorem putN_gt {s g : List UInt8} (h : bytesBefore g s = true) (r : List (List UInt8)) : putN s (g :: r) = g :: putN s r := by
  conv => lhs; unfold putN
  rw [if_neg (fun h2 => by have := WideShapes.bytes_trans _ _ _ h h2; rw [bb_irr] at this; cases this), if_pos h]
theorem putN_eq (g : List UInt8) (r : List (List UInt8)) : putN g (g :: r) = g :: r := by unfold putN; rw [if_neg (by rw [bb_irr]; decide), if_neg (by rw [bb_irr]; decide)]
theorem drew_below {w : World} (n : Nat) : Below w.heap.size w (w.drewN n) := ⟨rfl, rfl, rfl, Nat.le_refl _, fun _ _ => rfl⟩

set_option maxRecDepth 100000 in
set_option maxHeartbeats 4000000 in
theorem rPut_any {w : World} {v : Value} {T : List (List UInt8)} (h : TrRow w v T) (hl : T.length ≤ 1000) (s : List UInt8) (hsl : s.length ≤ 1000) (hT : ∀ t ∈ T, t.length ≤ 1000) :
    Calls Tryz.prog 38 #[v, .string (bytesOf s)] w (PutPost (putN s T) w) := by
  obtain ⟨s0, hs, si0, si1, si2⟩ := info_parts info_strRow
  obtain ⟨A, cap, rfl, hc⟩ := h
  obtain ⟨n, hn⟩ : ∃ n, n = T.length := ⟨_, rfl⟩
  have HL := Lib.hid hn
  rw [← hn] at hl ⊢
  have HC := Lib.hid hc
  have HT := Lib.hid hT
  clear hc hn hT
  go_enter Tryz.func38, Tryz.ntmps38
  go_wp2_with fail
  go_loopw [5, 6, 7] (fun v d i wr => ∃ (k m : Nat) (D : Bool) (X : List (List UInt8)), k ≤ n ∧ m = X.length ∧ PutG putN s T k D X ∧ d = .bool D ∧ i = .int .i64 (k : Nat) ∧ wr.ownsRow w.heap.size 9 1 v m (strC X) ∧ Below w.heap.size w wr) (fun _ _ i _ => n - (intOf i).toNat)
  case atStart => exact ⟨0, 0, false, [], Nat.zero_le _, rfl, PutG.start _ _ _, rfl, rfl, World.ownsRow_nil _ _ _ _, Below.refl _ _⟩
  case round =>
    obtain ⟨k, m, D, X, hk, hm, hP, rfl, rfl, hown, hb⟩ := hrel
    have HM := Lib.hid hm
    have HP := Lib.hid hP
    have hml2 : m ≤ k + 1 := by rw [hm]; exact hP.len
    clear hm hP
    by_cases hlk : k < n
    · have hlk' : k < T.length := by rw [← HL.out]; exact hlk
      obtain ⟨g, off, rfl, hgw, hcl⟩ := HC.out (by intro h; rw [h] at hlk'; simp at hlk')
      have HQ := Lib.hid (hcl k hlk')
      have q0 := (hb.cell (by exact hgw)).trans (hcl k hlk')
      have hgr : g < wr.heap.size := Nat.lt_of_lt_of_le hgw hb.size
      have hGl := HT.out T[k] (List.getElem_mem _)
      clear hcl
      cases D with
      | true =>
        by_cases h1 : bytesBefore s T[k] = true
        · have HN := Lib.hid (HP.out.late hlk')
          have HCI := Lib.hid (cmpN_lt h1)
          obtain ⟨G, hG⟩ : ∃ G, G = T[k] := ⟨_, rfl⟩
          rw [← hG] at q0 HN HCI HQ hGl
          have CM := Lib.hid (fun w => cmpN s G w hsl hGl)
          rw [HCI.out] at CM
          clear hG HCI
          clear h1
          go_wp2_with (first | (go_at_call 75; refine (CM.out _).mono ?_; rintro e w2 ⟨rfl, hb2⟩; have own2 := ownsRow_below' hown hb2; have hbw2 := keepW hb hb2; have p0 := (hb2.cell (by exact hgr)).trans q0; have hg2 : g < w2.heap.size := Nat.lt_of_lt_of_le hgr hb2.size; clear hb2) | (at_builtin; refine wpList_append_own _ rfl (.tmp 33) (.tmp 38) 22 rfl w.heap.size 9 s0 (.string ⟨#[]⟩) 1 16 Tryz.underlying22 hs si0 si1 si2 rfl (by decide) _ _ _ rfl (own2.alloc _) ⟨w2.heap.size, 0, none⟩ 1 1 [.string (bytesOf G)] rfl rfl (new_one w2 _ _ _ rfl) (one_str _) (by unfold maxLen; omega) (by omega) (by have := hbw2.size; simp; omega) ?_; intro v3 w3 own3 hgrow _; have hbw3 := Ds.below_grown (w := w) hbw2 own2 hgrow; clear hgrow))
          go_roundw
          case rel => exact ⟨k + 1, m + 1, true, X ++ [G], by omega, by rw [List.length_append, ← HM.out]; rfl, HN.out, rfl, by go_num, by rw [strC_snoc]; exact own3, hbw3⟩
          case measure => simp [intOf]; omega
        by_cases h2 : bytesBefore T[k] s = true
        · have HN := Lib.hid (HP.out.late hlk')
          have HCI := Lib.hid (cmpN_gt h2)
          obtain ⟨G, hG⟩ : ∃ G, G = T[k] := ⟨_, rfl⟩
          rw [← hG] at q0 HN HCI HQ hGl
          have CM := Lib.hid (fun w => cmpN s G w hsl hGl)
          rw [HCI.out] at CM
          clear hG HCI
          clear h1 h2
          go_wp2_with (first | (go_at_call 75; refine (CM.out _).mono ?_; rintro e w2 ⟨rfl, hb2⟩; have own2 := ownsRow_below' hown hb2; have hbw2 := keepW hb hb2; have p0 := (hb2.cell (by exact hgr)).trans q0; have hg2 : g < w2.heap.size := Nat.lt_of_lt_of_le hgr hb2.size; clear hb2) | (at_builtin; refine wpList_append_own _ rfl (.tmp 33) (.tmp 38) 22 rfl w.heap.size 9 s0 (.string ⟨#[]⟩) 1 16 Tryz.underlying22 hs si0 si1 si2 rfl (by decide) _ _ _ rfl (own2.alloc _) ⟨w2.heap.size, 0, none⟩ 1 1 [.string (bytesOf G)] rfl rfl (new_one w2 _ _ _ rfl) (one_str _) (by unfold maxLen; omega) (by omega) (by have := hbw2.size; simp; omega) ?_; intro v3 w3 own3 hgrow _; have hbw3 := Ds.below_grown (w := w) hbw2 own2 hgrow; clear hgrow))
          go_roundw
          case rel => exact ⟨k + 1, m + 1, true, X ++ [G], by omega, by rw [List.length_append, ← HM.out]; rfl, HN.out, rfl, by go_num, by rw [strC_snoc]; exact own3, hbw3⟩
          case measure => simp [intOf]; omega
        · have h3 : T[k] = s := Classical.byContradiction fun hne => by
            rcases WideAt.bytes_total _ _ hne with h | h
            · exact h2 h
            · exact h1 h
          have HN := Lib.hid (HP.out.late hlk')
          have HCI := Lib.hid (show Ds.cmpI (bytesOf s) (bytesOf T[k]) = 0 by rw [h3]; exact cmpN_eq s)
          obtain ⟨G, hG⟩ : ∃ G, G = T[k] := ⟨_, rfl⟩
          rw [← hG] at q0 HN HCI HQ hGl
          have CM := Lib.hid (fun w => cmpN s G w hsl hGl)
          rw [HCI.out] at CM
          clear hG HCI
          clear h1 h2 h3
          go_wp2_with (first | (go_at_call 75; refine (CM.out _).mono ?_; rintro e w2 ⟨rfl, hb2⟩; have own2 := ownsRow_below' hown hb2; have hbw2 := keepW hb hb2; have p0 := (hb2.cell (by exact hgr)).trans q0; have hg2 : g < w2.heap.size := Nat.lt_of_lt_of_le hgr hb2.size; clear hb2) | (at_builtin; refine wpList_append_own _ rfl (.tmp 33) (.tmp 38) 22 rfl w.heap.size 9 s0 (.string ⟨#[]⟩) 1 16 Tryz.underlying22 hs si0 si1 si2 rfl (by decide) _ _ _ rfl (own2.alloc _) ⟨w2.heap.size, 0, none⟩ 1 1 [.string (bytesOf G)] rfl rfl (new_one w2 _ _ _ rfl) (one_str _) (by unfold maxLen; omega) (by omega) (by have := hbw2.size; simp; omega) ?_; intro v3 w3 own3 hgrow _; have hbw3 := Ds.below_grown (w := w) hbw2 own2 hgrow; clear hgrow))
          go_roundw
          case rel => exact ⟨k + 1, m + 1, true, X ++ [G], by omega, by rw [List.length_append, ← HM.out]; rfl, HN.out, rfl, by go_num, by rw [strC_snoc]; exact own3, hbw3⟩
          case measure => simp [intOf]; omega
      | false =>
        by_cases h1 : bytesBefore s T[k] = true
        · have HN := Lib.hid (HP.out.here hlk' (fun r => putN_lt h1 r))
          have HCI := Lib.hid (cmpN_lt h1)
          obtain ⟨G, hG⟩ : ∃ G, G = T[k] := ⟨_, rfl⟩
          rw [← hG] at q0 HN HCI HQ hGl
          have CM := Lib.hid (fun w => cmpN s G w hsl hGl)
          rw [HCI.out] at CM
          clear hG HCI
          clear h1
          go_wp2_with (first | (go_at_call 75; refine (CM.out _).mono ?_; rintro e w2 ⟨rfl, hb2⟩; have own2 := ownsRow_below' hown hb2; have hbw2 := keepW hb hb2; have p0 := (hb2.cell (by exact hgr)).trans q0; have hg2 : g < w2.heap.size := Nat.lt_of_lt_of_le hgr hb2.size; clear hb2) | (at_builtin; refine wpList_append_own _ rfl (.tmp 29) (.tmp 31) 22 rfl w.heap.size 9 s0 (.string ⟨#[]⟩) 1 16 Tryz.underlying22 hs si0 si1 si2 rfl (by decide) _ _ _ rfl (own2.alloc _) ⟨w2.heap.size, 0, none⟩ 1 1 [.string (bytesOf s)] rfl rfl (new_one w2 _ _ _ rfl) (one_str _) (by unfold maxLen; omega) (by omega) (by have := hbw2.size; simp; omega) ?_; intro v3 w3 own3 hgrow _; have hbw3 := Ds.below_grown (w := w) hbw2 own2 hgrow; clear hgrow; have r0 := (hbw3.cell (by exact hgw)).trans HQ.out; have hg3 : g < w3.heap.size := Nat.lt_of_lt_of_le hgw hbw3.size) | (at_builtin; refine wpList_append_own _ rfl (.tmp 33) (.tmp 38) 22 rfl w.heap.size 9 s0 (.string ⟨#[]⟩) 1 16 Tryz.underlying22 hs si0 si1 si2 rfl (by decide) _ _ _ rfl (own3.alloc _) ⟨w3.heap.size, 0, none⟩ 1 1 [.string (bytesOf G)] rfl rfl (new_one w3 _ _ _ rfl) (one_str _) (by unfold maxLen; omega) (by omega) (by have := hbw3.size; simp; omega) ?_; intro v4 w4 own4 hgrow _; have hbw4 := Ds.below_grown (w := w) hbw3 own3 hgrow; clear hgrow))
          go_roundw
          case rel => exact ⟨k + 1, m + 1 + 1, true, X ++ [s] ++ [G], by omega, by rw [List.length_append, List.length_append, ← HM.out]; rfl, HN.out, rfl, by go_num, by rw [strC_snoc, strC_snoc]; exact own4, hbw4⟩
          case measure => simp [intOf]; omega
        by_cases h2 : bytesBefore T[k] s = true
        · have HN := Lib.hid (HP.out.not hlk' (fun r => putN_gt h2 r))
          have HCI := Lib.hid (cmpN_gt h2)
          obtain ⟨G, hG⟩ : ∃ G, G = T[k] := ⟨_, rfl⟩
          rw [← hG] at q0 HN HCI HQ hGl
          have CM := Lib.hid (fun w => cmpN s G w hsl hGl)
          rw [HCI.out] at CM
          clear hG HCI
          clear h1 h2
          go_wp2_with (first | (go_at_call 75; refine (CM.out _).mono ?_; rintro e w2 ⟨rfl, hb2⟩; have own2 := ownsRow_below' hown hb2; have hbw2 := keepW hb hb2; have p0 := (hb2.cell (by exact hgr)).trans q0; have hg2 : g < w2.heap.size := Nat.lt_of_lt_of_le hgr hb2.size; clear hb2) | (at_builtin; refine wpList_append_own _ rfl (.tmp 33) (.tmp 38) 22 rfl w.heap.size 9 s0 (.string ⟨#[]⟩) 1 16 Tryz.underlying22 hs si0 si1 si2 rfl (by decide) _ _ _ rfl (own2.alloc _) ⟨w2.heap.size, 0, none⟩ 1 1 [.string (bytesOf G)] rfl rfl (new_one w2 _ _ _ rfl) (one_str _) (by unfold maxLen; omega) (by omega) (by have := hbw2.size; simp; omega) ?_; intro v3 w3 own3 hgrow _; have hbw3 := Ds.below_grown (w := w) hbw2 own2 hgrow; clear hgrow))
          go_roundw
          case rel => exact ⟨k + 1, m + 1, false, X ++ [G], by omega, by rw [List.length_append, ← HM.out]; rfl, HN.out, rfl, by go_num, by rw [strC_snoc]; exact own3, hbw3⟩
          case measure => simp [intOf]; omega
        · have h3 : T[k] = s := Classical.byContradiction fun hne => by
            rcases WideAt.bytes_total _ _ hne with h | h
            · exact h2 h
            · exact h1 h
          have HN := Lib.hid (HP.out.same hlk' (fun r => by rw [h3]; exact putN_eq s r))
          have HCI := Lib.hid (show Ds.cmpI (bytesOf s) (bytesOf T[k]) = 0 by rw [h3]; exact cmpN_eq s)
          obtain ⟨G, hG⟩ : ∃ G, G = T[k] := ⟨_, rfl⟩
          rw [← hG] at q0 HN HCI HQ hGl
          have CM := Lib.hid (fun w => cmpN s G w hsl hGl)
          rw [HCI.out] at CM
          clear hG HCI
          clear h1 h2 h3
          go_wp2_with (first | (go_at_call 75; refine (CM.out _).mono ?_; rintro e w2 ⟨rfl, hb2⟩; have own2 := ownsRow_below' hown hb2; have hbw2 := keepW hb hb2; have p0 := (hb2.cell (by exact hgr)).trans q0; have hg2 : g < w2.heap.size := Nat.lt_of_lt_of_le hgr hb2.size; clear hb2) | (at_builtin; refine wpList_append_own _ rfl (.tmp 33) (.tmp 38) 22 rfl w.heap.size 9 s0 (.string ⟨#[]⟩) 1 16 Tryz.underlying22 hs si0 si1 si2 rfl (by decide) _ _ _ rfl (own2.alloc _) ⟨w2.heap.size, 0, none⟩ 1 1 [.string (bytesOf G)] rfl rfl (new_one w2 _ _ _ rfl) (one_str _) (by unfold maxLen; omega) (by omega) (by have := hbw2.size; simp; omega) ?_; intro v3 w3 own3 hgrow _; have hbw3 := Ds.below_grown (w := w) hbw2 own2 hgrow; clear hgrow))
          go_roundw
          case rel => exact ⟨k + 1, m + 1, true, X ++ [G], by omega, by rw [List.length_append, ← HM.out]; rfl, HN.out, rfl, by go_num, by rw [strC_snoc]; exact own3, hbw3⟩
          case measure => simp [intOf]; omega
    · obtain rfl : n = k := by omega
      have HE := Lib.hid (show putN s T = X ++ (if D = true then [] else [s]) from PutG.done (by rw [← HL.out]; exact HP.out) rfl)
      cases D with
      | true =>
        have HE2 := Lib.hid (show putN s T = X by rw [HE.out]; simp)
        go_wp2_with fail
        go_ret
        exact ⟨_, rfl, by rw [HE2.out, ← HM.out]; exact hown, hb⟩
      | false =>
        have HE2 := Lib.hid (show putN s T = X ++ [s] by rw [HE.out]; simp)
        go_wp2_with (at_builtin; refine wpList_append_own _ rfl (.tmp 42) (.tmp 44) 22 rfl w.heap.size 9 s0 (.string ⟨#[]⟩) 1 16 Tryz.underlying22 hs si0 si1 si2 rfl (by decide) _ _ _ rfl (hown.alloc _) ⟨wr.heap.size, 0, none⟩ 1 1 [.string (bytesOf s)] rfl rfl (new_one wr _ _ _ rfl) (one_str _) (by unfold maxLen; omega) (by omega) (by have := hb.size; simp; omega) ?_; intro v3 w3 own3 hgrow _; have hbw3 := Ds.below_grown (w := w) hb hown hgrow; clear hgrow)
        go_ret
        exact ⟨_, rfl, by rw [HE2.out, strC_snoc, List.length_append, ← HM.out]; exact own3, hbw3⟩
end SgM
end Go.Proofs.YtefknfbmphdafaaGreat
