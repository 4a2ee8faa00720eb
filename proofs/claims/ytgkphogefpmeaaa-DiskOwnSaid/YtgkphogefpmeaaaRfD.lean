/- The walk of the reference's put. -/
import Derived.Test.YtgkphogefpmeaaaRfC
namespace Go.Proofs.Ytgkphogefpmeaaa
open Go.RowKit Go.Maps DkM

/-- Between two rounds of put. -/
structure PutAt (f : Fl) (M : List Fl) (k : Nat) (d : Bool) (X : List Fl) : Prop where
  eq : insF f M = X ++ (if d = true then M.drop k else insF f (M.drop k))
  len : X.length ≤ k + 1
theorem PutAt.start (f : Fl) (M : List Fl) : PutAt f M 0 false [] := ⟨rfl, by simp⟩
theorem PutAt.late {f : Fl} {M X : List Fl} {k : Nat} (h : PutAt f M k true X) (hk : k < M.length) : PutAt f M (k + 1) true (X ++ [M[k]]) := by
  obtain ⟨h1, h2⟩ := h
  refine ⟨?_, by simp; omega⟩
  rw [h1, if_pos rfl, if_pos rfl, List.drop_eq_getElem_cons hk]; simp
theorem PutAt.here {f : Fl} {M X : List Fl} {k : Nat} (h : PutAt f M k false X) (hl : X.length ≤ k) (hk : k < M.length) (hb : bf f.n M[k].n = true) : PutAt f M (k + 1) true (X ++ [f] ++ [M[k]]) := by
  obtain ⟨h1, h2⟩ := h
  refine ⟨?_, by simp; omega⟩
  rw [h1, if_neg (by decide), if_pos rfl, List.drop_eq_getElem_cons hk]
  have e : insF f (M[k] :: M.drop (k + 1)) = if bf f.n M[k].n then f :: M[k] :: M.drop (k + 1) else M[k] :: insF f (M.drop (k + 1)) := rfl
  rw [e, if_pos hb]; simp
theorem PutAt.not {f : Fl} {M X : List Fl} {k : Nat} (h : PutAt f M k false X) (hk : k < M.length) (hb : bf f.n M[k].n = false) : PutAt f M (k + 1) false (X ++ [M[k]]) := by
  obtain ⟨h1, h2⟩ := h
  refine ⟨?_, by simp; omega⟩
  rw [h1, if_neg (by decide), if_neg (by decide), List.drop_eq_getElem_cons hk]
  have e : insF f (M[k] :: M.drop (k + 1)) = if bf f.n M[k].n then f :: M[k] :: M.drop (k + 1) else M[k] :: insF f (M.drop (k + 1)) := rfl
  rw [e, if_neg (by rw [hb]; decide)]; simp
theorem PutAt.done {f : Fl} {M X : List Fl} {d : Bool} (h : PutAt f M M.length d X) : insF f M = X ++ (if d = true then [] else [f]) := by
  rw [h.eq, List.drop_length]; rfl

theorem own_base {w : World} {base base' : Nat} {e : TypeId} {size n : Nat} {v : Value} {xs : List Value} (h : w.ownsRow base e size v n xs) (hb : base' ≤ base) : w.ownsRow base' e size v n xs := by
  refine ⟨h.1, ?_⟩
  rcases h.2 with hn | ⟨g, cap, cur, hv, hg, r⟩
  · exact Or.inl hn
  · exact Or.inr ⟨g, cap, cur, hv, by omega, r⟩
theorem own_drewN {w : World} {base : Nat} {e : TypeId} {size n : Nat} {v : Value} {xs : List Value} (h : w.ownsRow base e size v n xs) (q : Nat) : (w.drewN q).ownsRow base e size v n xs := h
theorem cmp_quiet {a b : ByteArray} {w : World} {n : Nat} {r : Int} (h : cmpI a b = r) (ha : a.size ≤ 9223372036854775807) (hb : b.size ≤ 9223372036854775807) :
    Calls Try.prog 66 #[.string a, .string b] (w.drewN n) fun e w'' => e = .returned (.int .i64 r) ∧ ∃ m, w'' = w.drewN m :=
  Calls.quiet_of (by have := cmp_any a b (w.drewN n) ha hb; unfold CmpPost at this; rw [h] at this; exact this)
set_option maxRecDepth 100000 in
set_option maxHeartbeats 4000000 in
theorem put_any {w : World} {lo : Nat} {sl : Value} {L : List Fl} (h : FsAt w lo sl L) (hl : L.length ≤ 1000000) (f : Fl) (hf : f.n.size ≤ 9223372036854775807) (hnm : ∀ g ∈ L, g.n.size ≤ 9223372036854775807) :
    Calls Try.prog 61 #[sl, flV f] w (FsPost (putF L f) w) := by
  obtain ⟨i0, hi, hz0, hz1, hz2⟩ := info_parts info_file
  have hml := len_wo L f.n
  have HWO := Lib.hid (without_any (h.alloc (.cells #[.string f.n, .string f.s, .string f.l] 54)) (by omega) f.n)
  have HNM := Lib.hid (show ∀ g ∈ wo L f.n, g.n.size ≤ 9223372036854775807 from fun g hg => hnm g (mem_wo.1 hg).1)
  have HP : Hid (putF L f = insF f (wo L f.n)) := Lib.hid rfl
  clear h hnm
  go_enter Try.func61, Try.ntmps61
  go_wp2_with fail
  refine HWO.out.mono ?_
  rintro e w1 ⟨v, rfl, ho, hb1⟩
  obtain ⟨M, hM⟩ : ∃ M, M = wo L f.n := ⟨_, rfl⟩
  rw [← hM] at ho HNM HP hml
  have HO := Lib.hid (FsAt.own ho (Nat.le_refl _))
  have hbx : Below w.heap.size w (w.alloc (.cells #[.string f.n, .string f.s, .string f.l] 54)) := (Below.refl _ _).alloc (Nat.le_refl _) _
  have hB1 : Below w.heap.size w w1 := hbx.trans (hb1.mono hbx.size)
  have x0 : w1.cell? ⟨w.heap.size, 0, none⟩ = some (.string f.n) := by rw [hb1.cell (by simp)]; simp
  have x1 : w1.cell? ⟨w.heap.size, 1, none⟩ = some (.string f.s) := by rw [hb1.cell (by simp)]; simp
  have x2 : w1.cell? ⟨w.heap.size, 2, none⟩ = some (.string f.l) := by rw [hb1.cell (by simp)]; simp
  have hx : w.heap.size < w1.heap.size := cell_lt x0
  obtain ⟨A, cap, rfl, hcap, hA⟩ := HO.out
  have HA := Lib.hid hA
  clear hA hbx hM HWO ho HO
  go_wp2_with fail
  go_loopw [5, 6, 7] (fun v d i wr => ∃ (k m : Nat) (D : Bool) (X : List Fl), k ≤ M.length ∧ m = X.length ∧ (D = false → X.length ≤ k) ∧ PutAt f M k D X ∧ d = .bool D ∧ i = .int .i64 (k : Nat) ∧ wr.ownsRow w1.heap.size 54 3 v m (fsC X) ∧ Below w1.heap.size w1 wr) (fun _ _ i _ => M.length - (intOf i).toNat)
  case atStart => exact ⟨0, 0, false, [], Nat.zero_le _, rfl, fun _ => Nat.le_refl _, PutAt.start _ _, rfl, rfl, World.ownsRow_nil _ _ _ _, Below.refl _ _⟩
  case round =>
    obtain ⟨k, m, D, X, hk, hm, hDl, hP, rfl, rfl, hown, hb⟩ := hrel
    have HM := Lib.hid hm
    have HPA := Lib.hid hP
    have HDL := Lib.hid hDl
    have hml2 : m ≤ k + 1 := by rw [hm]; exact hP.len
    have y0 := (hb.cell (p := ⟨w.heap.size, 0, none⟩) hx).trans x0
    have y1 := (hb.cell (p := ⟨w.heap.size, 1, none⟩) hx).trans x1
    have y2 := (hb.cell (p := ⟨w.heap.size, 2, none⟩) hx).trans x2
    have hxr : w.heap.size < wr.heap.size := Nat.lt_of_lt_of_le hx hb.size
    clear hm hP hDl
    by_cases hlt : k < M.length
    · obtain ⟨g, off, rfl, hg1, hg2, hc⟩ := HA.out (by omega)
      obtain ⟨q0, q1, q2⟩ := hc k hlt
      replace q0 := (hb.cell (by exact hg2)).trans q0
      replace q1 := (hb.cell (by exact hg2)).trans q1
      replace q2 := (hb.cell (by exact hg2)).trans q2
      have hgr : g < wr.heap.size := Nat.lt_of_lt_of_le hg2 hb.size
      have HMn := Lib.hid (HNM.out M[k] (List.getElem_mem _))
      have i0' : (0 : Int) ≤ (k : Int) := by omega
      have i1' : (k : Int) < (M.length : Int) := by omega
      cases D with
      | true =>
        have HN := Lib.hid (HPA.out.late hlt)
        obtain ⟨G, hG⟩ : ∃ G, G = M[k] := ⟨_, rfl⟩
        rw [← hG] at q0 q1 q2 HN
        clear hG
        go_wp2_with fail
        go_quiet (fail)
        obtain ⟨V, hV⟩ : ∃ V, V = wr.drewN nq := ⟨_, rfl⟩
        have ownV := own_drewN hown nq
        rw [← hV] at ownV
        have hbV : Below w1.heap.size w1 V := by rw [hV]; exact hb.trans ⟨rfl, rfl, rfl, Nat.le_refl _, fun _ _ => rfl⟩
        rw [← hV]
        have z0 : V.cell? ⟨w.heap.size, 0, none⟩ = some (.string f.n) := by rw [hV]; exact y0
        have z1 : V.cell? ⟨w.heap.size, 1, none⟩ = some (.string f.s) := by rw [hV]; exact y1
        have z2 : V.cell? ⟨w.heap.size, 2, none⟩ = some (.string f.l) := by rw [hV]; exact y2
        have p0 : V.cell? ⟨g, off + k * 3, none⟩ = some (.string G.n) := by rw [hV]; exact q0
        have p1 : V.cell? ⟨g, off + k * 3 + 1, none⟩ = some (.string G.s) := by rw [hV]; exact q1
        have p2 : V.cell? ⟨g, off + k * 3 + 2, none⟩ = some (.string G.l) := by rw [hV]; exact q2
        have hgV : g < V.heap.size := Nat.lt_of_lt_of_le hg2 hbV.size
        have hxV : w.heap.size < V.heap.size := Nat.lt_of_lt_of_le hx hbV.size
        clear hV q0 q1 q2 y0 y1 y2 hown
        go_wp2_with (at_builtin; refine wpList_append_own _ rfl (.tmp 35) (.tmp 40) 28 rfl w1.heap.size 54 i0 (.agg #[.string ⟨#[]⟩, .string ⟨#[]⟩, .string ⟨#[]⟩]) 3 48 Try.underlying28 hi hz0 hz1 hz2 rfl (by decide) _ _ _ rfl (ownV.alloc _) ⟨V.heap.size, 0, none⟩ 1 1 [.string G.n, .string G.s, .string G.l] rfl rfl (new_three V _ _ _ _ _ (by simp)) (one_three _ _ _) (by unfold maxLen; omega) (by omega) (by have := hbV.size; simp; omega) ?_; intro v' w2 own2 hgrow _; have hb2 := below_grown (w := w1) hbV ownV hgrow; clear hgrow)
        go_roundw
        case rel => exact ⟨k + 1, m + 1, true, X ++ [G], by omega, by rw [List.length_append, ← HM.out]; rfl, fun h => (by cases h), HN.out, rfl, by go_num, by rw [fsC_snoc]; exact own2, hb2⟩
        case measure => simp [intOf]; omega
      | false =>
        have hXk := HDL.out rfl
        have hmk : m ≤ k := by rw [HM.out]; exact hXk
        clear hXk
        cases hbf : bf f.n M[k].n with
        | true =>
          have HN := Lib.hid (HPA.out.here (HDL.out rfl) hlt hbf)
          have HQ := Lib.hid (hc k hlt)
          have HCI := Lib.hid (cmpI_yes hbf)
          obtain ⟨G, hG⟩ : ∃ G, G = M[k] := ⟨_, rfl⟩
          rw [← hG] at q0 q1 q2 HN HCI HMn HQ
          clear hG hbf hc
          go_wp2_with fail
          go_quiet ((go_at_call 66; exact cmp_quiet HCI.out hf HMn.out))
          obtain ⟨V, hV⟩ : ∃ V, V = wr.drewN nq := ⟨_, rfl⟩
          have ownV := own_drewN hown nq
          rw [← hV] at ownV
          have hbV : Below w1.heap.size w1 V := by rw [hV]; exact hb.trans ⟨rfl, rfl, rfl, Nat.le_refl _, fun _ _ => rfl⟩
          rw [← hV]
          have z0 : V.cell? ⟨w.heap.size, 0, none⟩ = some (.string f.n) := by rw [hV]; exact y0
          have z1 : V.cell? ⟨w.heap.size, 1, none⟩ = some (.string f.s) := by rw [hV]; exact y1
          have z2 : V.cell? ⟨w.heap.size, 2, none⟩ = some (.string f.l) := by rw [hV]; exact y2
          have p0 : V.cell? ⟨g, off + k * 3, none⟩ = some (.string G.n) := by rw [hV]; exact q0
          have p1 : V.cell? ⟨g, off + k * 3 + 1, none⟩ = some (.string G.s) := by rw [hV]; exact q1
          have p2 : V.cell? ⟨g, off + k * 3 + 2, none⟩ = some (.string G.l) := by rw [hV]; exact q2
          have hgV : g < V.heap.size := Nat.lt_of_lt_of_le hg2 hbV.size
          have hxV : w.heap.size < V.heap.size := Nat.lt_of_lt_of_le hx hbV.size
          clear hV q0 q1 q2 y0 y1 y2 hown
          go_wp2_with (first | (at_builtin; refine wpList_append_own _ rfl (.tmp 31) (.tmp 33) 28 rfl w1.heap.size 54 i0 (.agg #[.string ⟨#[]⟩, .string ⟨#[]⟩, .string ⟨#[]⟩]) 3 48 Try.underlying28 hi hz0 hz1 hz2 rfl (by decide) _ _ _ rfl (ownV.alloc _) ⟨V.heap.size, 0, none⟩ 1 1 [.string f.n, .string f.s, .string f.l] rfl rfl (new_three V _ _ _ _ _ (by simp)) (one_three _ _ _) (by unfold maxLen; omega) (by omega) (by have := hbV.size; simp; omega) ?_; intro v' V2 own2 hgrow _; have hb2 := below_grown (w := w1) hbV ownV hgrow; clear hgrow; have r0 := (hb2.cell (p := ⟨g, off + k * 3, none⟩) hg2).trans HQ.out.1; have r1 := (hb2.cell (p := ⟨g, off + k * 3 + 1, none⟩) hg2).trans HQ.out.2.1; have r2 := (hb2.cell (p := ⟨g, off + k * 3 + 2, none⟩) hg2).trans HQ.out.2.2; have hgV2 : g < V2.heap.size := Nat.lt_of_lt_of_le hg2 hb2.size) | (at_builtin; refine wpList_append_own _ rfl (.tmp 35) (.tmp 40) 28 rfl w1.heap.size 54 i0 (.agg #[.string ⟨#[]⟩, .string ⟨#[]⟩, .string ⟨#[]⟩]) 3 48 Try.underlying28 hi hz0 hz1 hz2 rfl (by decide) _ _ _ rfl (own2.alloc _) ⟨V2.heap.size, 0, none⟩ 1 1 [.string G.n, .string G.s, .string G.l] rfl rfl (new_three V2 _ _ _ _ _ (by simp)) (one_three _ _ _) (by unfold maxLen; omega) (by omega) (by have := hb2.size; simp; omega) ?_; intro v'' V3 own3 hgrow _; have hb3 := below_grown (w := w1) hb2 own2 hgrow; clear hgrow))
          go_roundw
          case rel => exact ⟨k + 1, m + 1 + 1, true, X ++ [f] ++ [G], by omega, by rw [List.length_append, List.length_append, ← HM.out]; rfl, fun h => (by cases h), HN.out, rfl, by go_num, by rw [fsC_snoc, fsC_snoc]; exact own3, hb3⟩
          case measure => simp [intOf]; omega
        | false =>
          have HN := Lib.hid (HPA.out.not hlt hbf)
          have HCI := Lib.hid (rfl : cmpI f.n M[k].n = cmpI f.n M[k].n)
          have hcn := cmpI_no hbf
          obtain ⟨G, hG⟩ : ∃ G, G = M[k] := ⟨_, rfl⟩
          rw [← hG] at q0 q1 q2 HN HCI HMn hcn
          clear hG hbf
          obtain ⟨R, hR⟩ : ∃ R, R = cmpI f.n G.n := ⟨_, rfl⟩
          rw [← hR] at hcn
          have HR := Lib.hid hR.symm
          clear hR
          go_wp2_with fail
          go_quiet ((go_at_call 66; exact cmp_quiet HR.out hf HMn.out))
          obtain ⟨V, hV⟩ : ∃ V, V = wr.drewN nq := ⟨_, rfl⟩
          have ownV := own_drewN hown nq
          rw [← hV] at ownV
          have hbV : Below w1.heap.size w1 V := by rw [hV]; exact hb.trans ⟨rfl, rfl, rfl, Nat.le_refl _, fun _ _ => rfl⟩
          rw [← hV]
          have z0 : V.cell? ⟨w.heap.size, 0, none⟩ = some (.string f.n) := by rw [hV]; exact y0
          have z1 : V.cell? ⟨w.heap.size, 1, none⟩ = some (.string f.s) := by rw [hV]; exact y1
          have z2 : V.cell? ⟨w.heap.size, 2, none⟩ = some (.string f.l) := by rw [hV]; exact y2
          have p0 : V.cell? ⟨g, off + k * 3, none⟩ = some (.string G.n) := by rw [hV]; exact q0
          have p1 : V.cell? ⟨g, off + k * 3 + 1, none⟩ = some (.string G.s) := by rw [hV]; exact q1
          have p2 : V.cell? ⟨g, off + k * 3 + 2, none⟩ = some (.string G.l) := by rw [hV]; exact q2
          have hgV : g < V.heap.size := Nat.lt_of_lt_of_le hg2 hbV.size
          have hxV : w.heap.size < V.heap.size := Nat.lt_of_lt_of_le hx hbV.size
          clear hV q0 q1 q2 y0 y1 y2 hown
          go_wp2_with (at_builtin; refine wpList_append_own _ rfl (.tmp 35) (.tmp 40) 28 rfl w1.heap.size 54 i0 (.agg #[.string ⟨#[]⟩, .string ⟨#[]⟩, .string ⟨#[]⟩]) 3 48 Try.underlying28 hi hz0 hz1 hz2 rfl (by decide) _ _ _ rfl (ownV.alloc _) ⟨V.heap.size, 0, none⟩ 1 1 [.string G.n, .string G.s, .string G.l] rfl rfl (new_three V _ _ _ _ _ (by simp)) (one_three _ _ _) (by unfold maxLen; omega) (by omega) (by have := hbV.size; simp; omega) ?_; intro v' V2 own2 hgrow _; have hb2 := below_grown (w := w1) hbV ownV hgrow; clear hgrow)
          go_roundw
          case rel => exact ⟨k + 1, m + 1, false, X ++ [G], by omega, by rw [List.length_append, ← HM.out]; rfl, fun _ => by rw [List.length_append, ← HM.out]; simp; omega, HN.out, rfl, by go_num, by rw [fsC_snoc]; exact own2, hb2⟩
          case measure => simp [intOf]; omega
    · obtain rfl : k = M.length := by omega
      cases D with
      | true =>
        have HE := Lib.hid (show putF L f = X by rw [HP.out, HPA.out.done]; simp)
        go_wp2_with fail
        go_ret
        refine ⟨_, rfl, ?_, hB1.trans (hb.mono hB1.size)⟩
        rw [HE.out, ← HM.out]
        exact own_base hown hB1.size
      | false =>
        have HE := Lib.hid (show putF L f = X ++ [f] by rw [HP.out, HPA.out.done]; simp)
        have hmk : m ≤ M.length := by rw [HM.out]; exact HDL.out rfl
        go_wp2_with (at_builtin; refine wpList_append_own _ rfl (.tmp 44) (.tmp 46) 28 rfl w1.heap.size 54 i0 (.agg #[.string ⟨#[]⟩, .string ⟨#[]⟩, .string ⟨#[]⟩]) 3 48 Try.underlying28 hi hz0 hz1 hz2 rfl (by decide) _ _ _ rfl (hown.alloc _) ⟨wr.heap.size, 0, none⟩ 1 1 [.string f.n, .string f.s, .string f.l] rfl rfl (new_three wr _ _ _ _ _ (by simp)) (one_three _ _ _) (by unfold maxLen; omega) (by omega) (by have := hb.size; simp; omega) ?_; intro v' V2 own2 hgrow _; have hb2 := below_grown (w := w1) hb hown hgrow; clear hgrow)
        go_ret
        refine ⟨_, rfl, ?_, hB1.trans (hb2.mono hB1.size)⟩
        rw [HE.out, fsC_snoc, List.length_append, ← HM.out]
        exact own_base own2 hB1.size
end Go.Proofs.Ytgkphogefpmeaaa
