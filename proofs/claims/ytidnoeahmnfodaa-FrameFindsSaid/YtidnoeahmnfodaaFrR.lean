/- The walks of olds and of Same. -/
import Derived.Test.YtidnoeahmnfodaaFrO
namespace Go.Proofs.Ytidnoeahmnfodaa
open Go.RowKit CrcM FrM

/-- The cells of a row of frames. -/
def FrCells (w : World) (b off : Nat) (l : List Fr) : Prop :=
  ∀ j (h : j < l.length), w.cell? ⟨b, off + j * 2, none⟩ = some (.int .u8 (l[j].1.toNat : Int)) ∧ w.cell? ⟨b, off + j * 2 + 1, none⟩ = some (.string l[j].2)
/-- A slice value that reads as a row of frames. -/
def FrRow (w : World) (v : Value) (l : List Fr) : Prop :=
  (∃ a cap, v = .slice a 0 cap ∧ l = []) ∨ ∃ b off cap, v = .slice (some ⟨b, off, none⟩) l.length cap ∧ FrCells w b off l ∧ b < w.heap.size
theorem FrCells.below {w w' : World} {b off : Nat} {l : List Fr} (h : FrCells w b off l) (hb : Below w.heap.size w w') (hlt : b < w.heap.size) : FrCells w' b off l := by
  intro j hj
  obtain ⟨h1, h2⟩ := h j hj
  exact ⟨(hb.cell hlt).trans h1, (hb.cell hlt).trans h2⟩
theorem FrRow.below {w w' : World} {v : Value} {l : List Fr} (h : FrRow w v l) (hb : Below w.heap.size w w') : FrRow w' v l := by
  rcases h with h | ⟨b, off, cap, h1, h2, h3⟩
  · exact Or.inl h
  · exact Or.inr ⟨b, off, cap, h1, h2.below hb h3, Nat.lt_of_lt_of_le h3 hb.size⟩
theorem frC_at (l : List Fr) (j : Nat) (h : j < l.length) : (frC l)[j * 2]? = some (.int .u8 (l[j].1.toNat : Int)) ∧ (frC l)[j * 2 + 1]? = some (.string l[j].2) := by
  induction l generalizing j with
  | nil => simp at h
  | cons a r ih =>
    cases j with
    | zero => exact ⟨rfl, rfl⟩
    | succ j =>
      have := ih j (by simpa using h)
      rw [show (j + 1) * 2 = j * 2 + 1 + 1 by omega]
      exact this
theorem FrRow.own {w : World} {base : Nat} {T : TypeId} {v : Value} {l : List Fr} (h : w.ownsRow base T 2 v l.length (frC l)) : FrRow w v l := by
  rcases h.2 with ⟨rfl, h0⟩ | ⟨g, cap, cur, rfl, hbase, hg, h3⟩
  · exact Or.inl ⟨none, 0, rfl, List.length_eq_zero_iff.1 h0⟩
  · refine Or.inr ⟨g, 0, cap, rfl, fun j hj => ?_, (h.lt g rfl).2⟩
    obtain ⟨a1, a2⟩ := frC_at l j hj
    rw [Nat.zero_add]
    exact ⟨(h.cellAt (j * 2) (by omega)).trans a1, (h.cellAt (j * 2 + 1) (by omega)).trans a2⟩
def OldsPost (l : List Fr) (w : World) (e : Ending) (w' : World) : Prop := ∃ v, e = .returned v ∧ w'.ownsRow w.heap.size 23 2 v l.length (frC l) ∧ Below w.heap.size w w'
theorem frC_take (l : List Fr) (k : Nat) (h : k < l.length) : l.take (k + 1) = l.take k ++ [l[k]] := by rw [List.take_succ_eq_append_getElem h]

set_option maxRecDepth 100000 in
set_option maxHeartbeats 1000000 in
theorem olds_full (b off cap : Nat) (l : List Fr) (w : World) (hl : l.length ≤ 1000000) (hc : FrCells w b off l) (hlt : b < w.heap.size) :
    Calls Try.prog 19 #[.slice (some ⟨b, off, none⟩) l.length cap] w (OldsPost l w) := by
  obtain ⟨i0, hi, hz0, hz1, hz2⟩ := info_parts info_frame04Row
  obtain ⟨n, hn⟩ : ∃ n, n = l.length := ⟨_, rfl⟩
  have HN := Lib.hid hn
  have HC := Lib.hid hc
  rw [← hn] at hl
  clear hc
  rw [← hn]
  clear hn
  go_enter Try.func19, Try.ntmps19
  go_wp2
  go_loopw [3, 8] (fun v i wr => ∃ k, k ≤ n ∧ i = .int .i64 (k : Nat) ∧ wr.ownsRow w.heap.size 23 2 v k (frC (l.take k)) ∧ Below w.heap.size w wr) (fun _ i _ => n - (intOf i).toNat)
  case atStart => exact ⟨0, Nat.zero_le _, rfl, World.ownsRow_nil _ _ _ _, Below.refl _ _⟩
  case round =>
    obtain ⟨k, hk, rfl, hown, hbw⟩ := hrel
    by_cases hlk : k < n
    · have hlk' : k < l.length := by rw [← HN.out]; exact hlk
      have hc := HC.out.below hbw hlt k hlk'
      have hf := frC_take l k hlk'
      have HF := Lib.hid hf
      clear hf
      generalize l[k] = F at hc HF
      obtain ⟨K, D⟩ := F
      obtain ⟨c0, c1⟩ := hc
      have hltr : b < wr.heap.size := Nat.lt_of_lt_of_le hlt hbw.size
      go_wp2_with (at_builtin; refine wpList_append_own _ rfl _ _ 39 rfl w.heap.size 23 i0 (.agg #[.int .u8 0, .string ⟨#[]⟩]) 2 24 Try.underlying39 hi hz0 hz1 hz2 rfl (by decide) _ _ _ rfl ((hown.alloc _).alloc _) ⟨wr.heap.size + 1, 0, none⟩ 1 1 [.int .u8 K.toNat, .string D] rfl rfl (new_two (wr.alloc _) _ _ _ _ (by simp)) (one_two K D) (by unfold maxLen; omega) (by omega) (by have := hbw.size; simp; omega) ?_; intro v' w' hown' hgrow _; have hbw' := below_append hbw (Below.refl _ _) hown hgrow; clear hgrow)
      go_roundw
      case rel => exact ⟨k + 1, by omega, by go_num, by rw [HF.out, frC_snoc]; exact hown', hbw'⟩
      case measure => simp [intOf]; omega
    · obtain rfl : k = n := by omega
      rw [show l.take k = l by rw [HN.out, List.take_length]] at hown
      rw [HN.out] at hown
      go_wp2
      go_ret
      exact ⟨_, rfl, hown, hbw⟩

set_option maxRecDepth 100000 in
set_option maxHeartbeats 1000000 in
theorem same_full (b off cap b' off' cap' : Nat) (l m : List Fr) (w : World) (hl : l.length ≤ 9223372036854775807) (hm : m.length ≤ 9223372036854775807) (hc : FrCells w b off l) (hc' : FrCells w b' off' m) :
    Calls Try.prog 18 #[.slice (some ⟨b, off, none⟩) l.length cap, .slice (some ⟨b', off', none⟩) m.length cap'] w fun e w' => e = .returned (.bool (decide (l = m))) ∧ Below w.heap.size w w' := by
  have HC := Lib.hid hc
  have HC' := Lib.hid hc'
  clear hc hc'
  by_cases hlen : l.length = m.length
  · obtain ⟨n, hn⟩ : ∃ n, n = l.length := ⟨_, rfl⟩
    have HN := Lib.hid hn
    have HM := Lib.hid (show n = m.length by rw [hn, hlen])
    rw [← HM.out] at hm ⊢
    rw [← hn]
    rw [← hn] at hl
    clear hn hlen
    go_enter Try.func18, Try.ntmps18
    go_wp2
    go_loopw [5] (fun i wr => ∃ k, k ≤ n ∧ i = .int .i64 (k : Nat) ∧ l.take k = m.take k ∧ Below w.heap.size w wr ∧ (∀ a, wr.cell? a = w.cell? a)) (fun i _ => n - (intOf i).toNat)
    case atStart => exact ⟨0, Nat.zero_le _, rfl, rfl, Below.refl _ _, fun _ => rfl⟩
    case round =>
      obtain ⟨k, hk, rfl, heq, hbw, hcw⟩ := hrel
      have HE := Lib.hid heq
      clear heq
      by_cases hlk : k < n
      · have hlk' : k < l.length := by rw [← HN.out]; exact hlk
        have hlm' : k < m.length := by rw [← HM.out]; exact hlk
        obtain ⟨c0, c1⟩ := HC.out k hlk'
        obtain ⟨d0, d1⟩ := HC'.out k hlm'
        rw [← hcw] at c0 c1 d0 d1
        have HW := Lib.hid hcw
        clear hcw
        have hf := frC_take l k hlk'
        have hg := frC_take m k hlm'
        generalize l[k] = F at c0 c1 hf
        generalize m[k] = G at d0 d1 hg
        obtain ⟨K, D⟩ := F
        obtain ⟨K', D'⟩ := G
        have HF := Lib.hid hf
        have HG := Lib.hid hg
        clear hf hg
        by_cases e1 : (K.toNat : Int) = (K'.toNat : Int)
        · by_cases e2 : D.toList = D'.toList
          · have HT := Lib.hid (show l.take (k + 1) = m.take (k + 1) by
              rw [HF.out, HG.out, HE.out]
              have h1 : K = K' := by apply UInt8.toNat_inj.1; omega
              have h2 : D = D' := ba_ext (by rw [ByteArray.toList_eq, ByteArray.toList_eq] at e2; exact e2)
              rw [h1, h2])
            go_wp2_with fail
            go_region
            go_wp2
            go_roundw
            case rel => exact ⟨k + 1, by omega, by go_num, HT.out, hbw.drew, HW.out⟩
            case measure => simp [intOf]; omega
          · have HD := Lib.hid (show decide (l = m) = false by
              rw [decide_eq_false_iff_not]
              intro h
              subst h
              have := HF.out.symm.trans HG.out
              simp at this
              exact e2 (by rw [this.2]))
            go_wp2_with fail
            go_region
            go_wp2
            go_ret
            exact ⟨ret_bool HD.out.symm, hbw.drew⟩
        · have HD := Lib.hid (show decide (l = m) = false by
            rw [decide_eq_false_iff_not]
            intro h
            subst h
            have := HF.out.symm.trans HG.out
            simp at this
            exact e1 (by rw [this.1]))
          go_wp2_with fail
          go_region
          go_wp2
          go_ret
          exact ⟨ret_bool HD.out.symm, hbw.drew⟩
      · obtain rfl : k = n := by omega
        have HD := Lib.hid (show decide (l = m) = true by
          rw [decide_eq_true_eq]
          have h := HE.out
          rw [show l.take k = l by rw [HN.out, List.take_length], show m.take k = m by rw [HM.out, List.take_length]] at h
          exact h)
        go_wp2
        go_ret
        exact ⟨ret_bool HD.out.symm, hbw⟩
  · have HD := Lib.hid (show decide (l = m) = false by
      rw [decide_eq_false_iff_not]
      intro h
      exact hlen (by rw [h]))
    have hne : ((l.length : Int) != m.length) = true := by rw [bne_iff_ne]; omega
    go_enter Try.func18, Try.ntmps18
    go_wp2
    go_ret
    exact ⟨ret_bool HD.out.symm, Below.refl _ _⟩

/-- Rows that are empty. -/
theorem same_none (a a' : Option Addr) (cap cap' : Nat) (w : World) :
    Calls Try.prog 18 #[.slice a 0 cap, .slice a' 0 cap'] w fun e w' => e = .returned (.bool true) ∧ Below w.heap.size w w' := by
  go_enter Try.func18, Try.ntmps18
  go_wp2
  go_loop [5] (fun i => i = .int .i64 0) (fun _ => 0)
  case atStart => rfl
  case round =>
    obtain rfl := hrel
    go_wp2
    go_ret
    exact ⟨rfl, Below.refl _ _⟩
theorem same_lens (a a' : Option Addr) (n n' cap cap' : Nat) (h : n ≠ n') (w : World) :
    Calls Try.prog 18 #[.slice a n cap, .slice a' n' cap'] w fun e w' => e = .returned (.bool false) ∧ Below w.heap.size w w' := by
  have hne : ((n : Int) != n') = true := by rw [bne_iff_ne]; omega
  go_enter Try.func18, Try.ntmps18
  go_wp2
  go_ret
  exact ⟨rfl, Below.refl _ _⟩
theorem same_any (v v' : Value) (l m : List Fr) (w : World) (hl : l.length ≤ 9223372036854775807) (hm : m.length ≤ 9223372036854775807) (h : FrRow w v l) (h' : FrRow w v' m) :
    Calls Try.prog 18 #[v, v'] w fun e w' => e = .returned (.bool (decide (l = m))) ∧ Below w.heap.size w w' := by
  rcases h with ⟨a, cap, rfl, rfl⟩ | ⟨b, off, cap, rfl, hc, hb⟩
  · rcases h' with ⟨a', cap', rfl, rfl⟩ | ⟨b', off', cap', rfl, hc', hb'⟩
    · exact same_none a a' cap cap' w
    · by_cases h0 : m = []
      · subst h0; exact same_none a _ cap cap' w
      · have hl0 : 0 ≠ m.length := by intro h; exact h0 (List.length_eq_zero_iff.1 h.symm)
        rw [show decide ([] = m) = false by rw [decide_eq_false_iff_not]; exact fun h => h0 h.symm]
        exact same_lens _ _ _ _ _ _ hl0 w
  · rcases h' with ⟨a', cap', rfl, rfl⟩ | ⟨b', off', cap', rfl, hc', hb'⟩
    · by_cases h0 : l = []
      · subst h0; exact same_none _ a' cap cap' w
      · have hl0 : l.length ≠ 0 := by intro h; exact h0 (List.length_eq_zero_iff.1 h)
        rw [show decide (l = []) = false by rw [decide_eq_false_iff_not]; exact h0]
        exact same_lens _ _ _ _ _ _ hl0 w
    · exact same_full b off cap b' off' cap' l m w hl hm hc hc'
theorem olds_none (a : Option Addr) (cap : Nat) (w : World) : Calls Try.prog 19 #[.slice a 0 cap] w (OldsPost [] w) := by
  go_enter Try.func19, Try.ntmps19
  go_wp2
  go_loop [3, 8] (fun v i => v = .slice none 0 0 ∧ i = .int .i64 0) (fun _ _ => 0)
  case atStart => exact ⟨rfl, rfl⟩
  case round =>
    obtain ⟨rfl, rfl⟩ := hrel
    go_wp2
    go_ret
    exact ⟨_, rfl, World.ownsRow_nil _ _ _ _, Below.refl _ _⟩
theorem olds_any (v : Value) (l : List Fr) (w : World) (hl : l.length ≤ 1000000) (h : FrRow w v l) : Calls Try.prog 19 #[v] w (OldsPost l w) := by
  rcases h with ⟨a, cap, rfl, rfl⟩ | ⟨b, off, cap, rfl, hc, hb⟩
  · exact olds_none a cap w
  · exact olds_full b off cap l w hl hc hb
end Go.Proofs.Ytidnoeahmnfodaa
