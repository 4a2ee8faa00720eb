/- The walks of the reference's Used and without. -/
import Derived.Test.YtgkphogefpmeaaaRfB
namespace Go.Proofs.Ytgkphogefpmeaaa
open Go.RowKit Go.Maps DkM

theorem usd_take (L : List Fl) (k : Nat) (h : k < L.length) : usd (L.take (k + 1)) = usd (L.take k) + L[k].s.size + L[k].l.size := by
  rw [List.take_succ_eq_append_getElem h, usd_app]; simp only [usd]; omega
theorem usd_take_le (L : List Fl) (k : Nat) : usd (L.take k) ≤ usd L := by
  have : usd L = usd (L.take k) + usd (L.drop k) := by rw [← usd_app, List.take_append_drop]
  omega
theorem rf_box (w : World) (sl : Value) (a b c d : Int) (e : Bool) :
    (w.alloc (.cells #[sl, .int .i64 a, .int .i64 b, .int .i64 c, .int .i64 d, .bool e] 30)).cell? ⟨w.heap.size, 0, none⟩ = some sl := by simp

set_option maxRecDepth 100000 in
set_option maxHeartbeats 1000000 in
theorem rused_any {w : World} {lo : Nat} {sl : Value} {S : Dk} (h : FsAt w lo sl S.L) (hl : S.L.length ≤ 9223372036854775807) (hu : usd S.L ≤ 1073741824) :
    Calls Try.prog 42 #[rfV sl S] w fun e w' => e = .returned (.int .i64 (usd S.L : Nat)) ∧ Below w.heap.size w w' := by
  have HF := Lib.hid h
  obtain ⟨A, cap, rfl, hcap, hA⟩ := h
  clear hA
  go_enter Try.func42, Try.ntmps42
  go_wp2_with fail
  obtain ⟨W, hW⟩ : ∃ W, W = w.alloc (.cells #[.slice A S.L.length cap, .int .i64 S.lim, .int .i64 S.fuse, .int .i64 S.ops, .int .i64 S.reads, .bool S.down] 30) := ⟨_, rfl⟩
  rw [← hW]
  have b0 : W.cell? ⟨w.heap.size, 0, none⟩ = some (.slice A S.L.length cap) := by rw [hW]; exact rf_box _ _ _ _ _ _ _
  have FW : FsAt W lo (.slice A S.L.length cap) S.L := by rw [hW]; exact HF.out.alloc _
  have hbW : Below w.heap.size w W := by rw [hW]; exact (Below.refl _ _).alloc (Nat.le_refl _) _
  obtain ⟨A', cap', hq, _, hA⟩ := FW
  cases hq
  have HA := Lib.hid hA
  clear hA hW
  go_loopw [3, 4] (fun n i wr => ∃ k q : Nat, k ≤ S.L.length ∧ n = .int .i64 (usd (S.L.take k) : Nat) ∧ i = .int .i64 k ∧ wr = W.drewN q) (fun _ i _ => S.L.length - (intOf i).toNat)
  case atStart => exact ⟨0, 0, Nat.zero_le _, rfl, rfl, rfl⟩
  case round =>
    obtain ⟨k, q, hk, rfl, rfl, rfl⟩ := hrel
    by_cases hlt : k < S.L.length
    · obtain ⟨g, off, rfl, hg1, hg2, hc⟩ := HA.out (by omega)
      obtain ⟨_, q1, q2⟩ := hc k hlt
      have hn := Lib.hid (usd_take S.L k hlt)
      have hle := usd_take_le S.L (k + 1)
      rw [hn.out] at hle
      clear hc
      obtain ⟨T, hT⟩ : ∃ T, T = usd (S.L.take k) := ⟨_, rfl⟩
      rw [← hT] at hn hle
      rw [← hT]
      have i0 : (0 : Int) ≤ (k : Int) := by omega
      have i1 : (k : Int) < (S.L.length : Int) := by omega
      have HT := Lib.hid hT
      clear hT
      go_wp2_with fail
      go_quiet (fail)
      go_wp2_with fail
      go_roundw
      case rel => exact ⟨k + 1, _, by omega, int_eq (by rw [hn.out]; omega), by go_num, rfl⟩
      case measure => simp [intOf]; omega
    · obtain rfl : k = S.L.length := by omega
      rw [List.take_length]
      go_wp2_with fail
      go_ret
      exact ⟨rfl, hbW.trans ⟨rfl, rfl, rfl, Nat.le_refl _, fun _ _ => rfl⟩⟩

theorem info_file : (Try.prog.info? 54).map (fun i => (i.zero, i.size, i.bytes)) = some (some (.agg #[.string ⟨#[]⟩, .string ⟨#[]⟩, .string ⟨#[]⟩]), 3, 48) := by kernel_rfl
theorem new_three (W : World) (T : TypeId) (a b c : Value) (g : Nat) (hg : g = W.heap.size) : ∀ (j : Nat) (u : Value), [a, b, c][j]? = some u → (W.alloc (.cells #[a, b, c] T)).cell? ((⟨g, 0, none⟩ : Addr).add j) = some u := by
  subst hg
  intro j u h
  match j with
  | 0 => simp at h; subst h; simp [Addr.add]
  | 1 => simp at h; subst h; simp [Addr.add]
  | 2 => simp at h; subst h; simp [Addr.add]
  | j + 3 => simp at h
theorem one_three (a b c : ByteArray) : ∀ u ∈ [Value.string a, .string b, .string c], u.oneCell' = true := by
  intro u hu
  simp at hu
  rcases hu with rfl | rfl | rfl <;> rfl
theorem below_grown {w wr w' : World} {T : TypeId} {size n : Nat} {v : Value} {xs : List Value} {o : Obj} (h : Below w.heap.size w wr) (ho : wr.ownsRow w.heap.size T size v n xs) (hg : (wr.alloc o).grownBy w' v.ownBlock) : Below w.heap.size w w' := by
  have hs := h.size
  exact Below.grown (h.alloc hs _) hg (by simp; omega) (fun k hk => (ho.lt k hk).1)
theorem wo_take (L : List Fl) (n : ByteArray) (k : Nat) (h : k < L.length) : wo (L.take (k + 1)) n = wo (L.take k) n ++ (if eqN L[k].n n then [] else [L[k]]) := by
  unfold wo
  rw [List.take_succ_eq_append_getElem h, List.filter_append]
  congr 1
  cases hq : eqN L[k].n n <;> simp [hq]
/-- What is handed back is a slice of its own. -/
def FsPost (L : List Fl) (w : World) (e : Ending) (w' : World) : Prop := ∃ v, e = .returned v ∧ w'.ownsRow w.heap.size 54 3 v L.length (fsC L) ∧ Below w.heap.size w w'

set_option maxRecDepth 100000 in
set_option maxHeartbeats 1000000 in
theorem without_any {w : World} {lo : Nat} {sl : Value} {L : List Fl} (h : FsAt w lo sl L) (hl : L.length ≤ 1048576) (n : ByteArray) :
    Calls Try.prog 62 #[sl, .string n] w (FsPost (wo L n) w) := by
  have HF := Lib.hid h
  obtain ⟨i0, hi, hz0, hz1, hz2⟩ := info_parts info_file
  obtain ⟨A, cap, rfl, hcap, hA⟩ := h
  have HA := Lib.hid hA
  clear hA
  go_enter Try.func62, Try.ntmps62
  go_wp2_with fail
  go_loopw [5, 6] (fun v i wr => ∃ k m, k ≤ L.length ∧ m = (wo (L.take k) n).length ∧ m ≤ k ∧ i = .int .i64 (k : Nat) ∧ wr.ownsRow w.heap.size 54 3 v m (fsC (wo (L.take k) n)) ∧ Below w.heap.size w wr) (fun _ i _ => L.length - (intOf i).toNat)
  case atStart => exact ⟨0, 0, Nat.zero_le _, rfl, Nat.le_refl _, rfl, World.ownsRow_nil _ _ _ _, Below.refl _ _⟩
  case round =>
    obtain ⟨k, m, hk, hm, hmk, rfl, hown, hb⟩ := hrel
    have HM := Lib.hid hm
    clear hm
    by_cases hlt : k < L.length
    · obtain ⟨g, off, rfl, hg1, hg2, hc⟩ := HA.out (by omega)
      obtain ⟨q0, q1, q2⟩ := hc k hlt
      replace q0 := (hb.cell (by exact hg2)).trans q0
      replace q1 := (hb.cell (by exact hg2)).trans q1
      replace q2 := (hb.cell (by exact hg2)).trans q2
      have hgr : g < wr.heap.size := Nat.lt_of_lt_of_le hg2 hb.size
      have HW := Lib.hid (wo_take L n k hlt)
      clear hc
      have hse := seq_eq L[k].n n
      cases hq : eqN L[k].n n with
      | true =>
        rw [hq] at hse
        have HE := Lib.hid (show wo (L.take (k + 1)) n = wo (L.take k) n by rw [HW.out, hq]; simp)
        clear hq
        go_wp2_with fail
        go_roundw
        case rel => exact ⟨k + 1, m, by omega, by rw [HE.out]; exact HM.out, by omega, by go_num, by rw [HE.out]; exact hown, hb⟩
        case measure => simp [intOf]; omega
      | false =>
        rw [hq] at hse
        obtain ⟨f, hf⟩ : ∃ f, f = L[k] := ⟨_, rfl⟩
        have HE := Lib.hid (show wo (L.take (k + 1)) n = wo (L.take k) n ++ [f] by rw [HW.out, hq, hf]; simp)
        rw [← hf] at q0 q1 q2 hse
        clear hq hf
        go_wp2_with (at_builtin; refine wpList_append_own _ rfl _ _ 28 rfl w.heap.size 54 i0 (.agg #[.string ⟨#[]⟩, .string ⟨#[]⟩, .string ⟨#[]⟩]) 3 48 Try.underlying28 hi hz0 hz1 hz2 rfl (by decide) _ _ _ rfl (hown.alloc _) ⟨wr.heap.size, 0, none⟩ 1 1 [.string f.n, .string f.s, .string f.l] rfl rfl (new_three wr _ _ _ _ _ (by simp)) (one_three _ _ _) (by unfold maxLen; omega) (by omega) (by have := hb.size; simp; omega) ?_; intro v' w' hown' hgrow _; have hbw' := below_grown hb hown hgrow; clear hgrow)
        go_roundw
        case rel => exact ⟨k + 1, m + 1, by omega, by rw [HE.out, List.length_append, ← HM.out]; rfl, by omega, by go_num, by rw [HE.out, fsC_snoc]; exact hown', hbw'⟩
        case measure => simp [intOf]; omega
    · obtain rfl : k = L.length := by omega
      rw [List.take_length] at hown
      have HM2 := Lib.hid (show m = (wo L n).length by have := HM.out; rw [List.take_length] at this; exact this)
      go_wp2_with fail
      go_ret
      exact ⟨_, rfl, by rw [← HM2.out]; exact hown, hb⟩
end Go.Proofs.Ytgkphogefpmeaaa
