/- The walks of few and of Do. -/
import Derived.Test.YtgkphogefpmeaaaDkN
namespace Go.Proofs.Ytgkphogefpmeaaa
open Go.RowKit Go.Maps DkM

def tot : List Op5 → Nat
  | [] => 0
  | o :: r => o.a.size + o.b.size + tot r
def fewB (l : List Op5) : Bool := decide (tot l ≤ 3000 ∧ l.length ≤ 60)
theorem tot_app (a b : List Op5) : tot (a ++ b) = tot a + tot b := by
  induction a with
  | nil => simp [tot]
  | cons o r ih => simp only [List.cons_append, tot, ih]; omega
theorem tot_take (l : List Op5) (k : Nat) (h : k < l.length) : tot (l.take (k + 1)) = tot (l.take k) + (l[k].a.size + l[k].b.size) := by
  rw [List.take_succ_eq_append_getElem h, tot_app]; simp [tot]
theorem tot_le (l : List Op5) (k : Nat) : tot (l.take k) ≤ tot l := by
  have : tot l = tot (l.take k) + tot (l.drop k) := by rw [← tot_app, List.take_append_drop]
  omega
abbrev opV (o : Op5) : Value := .agg #[.int .i64 o.k, .string o.a, .string o.b, .int .i64 o.n]

set_option maxRecDepth 100000 in
set_option maxHeartbeats 1000000 in
theorem few_any {w : World} {v : Value} {l : List Op5} (h : OpsAt w v l) (hok : ∀ o ∈ l, OkOp o) (hlen : l.length ≤ 140737488355328) :
    Calls Try.prog 11 #[v] w fun e w' => e = .returned (.bool (fewB l)) ∧ Below w.heap.size w w' := by
  obtain ⟨A, cap, rfl, hcap, hA⟩ := h
  have HA := Lib.hid hA
  have HO := Lib.hid hok
  clear hA hok
  go_enter Try.func11, Try.ntmps11
  go_wp2_with fail
  go_loopw [3, 8] (fun n i wr => ∃ k : Nat, k ≤ l.length ∧ tot (l.take k) ≤ 3000 ∧ n = .int .i64 (tot (l.take k) : Nat) ∧ i = .int .i64 k ∧ Below w.heap.size w wr) (fun _ i _ => l.length - (intOf i).toNat)
  case atStart => exact ⟨0, Nat.zero_le _, by simp [tot], by simp [tot], rfl, Below.refl _ _⟩
  case round =>
    obtain ⟨k, hk, ht, rfl, rfl, hb⟩ := hrel
    by_cases hlt : k < l.length
    · obtain ⟨b, off, rfl, hbl, hc⟩ := HA.out (by omega)
      obtain ⟨o, ho⟩ : ∃ o, o = l[k] := ⟨_, rfl⟩
      have hoc := hc k hlt
      rw [← ho] at hoc
      obtain ⟨q0, q1, q2, q3⟩ := hoc.below (w' := wr) ⟨hb.os, hb.tape, hb.output, hb.size, hb.block⟩ hbl
      have hoo := HO.out o (by rw [ho]; exact List.getElem_mem _)
      have hta := Lib.hid (tot_take l k hlt)
      rw [← ho] at hta
      have h1 := hoo.a1
      have h2 := hoo.b1
      clear hc hoc ho hoo
      obtain ⟨T, hT⟩ : ∃ T, T = tot (l.take k) := ⟨_, rfl⟩
      rw [← hT] at ht hta
      rw [← hT]
      have HT := Lib.hid hT
      clear hT
      by_cases hbig : T + (o.a.size + o.b.size) ≤ 3000
      · go_wp2_with fail
        go_roundw
        case rel => exact ⟨k + 1, by omega, by rw [hta.out]; omega, int_eq (by rw [hta.out]; omega), by go_num, hb.alloc hb.size _⟩
        case measure => simp [intOf]; omega
      · have HF := Lib.hid (show fewB l = false by
          unfold fewB
          have := tot_le l (k + 1)
          rw [hta.out] at this
          simp; omega)
        go_wp2_with fail
        go_ret
        exact ⟨by rw [HF.out]; rfl, hb.alloc hb.size _⟩
    · obtain rfl : k = l.length := by omega
      rw [List.take_length] at ht
      have HF := Lib.hid (show fewB l = decide ((l.length : Int) ≤ 60) by
        unfold fewB
        rw [Bool.eq_iff_iff]
        simp; omega)
      go_wp2_with fail
      go_ret
      exact ⟨by rw [HF.out]; rfl, hb⟩

section
variable {w : World} {p b : Nat} {S : Dk}
theorem op_box (w : World) (k n : Int) (a c : ByteArray) : (w.alloc (.cells #[.int .i64 k, .string a, .string c, .int .i64 n] 34)).cell? ⟨w.heap.size, 0, none⟩ = some (.int .i64 k) ∧ (w.alloc (.cells #[.int .i64 k, .string a, .string c, .int .i64 n] 34)).cell? ⟨w.heap.size, 1, none⟩ = some (.string a) ∧
    (w.alloc (.cells #[.int .i64 k, .string a, .string c, .int .i64 n] 34)).cell? ⟨w.heap.size, 2, none⟩ = some (.string c) ∧ (w.alloc (.cells #[.int .i64 k, .string a, .string c, .int .i64 n] 34)).cell? ⟨w.heap.size, 3, none⟩ = some (.int .i64 n) := by simp
theorem op_post {R : Dk × Nat} {w w' w1 : World} {r : Ending} {x : Nat} (hr : r = .returned (.int .i64 x)) (hx : R.2 = x) (hd : DiskAt w' p b R.1) (h1 : Kp p b w w1) (h2 : Kp p b w1 w') : OpPost R p b w r w' := ⟨by rw [hx]; exact hr, hd, h1.trans h2⟩

set_option maxRecDepth 100000 in
set_option maxHeartbeats 1000000 in
theorem do_any (h : DiskAt w p b S) (B : Bd S) (hnm : ∀ f ∈ S.L, f.n.size ≤ maxLen) {o : Op5} (ho : OkOp o) {ks : List Int} {kb : Nat} {K : Value} (hK : IntsAt w kb ks K) (hkb : 0 < ks.length → kb < w.heap.size ∧ kb ≠ p ∧ kb ≠ b) (hkw : ∀ x ∈ ks, -9223372036854775808 ≤ x ∧ x ≤ 9223372036854775807) :
    Calls Try.prog 17 #[ptr p, opV o, K] w (OpPost (doOp S o ks) p b w) := by
  obtain ⟨k, a, c, n⟩ := o
  obtain ⟨k0, k1, ha1, hb1, n0, n1⟩ := ho
  simp only at k0 k1 ha1 hb1 n0 n1
  have HA := Lib.hid (show a.size ≤ maxLen by unfold maxLen; omega)
  have HC := Lib.hid (show c.size ≤ maxLen by unfold maxLen; omega)
  replace hb1 : c.size ≤ 9223372036854775807 := by omega
  have DB := Lib.hid (h.alloc (.cells #[.int .i64 k, .string a, .string c, .int .i64 n] 34))
  have K1 : Kp p b w (w.alloc (.cells #[.int .i64 k, .string a, .string c, .int .i64 n] 34)) := Kp.alloc _ _
  have HB := Lib.hid B
  have HN := Lib.hid hnm
  have hKI := Lib.hid (IntsAt.keep (w' := w.alloc (.cells #[.int .i64 k, .string a, .string c, .int .i64 n] 34)) hK (fun h0 => Below.heap_alloc _ _ _ (hkb h0).1))
  have HKB := Lib.hid (show 0 < ks.length → kb < (w.alloc (.cells #[.int .i64 k, .string a, .string c, .int .i64 n] 34)).heap.size ∧ kb ≠ p ∧ kb ≠ b from fun h0 => ⟨by simp; have := (hkb h0).1; omega, (hkb h0).2⟩)
  have HKW := Lib.hid hkw
  clear h B hnm ha1 hK hkb hkw
  by_cases e0 : k = 0
  · subst e0
    have HD := Lib.hid (show doOp S ⟨0, a, c, n⟩ ks = doC S a by unfold doOp; simp)
    go_enter Try.func17, Try.ntmps17
    go_wp2_with fail
    refine (create_any DB.out HB.out HA.out).mono ?_
    rintro e w1 ⟨rfl, D1, K2⟩
    have DD := Lib.hid D1
    clear D1
    go_wp2_with fail
    go_ret
    rw [HD.out]
    exact ⟨rfl, DD.out, K1.trans K2⟩
  by_cases e1 : k = 1
  · subst e1
    have HD := Lib.hid (show doOp S ⟨1, a, c, n⟩ ks = doA S a c by unfold doOp; simp)
    go_enter Try.func17, Try.ntmps17
    go_wp2_with fail
    refine (append_any DB.out HB.out HA.out hb1).mono ?_
    rintro e w1 ⟨rfl, D1, K2⟩
    have DD := Lib.hid D1
    clear D1
    go_wp2_with fail
    go_ret
    rw [HD.out]
    exact ⟨rfl, DD.out, K1.trans K2⟩
  by_cases e2 : k = 2
  · subst e2
    have HD := Lib.hid (show doOp S ⟨2, a, c, n⟩ ks = doS S a by unfold doOp; simp)
    go_enter Try.func17, Try.ntmps17
    go_wp2_with fail
    refine (sync_any DB.out HB.out HA.out).mono ?_
    rintro e w1 ⟨rfl, D1, K2⟩
    have DD := Lib.hid D1
    clear D1
    go_wp2_with fail
    go_ret
    rw [HD.out]
    exact ⟨rfl, DD.out, K1.trans K2⟩
  by_cases e3 : k = 3
  · subst e3
    have HD := Lib.hid (show doOp S ⟨3, a, c, n⟩ ks = doR S a c by unfold doOp; simp)
    go_enter Try.func17, Try.ntmps17
    go_wp2_with fail
    refine (rename_any DB.out HB.out HA.out HC.out).mono ?_
    rintro e w1 ⟨rfl, D1, K2⟩
    have DD := Lib.hid D1
    clear D1
    go_wp2_with fail
    go_ret
    rw [HD.out]
    exact ⟨rfl, DD.out, K1.trans K2⟩
  by_cases e4 : k = 4
  · subst e4
    have HD := Lib.hid (show doOp S ⟨4, a, c, n⟩ ks = doD S a by unfold doOp; simp)
    go_enter Try.func17, Try.ntmps17
    go_wp2_with fail
    refine (delete_any DB.out HB.out HA.out).mono ?_
    rintro e w1 ⟨rfl, D1, K2⟩
    have DD := Lib.hid D1
    clear D1
    go_wp2_with fail
    go_ret
    rw [HD.out]
    exact ⟨rfl, DD.out, K1.trans K2⟩
  by_cases e5 : k = 5
  · subst e5
    have HD := Lib.hid (show doOp S ⟨5, a, c, n⟩ ks = (doRd S a n, (rdS S a n).2) by unfold doOp; simp)
    go_enter Try.func17, Try.ntmps17
    go_wp2_with fail
    refine (read_any DB.out HB.out HA.out n n0 n1).mono ?_
    rintro e w1 ⟨rfl, D1, K2⟩
    have DD := Lib.hid D1
    clear D1
    go_wp2_with fail
    go_ret
    rw [HD.out]
    exact ⟨rfl, DD.out, K1.trans K2⟩
  by_cases e6 : k = 6
  · subst e6
    have HD := Lib.hid (show doOp S ⟨6, a, c, n⟩ ks = ({ S with fuse := max n (-1) }, 0) by unfold doOp; simp)
    go_enter Try.func17, Try.ntmps17
    go_wp2_with fail
    refine (setFuse_any DB.out n).mono ?_
    rintro e w1 ⟨rfl, D1, K2⟩
    have DD := Lib.hid D1
    clear D1
    go_wp2_with fail
    go_ret
    rw [HD.out]
    exact ⟨rfl, DD.out, K1.trans K2⟩
  by_cases e7 : k = 7
  · subst e7
    have HD := Lib.hid (show doOp S ⟨7, a, c, n⟩ ks = (doCr S ks, 0) by unfold doOp; simp)
    go_enter Try.func17, Try.ntmps17
    go_wp2_with fail
    refine (crash_any DB.out HB.out HN.out hKI.out HKB.out HKW.out).mono ?_
    rintro e w1 ⟨rfl, D1, K2⟩
    have DD := Lib.hid D1
    clear D1
    go_wp2_with fail
    go_ret
    rw [HD.out]
    exact ⟨rfl, DD.out, K1.trans K2⟩
  have HD := Lib.hid (show doOp S ⟨k, a, c, n⟩ ks = (S, 0) by unfold doOp; simp [e0, e1, e2, e3, e4, e5, e6, e7])
  have g0 : (k == 0) = false := by simpa using e0
  have g1 : (k == 1) = false := by simpa using e1
  have g2 : (k == 2) = false := by simpa using e2
  have g3 : (k == 3) = false := by simpa using e3
  have g4 : (k == 4) = false := by simpa using e4
  have g5 : (k == 5) = false := by simpa using e5
  have g6 : (k == 6) = false := by simpa using e6
  have g7 : (k == 7) = false := by simpa using e7
  clear e0 e1 e2 e3 e4 e5 e6 e7
  go_enter Try.func17, Try.ntmps17
  go_wp2_with fail
  go_ret
  rw [HD.out]
  exact ⟨rfl, DB.out, K1⟩
end
end Go.Proofs.Ytgkphogefpmeaaa
