/- The walk of DiskFuse. -/
import Derived.Test.YtgkphogefpmeaaaDkF
namespace Go.Proofs.Ytgkphogefpmeaaa
open Go.RowKit Go.Maps DkM

theorem why_some (S : Dk) (a c : ByteArray) : (whyC S.L a = 0 ∨ whyC S.L a = 51 ∨ whyC S.L a = 52) ∧ (whyA S a c = 0 ∨ whyA S a c = 51 ∨ whyA S a c = 52) ∧ (thr S.L a = 0 ∨ thr S.L a = 51 ∨ thr S.L a = 52) ∧ (whyR S a c = 0 ∨ whyR S a c = 51 ∨ whyR S a c = 52) := by
  have ht : thr S.L a = 0 ∨ thr S.L a = 51 ∨ thr S.L a = 52 := by unfold thr; split <;> simp
  refine ⟨by unfold whyC; split <;> simp, by unfold whyA; split <;> (try split) <;> simp, ht, ?_⟩
  unfold whyR
  split
  · exact ht
  · simp
/-- One of the five ops. -/
theorem op_case (S : Dk) {o : Op5} (ks : List Int) (h0 : 0 ≤ o.k) (h1 : o.k ≤ 4) :
    ∃ (e : Nat) (S' : Dk), doOp S o ks = opR S e S' ∧ (e = 0 ∨ e = 51 ∨ e = 52) ∧ S'.ops = S.ops + 1 ∧ S'.fuse = max (S.fuse - 1) (-1) ∧ S'.down = S.down := by
  obtain ⟨w1, w2, w3, w4⟩ := why_some S o.a o.b
  have hk : o.k = 0 ∨ o.k = 1 ∨ o.k = 2 ∨ o.k = 3 ∨ o.k = 4 := by omega
  unfold doOp
  rcases hk with h | h | h | h | h
  · rw [if_pos h]; exact ⟨_, _, rfl, w1, rfl, rfl, rfl⟩
  · rw [if_neg (by omega), if_pos h]; exact ⟨_, _, rfl, w2, rfl, rfl, rfl⟩
  · rw [if_neg (by omega), if_neg (by omega), if_pos h]; exact ⟨_, _, rfl, w3, rfl, rfl, rfl⟩
  · rw [if_neg (by omega), if_neg (by omega), if_neg (by omega), if_pos h]
    refine ⟨_, _, rfl, w4, ?_⟩
    unfold didR
    split <;> exact ⟨rfl, rfl, rfl⟩
  · rw [if_neg (by omega), if_neg (by omega), if_neg (by omega), if_neg (by omega), if_pos h]; exact ⟨_, _, rfl, w3, rfl, rfl, rfl⟩
/-- What a script's op does under a fuse. -/
structure FuseAt (n : Int) (S : Dk) (done used : Int) : Prop where
  ops : S.ops = done
  used : S.used = used
  le : done ≤ n
  fuse : S.down = false → S.fuse = n - done
theorem fuse_step {n : Int} {S : Dk} {done used : Int} (h : FuseAt n S done used) {o : Op5} {ks : List Int} (h0 : 0 ≤ o.k) (h1 : o.k ≤ 4) :
    ∃ (S' : Dk) (e : Nat), doOp S o ks = (S', e) ∧
      ((S.down = true ∧ e = 50 ∧ FuseAt n S' done used) ∨ (S.down = false ∧ (e = 51 ∨ e = 52) ∧ FuseAt n S' done used) ∨ (S.down = false ∧ e = 50 ∧ done = n ∧ FuseAt n S' done used) ∨ (S.down = false ∧ e = 0 ∧ done + 1 ≤ n ∧ FuseAt n S' (done + 1) S'.used)) := by
  obtain ⟨e, S', hd, he, a1, a2, a3⟩ := op_case S ks h0 h1
  rw [hd]
  obtain ⟨b1, b2, b3, b4⟩ := h
  unfold opR
  cases hdn : S.down with
  | true =>
    rw [if_pos rfl]
    exact ⟨S, 50, rfl, Or.inl ⟨rfl, rfl, b1, b2, b3, b4⟩⟩
  | false =>
    rw [if_neg (by decide)]
    by_cases h0 : e = 0
    · rw [if_neg (by simpa using h0)]
      by_cases hf : S.fuse = 0
      · rw [if_pos hf]
        have := b4 hdn
        exact ⟨_, 50, rfl, Or.inr (Or.inr (Or.inl ⟨rfl, rfl, by omega, b1, b2, b3, fun h => by cases h⟩))⟩
      · rw [if_neg hf]
        have := b4 hdn
        refine ⟨_, 0, rfl, Or.inr (Or.inr (Or.inr ⟨rfl, rfl, by omega, by omega, rfl, by omega, fun _ => by omega⟩))⟩
    · rw [if_pos h0]
      exact ⟨S, e, rfl, Or.inr (Or.inl ⟨rfl, by omega, b1, b2, b3, b4⟩)⟩

set_option maxRecDepth 100000 in
set_option maxHeartbeats 4000000 in
theorem walk_DiskFuse (w : World) (v : Value) (hv : ReadOps w v) (n : Int) (w1' : (Lit.int .i64 n).wf = true) :
    Calls Try.prog 6 #[v, .int .i64 n] w fun e w' => e = .returned (.bool true) ∧ Below w.heap.size w w' := by
  obtain ⟨l, hl, hok, hlen⟩ := hv
  have hn1 := (bounds_i64 w1').2
  have FW := Lib.hid (few_any hl hok hlen)
  have AL := Lib.hid alive_any
  obtain ⟨A, cap, rfl, hcap, hA⟩ := hl
  have HA := Lib.hid hA
  replace hok := Lib.hid hok
  clear hA w1'
  cases hf : fewB l with
  | false =>
    have HF := Lib.hid hf
    clear hf
    go_enter Try.func6, Try.ntmps6
    go_wp2_with fail
    refine FW.out.mono ?_
    rw [HF.out]
    rintro e w1 ⟨rfl, hb1⟩
    go_wp2_with fail
    refine (AL.out _).mono ?_
    rintro e w2 ⟨rfl, hb2⟩
    go_wp2_with fail
    go_ret
    exact ⟨rfl, hb1.trans (hb2.mono hb1.size)⟩
  | true =>
    have hl60 : l.length ≤ 60 := by unfold fewB at hf; simp at hf; exact hf.2
    have HF := Lib.hid hf
    clear hf
    by_cases hneg : n < 0
    · go_enter Try.func6, Try.ntmps6
      go_wp2_with fail
      refine FW.out.mono ?_
      rw [HF.out]
      rintro e w1 ⟨rfl, hb1⟩
      go_wp2_with fail
      refine (AL.out _).mono ?_
      rintro e w2 ⟨rfl, hb2⟩
      go_wp2_with fail
      go_ret
      exact ⟨rfl, hb1.trans (hb2.mono hb1.size)⟩
    · have hn0 : 0 ≤ n := by omega
      clear hneg
      go_enter Try.func6, Try.ntmps6
      go_wp2_with fail
      refine FW.out.mono ?_
      rw [HF.out]
      rintro e w1 ⟨rfl, hb1⟩
      go_wp2_with fail
      refine (new_lo 1000 _).mono ?_
      rintro e w2 ⟨p, b, rfl, hp, hb, hD, hb2⟩
      have hD2 := Lib.hid hD
      have hB2 : Below w.heap.size w w2 := hb1.trans (hb2.mono hb1.size)
      have hp0 : w.heap.size ≤ p := Nat.le_trans hb1.size hp
      have hb0 : w.heap.size ≤ b := Nat.le_trans hb1.size hb
      clear hD hb1 hb2 hp hb
      go_wp2_with fail
      refine (setFuse_any hD2.out n).mono ?_
      rintro e w3 ⟨rfl, D3, K3⟩
      have hD3 := Lib.hid D3
      have hB3 : Below w.heap.size w w3 := hB2.trans (K3.below hp0 hb0 hB2.size)
      clear D3 K3
      go_wp2_with fail
      go_loopw [6, 7, 28] (fun d u i wr => ∃ (k : Nat) (S : Dk) (done used : Int), k ≤ l.length ∧ i = .int .i64 k ∧ d = .int .i64 done ∧ u = .int .i64 used ∧ Iv k S ∧ FuseAt n S done used ∧ 0 ≤ done ∧ DiskAt wr p b S ∧ Below w.heap.size w wr) (fun _ _ i _ => l.length - (intOf i).toNat)
      case atStart =>
        refine ⟨0, { newS 1000 with fuse := max n (-1) }, 0, 0, Nat.zero_le _, rfl, rfl, rfl, (Iv.new 1000).fuse n hn1, ⟨rfl, rfl, hn0, fun _ => ?_⟩, Int.le_refl _, hD3.out, hB3⟩
        show max n (-1) = n - 0
        omega
      case round =>
        obtain ⟨k, S, done, used, hk, rfl, rfl, rfl, hI, hF, hd0, hD, hb⟩ := hrel
        have HDr := Lib.hid hD
        have HIr := Lib.hid hI
        have HFr := Lib.hid hF
        have hdn := hF.le
        clear hD hI hF
        by_cases hlt : k < l.length
        · obtain ⟨g, off, rfl, hgl, hgc⟩ := OpsAt.at_ HA.out hb hlt
          obtain ⟨o, ho⟩ : ∃ o, o = l[k] := ⟨_, rfl⟩
          obtain ⟨q0, q1, q2, q3⟩ := hgc o ho
          have hoo := Lib.hid (hok.out o (by rw [ho]; exact List.getElem_mem _))
          clear hgc ho
          by_cases hlo : o.k < 0
          · go_wp2_with fail
            go_roundw
            case rel => exact ⟨k + 1, S, done, used, by omega, by go_num, rfl, rfl, HIr.out.mono (by omega), HFr.out, hd0, HDr.out.alloc _, hb.alloc hb.size _⟩
            case measure => simp [intOf]; omega
          · by_cases hhi : 4 < o.k
            · have hlo2 : 0 ≤ o.k := by omega
              clear hlo
              go_wp2_with fail
              go_roundw
              case rel => exact ⟨k + 1, S, done, used, by omega, by go_num, rfl, rfl, HIr.out.mono (by omega), HFr.out, hd0, HDr.out.alloc _, hb.alloc hb.size _⟩
              case measure => simp [intOf]; omega
            · have hlo2 : 0 ≤ o.k := by omega
              have hhi2 : o.k ≤ 4 := by omega
              clear hlo hhi
              obtain ⟨S4, E4, hEq, hCase⟩ := fuse_step HFr.out (o := o) (ks := []) hlo2 hhi2
              have I4 := HIr.out.doOp hoo.out []
              rw [hEq] at I4
              have HEq := Lib.hid hEq
              have HI4 := Lib.hid I4
              clear hEq I4
              have main : ∀ (W : World), W = wr.alloc (.cells #[.int .i64 o.k, .string o.a, .string o.b, .int .i64 o.n] 34) → Hid (DiskAt W p b S ∧ Below w.heap.size w W ∧ Calls Try.prog 17 #[ptr p, opV o, .slice none 0 0] W (OpPost (S4, E4) p b W)) := fun W hW => by
                have DW : DiskAt W p b S := by rw [hW]; exact HDr.out.alloc _
                refine Lib.hid ⟨DW, by rw [hW]; exact hb.alloc hb.size _, ?_⟩
                rw [← HEq.out]
                exact do_any DW (HIr.out.bd (by omega)) HIr.out.names hoo.out (IntsAt.none_ W 0 none 0) (fun h => absurd h (by simp)) (by simp)
              replace main := Lib.hid main
              rcases hCase with ⟨hd, he, hF4⟩ | ⟨hd, he, hF4⟩ | ⟨hd, he, hdn4, hF4⟩ | ⟨hd, he, hdn4, hF4⟩
              · have HF4 := Lib.hid hF4
                have HD := Lib.hid hd
                obtain rfl := he
                have hops := Lib.hid hF4.ops
                have hus := Lib.hid hF4.used
                clear hF4 hd
                go_wp2_with fail
                obtain ⟨W, hW⟩ : ∃ W, W = wr.alloc (.cells #[.int .i64 o.k, .string o.a, .string o.b, .int .i64 o.n] 34) := ⟨_, rfl⟩
                have M := main.out W hW
                rw [← hW]
                have nc : W.cell? ⟨wr.heap.size, 0, none⟩ = some (.int .i64 o.k) ∧ W.cell? ⟨wr.heap.size, 1, none⟩ = some (.string o.a) ∧ W.cell? ⟨wr.heap.size, 2, none⟩ = some (.string o.b) ∧ W.cell? ⟨wr.heap.size, 3, none⟩ = some (.int .i64 o.n) := by rw [hW]; exact op_box _ _ _ _ _
                obtain ⟨n0, n1, n2, n3⟩ := nc
                clear hW
                refine (down_any M.out.1).mono ?_
                rw [HD.out]
                rintro e wz ⟨rfl, rfl⟩
                go_wp2_with fail
                refine M.out.2.2.mono ?_
                rintro e w4 ⟨rfl, D4, K4⟩
                have HD4 := Lib.hid D4
                have hb4 : Below w.heap.size w w4 := M.out.2.1.trans (K4.below hp0 hb0 M.out.2.1.size)
                clear D4 K4 n0 n1 n2 n3
                go_wp2_with fail
                refine (ops_any HD4.out).mono ?_
                rw [hops.out]
                rintro e wz ⟨rfl, rfl⟩
                go_wp2_with fail
                refine (used_any HD4.out).mono ?_
                rw [hus.out]
                rintro e wz ⟨rfl, rfl⟩
                go_wp2_with fail
                go_roundw
                case rel => exact ⟨k + 1, S4, done, used, by omega, by go_num, rfl, rfl, HI4.out, HF4.out, hd0, HD4.out, hb4⟩
                case measure => simp [intOf]; omega
              · rcases he with rfl | rfl
                all_goals
                  have HF4 := Lib.hid hF4
                  have HD := Lib.hid hd
                  have hops := Lib.hid hF4.ops
                  have hus := Lib.hid hF4.used
                  clear hF4 hd
                  go_wp2_with fail
                  obtain ⟨W, hW⟩ : ∃ W, W = wr.alloc (.cells #[.int .i64 o.k, .string o.a, .string o.b, .int .i64 o.n] 34) := ⟨_, rfl⟩
                  have M := main.out W hW
                  rw [← hW]
                  have nc : W.cell? ⟨wr.heap.size, 0, none⟩ = some (.int .i64 o.k) ∧ W.cell? ⟨wr.heap.size, 1, none⟩ = some (.string o.a) ∧ W.cell? ⟨wr.heap.size, 2, none⟩ = some (.string o.b) ∧ W.cell? ⟨wr.heap.size, 3, none⟩ = some (.int .i64 o.n) := by rw [hW]; exact op_box _ _ _ _ _
                  obtain ⟨n0, n1, n2, n3⟩ := nc
                  clear hW
                  refine (down_any M.out.1).mono ?_
                  rw [HD.out]
                  rintro e wz ⟨rfl, rfl⟩
                  go_wp2_with fail
                  refine M.out.2.2.mono ?_
                  rintro e w4 ⟨rfl, D4, K4⟩
                  have HD4 := Lib.hid D4
                  have hb4 : Below w.heap.size w w4 := M.out.2.1.trans (K4.below hp0 hb0 M.out.2.1.size)
                  clear D4 K4 n0 n1 n2 n3
                  go_wp2_with fail
                  refine (ops_any HD4.out).mono ?_
                  rw [hops.out]
                  rintro e wz ⟨rfl, rfl⟩
                  go_wp2_with fail
                  refine (used_any HD4.out).mono ?_
                  rw [hus.out]
                  rintro e wz ⟨rfl, rfl⟩
                  go_wp2_with fail
                  go_roundw
                  case rel => exact ⟨k + 1, S4, done, used, by omega, by go_num, rfl, rfl, HI4.out, HF4.out, hd0, HD4.out, hb4⟩
                  case measure => simp [intOf]; omega
              · have HF4 := Lib.hid hF4
                have HD := Lib.hid hd
                obtain rfl := he
                have hq : (done != n) = false := by simp [hdn4]
                clear hdn4
                have hops := Lib.hid hF4.ops
                have hus := Lib.hid hF4.used
                clear hF4 hd
                go_wp2_with fail
                obtain ⟨W, hW⟩ : ∃ W, W = wr.alloc (.cells #[.int .i64 o.k, .string o.a, .string o.b, .int .i64 o.n] 34) := ⟨_, rfl⟩
                have M := main.out W hW
                rw [← hW]
                have nc : W.cell? ⟨wr.heap.size, 0, none⟩ = some (.int .i64 o.k) ∧ W.cell? ⟨wr.heap.size, 1, none⟩ = some (.string o.a) ∧ W.cell? ⟨wr.heap.size, 2, none⟩ = some (.string o.b) ∧ W.cell? ⟨wr.heap.size, 3, none⟩ = some (.int .i64 o.n) := by rw [hW]; exact op_box _ _ _ _ _
                obtain ⟨n0, n1, n2, n3⟩ := nc
                clear hW
                refine (down_any M.out.1).mono ?_
                rw [HD.out]
                rintro e wz ⟨rfl, rfl⟩
                go_wp2_with fail
                refine M.out.2.2.mono ?_
                rintro e w4 ⟨rfl, D4, K4⟩
                have HD4 := Lib.hid D4
                have hb4 : Below w.heap.size w w4 := M.out.2.1.trans (K4.below hp0 hb0 M.out.2.1.size)
                clear D4 K4 n0 n1 n2 n3
                go_wp2_with fail
                refine (ops_any HD4.out).mono ?_
                rw [hops.out]
                rintro e wz ⟨rfl, rfl⟩
                go_wp2_with fail
                refine (used_any HD4.out).mono ?_
                rw [hus.out]
                rintro e wz ⟨rfl, rfl⟩
                go_wp2_with fail
                go_roundw
                case rel => exact ⟨k + 1, S4, done, used, by omega, by go_num, rfl, rfl, HI4.out, HF4.out, hd0, HD4.out, hb4⟩
                case measure => simp [intOf]; omega
              · have HF4 := Lib.hid hF4
                have HD := Lib.hid hd
                obtain rfl := he
                have hops := Lib.hid hF4.ops
                have hopos := HIr.out.ops1
                rw [HFr.out.ops] at hopos
                clear hF4 hd
                go_wp2_with fail
                obtain ⟨W, hW⟩ : ∃ W, W = wr.alloc (.cells #[.int .i64 o.k, .string o.a, .string o.b, .int .i64 o.n] 34) := ⟨_, rfl⟩
                have M := main.out W hW
                rw [← hW]
                have nc : W.cell? ⟨wr.heap.size, 0, none⟩ = some (.int .i64 o.k) ∧ W.cell? ⟨wr.heap.size, 1, none⟩ = some (.string o.a) ∧ W.cell? ⟨wr.heap.size, 2, none⟩ = some (.string o.b) ∧ W.cell? ⟨wr.heap.size, 3, none⟩ = some (.int .i64 o.n) := by rw [hW]; exact op_box _ _ _ _ _
                obtain ⟨n0, n1, n2, n3⟩ := nc
                clear hW
                refine (down_any M.out.1).mono ?_
                rw [HD.out]
                rintro e wz ⟨rfl, rfl⟩
                go_wp2_with fail
                refine M.out.2.2.mono ?_
                rintro e w4 ⟨rfl, D4, K4⟩
                have HD4 := Lib.hid D4
                have hb4 : Below w.heap.size w w4 := M.out.2.1.trans (K4.below hp0 hb0 M.out.2.1.size)
                clear D4 K4 n0 n1 n2 n3
                go_wp2_with fail
                refine (used_any HD4.out).mono ?_
                rintro e wz ⟨rfl, rfl⟩
                go_wp2_with fail
                refine (ops_any HD4.out).mono ?_
                rw [hops.out]
                rintro e wz ⟨rfl, rfl⟩
                go_wp2_with fail
                refine (used_any HD4.out).mono ?_
                rintro e wz ⟨rfl, rfl⟩
                go_wp2_with fail
                go_roundw
                case rel => exact ⟨k + 1, S4, done + 1, S4.used, by omega, by go_num, rfl, rfl, HI4.out, HF4.out, by omega, HD4.out, hb4⟩
                case measure => simp [intOf]; omega
        · go_wp2_with fail
          refine (AL.out _).mono ?_
          rintro e w4 ⟨rfl, hb4⟩
          have hbe := hb.trans (hb4.mono hb.size)
          go_wp2_with fail
          go_ret
          exact ⟨rfl, hbe⟩
end Go.Proofs.Ytgkphogefpmeaaa
