/- The walk of the reference's Why. -/
import Derived.Test.YtgkphogefpmeaaaRfD
import Derived.IntWalk
namespace Go.Proofs.Ytgkphogefpmeaaa
open Go.RowKit Go.Maps DkM

def DBox (w : World) (D : Nat) (sl : Value) (S : Dk) : Prop :=
  w.cell? ⟨D, 0, none⟩ = some sl ∧ w.cell? ⟨D, 1, none⟩ = some (.int .i64 S.lim) ∧ w.cell? ⟨D, 2, none⟩ = some (.int .i64 S.fuse) ∧ w.cell? ⟨D, 3, none⟩ = some (.int .i64 S.ops) ∧ w.cell? ⟨D, 4, none⟩ = some (.int .i64 S.reads) ∧ w.cell? ⟨D, 5, none⟩ = some (.bool S.down)
def OBox (w : World) (O : Nat) (o : Op5) : Prop :=
  w.cell? ⟨O, 0, none⟩ = some (.int .i64 o.k) ∧ w.cell? ⟨O, 1, none⟩ = some (.string o.a) ∧ w.cell? ⟨O, 2, none⟩ = some (.string o.b) ∧ w.cell? ⟨O, 3, none⟩ = some (.int .i64 o.n)
theorem DBox.lt {w : World} {D : Nat} {sl : Value} {S : Dk} (h : DBox w D sl S) : D < w.heap.size := cell_lt h.1
theorem OBox.lt {w : World} {O : Nat} {o : Op5} (h : OBox w O o) : O < w.heap.size := cell_lt h.1
theorem DBox.keep {w w' : World} {D : Nat} {sl : Value} {S : Dk} (h : DBox w D sl S) (hb : w'.heap[D]? = w.heap[D]?) : DBox w' D sl S := by
  have k : ∀ i, w'.cell? ⟨D, i, none⟩ = w.cell? ⟨D, i, none⟩ := fun i => World.cell?_of_block (w := w) hb
  unfold DBox; rw [k, k, k, k, k, k]; exact h
theorem OBox.keep {w w' : World} {O : Nat} {o : Op5} (h : OBox w O o) (hb : w'.heap[O]? = w.heap[O]?) : OBox w' O o := by
  have k : ∀ i, w'.cell? ⟨O, i, none⟩ = w.cell? ⟨O, i, none⟩ := fun i => World.cell?_of_block (w := w) hb
  unfold OBox; rw [k, k, k, k]; exact h
theorem DBox.below {w w' : World} {D : Nat} {sl : Value} {S : Dk} (h : DBox w D sl S) (hb : Below w.heap.size w w') : DBox w' D sl S := h.keep (hb.block D h.lt)
theorem OBox.below {w w' : World} {O : Nat} {o : Op5} (h : OBox w O o) (hb : Below w.heap.size w w') : OBox w' O o := h.keep (hb.block O h.lt)
theorem DBox.new (w : World) (sl : Value) (S : Dk) : DBox (w.alloc (.cells #[sl, .int .i64 S.lim, .int .i64 S.fuse, .int .i64 S.ops, .int .i64 S.reads, .bool S.down] 30)) w.heap.size sl S := by unfold DBox; simp
theorem OBox.new (w : World) (o : Op5) : OBox (w.alloc (.cells #[.int .i64 o.k, .string o.a, .string o.b, .int .i64 o.n] 34)) w.heap.size o := op_box _ _ _ _ _
theorem below_one (w : World) (o : Obj) : Below w.heap.size w (w.alloc o) := (Below.refl _ _).alloc (Nat.le_refl _) _
/-- The two boxes with which most of the reference's functions begin. -/
theorem two_boxes (w : World) (sl : Value) (S : Dk) (o : Op5) : ∃ W, W = (w.alloc (.cells #[sl, .int .i64 S.lim, .int .i64 S.fuse, .int .i64 S.ops, .int .i64 S.reads, .bool S.down] 30)).alloc (.cells #[.int .i64 o.k, .string o.a, .string o.b, .int .i64 o.n] 34) ∧
    DBox W w.heap.size sl S ∧ OBox W (w.heap.size + 1) o ∧ Below w.heap.size w W := by
  refine ⟨_, rfl, (DBox.new w sl S).below (below_one _ _), ?_, below_two _ _ _⟩
  have := OBox.new (w.alloc (.cells #[sl, .int .i64 S.lim, .int .i64 S.fuse, .int .i64 S.ops, .int .i64 S.reads, .bool S.down] 30)) o
  simpa using this

theorem below_draw' {w : World} : Below w.heap.size w w.drew := ⟨rfl, rfl, rfl, Nat.le_refl _, fun _ _ => rfl⟩
theorem boxes_keep {w1 w2 : World} {D O : Nat} {sl : Value} {S : Dk} {o : Op5} (hD : DBox w1 D sl S) (hO : OBox w1 O o) (hk : o.k = 1) (hb : Below w1.drew.heap.size w1.drew w2) :
    (w2.cell? ⟨D, 0, none⟩ = some sl ∧ w2.cell? ⟨D, 1, none⟩ = some (.int .i64 S.lim) ∧ w2.cell? ⟨D, 2, none⟩ = some (.int .i64 S.fuse) ∧ w2.cell? ⟨D, 3, none⟩ = some (.int .i64 S.ops) ∧ w2.cell? ⟨D, 4, none⟩ = some (.int .i64 S.reads) ∧ w2.cell? ⟨D, 5, none⟩ = some (.bool S.down)) ∧ (w2.cell? ⟨O, 0, none⟩ = some (.int .i64 1) ∧ w2.cell? ⟨O, 2, none⟩ = some (.string o.b)) := by
  have h2 := hO.below (below_undrew hb)
  exact ⟨hD.below (below_undrew hb), by rw [← hk]; exact h2.1, h2.2.2.1⟩
theorem boxes_o0 {w1 w2 : World} {O : Nat} {o : Op5} (hO : OBox w1 O o) (hk : o.k = 1) (hb : Below w1.drew.heap.size w1.drew w2) : w2.cell? ⟨O, 0, none⟩ = some (.int .i64 1) := by
  have h2 := hO.below (below_undrew hb)
  rw [← hk]; exact h2.1

def whyO (S : Dk) (o : Op5) : Nat := if o.k = 0 then whyC S.L o.a else if o.k = 1 then whyA S o.a o.b else if o.k = 3 then whyR S o.a o.b else thr S.L o.a
/-- What the reference asks of a disk. -/
structure RfAt (w : World) (lo : Nat) (sl : Value) (S : Dk) : Prop where
  fs : FsAt w lo sl S.L
  len : S.L.length ≤ 1000000
  usd : usd S.L ≤ 1073741824
  used : S.used = (DkM.usd S.L : Nat)
  names : ∀ f ∈ S.L, f.n.size ≤ 9223372036854775807
theorem RfAt.below {w w' : World} {lo : Nat} {sl : Value} {S : Dk} (h : RfAt w lo sl S) (hb : Below w.heap.size w w') : RfAt w' lo sl S := ⟨h.fs.below hb, h.len, h.usd, h.used, h.names⟩

set_option maxRecDepth 100000 in
set_option maxHeartbeats 4000000 in
theorem why_any {w : World} {lo : Nat} {sl : Value} {S : Dk} (h : RfAt w lo sl S) {o : Op5} (ho : OkOp o) (_hk0 : 0 ≤ o.k) (_hk4 : o.k ≤ 4) (hlim : S.lim ≤ 1073741824) :
    Calls Try.prog 55 #[rfV sl S, opV o] w fun e w' => e = .returned (.int .i64 (whyO S o : Nat)) ∧ Below w.heap.size w w' := by
  have hlen := h.len
  have husd := h.usd
  have hused := h.used
  have ha1 := ho.a1
  have hb1 := ho.b1
  have hs : o.b.size ≤ 9223372036854775807 := by omega
  have hs' : o.a.size ≤ 9223372036854775807 := by omega
  obtain ⟨W, hW, hD, hO, hbW⟩ := two_boxes w sl S o
  have HW := Lib.hid hW
  have hRW : RfAt W lo sl S := h.below hbW
  have HAT := Lib.hid (at_any hRW.fs o.a (by omega))
  have HDB := Lib.hid hD
  have HOB := Lib.hid hO
  have HRW := Lib.hid hRW
  obtain ⟨d0, d1, d2, d3, d4, d5⟩ := hD
  obtain ⟨o0, o1, o2, o3⟩ := hO
  clear h hW hRW ho
  cases hl : lkF S.L o.a with
  | none =>
    have hix := Lib.hid (idx_none hl)
    by_cases k0 : o.k = 0
    · rw [k0] at o0
      cases hr : Rgt o.a with
      | false =>
        have HR := Lib.hid hr
        have HE := Lib.hid (show whyO S o = 51 by unfold whyO; rw [if_pos k0]; unfold whyC; rw [if_neg (by rw [hr, hl]; simp)])
        replace k0 := Lib.hid k0
        clear hl hr
        go_enter Try.func55, Try.ntmps55
        go_wp2_with fail
        rw [← HW.out]
        refine HAT.out.mono ?_
        rw [hix.out]
        rintro e w1 ⟨rfl, hb1⟩
        have hD1 := HDB.out.below hb1
        have hO1 := HOB.out.below hb1
        obtain ⟨d0, d1, d2, d3, d4, d5⟩ := hD1
        obtain ⟨o0, o1, o2, o3⟩ := hO1
        rw [k0.out] at o0
        have hbw := hbW.trans (hb1.mono hbW.size)
        go_wp2_with (go_at_call 25; refine (right_ref o.a _ hs').mono ?_; rw [HR.out]; rintro e wz ⟨rfl, rfl⟩)
        go_ret
        exact ⟨by rw [HE.out]; rfl, hbw⟩
      | true =>
        have HR := Lib.hid hr
        have HE := Lib.hid (show whyO S o = 0 by unfold whyO; rw [if_pos k0]; unfold whyC; rw [if_pos (by rw [hr, hl]; simp)])
        replace k0 := Lib.hid k0
        clear hl hr
        go_enter Try.func55, Try.ntmps55
        go_wp2_with fail
        rw [← HW.out]
        refine HAT.out.mono ?_
        rw [hix.out]
        rintro e w1 ⟨rfl, hb1⟩
        have hD1 := HDB.out.below hb1
        have hO1 := HOB.out.below hb1
        obtain ⟨d0, d1, d2, d3, d4, d5⟩ := hD1
        obtain ⟨o0, o1, o2, o3⟩ := hO1
        rw [k0.out] at o0
        have hbw := hbW.trans (hb1.mono hbW.size)
        go_wp2_with (go_at_call 25; refine (right_ref o.a _ hs').mono ?_; rw [HR.out]; rintro e wz ⟨rfl, rfl⟩)
        go_quiet (fail)
        go_wp2_with fail
        go_ret
        exact ⟨by rw [HE.out]; rfl, hbw.trans ⟨rfl, rfl, rfl, Nat.le_refl _, fun _ _ => rfl⟩⟩
    · have kne : (o.k == 0) = false := by simpa using k0
      have kneq : (o.k != 0) = true := by simpa using k0
      have HE := Lib.hid (show whyO S o = 51 by
        have ht : thr S.L o.a = 51 := thr_none (by rw [hl]; rfl)
        unfold whyO; rw [if_neg k0]
        split
        · unfold whyA; rw [if_pos (by rw [hl]; rfl)]
        split
        · unfold whyR; rw [ht]; split <;> rfl
        · exact ht)
      clear k0 hl
      go_enter Try.func55, Try.ntmps55
      go_wp2_with fail
      rw [← HW.out]
      refine HAT.out.mono ?_
      rw [hix.out]
      rintro e w1 ⟨rfl, hb1⟩
      have hD1 := HDB.out.below hb1
      have hO1 := HOB.out.below hb1
      obtain ⟨d0, d1, d2, d3, d4, d5⟩ := hD1
      obtain ⟨o0, o1, o2, o3⟩ := hO1
      have hbw := hbW.trans (hb1.mono hbW.size)
      go_wp2_with fail
      go_ret
      exact ⟨by rw [HE.out]; rfl, hbw⟩
  | some f =>
    obtain ⟨j, hj, hjl, _⟩ := idx_some hl
    have hix := Lib.hid hj
    have hsome : (lkF S.L o.a).isSome = true := by rw [hl]; rfl
    have HT := Lib.hid (thr_some hsome)
    have hs2 := Lib.hid hsome
    clear hl hj hsome
    by_cases k0 : o.k = 0
    · have HE := Lib.hid (show whyO S o = 51 by unfold whyO; rw [if_pos k0]; unfold whyC; rw [if_neg (by rw [hs2.out]; simp)])
      replace k0 := Lib.hid k0
      go_enter Try.func55, Try.ntmps55
      go_wp2_with fail
      rw [← HW.out]
      refine HAT.out.mono ?_
      rw [hix.out]
      rintro e w1 ⟨rfl, hb1⟩
      have hD1 := HDB.out.below hb1
      have hO1 := HOB.out.below hb1
      obtain ⟨d0, d1, d2, d3, d4, d5⟩ := hD1
      obtain ⟨o0, o1, o2, o3⟩ := hO1
      rw [k0.out] at o0
      have hbw := hbW.trans (hb1.mono hbW.size)
      go_wp2_with fail
      go_ret
      exact ⟨by rw [HE.out]; rfl, hbw⟩
    · have kne : (o.k == 0) = false := by simpa using k0
      have kneq : (o.k != 0) = true := by simpa using k0
      have kn0 := Lib.hid k0
      clear k0
      by_cases k1 : o.k = 1
      · by_cases hbig : S.lim - S.used < (o.b.size : Nat)
        · have HE := Lib.hid (show whyO S o = 52 by unfold whyO; rw [if_neg kn0.out, if_pos k1]; unfold whyA; rw [if_neg (by rw [hs2.out]; simp), if_pos hbig])
          have hbg : S.lim < (usd S.L : Int) + (o.b.size : Int) := by omega
          have HU := Lib.hid (fun W' hb => rused_any (w := W') (hb : FsAt W' lo sl S.L) (by omega) husd)
          replace k1 := Lib.hid k1
          clear hbig hused
          go_enter Try.func55, Try.ntmps55
          go_wp2_with fail
          rw [← HW.out]
          refine HAT.out.mono ?_
          rw [hix.out]
          rintro e w1 ⟨rfl, hb1⟩
          have hF1 := HRW.out.fs.below hb1
          have hD1 := HDB.out.below hb1
          have hO1x := HOB.out.below hb1
          have hD1l := hD1.lt
          have hO1l := hO1x.lt
          have hO1 := HOB.out.below hb1
          obtain ⟨d0, d1, d2, d3, d4, d5⟩ := hD1
          obtain ⟨o0, o1, o2, o3⟩ := hO1
          rw [k1.out] at o0
          have hbw := hbW.trans (hb1.mono hbW.size)
          have HF1 := Lib.hid hF1
          have HD1 := Lib.hid (HDB.out.below hb1)
          have HO1 := Lib.hid (HOB.out.below hb1)
          clear hF1 hO1x
          go_wp2_with fail
          have hwr : IntKind.i64.wrap ((usd S.L : Int) + (o.b.size : Int)) = (usd S.L : Int) + (o.b.size : Int) := IntWalk.i64_in _ (by omega)
          go_region_held3 (fun w' => (w'.cell? ⟨w.heap.size, 0, none⟩ = some sl ∧ w'.cell? ⟨w.heap.size, 1, none⟩ = some (.int .i64 S.lim) ∧ w'.cell? ⟨w.heap.size, 2, none⟩ = some (.int .i64 S.fuse) ∧ w'.cell? ⟨w.heap.size, 3, none⟩ = some (.int .i64 S.ops) ∧ w'.cell? ⟨w.heap.size, 4, none⟩ = some (.int .i64 S.reads) ∧ w'.cell? ⟨w.heap.size, 5, none⟩ = some (.bool S.down)) ∧ (w'.cell? ⟨w.heap.size + 1, 0, none⟩ = some (.int .i64 1) ∧ w'.cell? ⟨w.heap.size + 1, 2, none⟩ = some (.string o.b)))
            (first | exact ⟨⟨d0, d1, d2, d3, d4, d5⟩, ⟨o0, o2⟩⟩ | exact boxes_keep HD1.out HO1.out k1.out hb3)
            (first | (go_at_call 42; refine (HU.out _ (HF1.out.below below_draw')).mono ?_; rintro e w2 ⟨rfl, hb3⟩))
          all_goals
            have hbe := hbw.trans ((below_undrew hb3).mono hbw.size)
            have o0' := boxes_o0 HO1.out k1.out hb3
            try rw [hwr]
            clear hwr
            go_wp2_with fail
            go_ret
            exact ⟨by rw [HE.out]; rfl, hbe⟩
        · have HE := Lib.hid (show whyO S o = 0 by unfold whyO; rw [if_neg kn0.out, if_pos k1]; unfold whyA; rw [if_neg (by rw [hs2.out]; simp), if_neg hbig])
          have hbg : (usd S.L : Int) + (o.b.size : Int) ≤ S.lim := by omega
          have HU := Lib.hid (fun W' hb => rused_any (w := W') (hb : FsAt W' lo sl S.L) (by omega) husd)
          replace k1 := Lib.hid k1
          clear hbig hused
          go_enter Try.func55, Try.ntmps55
          go_wp2_with fail
          rw [← HW.out]
          refine HAT.out.mono ?_
          rw [hix.out]
          rintro e w1 ⟨rfl, hb1⟩
          have hF1 := HRW.out.fs.below hb1
          have hD1 := HDB.out.below hb1
          have hO1x := HOB.out.below hb1
          have hD1l := hD1.lt
          have hO1l := hO1x.lt
          have hO1 := HOB.out.below hb1
          obtain ⟨d0, d1, d2, d3, d4, d5⟩ := hD1
          obtain ⟨o0, o1, o2, o3⟩ := hO1
          rw [k1.out] at o0
          have hbw := hbW.trans (hb1.mono hbW.size)
          have HF1 := Lib.hid hF1
          have HD1 := Lib.hid (HDB.out.below hb1)
          have HO1 := Lib.hid (HOB.out.below hb1)
          clear hF1 hO1x
          go_wp2_with fail
          have hwr : IntKind.i64.wrap ((usd S.L : Int) + (o.b.size : Int)) = (usd S.L : Int) + (o.b.size : Int) := IntWalk.i64_in _ (by omega)
          go_region_held3 (fun w' => (w'.cell? ⟨w.heap.size, 0, none⟩ = some sl ∧ w'.cell? ⟨w.heap.size, 1, none⟩ = some (.int .i64 S.lim) ∧ w'.cell? ⟨w.heap.size, 2, none⟩ = some (.int .i64 S.fuse) ∧ w'.cell? ⟨w.heap.size, 3, none⟩ = some (.int .i64 S.ops) ∧ w'.cell? ⟨w.heap.size, 4, none⟩ = some (.int .i64 S.reads) ∧ w'.cell? ⟨w.heap.size, 5, none⟩ = some (.bool S.down)) ∧ (w'.cell? ⟨w.heap.size + 1, 0, none⟩ = some (.int .i64 1) ∧ w'.cell? ⟨w.heap.size + 1, 2, none⟩ = some (.string o.b)))
            (first | exact ⟨⟨d0, d1, d2, d3, d4, d5⟩, ⟨o0, o2⟩⟩ | exact boxes_keep HD1.out HO1.out k1.out hb3)
            (first | (go_at_call 42; refine (HU.out _ (HF1.out.below below_draw')).mono ?_; rintro e w2 ⟨rfl, hb3⟩))
          all_goals
            have hbe := hbw.trans ((below_undrew hb3).mono hbw.size)
            have o0' := boxes_o0 HO1.out k1.out hb3
            try rw [hwr]
            clear hwr
            go_wp2_with fail
            go_ret
            exact ⟨by rw [HE.out]; rfl, hbe⟩
      · have kn1 : (o.k == 1) = false := by simpa using k1
        have kk1 := Lib.hid k1
        clear k1
        by_cases k3 : o.k = 3
        · cases hr : Rgt o.b with
          | false =>
            have HR := Lib.hid hr
            have HE := Lib.hid (show whyO S o = 51 by unfold whyO; rw [if_neg kn0.out, if_neg kk1.out, if_pos k3]; unfold whyR; rw [if_neg (by rw [hr]; decide)])
            replace k3 := Lib.hid k3
            clear hr
            go_enter Try.func55, Try.ntmps55
            go_wp2_with fail
            rw [← HW.out]
            refine HAT.out.mono ?_
            rw [hix.out]
            rintro e w1 ⟨rfl, hb1⟩
            have hD1 := HDB.out.below hb1
            have hO1 := HOB.out.below hb1
            obtain ⟨d0, d1, d2, d3, d4, d5⟩ := hD1
            obtain ⟨o0, o1, o2, o3⟩ := hO1
            rw [k3.out] at o0
            have hbw := hbW.trans (hb1.mono hbW.size)
            go_wp2_with fail
            go_quiet (fail)
            go_wp2_with (go_at_call 25; refine (right_ref o.b _ hs).mono ?_; rw [HR.out]; rintro e wz ⟨rfl, rfl⟩)
            go_ret
            exact ⟨by rw [HE.out]; rfl, hbw.trans ⟨rfl, rfl, rfl, Nat.le_refl _, fun _ _ => rfl⟩⟩
          | true =>
            have HR := Lib.hid hr
            have HE := Lib.hid (show whyO S o = 0 by unfold whyO; rw [if_neg kn0.out, if_neg kk1.out, if_pos k3]; unfold whyR; rw [if_pos hr]; exact HT.out)
            replace k3 := Lib.hid k3
            clear hr
            go_enter Try.func55, Try.ntmps55
            go_wp2_with fail
            rw [← HW.out]
            refine HAT.out.mono ?_
            rw [hix.out]
            rintro e w1 ⟨rfl, hb1⟩
            have hD1 := HDB.out.below hb1
            have hO1 := HOB.out.below hb1
            obtain ⟨d0, d1, d2, d3, d4, d5⟩ := hD1
            obtain ⟨o0, o1, o2, o3⟩ := hO1
            rw [k3.out] at o0
            have hbw := hbW.trans (hb1.mono hbW.size)
            go_wp2_with fail
            go_quiet (fail)
            go_wp2_with (go_at_call 25; refine (right_ref o.b _ hs).mono ?_; rw [HR.out]; rintro e wz ⟨rfl, rfl⟩)
            go_ret
            exact ⟨by rw [HE.out]; rfl, hbw.trans ⟨rfl, rfl, rfl, Nat.le_refl _, fun _ _ => rfl⟩⟩
        · have kn3 : (o.k == 3) = false := by simpa using k3
          have HE := Lib.hid (show whyO S o = 0 by unfold whyO; rw [if_neg kn0.out, if_neg kk1.out, if_neg k3]; exact HT.out)
          clear k3
          go_enter Try.func55, Try.ntmps55
          go_wp2_with fail
          rw [← HW.out]
          refine HAT.out.mono ?_
          rw [hix.out]
          rintro e w1 ⟨rfl, hb1⟩
          have hD1 := HDB.out.below hb1
          have hO1 := HOB.out.below hb1
          obtain ⟨d0, d1, d2, d3, d4, d5⟩ := hD1
          obtain ⟨o0, o1, o2, o3⟩ := hO1
          have hbw := hbW.trans (hb1.mono hbW.size)
          go_wp2_with fail
          go_quiet (fail)
          go_wp2_with fail
          go_ret
          exact ⟨by rw [HE.out]; rfl, hbw.trans ⟨rfl, rfl, rfl, Nat.le_refl _, fun _ _ => rfl⟩⟩
end Go.Proofs.Ytgkphogefpmeaaa
